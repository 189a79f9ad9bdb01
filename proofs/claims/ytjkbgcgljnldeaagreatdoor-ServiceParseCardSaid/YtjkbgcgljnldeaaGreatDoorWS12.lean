/- Part of a proof; own work. -/
import Derived.Lib.ItoaLen
import Derived.Test.YtjkbgcgljnldeaaGreatDoorRows
import Derived.ProofKit
import Derived.LaidMore
import Derived.OpenShut
import Derived.Stop.Joined
import Derived.LaidLaws
import Derived.Lay
import Derived.MakeChecks
import Derived.Lib.ItoaNum
import Derived.Lib.LaidTab
import Derived.Stop.LaidErr
import Derived.HandedShaped
import Derived.SizedLaws
import Derived.Test.YtjkbgcgljnldeaaGreatDoorWS11
set_option linter.unusedVariables false
set_option linter.unusedSimpArgs false
set_option maxHeartbeats 16000000
namespace Go.bc.T.N
open Go Go.bc Go.Proofs Go.RowKit
set_option maxRecDepth 100000
attribute [local irreducible] Go.bc.aj Go.bc.ae Go.bc.bz
section
attribute [local go_sem] ad.ct ad.b9 ad.de ac.ct ac.b9 ac.de cj eN fZ gJ dp of_flat
theorem aG7 (s:a7):(sf s).length≤s.length+1:=by
 have hlen:=Lib.splitB_all pG (Nat.le_refl _) 0 _ ⟨⟨s⟩⟩ rfl
 have hle:=Lib.countB_le pG (Nat.le_refl _) s.length ⟨⟨s⟩⟩ (Nat.le_refl _)
 rw[sf,List.length_map,hlen]
 exact Nat.succ_le_succ hle
theorem ad4:c9 Tryz.prog 167=true:=by kernel_rfl
theorem av1 (s:a7):Pure Tryz.prog 167 [.str s] (.bool (!(db s))):=by
 refine cF bN Tryz.func167 UM rfl rfl ?_
 unfold JA Qd
 simp(disch:=omega)only[go_sem,simprocAttr]
 refine ao ?_
 refine D.P (qV s) ?_
 refine ao ?_
 exact D.rx
theorem aw3 {f:FuncId}(aW:c9 Tryz.prog f=true) (g:a7→Bool) (l:List a7) (aH:l.length≤1000000000000) (h: ∀v∈l,Pure Tryz.prog f [.str v] (.bool (!(g v)))):Pure Tryz.prog 195 [.ay 1 (l.map cj),.fn f []] (.int .i64 (hT g l 0)):=by
 refine cF bN Tryz.func195 HI (by simp only[b3,I.flat,eN,Bool.and_self]) rfl ?_
 unfold DC FJ
 simp(disch:=omega)only[go_sem,simprocAttr]
 refine ao ?_
 refine aj.dd (X:=Nat) 0 (fun i=>[(0,.ay 1 (l.map cj)),(1,.fn f []),(7,.int .i64 ((l.map cj).length:Int)),(8,.int .i64 (i:Int))]) (fun _=>[]) (fun _=>[]) (fun i=>i≤l.length∧hT g (l.drop i) i=hT g l 0) (fun i=>l.length-i) ⟨Nat.zero_le _,rfl⟩ ⟨rfl,rfl,rfl,rfl,trivial⟩ trivial trivial ?_
 rintro i ⟨ai,aB⟩
 try simp only at ai aB ⊢
 cases af:l[i]? with
 |some v=>
  have cK:=(List.getElem?_eq_some_iff.1 af).1
  rw[iM af]at aB
  simp only[hT]at aB
  have d1:(i:Int)<((l.map cj).length:Int):=by rw[List.length_map]; omega
  have e:=h v (List.mem_of_getElem? af)
  generalize g v=b at e aB
  clear h
  (have al:=d1;refine bQ ?_;clear al)
  refine D.V (aW) (e) ?_
  cases b
  ·refine ao ?_
   refine D.r ?_
   exact⟨_,rfl,.av (by rw[←aB]; rfl) rfl,trivial,trivial⟩
  ·refine ao ?_
   refine aj.dK (i+1) ⟨by omega,aB⟩ ⟨rfl,rfl,rfl,by simp only[Int.natCast_add]; rfl,trivial⟩ trivial trivial rfl rfl (by show l.length-(i+1)<l.length-i; omega)
 |none=>
  have cM:=List.getElem?_eq_none_iff.1 af
  have bE:i=l.length:=by omega
  subst bE
  have d1: ¬(l.length:Int)<((l.map cj).length:Int):=by rw[List.length_map]; omega
  rw[List.drop_length]at aB
  (have al:=d1;refine bQ ?_;clear al)
  refine D.r ?_
  exact⟨_,rfl,.av (by rw[←aB]; rfl) rfl,trivial,trivial⟩
theorem av0 {f:FuncId}(aW:c9 Tryz.prog f=true) (g:a7→Bool) (l:List a7) (aH:l.length≤1000000000000) (h: ∀v∈l,Pure Tryz.prog f [.str v] (.bool (!(g v)))):Pure Tryz.prog 165 [.ay 1 (l.map cj),.fn f []] (.bool (!(l.all g))):=by
 have e:=aw3 aW g l aH h
 refine cF bN Tryz.func165 HH (by simp only[b3,I.flat,eN,Bool.and_self]) rfl ?_
 unfold DB FI
 simp(disch:=omega)only[go_sem,simprocAttr]
 refine ao ?_
 refine D.P (e) ?_
 refine ao ?_
 refine D.r ?_
 exact⟨_,rfl,.av (by rw[←vU g l 0]; rfl) rfl,trivial,trivial⟩
def kR (s:a7):Bool:=decide (s.length≤50)&&(sf s).all db
theorem OP (s:a7):Pure Tryz.prog 111 [.str s] (.bool (kR s)):=by
 unfold kR
 refine cF bN Tryz.func111 T1 rfl rfl ?_
 unfold IT Pt
 simp(disch:=omega)only[go_sem,simprocAttr]
 by_cases h:s.length≤50
 ·have d:(s.length:Int)≤50:=by omega
  have aH:=aG7 s
  have e:=av0 ad4 db (sf s) (by omega) fun v _=>av1 v
  (have al:=d;refine bQ ?_;clear al)
  refine D.P (al6 s (by omega)) ?_
  refine ao ?_
  refine D.P (e) ?_
  refine ao ?_
  refine D.r ?_
  refine⟨_,rfl,.av ?_ rfl,trivial,trivial⟩
  simp [I.av,h]
 ·have d: ¬(s.length:Int)≤50:=by omega
  (have al:=d;refine bQ ?_;clear al)
  refine D.r ?_
  refine⟨_,rfl,.av ?_ rfl,trivial,trivial⟩
  simp [I.av,h]
theorem ad8:c9 Tryz.prog 45=true:=by kernel_rfl
theorem ae0:c9 Tryz.prog 49=true:=by kernel_rfl
theorem ae1:c9 Tryz.prog 51=true:=by kernel_rfl
def jZ (h:cd):Bool:=kR h.eK&&(db h.peer&&(decide (h.ps.length≤4)&&(h.ps.all db&&(h.body.all hX&&h.body.all (fun x=>decide (kh x≤10))))))
def j6 (o:ca):Bool:=kR o.eK&&(db o.peer&&(decide (o.args.length≤4)&&(decide (o.dT.length≤1)&&((o.args++o.dT).all dB&&(o.args++o.dT).all (fun x=>decide (iL x≤10))))))
theorem ac.pW {l:List ac}{v:ac}(h:v∈l):v.bI≤ac.bB l:=by
 obtain⟨i,ai⟩:=List.getElem?_of_mem h
 exact ac.lh ai
theorem ad.pW {l:List ad}{v:ad}(h:v∈l):v.bI≤ad.bB l:=by
 obtain⟨i,ai⟩:=List.getElem?_of_mem h
 exact ad.lh ai
theorem ax4 (h:cd) (hb:ac.bB h.body≤1000000000) (hp:h.ps.length≤1000000000):Pure Tryz.prog 49 [.agg h.row] (.bool (jZ h)):=by
 obtain⟨eK,peer,ps,body⟩:=h
 simp only at hb hp
 have aP6:=ac.hZ body
 have ar:=OP eK
 have ax:=qV peer
 have cw:=as7 ad8 db ps (by omega) fun v _=>qV v
 have fq:=B3 EG hX body (by omega) fun v af=>Fl 1000000000 v (by have:=ac.pW af; omega) (Nat.le_refl _)
 have lB:=B3 ad1 (fun x=>decide (kh x≤10)) body (by omega) fun v af=>as5 v (by have:=ac.pW af; omega)
 have me:((ps.map cj).length:Int)=(ps.length:Int):=by rw[List.length_map]
 simp only[jZ]
 generalize kR eK=eB at*
 generalize db peer=dU at*
 generalize ps.all db=jj at*
 generalize body.all hX=kD at*
 generalize (body.all fun x=>decide (kh x≤10))=qm at*
 refine cF bN Tryz.func49 Vo (by simp only[b3,I.flat,fZ,eN,ac.b9,Bool.and_self]) rfl ?_
 unfold J5 QP
 simp(disch:=omega)only[go_sem,simprocAttr]
 refine ao ?_
 refine D.P (ar) ?_
 cases eB
 ·refine ao ?_
  exact D.rx
 refine ao ?_
 refine D.P (ax) ?_
 cases dU
 ·refine ao ?_
  exact D.rx
 by_cases bn:ps.length≤4
 rotate_left
 ·have d: ¬(ps.length:Int)≤4:=by omega
  (have al:=me;have z2:=d;refine e8 ?_;clear al z2)
  refine D.r ?_
  refine⟨_,rfl,.av ?_ rfl,trivial,trivial⟩
  simp [I.av,bn]
 have d:(ps.length:Int)≤4:=by omega
 simp only[decide_eq_true bn,Bool.true_and]
 (have al:=me;have z2:=d;refine e8 ?_;clear al z2)
 refine D.P (cw) ?_
 cases jj
 ·refine ao ?_
  exact D.rx
 refine ao ?_
 refine D.P (fq) ?_
 cases kD
 ·refine ao ?_
  exact D.rx
 refine ao ?_
 refine D.P (lB) ?_
 refine ao ?_
 exact D.rx
end
section
attribute [local go_sem] ad.ct ad.b9 ad.de ac.ct ac.b9 ac.de cj eN fZ gJ dp of_flat
theorem ad.u1: ∀a b:List ad,ad.bB (a++b)=ad.bB a+ad.bB b
 |[],b=>by simp [ad.bB]
 |x::a,b=>by simp only[List.cons_append,ad.bB,ad.u1 a b]; omega
theorem ax7 (o:ca) (hb:ad.bB o.args+ad.bB o.dT≤1000000000):Pure Tryz.prog 51 [.agg o.row] (.bool (j6 o)):=by
 obtain⟨eK,peer,n3,wn⟩:=o
 simp only at hb
 have Bm:=ad.hZ n3
 have Zw:=ad.hZ wn
 have D5:=ad.u1 n3 wn
 have oX:=ad.hZ (n3++wn)
 have ar:=OP eK
 have ax:=qV peer
 have bE:=at1 n3 wn (by omega) (by omega)
 have fq:=Fp MA dB (n3++wn) (by omega) fun v af=>Fq 1000000000 v (by have:=ad.pW af; omega) (Nat.le_refl _)
 have lB:=Fp ad3 (fun x=>decide (iL x≤10)) (n3++wn) (by omega) fun v af=>at0 v (by have:=ad.pW af; omega)
 have me:((n3.map ad.row).length:Int)=(n3.length:Int):=by rw[List.length_map]
 have oG:((wn.map ad.row).length:Int)=(wn.length:Int):=by rw[List.length_map]
 simp only[j6]
 generalize kR eK=eB at*
 generalize db peer=dU at*
 generalize (n3++wn).all dB=kD at*
 generalize ((n3++wn).all fun x=>decide (iL x≤10))=qm at*
 generalize n3++wn=aO8 at*
 clear D5 oX hb Bm Zw
 refine cF bN Tryz.func51 Vq (by simp only[b3,I.flat,gJ,ad.b9,Bool.and_self]) rfl ?_
 unfold J6 QR
 simp(disch:=omega)only[go_sem,simprocAttr]
 refine ao ?_
 refine D.P (bE) ?_
 refine ao ?_
 refine D.P (ar) ?_
 cases eB
 ·refine ao ?_
  exact D.rx
 refine ao ?_
 refine D.P (ax) ?_
 cases dU
 ·refine ao ?_
  exact D.rx
 by_cases bn:n3.length≤4
 rotate_left
 ·have d: ¬(n3.length:Int)≤4:=by omega
  (have al:=me;have z2:=d;refine e8 ?_;clear al z2)
  refine D.r ?_
  refine⟨_,rfl,.av ?_ rfl,trivial,trivial⟩
  simp [I.av,bn]
 have d:(n3.length:Int)≤4:=by omega
 simp only[decide_eq_true bn,Bool.true_and]
 by_cases J:wn.length≤1
 rotate_left
 ·have d1: ¬(wn.length:Int)≤1:=by omega
  (repeat' first|(apply ae.s rfl;(·simp(disch:=omega)only[go_sem,simprocAttr,me,d,oG,d1]<;>with_reducible rfl))|(apply aj.s true true;(·simp(disch:=omega)only[go_sem,simprocAttr,me,d,oG,d1]<;>with_reducible rfl))|apply ae.nil|(refine aj.b6 ?_)|(apply ae.eX;(·simp(disch:=omega)only[go_sem,simprocAttr,me,d,oG,d1]<;>with_reducible rfl))|(apply ae.eY;(·rfl);(·simp(disch:=omega)only[go_sem,simprocAttr,me,d,oG,d1]<;>with_reducible rfl))|(apply ae.gs;(·simp(disch:=omega)only[go_sem,simprocAttr,me,d,oG,d1]<;>with_reducible rfl))|((first|apply ae.e3|apply ae.e4|apply ae.e5);(·simp(disch:=omega)only[go_sem,simprocAttr,me,d,oG,d1]<;>with_reducible rfl);(·simp(disch:=omega)only[go_sem,simprocAttr,me,d,oG,d1]<;>with_reducible rfl);(·assumption);(·omega))|intro h)
  refine D.r ?_
  refine⟨_,rfl,.av ?_ rfl,trivial,trivial⟩
  simp [I.av,J]
 have d1:(wn.length:Int)≤1:=by omega
 simp only[decide_eq_true J,Bool.true_and]
 (repeat' first|(apply ae.s rfl;(·simp(disch:=omega)only[go_sem,simprocAttr,me,d,oG,d1]<;>with_reducible rfl))|(apply aj.s true true;(·simp(disch:=omega)only[go_sem,simprocAttr,me,d,oG,d1]<;>with_reducible rfl))|apply ae.nil|(refine aj.b6 ?_)|(apply ae.eX;(·simp(disch:=omega)only[go_sem,simprocAttr,me,d,oG,d1]<;>with_reducible rfl))|(apply ae.eY;(·rfl);(·simp(disch:=omega)only[go_sem,simprocAttr,me,d,oG,d1]<;>with_reducible rfl))|(apply ae.gs;(·simp(disch:=omega)only[go_sem,simprocAttr,me,d,oG,d1]<;>with_reducible rfl))|((first|apply ae.e3|apply ae.e4|apply ae.e5);(·simp(disch:=omega)only[go_sem,simprocAttr,me,d,oG,d1]<;>with_reducible rfl);(·simp(disch:=omega)only[go_sem,simprocAttr,me,d,oG,d1]<;>with_reducible rfl);(·assumption);(·omega))|intro h)
 refine D.P (fq) ?_
 cases kD
 ·refine ao ?_
  exact D.rx
 refine ao ?_
 refine D.P (lB) ?_
 refine ao ?_
 exact D.rx
theorem Ec {k:Int}{o m t:a7}{n:Int}{kk:Nat}(h:fL k o m t n kk=true):(k=1∧0≤n∧n≤1000∧kk=0)∨(k=2∧t.length≤40∧kk=0)∨(k=3∧kk=0)∨(k=4∧kk=1)∨(k=5∧kk=1)∨(k=6∧kk=2):=by
 unfold fL at h
 by_cases J:k=1
 ·simp [J]at h; simp [J,h.1,h.2.1,h.2.2.1]
 by_cases aa:k=2
 ·simp [aa,lM]at h; simp [aa,h.1.1,h.2.1]
 by_cases au:k=3
 ·simp [au]at h; simp [au,h.2.1]
 by_cases bn:k=4
 ·simp [bn]at h; simp [bn,h.1]
 by_cases bL:k=5
 ·simp [bL]at h; simp [bL,h.2.1]
 by_cases cq:k=6
 ·simp [cq]at h; simp [cq,h.2.1]
 simp [J,aa,au,bn,bL,cq]at h
theorem tf: ∀(N:Nat),(∀x:ad,x.bI≤N→dB x=true→(cm x).length≤1000000000→Pure Tryz.prog 127 [.agg x.row] (.str (cm x)))∧(∀(x:ad) (k:Int),x.bI≤N→dB x=true→(fX x (cm x) k).length≤1000000000→Pure Tryz.prog 183 [.agg x.row,.int .i64 k] (.str (fX x (cm x) k)))
 |0=>⟨fun x h=>by cases x; simp only[ad.bI]at h; omega,fun x k h=>by cases x; simp only[ad.bI]at h; omega⟩
 |N+1=>by
  have key: ∀x:ad,x.bI≤N+1→dB x=true→(cm x).length≤1000000000→Pure Tryz.prog 127 [.agg x.row] (.str (cm x)):=by
   rintro⟨k,o,m,t,n,l⟩ bW aY ap
   simp only[ad.bI]at bW
   simp only[dB,Bool.and_eq_true]at aY
   obtain⟨bh,hq⟩:=aY
   simp only[cm,Cn]at ap ⊢
   have qL:=ap
   unfold A4 at ap ⊢
   refine cF bN Tryz.func127 Ug (by simp only[b3,I.flat,ad.de,Bool.and_self]) rfl ?_
   unfold I7 PH
   simp(disch:=omega)only[go_sem,simprocAttr]
   rcases Ec bh with ⟨rfl,aw,J,aa⟩|⟨rfl,aw,J⟩|⟨rfl,aw⟩|⟨rfl,aw⟩|⟨rfl,aw⟩|⟨rfl,aw⟩
   ·refine ao ?_
    refine D.P (zq n (by omega) (by omega)) ?_
    refine ao ?_
    exact D.rx
   ·refine ao ?_
    refine D.P (OZ t (by omega)) ?_
    refine ao ?_
    exact D.rx
   ·refine ao ?_
    exact D.rx
   ·match l,aw with
    |[x],_=>
    simp only[mY,Bool.and_true]at hq
    simp only[ad.bB]at bW
    have hY:([108,101,110,40]++cm x++[41]).length≤1000000000:=ap
    simp only[List.length_append,List.length_cons,List.length_nil]at hY
    have e:=(tf N).1 x (by omega) hq (by omega)
    rcases x with ⟨eb,ef,ed,eg,ee,ec⟩
    simp(disch:=omega)only[go_sem,simprocAttr]at e
    refine ao ?_
    refine D.P (e) ?_
    refine D.bR ?_
    refine D.bR ?_
    refine ao ?_
    exact D.rx
   ·match l,aw with
    |[x],_=>
    simp only[mY,Bool.and_true]at hq
    simp only[ad.bB]at bW
    have hY:(o++fX x (cm x) 7).length≤1000000000:=ap
    simp only[List.length_append]at hY
    have e:=(tf N).2 x 7 (by omega) hq (by omega)
    show aj Tryz.prog _ _ _ _ (tJ (.str (o++fX x (cm x) 7)) [] []) _ _
    generalize fX x (cm x) 7=iD at e hY ⊢
    clear ap qL
    rcases x with ⟨eb,ef,ed,eg,ee,ec⟩
    simp(disch:=omega)only[go_sem,simprocAttr]at e
    iterate 7 refine iT ?_
    repeat refine D.cN true true ?_
    refine aj.fs (anns:=[.str iD]) ?_
    refine bK ?_
    refine D.df (e) ?_
    refine D.bR ?_ (hb:=by simp only[maxLen]; omega)
    refine ao ?_
    exact D.rx
   ·match l,aw with
    |[x,y],_=>
    simp only[mY,Bool.and_true,Bool.and_eq_true]at hq
    simp only[ad.bB]at bW
    have hY:(fX x (cm x) (cV o)++[32]++o++[32]++fX y (cm y) (cV o+1)).length≤1000000000:=ap
    simp only[List.length_append,List.length_cons,List.length_nil]at hY
    have e:=(tf N).2 x (cV o) (by omega) hq.1 (by omega)
    have ax:=(tf N).2 y (cV o+1) (by omega) hq.2 (by omega)
    show aj Tryz.prog _ _ _ _ (tJ (.str (fX x (cm x) (cV o)++[32]++o++[32]++fX y (cm y) (cV o+1))) [] []) _ _
    generalize fX x (cm x) (cV o)=iD at e hY ⊢
    generalize fX y (cm y) (cV o+1)=Ge at ax hY ⊢
    have hp:=uG o
    have oR:=B6 o
    generalize cV o=gS at*
    clear ap qL
    rcases x with ⟨eb,ef,ed,eg,ee,ec⟩
    rcases y with ⟨sv,CK,x7,uU,x8,CJ⟩
    simp(disch:=omega)only[go_sem,simprocAttr]at e
    simp(disch:=omega)only[go_sem,simprocAttr]at ax
    iterate 7 refine iT ?_
    repeat refine D.cN true true ?_
    refine aj.b6 ?_
    refine bK ?_
    refine D.P (oR) ?_
    refine bK ?_
    repeat refine D.cN true true ?_
    refine aj.fs (anns:=[.str iD,.str Ge]) ?_
    refine bK ?_
    refine D.df (e) ?_
    refine D.bR ?_
    refine bK ?_
    refine D.bR ?_
    refine D.bR ?_
    refine bK ?_
    refine D.df (ax) ?_
    refine D.bR ?_
    refine ao ?_
    exact D.rx
  refine⟨key,fun x k bW aY ap=> ?_⟩
  have oR:=B6 x.op
  by_cases cq:x.kind=6
  ·by_cases aC:cV x.op<k
   ·have jG:fX x (cm x) k=[40]++cm x++[41]:=if_pos ⟨cq,aC⟩
    rw[jG]at ap ⊢
    simp only[List.length_append,List.length_cons,List.length_nil]at ap
    have e:=key x bW aY (by omega)
    generalize cm x=iD at*
    rcases x with ⟨eb,ef,ed,eg,ee,ec⟩
    simp only[ad.kind,ad.op]at cq aC oR
    subst cq
    simp(disch:=omega)only[go_sem,simprocAttr]at e
    refine cF bN Tryz.func183 De (by simp only[b3,I.flat,ad.de,Bool.and_self]) rfl ?_
    unfold AM Ce
    simp(disch:=omega)only[go_sem,simprocAttr]
    refine ao ?_
    refine D.P (oR) ?_
    (have al:=aC;refine bQ ?_;clear al)
    refine D.P (e) ?_
    refine D.bR ?_
    refine D.bR ?_
    refine ao ?_
    exact D.rx
   ·have jG:fX x (cm x) k=cm x:=if_neg fun h=>aC h.2
    rw[jG]at ap ⊢
    have e:=key x bW aY (by omega)
    generalize cm x=iD at*
    rcases x with ⟨eb,ef,ed,eg,ee,ec⟩
    simp only[ad.kind,ad.op]at cq aC oR
    subst cq
    simp(disch:=omega)only[go_sem,simprocAttr]at e
    refine cF bN Tryz.func183 De (by simp only[b3,I.flat,ad.de,Bool.and_self]) rfl ?_
    unfold AM Ce
    simp(disch:=omega)only[go_sem,simprocAttr]
    refine ao ?_
    refine D.P (oR) ?_
    (have al:=aC;refine bQ ?_;clear al)
    refine D.P (e) ?_
    refine ao ?_
    exact D.rx
  ·have jG:fX x (cm x) k=cm x:=if_neg fun h=>cq h.1
   rw[jG]at ap ⊢
   have e:=key x bW aY (by omega)
   generalize cm x=iD at*
   rcases x with ⟨eb,ef,ed,eg,ee,ec⟩
   simp only[ad.kind]at cq
   simp(disch:=omega)only[go_sem,simprocAttr]at e
   refine cF bN Tryz.func183 De (by simp only[b3,I.flat,ad.de,Bool.and_self]) rfl ?_
   unfold AM Ce
   simp(disch:=omega)only[go_sem,simprocAttr]
   (have al:=cq;refine bQ ?_;clear al)
   refine D.P (e) ?_
   refine ao ?_
   exact D.rx
end
section
attribute [local go_sem] hL lT ad.ct ad.b9 ad.de ac.ct ac.b9 ac.de cj eN
theorem at2 (k n:Int) (s:a7) (a6:k≠2→ -1000000000≤n∧n≤1000000000) (ap:s.length≤100000000):Pure Tryz.prog 124 [.agg [.int .i64 k,.int .i64 n,.str s]] (.str (qM k n s)):=by
 refine cF bN Tryz.func124 Ue rfl rfl ?_
 unfold I5 PF
 unfold qM
 simp(disch:=omega)only[go_sem,simprocAttr]
 by_cases h:k=2
 ·rw[if_pos h]
  (have al:=h;refine bQ ?_;clear al)
  refine D.P (OZ s ap) ?_
  refine ao ?_
  exact D.rx
 ·rw[if_neg h]
  (have al:=h;refine bQ ?_;clear al)
  refine D.P (zq n (a6 h).1 (a6 h).2) ?_
  refine ao ?_
  exact D.rx
theorem Mx {xs:List a7}{sep s:a7}(h:s∈xs):s.length≤(Lib.join xs sep).length:=by
 unfold Lib.join
 induction xs with
 |nil=>cases h
 |cons x l cv=>
  cases l with
  |nil=>simp at h; subst h; simp
  |cons y l=>
   rw[List.intercalate_cons_cons]
   rcases List.mem_cons.1 h with rfl|h
   ·simp only[List.length_append]; omega
   ·have:=cv h
    simp only[List.length_append]; omega
theorem at3 (l:List ad) (aP:ad.bB l≤1000000) (aY:l.all dB=true) (ap:(Lib.join (l.map cm) [44,32]).length≤1000000000):Pure Tryz.prog 128 [.ay 6 (l.map ad.row)] (.str (Lib.join (l.map cm) [44,32])):=by
 have j9:=ad.hZ l
 have rB:=NX (l.map cm) [44,32] (by rw[List.length_map]; omega) ap
 refine cF bN Tryz.func128 Uh (by simp only[b3,I.flat,ad.b9,Bool.and_self]) rfl ?_
 unfold I8 PI
 simp(disch:=omega)only[go_sem,simprocAttr]
 iterate 2 refine iT ?_
 refine aj.rL 3 1 9 rfl (by decide) ?_
 simp(disch:=omega)only[go_sem,simprocAttr]
 refine ao ?_
 refine aj.dd (X:=Nat) 0 (fun i=>[(6,.ay 6 (l.map ad.row)),(7,.int .i64 ((l.map ad.row).length:Int)),(8,.int .i64 (i:Int)),(3,.own 0 1 (((l.take i).map cm).map cj))]) (fun _=>[]) (fun i=>[(0,.bJ 9 1 (((l.take i).map cm).map cj).length)]) (fun i=>i≤l.length) (fun i=>l.length-i) (Nat.zero_le _) ⟨rfl,rfl,rfl,rfl,trivial⟩ trivial ⟨rfl,trivial⟩ ?_
 intro i ai
 try simp only at ai ⊢
 cases af:l[i]? with
 |some v=>
  have cK:=(List.getElem?_eq_some_iff.1 af).1
  have gN:=List.mem_of_getElem? af
  have ev:((l.take (i+1)).map cm).map cj=((l.take i).map cm).map cj++[cj (cm v)]:=by
   rw[List.take_add_one,af]; simp
  have hlen:(((l.take i).map cm).map cj).length=i:=by simp; omega
  have d1:(i:Int)<((l.map ad.row).length:Int):=by rw[List.length_map]; omega
  have e:=(tf 1000000).1 v (by have:=ad.pW gN; omega) (by simpa using List.all_eq_true.1 aY v gN) (Nat.le_trans (Mx (List.mem_map_of_mem gN)) ap)
  obtain⟨tp,ZX⟩: ∃tp,tp=cm v:=⟨_,rfl⟩
  rw[←ZX]at e ev
  generalize ((l.take i).map cm).map cj=rows at ev hlen ⊢
  rcases v with ⟨eb,ef,ed,eg,ee,ec⟩
  simp(disch:=omega)only[go_sem,simprocAttr]at e
  (have al:=d1;refine bQ ?_;clear al)
  refine D.P (e) ?_
  refine ao ?_
  refine D.gL ?_
  refine ao ?_
  refine aj.gT (i+1) (by omega) ⟨rfl,rfl,by simp only[Int.natCast_add]; rfl,by simp only[ev]; rfl,trivial⟩ trivial ⟨by simp only[ev,List.length_append]; rfl,trivial⟩ rfl (by simp only[fY,dr,dP,dV,fO,I.cR,b2.bJ,eN,go_sem]<;>rfl) (by show l.length-(i+1)<l.length-i; omega)
 |none=>
  have cM:=List.getElem?_eq_none_iff.1 af
  have bE:i=l.length:=by omega
  subst bE
  have d1: ¬(l.length:Int)<((l.map ad.row).length:Int):=by rw[List.length_map]; omega
  rw[List.take_length]
  (have al:=d1;refine bQ ?_;clear al)
  refine D.P (rB) ?_
  refine ao ?_
  exact D.rx
end
section
attribute [local go_sem] hL lT ad.ct ad.b9 ad.de ac.ct ac.b9 ac.de cj eN
theorem C8 (d:Nat):BT 182 [.int .i64 (d:Int)]:= .inr ⟨rfl,_,rfl⟩
theorem XT {ps:List a7}{i:Nat}{v:a7}(h:ps[i]? =some v):(ps.take (i+1)).flatten=(ps.take i).flatten++v:=by
 rw[List.take_add_one,h]; simp
theorem KZ (ps:List a7) (i:Nat):(ps.take i).flatten.length≤ps.flatten.length:=by
 conv=>rhs; rw[←List.take_append_drop i ps]
 rw[List.flatten_append,List.length_append]
 omega
theorem oy (d:Nat) (bw:d≤1000000){A:I}(fa:z8 A) (out:a7) (ps:List a7) (a6:ps.length≤1000) (aH:out.length+(eE d ps).length≤1000000000):bz Tryz.prog 122 [.ptr 0 0,.ay 1 (ps.map cj)] (pC 182 A out [.int .i64 (d:Int)]) (fJ (.di []) (lA 182 (.ptr 0 0) (out++eE d ps) [.int .i64 (d:Int)]) (qo (out++eE d ps))):=by
 have oX:out.length+(d+ps.flatten.length+1)≤1000000000:=by
  simp only[eE,List.length_append,List.length_replicate,List.length_cons,List.length_nil]at aH
  omega
 have bE:=OX (C8 d) fa out (List.replicate d 9) (by rw[List.length_replicate]; omega)
 have Xv:=al7 d bw
 have uq:(List.replicate d (9:UInt8)).length=d:=List.length_replicate
 unfold eE
 generalize List.replicate d (9:UInt8)=pj at*
 rcases fa with rfl|rfl
 all_goals
  have bG:=oX
  refine bz.intro bN Tryz.func122 Ud ?_
  unfold I4 PE
  simp(disch:=omega)only[go_sem,simprocAttr]
  repeat refine D.cN true true ?_
  refine aj.fs (anns:=[.str pj]) ?_
  refine bK ?_
  refine D.df (Xv) ?_
  refine bK ?_
  refine D.F ⟨[0],[0]⟩ (bE) ?_
  refine ao ?_
  refine aj.dd (X:=Nat) 0 (fun i=>[(0,.ptr 0 0),(15,.ay 1 (ps.map cj)),(16,.int .i64 ((ps.map cj).length:Int)),(17,.int .i64 (i:Int))]) (fun i=>[(0,182,[.ptr 0 0,.own 0 1 ((out++pj++(ps.take i).flatten).map hL),.int .i64 (d:Int)])]) (fun i=>[(0,.bJ 5 1 ((out++pj++(ps.take i).flatten).map hL).length)]) (fun i=>i≤ps.length) (fun i=>ps.length-i) (Nat.zero_le _) ⟨rfl,rfl,rfl,rfl,trivial⟩ ⟨by simp only[List.take_zero,List.flatten_nil,List.append_nil]; rfl,trivial⟩ ⟨by simp only[List.take_zero,List.flatten_nil,List.append_nil]; rfl,trivial⟩ ?_
  intro i ai
  try simp only at ai ⊢
  have yU:=KZ ps i
  cases af:ps[i]? with
  |some v=>
   have cK:=(List.getElem?_eq_some_iff.1 af).1
   have ev:=XT af
   have LD:=KZ ps (i+1)
   rw[ev,List.length_append]at LD
   have d1:(i:Int)<((ps.map cj).length:Int):=by rw[List.length_map]; omega
   have fV:(out++pj++(ps.take i).flatten).length+v.length≤1000000000:=by simp only[List.length_append]; omega
   have fy:out++pj++(ps.take (i+1)).flatten=(out++pj++(ps.take i).flatten)++v:=by rw[ev,List.append_assoc,List.append_assoc,List.append_assoc]
   generalize out++pj++(ps.take i).flatten=Y at fV fy ⊢
   (have al:=d1;refine bQ ?_;clear al)
   refine D.F ⟨[0],[0]⟩ (OX (C8 d) (.inr rfl) Y v fV) ?_
   refine ao ?_
   refine aj.dK (i+1) (by omega) ⟨rfl,rfl,rfl,by simp only[Int.natCast_add]; rfl,trivial⟩ (by simp only[fy]; exact⟨rfl,trivial⟩) (by simp only[fy]; exact⟨rfl,trivial⟩) rfl rfl (by show ps.length-(i+1)<ps.length-i; omega)
  |none=>
   have cM:=List.getElem?_eq_none_iff.1 af
   have bE:i=ps.length:=by omega
   subst bE
   have d1: ¬(ps.length:Int)<((ps.map cj).length:Int):=by rw[List.length_map]; omega
   rw[List.take_length]
   have fV:(out++pj++ps.flatten).length+1≤1000000000:=by simp only[List.length_append]; omega
   rw[show out++(pj++ps.flatten++[10])=(out++pj++ps.flatten)++[10] by simp only[List.append_assoc]]
   generalize out++pj++ps.flatten=Y at fV ⊢
   (have al:=d1;refine bQ ?_;clear al)
   refine D.F ⟨[0],[0]⟩ (xF (C8 d) (.inr rfl) Y 10 10 rfl fV) ?_
   refine ao ?_
   refine D.r ?_
   exact⟨rfl,⟨rfl,trivial⟩,rfl,trivial⟩
end
section
attribute [local go_sem] hL lT ad.ct ad.b9 ad.de ac.ct ac.b9 ac.de cj eN
abbrev vR (out:a7) (d:Nat):fe:=lA 182 (.ptr 0 0) out [.int .i64 (d:Int)]
theorem Fi (d:Nat){l:List ac}{i:Nat}{v:ac}(h:l[i]? =some v):ac.fF d (l.take (i+1))=ac.fF d (l.take i)++ac.gS d [105,102,32] v:=by
 have dM: ∀a b:List ac,ac.fF d (a++b)=ac.fF d a++ac.fF d b:=by
  intro a
  induction a with
  |nil=>intro b; rfl
  |cons x a cv=>intro b; simp only[List.cons_append,ac.fF,cv b,List.append_assoc]
 rw[List.take_add_one,h,dM]
 simp only[Option.toList_some,ac.fF,List.append_nil]
theorem Fh (d:Nat) (l:List ac) (i:Nat):(ac.fF d (l.take i)).length≤(ac.fF d l).length:=by
 induction l generalizing i with
 |nil=>simp
 |cons x l cv=>
  cases i with
  |zero=>simp [ac.fF]
  |succ i=>
   simp only[List.take_succ_cons,ac.fF,List.length_append]
   have:=cv i
   omega
theorem OJ (d:Nat){l:List ac}{i:Nat}{v:ac}(h:l[i]? =some v):(ac.fF d (l.take i)).length+(ac.gS d [105,102,32] v).length≤(ac.fF d l).length:=by
 have:=Fh d l (i+1)
 rw[Fi d h,List.length_append]at this
 exact this
def mP (N:Nat):Prop:=∀(x:ac) (d:Nat) (out:a7),x.bI≤N→hX x=true→d+x.bI≤1000000→out.length+(ac.gS d [105,102,32] x).length≤1000000000→bz Tryz.prog 182 [.ptr 0 0,.agg x.row] (pC 182 (.ptr 0 0) out [.int .i64 (d:Int)]) (fJ (.di []) (vR (out++ac.gS d [105,102,32] x) d) (qo (out++ac.gS d [105,102,32] x)))
def oH (N:Nat):Prop:=∀(l:List ac) (d:Nat) (out:a7),ac.bB l≤N→ho l=true→d+1+ac.bB l≤1000000→out.length+(ac.fF (d+1) l).length≤1000000000→bz Tryz.prog 126 [.ptr 0 0,.ay 11 (l.map ac.row)] (pC 182 (.ptr 0 0) out [.int .i64 (d:Int)]) (fJ (.di []) (vR (out++ac.fF (d+1) l) d) (qo (out++ac.fF (d+1) l)))
theorem OC {N:Nat}(mo:mP N):oH N:=by
 intro l d out bW aY bw aH
 have j9:=ac.hZ l
 rw[yK]at aY
 refine bz.intro bN Tryz.func126 Uf ?_
 unfold I6 PG
 simp(disch:=omega)only[go_sem,simprocAttr]
 refine ao ?_
 refine aj.dd (X:=Nat) 0 (fun i=>[(0,.ptr 0 0),(13,.ay 11 (l.map ac.row)),(14,.int .i64 ((l.map ac.row).length:Int)),(15,.int .i64 (i:Int))]) (fun i=>vR (out++ac.fF (d+1) (l.take i)) (d+1)) (fun i=>qo (out++ac.fF (d+1) (l.take i))) (fun i=>i≤l.length) (fun i=>l.length-i) (Nat.zero_le _) ⟨rfl,rfl,rfl,rfl,trivial⟩ ⟨by simp only[List.take_zero,ac.fF,List.append_nil,Int.natCast_add]; rfl,trivial⟩ ⟨by simp only[List.take_zero,ac.fF,List.append_nil]; rfl,trivial⟩ ?_
 intro i ai
 try simp only at ai ⊢
 have yU:=Fh (d+1) l i
 cases af:l[i]? with
 |some v=>
  have cK:=(List.getElem?_eq_some_iff.1 af).1
  have gN:=List.mem_of_getElem? af
  have aR0:=ac.pW gN
  have mZ:hX v=true:=by simpa using List.all_eq_true.1 aY v gN
  have LD:=OJ (d+1) af
  have fy:out++ac.fF (d+1) (l.take (i+1))=(out++ac.fF (d+1) (l.take i))++ac.gS (d+1) [105,102,32] v:=by rw[Fi _ af,List.append_assoc]
  have d1:(i:Int)<((l.map ac.row).length:Int):=by rw[List.length_map]; omega
  have fV:(out++ac.fF (d+1) (l.take i)).length+(ac.gS (d+1) [105,102,32] v).length≤1000000000:=by simp only[List.length_append]; omega
  generalize out++ac.fF (d+1) (l.take i)=Y at fV fy ⊢
  have e:=mo v (d+1) Y (by omega) mZ (by omega) fV
  generalize ac.gS (d+1) [105,102,32] v=mE at e fy
  rcases v with ⟨dY,aj0,⟨aN2,aN6,aN4,aN7,aN5,aN3⟩,aJ2,aE4,aE6⟩
  simp(disch:=omega)only[go_sem,simprocAttr]at e
  (have al:=d1;refine bQ ?_;clear al)
  refine D.F ⟨[0],[0]⟩ (e) ?_
  refine ao ?_
  refine aj.gT (i+1) (by omega) ⟨rfl,rfl,rfl,by simp only[Int.natCast_add]; rfl,trivial⟩ (by simp only[fy,vR,lA,Int.natCast_add]; exact⟨rfl,trivial⟩) (by simp only[fy]; exact⟨rfl,trivial⟩) rfl (by simp only[fY,dr,dP,dV,fO,I.cR,b2.bJ,vR,lA,lT,ac.b9,go_sem]<;>rfl) (by show l.length-(i+1)<l.length-i; omega)
 |none=>
  have cM:=List.getElem?_eq_none_iff.1 af
  have bE:i=l.length:=by omega
  subst bE
  have d1: ¬(l.length:Int)<((l.map ac.row).length:Int):=by rw[List.length_map]; omega
  rw[List.take_length]
  (have al:=d1;refine bQ ?_;clear al)
  refine D.r ?_
  refine⟨rfl,⟨?_,trivial⟩,rfl,trivial⟩
  simp only[vR,lA]
  rw[show ((d+1:Nat):Int)-1=(d:Int) by omega]
  rfl
theorem Bi {k:Int}{m:a7}{t:Int}{kk b7:Nat}(h:eu k m t kk b7=true):(k=1∧t=0∧kk=0∧b7=0)∨(k=2∧m=[]∧t=0)∨(k=3∧m=[]∧1≤t∧t≤50∧b7=0):=by
 unfold eu at h
 by_cases J:k=1
 ·simp [J]at h; simp [J,h.2.1,h.2.2.1,h.2.2.2]
 by_cases aa:k=2
 ·simp [aa]at h; simp [aa,h.1,h.2]
 by_cases au:k=3
 ·simp [au]at h; simp [au,h.1,h.2.1,h.2.2.1,h.2.2.2]
 simp [J,aa,au]at h
theorem xO {d:Nat}{s:a7}{ps:List a7}(h:s∈ps):s.length≤(eE d ps).length:=by
 have: ∀(l:List a7),s∈l→s.length≤l.flatten.length:=by
  intro l
  induction l with
  |nil=>intro h; cases h
  |cons x l cv=>
   intro h
   rw[List.flatten_cons,List.length_append]
   rcases List.mem_cons.1 h with rfl|h
   ·omega
   ·have:=cv h; omega
 have:=this ps h
 simp only[eE,List.length_append]
 omega
theorem ar5 {N:Nat}(dX:oH N):mP (N+1):=by
 rintro⟨k,h7,x,t,hU,gD⟩ d out bW aY bw aH
 simp only[ac.bI]at bW bw
 simp only[hX,Bool.and_eq_true]at aY
 obtain⟨bh,pQ,pP,lY⟩:=aY
 have xa:x.bI≤1000000:=by omega
 rcases Bi bh with ⟨rfl,rfl,aa,au⟩|⟨rfl,rfl,rfl⟩|⟨rfl,rfl,J,aa,au⟩
 ·have bE:ac.gS d [105,102,32] (.mk 1 h7 x 0 hU gD)=eE d [h7,[32,61,32],cm x,[59]]:=by simp only[ac.gS,if_true]
  rw[bE]at aH ⊢
  have ap:(cm x).length≤1000000000:=by have:=xO (d:=d) (s:=cm x) (ps:=[h7,[32,61,32],cm x,[59]]) (by simp); omega
  have e:=(tf 1000000).1 x xa pQ ap
  have el:=oy d (by omega) (.inr rfl) out [h7,[32,61,32],cm x,[59]] (by simp) aH
  generalize eE d [h7,[32,61,32],cm x,[59]]=L at*
  generalize cm x=iD at*
  rcases x with ⟨eb,ef,ed,eg,ee,ec⟩
  simp(disch:=omega)only[go_sem,simprocAttr]at e
  refine bz.intro bN Tryz.func182 Dd ?_
  unfold AL Cd
  simp(disch:=omega)only[go_sem,simprocAttr]
  iterate 3 refine iT ?_
  repeat refine D.cN true true ?_
  refine aj.fs (anns:=[.str iD]) ?_
  refine bK ?_
  refine D.df (e) ?_
  refine bK ?_
  refine D.F ⟨[0],[0]⟩ (el) ?_
  refine ao ?_
  refine D.r ?_
  exact⟨rfl,⟨rfl,trivial⟩,rfl,trivial⟩
 ·have eC: ∃F,F=out++ac.gS d [105,102,32] (.mk 2 [] x 0 hU gD):=⟨_,rfl⟩
  obtain⟨F,eC⟩:=eC
  have Be:F.length≤1000000000:=by rw[eC,List.length_append]; omega
  rw[←eC]
  rcases x with ⟨eb,ef,ed,eg,ee,ec⟩
  refine bz.intro bN Tryz.func182 Dd ?_
  unfold AL Cd
  simp(disch:=omega)only[go_sem,simprocAttr]
  iterate 4 refine iT ?_
  refine ao ?_
  refine aj.dd (X:=a7×ad×List ac×List ac×a7) ([105,102,32],.mk eb ef ed eg ee ec,hU,gD,out) (fun y=>[(0,.ptr 0 0),(3,.ptr 1 0),(4,.str y.1)]) (fun y=>[(0,182,[.ptr 0 0,.own 0 1 (y.2.2.2.2.map hL),.int .i64 (d:Int)]),(1,133,(ac.mk 2 [] y.2.1 0 y.2.2.1 y.2.2.2.1).row)]) (fun y=>[(0,.bJ 5 1 (y.2.2.2.2.map hL).length)]) (fun y=>dB y.2.1=true∧ho y.2.2.1=true∧ho y.2.2.2.1=true∧y.2.1.bI+ac.bB y.2.2.1+ac.bB y.2.2.2.1≤N∧d+(1+y.2.1.bI+ac.bB y.2.2.1+ac.bB y.2.2.2.1)≤1000000∧F=y.2.2.2.2++ac.gS d y.1 (.mk 2 [] y.2.1 0 y.2.2.1 y.2.2.2.1)) (fun y=>ac.bB y.2.2.2.1) ⟨pQ,pP,lY,by simp only; omega,by simp only; omega,eC⟩ ⟨rfl,rfl,rfl,trivial⟩ ⟨rfl,by simp only[ac.ct,ad.ct]; rfl,trivial⟩ ⟨rfl,trivial⟩ ?_
  rintro⟨D8,x,a,b,O⟩ ⟨pQ,pP,lY,bW,bw,eC⟩
  simp only at pQ pP lY bW bw eC ⊢
  have qC:=congrArg List.length eC
  simp only[ac.gS,show ¬(2:Int)=1 by decide,show ¬(2:Int)=3 by decide,if_false]at eC
  obtain⟨L,ek⟩: ∃L,L=eE d [D8,cm x,[32,123]]:=⟨_,rfl⟩
  obtain⟨re,sV⟩: ∃re,re=ac.fF (d+1) a:=⟨_,rfl⟩
  obtain⟨T,c4⟩: ∃T,T=(if jH b=true then ac.rC d b else (if b.isEmpty=true then[] else eE d [[125,32,101,108,115,101,32,123]]++ac.fF (d+1) b)++eE d [[125]]):=⟨_,rfl⟩
  rw[←ek,←sV,←c4]at eC
  have Yp:O.length+L.length+re.length+T.length=F.length:=by rw[eC]; simp only[List.length_append]; omega
  have ap:(cm x).length≤1000000000:=by have:=xO (d:=d) (s:=cm x) (ps:=[D8,cm x,[32,123]]) (by simp); rw[←ek]at this; omega
  have e:=(tf 1000000).1 x (by omega) pQ ap
  have el:=oy d (by omega) (.inr rfl) O [D8,cm x,[32,123]] (by simp) (by rw[←ek]; omega)
  rw[←ek]at el
  have kG:=dX a d (O++L) (by omega) pP (by omega) (by rw[←sV,List.length_append]; omega)
  rw[←sV]at kG
  clear ek sV qC
  generalize cm x=iD at*
  rcases x with ⟨eb,ef,ed,eg,ee,ec⟩
  simp only[ac.ct,ad.ct]
  simp(disch:=omega)only[go_sem,simprocAttr]at e
  refine ao ?_
  refine D.P (e) ?_
  refine ao ?_
  refine D.F ⟨[0],[0]⟩ (el) ?_
  refine ao ?_
  refine D.F ⟨[0],[0]⟩ (kG) ?_
  have w0:F=(O++L++re)++T:=by rw[eC]; simp only[List.append_assoc]
  have Ln:(O++L++re).length+T.length≤1000000000:=by simp only[List.length_append]; omega
  generalize O++L++re=Y at w0 Ln ⊢
  clear eC Yp el kG e
  by_cases oo:b=[]
  ·subst oo
   simp only[jH,List.isEmpty_nil,Bool.false_eq_true,if_false,if_true,List.nil_append]at c4
   have qt:=oy d (by omega) (.inr rfl) Y [[125]] (by simp) (by rw[←c4]; exact Ln)
   rw[←c4,←w0]at qt
   refine ao ?_
   refine D.F ⟨[0],[0]⟩ (qt) ?_
   refine ao ?_
   refine D.r ?_
   exact⟨rfl,⟨rfl,trivial⟩,rfl,trivial⟩
  cases eU:jH b with
  |true=>
   rw[eU,if_pos rfl]at c4
   match b,eU,lY,bW,bw,c4 with
   |[.mk sv x8 SL uU tB su],eU,lY,bW,bw,c4=>
   have eU:sv=2:=of_decide_eq_true eU
   subst eU
   simp only[ho,hX,Bool.and_true,Bool.and_eq_true]at lY
   obtain⟨Z9,aa0,Z7,Z8⟩:=lY
   rcases Bi Z9 with ⟨h,_⟩|⟨_,rfl,rfl⟩|⟨h,_⟩
   ·cases h
   rotate_left
   ·cases h
   simp only[ac.bB,ac.bI]at bW bw
   simp only[ac.rC]at c4
   rw[c4]at w0
   have Me:ac.bB su<ac.bB [ac.mk 2 [] SL 0 tB su]:=by simp only[ac.bB,ac.bI]; omega
   rcases SL with ⟨SM,SQ,SO,SR,SP,SN⟩
   refine ao ?_
   refine aj.dK ([125,32,101,108,115,101,32,105,102,32],.mk SM SQ SO SR SP SN,tB,su,Y) ⟨aa0,Z7,Z8,by simp only; omega,by simp only; omega,w0⟩ ⟨rfl,rfl,rfl,trivial⟩ ⟨rfl,by simp only[ac.ct,ad.ct]; rfl,trivial⟩ ⟨rfl,trivial⟩ rfl rfl Me
  |false=>
   have xf:b.isEmpty=false:=by cases b with|nil=>exact absurd rfl oo|cons _ _=>rfl
   rw[eU,xf]at c4
   simp only[Bool.false_eq_true,if_false]at c4
   obtain⟨yg,Bf⟩: ∃yg,yg=eE d [[125,32,101,108,115,101,32,123]]:=⟨_,rfl⟩
   obtain⟨Aa,Bd⟩: ∃Aa,Aa=ac.fF (d+1) b:=⟨_,rfl⟩
   obtain⟨E,dc⟩: ∃E,E=eE d [[125]]:=⟨_,rfl⟩
   rw[←Bf,←Bd,←dc]at c4
   have Lo:=congrArg List.length c4
   simp only[List.length_append]at Lo
   have ar:=oy d (by omega) (.inr rfl) Y [[125,32,101,108,115,101,32,123]] (by simp) (by rw[←Bf]; omega)
   rw[←Bf]at ar
   have ax:=dX b d (Y++yg) (by omega) lY (by omega) (by rw[←Bd,List.length_append]; omega)
   rw[←Bd]at ax
   have cw:=oy d (by omega) (.inr rfl) (Y++yg++Aa) [[125]] (by simp) (by rw[←dc]; simp only[List.length_append]; omega)
   rw[←dc]at cw
   have Lm:F=Y++yg++Aa++E:=by rw[w0,c4]; simp only[List.append_assoc]
   clear c4 Bf Bd dc w0 Lo
   by_cases hlen:b.length=1
   focus
    match b,hlen,eU with
    |[.mk sv x8 ⟨SM,SQ,SO,SR,SP,SN⟩ uU tB su],_,eU=>
    have eU: ¬sv=2:=of_decide_eq_false eU
    simp(disch:=omega)only[go_sem,simprocAttr]at ax
    (have al:=eU;refine bQ ?_;clear al)
    refine D.F ⟨[0],[0]⟩ (ar) ?_
    refine ao ?_
    refine D.F ⟨[0],[0]⟩ (ax) ?_
    refine ao ?_
    refine D.F ⟨[0],[0]⟩ (cw) ?_
    refine ao ?_
    refine D.r ?_
    rw[Lm]
    exact⟨rfl,⟨rfl,trivial⟩,rfl,trivial⟩
   have qF:0<b.length:=by cases b with|nil=>exact absurd rfl oo|cons _ _=>simp
   have d5: ¬((b.map ac.row).length:Int)=1:=by rw[List.length_map]; omega
   have d6:(0:Int)<((b.map ac.row).length:Int):=by rw[List.length_map]; omega
   (have al:=d5;have z2:=d6;refine e8 ?_;clear al z2)
   refine D.F ⟨[0],[0]⟩ (ar) ?_
   refine ao ?_
   refine D.F ⟨[0],[0]⟩ (ax) ?_
   refine ao ?_
   refine D.F ⟨[0],[0]⟩ (cw) ?_
   refine ao ?_
   refine D.r ?_
   rw[Lm]
   exact⟨rfl,⟨rfl,trivial⟩,rfl,trivial⟩
 ·have bE:ac.gS d [105,102,32] (.mk 3 [] x t hU gD)=eE d [[119,104,105,108,101,32],cm x,[32,116,105,109,101,115,32],Lib.itoa t,[32,123]]++ac.fF (d+1) hU++eE d [[125]]:=by simp only[ac.gS,show ¬(3:Int)=1 by decide,if_false,if_true]
  rw[bE]at aH ⊢
  obtain⟨L,ek⟩: ∃L,L=eE d [[119,104,105,108,101,32],cm x,[32,116,105,109,101,115,32],Lib.itoa t,[32,123]]:=⟨_,rfl⟩
  obtain⟨re,sV⟩: ∃re,re=ac.fF (d+1) hU:=⟨_,rfl⟩
  obtain⟨E,dc⟩: ∃E,E=eE d [[125]]:=⟨_,rfl⟩
  rw[←ek,←sV,←dc]at aH ⊢
  simp only[List.length_append]at aH
  have ap:(cm x).length≤1000000000:=by have:=xO (d:=d) (s:=cm x) (ps:=[[119,104,105,108,101,32],cm x,[32,116,105,109,101,115,32],Lib.itoa t,[32,123]]) (by simp); rw[←ek]at this; omega
  have e:=(tf 1000000).1 x xa pQ ap
  have tZ:=zq t (by omega) (by omega)
  have el:=oy d (by omega) (.inr rfl) out [[119,104,105,108,101,32],cm x,[32,116,105,109,101,115,32],Lib.itoa t,[32,123]] (by simp) (by rw[←ek]; omega)
  rw[←ek]at el
  have kG:=dX hU d (out++L) (by omega) pP (by omega) (by rw[←sV,List.length_append]; omega)
  rw[←sV]at kG
  have qt:=oy d (by omega) (.inr rfl) (out++L++re) [[125]] (by simp) (by rw[←dc]; simp only[List.length_append]; omega)
  rw[←dc]at qt
  clear ek sV dc
  generalize cm x=iD at*
  generalize Lib.itoa t=aF8 at*
  rcases x with ⟨eb,ef,ed,eg,ee,ec⟩
  simp(disch:=omega)only[go_sem,simprocAttr]at e
  refine bz.intro bN Tryz.func182 Dd ?_
  unfold AL Cd
  simp(disch:=omega)only[go_sem,simprocAttr]
  iterate 4 refine iT ?_
  repeat refine D.cN true true ?_
  refine aj.fs (anns:=[.str iD,.str aF8]) ?_
  refine bK ?_
  refine D.df (e) ?_
  refine bK ?_
  refine D.df (tZ) ?_
  refine bK ?_
  refine D.F ⟨[0],[0]⟩ (el) ?_
  refine ao ?_
  refine D.F ⟨[0],[0]⟩ (kG) ?_
  refine ao ?_
  refine D.F ⟨[0],[0]⟩ (qt) ?_
  refine ao ?_
  refine D.r ?_
  refine⟨rfl,⟨?_,trivial⟩,?_,trivial⟩
  ·simp only[vR,lA,List.append_assoc]; rfl
  ·simp only[qo,List.append_assoc]; rfl
theorem OL: ∀N,mP N∧oH N
 |0=>by
  have h:mP 0:=fun x d out h=>by cases x; simp only[ac.bI]at h; omega
  exact⟨h,OC h⟩
 |N+1=>by
  have h:=ar5 (OL N).2
  exact⟨h,OC h⟩
end
section
attribute [local go_sem] ad.ct ac.ct ad.b9 ac.b9 cj eN fZ gJ dp of_flat
attribute [local go_sem] cb.row dG
theorem O7 {R:Nat}(an:R≤140737488355328): ∀(N:Nat) (x y:ac),x.bI≤N→x.ok R→Pure Tryz.prog 68 [.agg x.row,.agg y.row] (.bool (q3 x y))
 |N,.mk k m x t a b,.mk bA m2 rc t2 a2 dU,bW,ab=>by
  have key: ∀(l dZ:List ac),ac.bB l+1≤N→l.length*168≤R→ac.lk R l→Pure Tryz.prog 67 [.ay 11 (l.map ac.row),.ay 11 (dZ.map ac.row),.fn 68 []] (.bool (mH l dZ)):=fun l dZ aH hlen aC=>by
   rw[Ct]
   refine O6 q3 68 (by kernel_rfl) l dZ (r3 an (by decide) hlen) fun i u v hu af=> ?_
   have hm:=ac.lh hu
   match N,aH with
   |0,aH=>omega
   |N+1,aH=>exact O7 an N u v (by omega) (ac.qU aC hu)
  simp only[ac.bI]at bW
  have mm:=key a a2 (by omega) ab.2.2.2.2.1 ab.2.2.2.2.2.2.1
  have kG:=key b dU (by omega) ab.2.2.2.2.2.1 ab.2.2.2.2.2.2.2
  have ex:=FA an x.bI x rc (Nat.le_refl _) ab.2.2.1
  clear ab key
  obtain⟨cO,pX,m3,t3,MV,o2⟩:=x
  obtain⟨fC,vM,m4,t4,n4,BF⟩:=rc
  simp(disch:=omega)only[go_sem,simprocAttr]at ex
  refine cF bN Tryz.func68 VG (by simp only[ac.ct,ad.ct,List.cons_append,List.nil_append,b3,I.flat,ad.b9,ac.b9,Bool.and_self]) rfl ?_
  unfold Kl Q8
  simp only[q3]
  generalize nF (ad.mk cO pX m3 t3 MV o2) (ad.mk fC vM m4 t4 n4 BF)=Hr at ex
  generalize mH a a2=aO4 at mm
  generalize mH b dU=lA at kG
  simp(disch:=omega)only[go_sem,simprocAttr]
  (repeat' first|refine D.S ?_|refine D.cN true true ?_|refine ae.nil ?_|refine aj.b6 ?_|refine D.W ?_|refine D.Z ?_|refine D.G ?_ ?_|refine D.X ‹_› ?_|refine D.eh ‹_› ?_|refine D.ei ‹_› ?_|intro h)
  ·refine D.P (ex) ?_
   (repeat' first|refine D.S ?_|refine D.cN true true ?_|refine ae.nil ?_|refine aj.b6 ?_|refine D.W ?_|refine D.Z ?_|refine D.G ?_ ?_|refine D.X ‹_› ?_|refine D.eh ‹_› ?_|refine D.ei ‹_› ?_|intro h)
   ·refine D.P (mm) ?_
    (repeat' first|refine D.S ?_|refine D.cN true true ?_|refine ae.nil ?_|refine aj.b6 ?_|refine D.W ?_|refine D.Z ?_|refine D.G ?_ ?_|refine D.X ‹_› ?_|refine D.eh ‹_› ?_|refine D.ei ‹_› ?_|intro h)
    ·refine D.P (kG) ?_
     refine ao ?_
     refine D.r ?_
     refine⟨_,rfl,.av ?_ rfl,trivial,trivial⟩
     simp_all [I.av]
    all_goals
     refine D.R ?_
     refine⟨_,rfl,.av ?_ rfl,trivial,trivial⟩
     simp_all [I.av]
   all_goals
    refine D.R ?_
    refine⟨_,rfl,.av ?_ rfl,trivial,trivial⟩
    simp_all [I.av]
  all_goals
   refine D.R ?_
   refine⟨_,rfl,.av ?_ rfl,trivial,trivial⟩
   simp_all [I.av]
theorem aH6 {R:Nat}(an:R≤140737488355328) (l dZ:List ac) (hlen:l.length*168≤R) (aC:ac.lk R l):Pure Tryz.prog 67 [.ay 11 (l.map ac.row),.ay 11 (dZ.map ac.row),.fn 68 []] (.bool (mH l dZ)):=by
 rw[Ct]
 exact O6 q3 68 (by kernel_rfl) l dZ (r3 an (by decide) hlen) fun i u v hu af=>O7 an u.bI u v (Nat.le_refl _) (ac.qU aC hu)
theorem KQ {R:Nat}(an:R≤140737488355328) (l dZ:List ad) (hlen:l.length*88≤R) (aC:ad.lk R l):Pure Tryz.prog 71 [.ay 6 (l.map ad.row),.ay 6 (dZ.map ad.row),.fn 72 []] (.bool (lW l dZ)):=by
 rw[AY]
 exact O8 nF 72 (by kernel_rfl) l dZ (r3 an (by decide) hlen) fun i u v hu af=>FA an u.bI u v (Nat.le_refl _) (ad.qU aC hu)
theorem ay1 {R:Nat}(an:R≤140737488355328) (a b:cd) (aP:a.ok R):Pure Tryz.prog 65 [.agg a.row,.agg b.row] (.bool (qE a b)):=by
 have ar:=ay2 a.ps b.ps (r3 an (by decide) aP.2.2.1)
 have ax:=aH6 an a.body b.body aP.2.2.2.2.1 aP.2.2.2.2.2
 refine cF bN Tryz.func65 VD (by simp only[fZ,b3,I.flat,eN,ac.b9,Bool.and_self]) rfl ?_
 unfold Ki Q5
 simp only[qE]
 generalize decide (a.ps=b.ps)=eB at ar
 generalize mH a.body b.body=dU at ax
 simp(disch:=omega)only[go_sem,simprocAttr]
 (repeat' first|refine D.S ?_|refine D.cN true true ?_|refine ae.nil ?_|refine aj.b6 ?_|refine D.W ?_|refine D.Z ?_|refine D.G ?_ ?_|refine D.X ‹_› ?_|refine D.eh ‹_› ?_|refine D.ei ‹_› ?_|intro h)
 ·refine D.P (ar) ?_
  (repeat' first|refine D.S ?_|refine D.cN true true ?_|refine ae.nil ?_|refine aj.b6 ?_|refine D.W ?_|refine D.Z ?_|refine D.G ?_ ?_|refine D.X ‹_› ?_|refine D.eh ‹_› ?_|refine D.ei ‹_› ?_|intro h)
  ·refine D.P (ax) ?_
   refine ao ?_
   refine D.r ?_
   refine⟨_,rfl,.av ?_ rfl,trivial,trivial⟩
   simp_all [I.av]
  all_goals
   refine D.R ?_
   refine⟨_,rfl,.av ?_ rfl,trivial,trivial⟩
   simp_all [I.av]
 all_goals
  refine D.R ?_
  refine⟨_,rfl,.av ?_ rfl,trivial,trivial⟩
  simp_all [I.av]
theorem ay4 {R:Nat}(an:R≤140737488355328) (a b:ca) (aP:a.ok R):Pure Tryz.prog 70 [.agg a.row,.agg b.row] (.bool (qT a b)):=by
 have ar:=KQ an a.args b.args aP.2.2.1 aP.2.2.2.1
 have ax:=KQ an a.dT b.dT aP.2.2.2.2.1 aP.2.2.2.2.2
 refine cF bN Tryz.func70 VI (by simp only[gJ,b3,I.flat,ad.b9,Bool.and_self]) rfl ?_
 unfold Kn Rb
 simp only[qT]
 generalize lW a.args b.args=eB at ar
 generalize lW a.dT b.dT=dU at ax
 simp(disch:=omega)only[go_sem,simprocAttr]
 (repeat' first|refine D.S ?_|refine D.cN true true ?_|refine ae.nil ?_|refine aj.b6 ?_|refine D.W ?_|refine D.Z ?_|refine D.G ?_ ?_|refine D.X ‹_› ?_|refine D.eh ‹_› ?_|refine D.ei ‹_› ?_|intro h)
 ·refine D.P (ar) ?_
  (repeat' first|refine D.S ?_|refine D.cN true true ?_|refine ae.nil ?_|refine aj.b6 ?_|refine D.W ?_|refine D.Z ?_|refine D.G ?_ ?_|refine D.X ‹_› ?_|refine D.eh ‹_› ?_|refine D.ei ‹_› ?_|intro h)
  ·refine D.P (ax) ?_
   refine ao ?_
   refine D.r ?_
   refine⟨_,rfl,.av ?_ rfl,trivial,trivial⟩
   simp_all [I.av]
  all_goals
   refine D.R ?_
   refine⟨_,rfl,.av ?_ rfl,trivial,trivial⟩
   simp_all [I.av]
 all_goals
  refine D.R ?_
  refine⟨_,rfl,.av ?_ rfl,trivial,trivial⟩
  simp_all [I.av]
theorem lq (x:e9):x.ir= .agg [.str x.name,.str x.hD,.str x.hA,.ay 7 (x.vars.map cb.row),.ay 4 (x.ap.map cd.row),.ay 4 (x.os.map ca.row)]:=rfl
theorem aw7 {R:Nat}(an:R≤140737488355328) (x y:e9) (ab:x.ok R):Pure Tryz.prog 22 [x.ir,y.ir] (.bool (xR x y)):=by
 have ar:=ax9 x.vars y.vars (r3 an (by decide) ab.nS)
 have ax:=ay0 qE 65 (by kernel_rfl) x.ap y.ap (r3 an (by decide) ab.nh) fun i u v hu af=>ay1 an u v (ab.ap u (List.mem_of_getElem? hu))
 have cw:=ay3 qT 70 (by kernel_rfl) x.os y.os (r3 an (by decide) ab.no) fun i u v hu af=>ay4 an u v (ab.os u (List.mem_of_getElem? hu))
 rw[lq,lq]
 refine cF bN Tryz.func22 Va (by simp only[b3,I.flat,dG,dp,of_flat,Bool.and_self]) rfl ?_
 unfold JV QB
 simp only[xR]
 generalize decide (x.vars=y.vars)=eB at ar
 generalize eL qE x.ap y.ap=dU at ax
 generalize eL qT x.os y.os=jj at cw
 simp(disch:=omega)only[go_sem,simprocAttr]
 (repeat' first|refine D.S ?_|refine D.cN true true ?_|refine ae.nil ?_|refine aj.b6 ?_|refine D.W ?_|refine D.Z ?_|refine D.G ?_ ?_|refine D.X ‹_› ?_|refine D.eh ‹_› ?_|refine D.ei ‹_› ?_|intro h)
 ·refine D.P (ar) ?_
  (repeat' first|refine D.S ?_|refine D.cN true true ?_|refine ae.nil ?_|refine aj.b6 ?_|refine D.W ?_|refine D.Z ?_|refine D.G ?_ ?_|refine D.X ‹_› ?_|refine D.eh ‹_› ?_|refine D.ei ‹_› ?_|intro h)
  ·refine D.P (ax) ?_
   (repeat' first|refine D.S ?_|refine D.cN true true ?_|refine ae.nil ?_|refine aj.b6 ?_|refine D.W ?_|refine D.Z ?_|refine D.G ?_ ?_|refine D.X ‹_› ?_|refine D.eh ‹_› ?_|refine D.ei ‹_› ?_|intro h)
   ·refine D.P (cw) ?_
    refine ao ?_
    refine D.r ?_
    refine⟨_,rfl,.av ?_ rfl,trivial,trivial⟩
    simp_all [I.av]
   all_goals
    refine D.R ?_
    refine⟨_,rfl,.av ?_ rfl,trivial,trivial⟩
    simp_all [I.av]
  all_goals
   refine D.R ?_
   refine⟨_,rfl,.av ?_ rfl,trivial,trivial⟩
   simp_all [I.av]
 all_goals
  refine D.R ?_
  refine⟨_,rfl,.av ?_ rfl,trivial,trivial⟩
  simp_all [I.av]
end
section
attribute [local go_sem] ad.ct ac.ct ad.b9 ac.b9 cj eN fZ gJ dp of_flat
attribute [local go_sem] cb.row dG
theorem fG (x:e9):x.cells=[.str x.name,.str x.hD,.str x.hA,.ay 7 (x.vars.map cb.row),.ay 4 (x.ap.map cd.row),.ay 4 (x.os.map ca.row)]:=rfl
attribute [local go_sem] fG mV
end
section
attribute [local go_sem] hL lT ad.ct ad.b9 ad.de ac.ct ac.b9 ac.de cj eN fZ gJ dp of_flat cb.row dG fG
theorem vI {α:Type}(f:α→a7){l:List α}{i:Nat}{v:α}(h:l[i]? =some v):((l.take (i+1)).map f).flatten=((l.take i).map f).flatten++f v:=by
 rw[List.take_add_one,h]; simp
theorem BJ {α:Type}(f:α→a7) (l:List α) (i:Nat):((l.take i).map f).flatten.length≤(l.map f).flatten.length:=by
 conv=>rhs; rw[←List.take_append_drop i l]
 rw[List.map_append,List.flatten_append,List.length_append]
 omega
theorem zj {α:Type}(f:α→a7){l:List α}{i:Nat}{v:α}(h:l[i]? =some v):((l.take i).map f).flatten.length+(f v).length≤(l.map f).flatten.length:=by
 have:=BJ f l (i+1)
 rw[vI f h,List.length_append]at this
 exact this
theorem DW {v:cb}(h:iN v=true): -1000000000≤v.cz∧v.cz≤1000000000∧ -1000000000≤v.ai∧v.ai≤1000000000∧(v.ik≠2→ -1000000000≤v.n∧v.n≤1000000000)∧v.s.length≤40:=by
 simp only[iN,Bool.and_eq_true,iX,decide_eq_true_eq]at h
 obtain⟨_,J,aa,_,au⟩:=h
 by_cases bC:v.ik=1
 ·rw[if_pos bC]at au
  simp only[Bool.and_eq_true,decide_eq_true_eq]at au
  exact⟨by omega,by omega,by omega,by omega,fun _=>by omega,by rw[au.2]; decide⟩
 rw[if_neg bC]at au
 by_cases bA:v.ik=2
 ·rw[if_pos bA]at au
  simp only[Bool.and_eq_true,decide_eq_true_eq,lM]at au
  exact⟨by omega,by omega,by omega,by omega,fun h=>absurd bA h,au.2.1⟩
 ·rw[if_neg bA]at au
  cases au
theorem yI {h:cd}(aY:jZ h=true):ho h.body=true∧h.ps.length≤4:=by
 simp only[jZ,Bool.and_eq_true,decide_eq_true_eq]at aY
 rw[yK]
 exact⟨aY.2.2.2.2.1,aY.2.2.1⟩
theorem yJ {o:ca}(aY:j6 o=true):o.args.all dB=true∧o.dT.all dB=true∧o.dT.length≤1:=by
 simp only[j6,Bool.and_eq_true,decide_eq_true_eq,List.all_append]at aY
 exact⟨aY.2.2.2.2.1.1,aY.2.2.2.2.1.2,aY.2.2.2.1⟩
structure CU (x:e9):Prop where
 ay:x.vars.all iN=true
 ap:x.ap.all jZ=true
 os:x.os.all j6=true
 aP: ∀h∈x.ap,ac.bB h.body≤900000
 o6: ∀o∈x.os,ad.bB o.args≤900000∧ad.bB o.dT≤900000
 nS:x.vars.length≤1000000
 nh:x.ap.length≤1000000
 no:x.os.length≤1000000
 len:(iK x).length≤900000000
theorem O1 (x:e9) (ab:CU x):Pure Tryz.prog 52 [x.ir] (.str (iK x)):=by
 have eC:=ab.len
 have Em:=ab.nS
 have Ek:=ab.nh
 have ck:=ab.no
 obtain⟨F,oV⟩: ∃F,F=iK x:=⟨_,rfl⟩
 rw[←oV]at eC ⊢
 unfold iK at oV
 obtain⟨H0,w7⟩: ∃H0,H0=eE 0 [[115,101,114,118,105,99,101,32],x.name,[32,112,108,97,121,115,32],x.hD,[32,111,102,32],x.hA,[32,123]]:=⟨_,rfl⟩
 obtain⟨E,dc⟩: ∃E,E=eE 0 [[125]]:=⟨_,rfl⟩
 rw[←w7,←dc]at oV
 have Be:=congrArg List.length oV
 simp only[List.length_append]at Be
 have ar:=oy 0 (by decide) (.inl rfl) [] [[115,101,114,118,105,99,101,32],x.name,[32,112,108,97,121,115,32],x.hD,[32,111,102,32],x.hA,[32,123]] (by simp) (by rw[←w7,List.length_nil]; omega)
 rw[←w7,List.nil_append]at ar
 rw[lq]
 refine cF bN Tryz.func52 Vr (by simp only[b3,I.flat,dG,dp,of_flat,Bool.and_self]) rfl ?_
 unfold rA QS
 simp(disch:=omega)only[go_sem,simprocAttr]
 iterate 2 refine iT ?_
 refine aj.oU 1 1 1 5 rfl rfl (by decide) ?_
 simp(disch:=omega)only[go_sem,simprocAttr]
 refine ao ?_
 refine D.F ⟨[1],[0]⟩ (ar) ?_
 refine ao ?_
 clear ar
 obtain⟨V,ol⟩: ∃V,V=H0++(x.vars.map jT).flatten:=⟨_,rfl⟩
 have Lp:V.length=H0.length+(x.vars.map jT).flatten.length:=by rw[ol,List.length_append]
 refine aj.dd (X:=Nat) 0 (fun i=>[(1,.ptr 0 0),(3,.ptr 1 0),(27,.ay 7 (x.vars.map cb.row)),(28,.int .i64 ((x.vars.map cb.row).length:Int)),(29,.int .i64 (i:Int))]) (fun i=>[(0,27,x.cells),(1,182,[.ptr 1 0,.own 0 1 ((H0++((x.vars.take i).map jT).flatten).map hL),.int .i64 1])]) (fun i=>[(0,.bJ 5 1 ((H0++((x.vars.take i).map jT).flatten).map hL).length)]) (fun i=>i≤x.vars.length) (fun i=>x.vars.length-i) (Nat.zero_le _) ⟨rfl,rfl,rfl,rfl,rfl,trivial⟩ ⟨rfl,by simp only[List.take_zero,List.map_nil,List.flatten_nil,List.append_nil]; rfl,trivial⟩ ⟨by simp only[List.take_zero,List.map_nil,List.flatten_nil,List.append_nil]; rfl,trivial⟩ ?_
 intro i ai
 try simp only at ai ⊢
 cases af:x.vars[i]? with
 |some v=>
  have cK:=(List.getElem?_eq_some_iff.1 af).1
  have gN:=List.mem_of_getElem? af
  have mZ:iN v=true:=by simpa using List.all_eq_true.1 ab.ay v gN
  have ev:=vI jT af
  have hle:=zj jT af
  have d1:(i:Int)<((x.vars.map cb.row).length:Int):=by rw[List.length_map]; omega
  obtain⟨Y,fV⟩: ∃Y,Y=H0++((x.vars.take i).map jT).flatten:=⟨_,rfl⟩
  have fy:H0++((x.vars.take (i+1)).map jT).flatten=Y++jT v:=by rw[ev,fV,List.append_assoc]
  have uk:Y.length+(jT v).length≤900000000:=by rw[fV,List.length_append]; omega
  obtain⟨g1,g2,g3,g4,g5,g6⟩:=DW mZ
  obtain⟨s1,o0⟩: ∃s1,s1=Lib.itoa v.cz:=⟨_,rfl⟩
  obtain⟨s2,nL⟩: ∃s2,s2=Lib.itoa v.ai:=⟨_,rfl⟩
  obtain⟨oA,Eu⟩: ∃oA,oA=qM v.ik v.n v.s:=⟨_,rfl⟩
  have fR:=zq v.cz g1 g2
  have il:=zq v.ai g3 g4
  have gl:=at2 v.ik v.n v.s g5 (by omega)
  have xo:jT v=eE 1 [[118,97,114,32],v.name,[58,32],if v.hV=2 then[116,101,120,116,32] else[105,110,116,32],s1,[32,46,46,32],s2,[32,61,32],oA,[59]]:=by rw[o0,nL,Eu]; rfl
  rw[←o0]at fR
  rw[←nL]at il
  rw[←Eu]at gl
  rw[←fV]
  generalize jT v=L at*
  clear ev hle fV o0 nL Eu
  by_cases aa:v.hV=2
  focus
   rw[if_pos aa]at xo
   have e:=oy 1 (by decide) (.inr rfl) Y [[118,97,114,32],v.name,[58,32],[116,101,120,116,32],s1,[32,46,46,32],s2,[32,61,32],oA,[59]] (by simp) (by rw[←xo]; omega)
   rw[←xo]at e
   (have al:=d1;have z2:=aa;refine fo ?_;refine fo ?_;refine fo ?_;refine fo ?_;refine fo ?_;clear al z2)
   (have al:=d1;have z2:=aa;refine ye ?_;clear al z2)
  rotate_left
  focus
   rw[if_neg aa]at xo
   have e:=oy 1 (by decide) (.inr rfl) Y [[118,97,114,32],v.name,[58,32],[105,110,116,32],s1,[32,46,46,32],s2,[32,61,32],oA,[59]] (by simp) (by rw[←xo]; omega)
   rw[←xo]at e
   (have al:=d1;have z2:=aa;refine fo ?_;refine fo ?_;refine fo ?_;refine fo ?_;clear al z2)
   (have al:=d1;have z2:=aa;refine ye ?_;clear al z2)
  all_goals
   refine aj.fs (anns:=[.str s1,.str s2,.str oA]) ?_
   (have al:=aa;refine rj ?_;clear al)
   refine D.df (fR) ?_
   refine bK ?_
   refine D.df (il) ?_
   refine bK ?_
   refine D.df (gl) ?_
   refine bK ?_
   refine D.F ⟨[1],[0]⟩ (e) ?_
   refine ao ?_
   refine aj.gT (i+1) (by omega) ⟨rfl,rfl,rfl,rfl,by simp only[Int.natCast_add]; rfl,trivial⟩ (by simp only[fy]; exact⟨rfl,rfl,trivial⟩) (by simp only[fy]; exact⟨rfl,trivial⟩) rfl (by simp only[fY,dr,dP,dV,fO,I.cR,b2.bJ,fG,lT,dG,dp,of_flat,go_sem]<;>rfl) (by show x.vars.length-(i+1)<x.vars.length-i; omega)
 |none=>
 have cM:=List.getElem?_eq_none_iff.1 af
 have bE:i=x.vars.length:=by omega
 subst bE
 have d1: ¬(x.vars.length:Int)<((x.vars.map cb.row).length:Int):=by rw[List.length_map]; omega
 rw[List.take_length,←ol]
 rw[←ol]at oV
 clear ai af cM
 obtain⟨pv,D3⟩: ∃pv,pv=V++(x.ap.map jb).flatten:=⟨_,rfl⟩
 have aP3:pv.length=V.length+(x.ap.map jb).flatten.length:=by rw[D3,List.length_append]
 (have al:=d1;refine bQ ?_;clear al)
 refine aj.dd (X:=Nat) 0 (fun i=>[(1,.ptr 0 0),(3,.ptr 1 0),(56,.ay 4 (x.ap.map cd.row)),(57,.int .i64 ((x.ap.map cd.row).length:Int)),(58,.int .i64 (i:Int))]) (fun i=>[(0,27,x.cells),(1,182,[.ptr 1 0,.own 0 1 ((V++((x.ap.take i).map jb).flatten).map hL),.int .i64 1])]) (fun i=>[(0,.bJ 5 1 ((V++((x.ap.take i).map jb).flatten).map hL).length)]) (fun i=>i≤x.ap.length) (fun i=>x.ap.length-i) (Nat.zero_le _) ⟨rfl,rfl,rfl,rfl,rfl,trivial⟩ ⟨rfl,by simp only[List.take_zero,List.map_nil,List.flatten_nil,List.append_nil]; rfl,trivial⟩ ⟨by simp only[List.take_zero,List.map_nil,List.flatten_nil,List.append_nil]; rfl,trivial⟩ ?_
 intro i ai
 try simp only at ai ⊢
 cases af:x.ap[i]? with
 |some v=>
  have cK:=(List.getElem?_eq_some_iff.1 af).1
  have gN:=List.mem_of_getElem? af
  have mZ:jZ v=true:=by simpa using List.all_eq_true.1 ab.ap v gN
  have YH:=ab.aP v gN
  have ev:=vI jb af
  have hle:=zj jb af
  have d1:(i:Int)<((x.ap.map cd.row).length:Int):=by rw[List.length_map]; omega
  obtain⟨Y,fV⟩: ∃Y,Y=V++((x.ap.take i).map jb).flatten:=⟨_,rfl⟩
  have fy:V++((x.ap.take (i+1)).map jb).flatten=Y++jb v:=by rw[ev,fV,List.append_assoc]
  have uk:Y.length+(jb v).length≤900000000:=by rw[fV,List.length_append]; omega
  obtain⟨g1,g2⟩:=yI mZ
  obtain⟨s1,o0⟩: ∃s1,s1=Lib.join v.ps [44,32]:=⟨_,rfl⟩
  obtain⟨L,ek⟩: ∃L,L=eE 1 [[111,110,32],v.eK,[40],s1,[41,32,102,114,111,109,32],v.peer,[32,123]]:=⟨_,rfl⟩
  obtain⟨B,dX⟩: ∃B,B=ac.fF (1+1) v.body:=⟨_,rfl⟩
  obtain⟨Z,w9⟩: ∃Z,Z=eE 1 [[125]]:=⟨_,rfl⟩
  have yY:jb v=L++B++Z:=by rw[ek,dX,w9,o0]; rfl
  rw[yY]at uk fy
  simp only[List.length_append]at uk
  have ZR:s1.length≤L.length:=by rw[ek]; exact xO (by simp)
  have fR:=NX v.ps [44,32] (by omega) (by rw[←o0]; omega)
  have e:=oy 1 (by decide) (.inr rfl) Y [[111,110,32],v.eK,[40],s1,[41,32,102,114,111,109,32],v.peer,[32,123]] (by simp) (by rw[←ek]; omega)
  have kG:=(OL 1000000).2 v.body 1 (Y++L) (by omega) g1 (by omega) (by rw[←dX,List.length_append]; omega)
  have qt:=oy 1 (by decide) (.inr rfl) (Y++L++B) [[125]] (by simp) (by rw[←w9,List.length_append,List.length_append]; omega)
  rw[←o0]at fR
  rw[←ek]at e
  rw[←dX]at kG
  rw[←w9]at qt
  have Bw:V++((x.ap.take (i+1)).map jb).flatten=Y++L++B++Z:=by rw[fy]; simp only[List.append_assoc]
  rw[←fV]
  clear ev fy hle fV o0 ek dX w9 yY
  (have al:=d1;refine gA ?_;refine gA ?_;clear al)
  (have al:=d1;refine yd ?_;clear al)
  refine aj.fs (anns:=[.str s1]) ?_
  refine bK ?_
  refine D.df (fR) ?_
  refine bK ?_
  refine D.F ⟨[1],[0]⟩ (e) ?_
  refine ao ?_
  refine D.F ⟨[1],[0]⟩ (kG) ?_
  refine ao ?_
  refine D.F ⟨[1],[0]⟩ (qt) ?_
  refine ao ?_
  refine aj.gT (i+1) (by omega) ⟨rfl,rfl,rfl,rfl,by simp only[Int.natCast_add]; rfl,trivial⟩ (by simp only[Bw]; exact⟨rfl,rfl,trivial⟩) (by simp only[Bw]; exact⟨rfl,trivial⟩) rfl (by simp only[fY,dr,dP,dV,fO,I.cR,b2.bJ,fG,lT,dG,dp,of_flat,go_sem]<;>rfl) (by show x.ap.length-(i+1)<x.ap.length-i; omega)
 |none=>
 have cM:=List.getElem?_eq_none_iff.1 af
 have bE:i=x.ap.length:=by omega
 subst bE
 have d1: ¬(x.ap.length:Int)<((x.ap.map cd.row).length:Int):=by rw[List.length_map]; omega
 rw[List.take_length,←D3]
 rw[←D3]at oV
 clear ai af cM
 (have al:=d1;refine bQ ?_;clear al)
 refine aj.dd (X:=Nat) 0 (fun i=>[(1,.ptr 0 0),(3,.ptr 1 0),(81,.ay 4 (x.os.map ca.row)),(82,.int .i64 ((x.os.map ca.row).length:Int)),(83,.int .i64 (i:Int))]) (fun i=>[(1,182,[.ptr 1 0,.own 0 1 ((pv++((x.os.take i).map jJ).flatten).map hL),.int .i64 1])]) (fun i=>[(0,.bJ 5 1 ((pv++((x.os.take i).map jJ).flatten).map hL).length)]) (fun i=>i≤x.os.length) (fun i=>x.os.length-i) (Nat.zero_le _) ⟨rfl,rfl,rfl,rfl,rfl,trivial⟩ ⟨by simp only[List.take_zero,List.map_nil,List.flatten_nil,List.append_nil]; rfl,trivial⟩ ⟨by simp only[List.take_zero,List.map_nil,List.flatten_nil,List.append_nil]; rfl,trivial⟩ ?_
 intro i ai
 try simp only at ai ⊢
 cases af:x.os[i]? with
 |some v=>
  have cK:=(List.getElem?_eq_some_iff.1 af).1
  have gN:=List.mem_of_getElem? af
  have mZ:j6 v=true:=by simpa using List.all_eq_true.1 ab.os v gN
  obtain⟨YH,Lt⟩:=ab.o6 v gN
  have ev:=vI jJ af
  have hle:=zj jJ af
  have d1:(i:Int)<((x.os.map ca.row).length:Int):=by rw[List.length_map]; omega
  obtain⟨Y,fV⟩: ∃Y,Y=pv++((x.os.take i).map jJ).flatten:=⟨_,rfl⟩
  have fy:pv++((x.os.take (i+1)).map jJ).flatten=Y++jJ v:=by rw[ev,fV,List.append_assoc]
  have uk:Y.length+(jJ v).length≤900000000:=by rw[fV,List.length_append]; omega
  obtain⟨g1,g2,g3⟩:=yJ mZ
  obtain⟨s1,o0⟩: ∃s1,s1=Lib.join (v.args.map cm) [44,32]:=⟨_,rfl⟩
  obtain⟨s2,nL⟩: ∃s2,s2=p9 v.dT:=⟨_,rfl⟩
  obtain⟨L,ek⟩: ∃L,L=eE 1 [[111,102,102,101,114,32],v.eK,[40],s1,[41,32,116,111,32],v.peer,s2,[59]]:=⟨_,rfl⟩
  have yY:jJ v=L:=by rw[ek,o0,nL]; rfl
  rw[yY]at uk fy
  have ZR:s1.length≤L.length:=by rw[ek]; exact xO (by simp)
  have aQ5:s2.length≤L.length:=by rw[ek]; exact xO (by simp)
  have fR:=at3 v.args (by omega) g1 (by rw[←o0]; omega)
  have e:=oy 1 (by decide) (.inr rfl) Y [[111,102,102,101,114,32],v.eK,[40],s1,[41,32,116,111,32],v.peer,s2,[59]] (by simp) (by rw[←ek]; omega)
  rw[←o0]at fR
  rw[←ek]at e
  rw[←fV]
  clear ev hle fV o0 ek yY
  cases hw:v.dT with
  |nil=>
   rw[hw]at nL
   simp only[p9]at nL
   (have al:=d1;have z2:=hw;refine fo ?_;refine fo ?_;refine fo ?_;refine fo ?_;clear al z2)
   (have al:=d1;have z2:=hw;refine ye ?_;clear al z2)
   refine aj.fs (anns:=[.str s1]) ?_
   (have al:=hw;refine rj ?_;clear al)
   refine D.df (fR) ?_
   refine bK ?_
   subst nL
   refine D.F ⟨[1],[0]⟩ (e) ?_
   refine ao ?_
   refine aj.gT (i+1) (by omega) ⟨rfl,rfl,rfl,rfl,by simp only[Int.natCast_add]; rfl,trivial⟩ (by simp only[fy]; exact⟨rfl,trivial⟩) (by simp only[fy]; exact⟨rfl,trivial⟩) rfl (by simp only[fY,dr,dP,dV,fO,I.cR,b2.bJ,fG,lT,dG,dp,of_flat,go_sem]<;>rfl) (by show x.os.length-(i+1)<x.os.length-i; omega)
  |cons w ws=>
   rw[hw]at nL g2 Lt
   simp only[p9]at nL
   have Z4:ws=[]:=by
    rw[hw]at g3
    simp only[List.length_cons]at g3
    exact List.length_eq_zero_iff.1 (by omega)
   subst Z4
   have Z3:dB w=true:=by simpa using g2
   simp only[ad.bB]at Lt
   have L6:=congrArg List.length nL
   simp only[List.length_append]at L6
   have DI:=(tf 1000000).1 w (by omega) Z3 (by omega)
   generalize cm w=ia at nL L6 DI
   rcases w with ⟨eb,ef,ed,eg,ee,ec⟩
   simp(disch:=omega)only[go_sem,simprocAttr]at DI
   (have al:=d1;have z2:=hw;refine fo ?_;refine fo ?_;refine fo ?_;refine fo ?_;clear al z2)
   (have al:=d1;have z2:=hw;refine ye ?_;clear al z2)
   refine aj.b6 ?_
   (have al:=hw;refine rj ?_;clear al)
   refine D.P (DI) ?_
   refine D.bR ?_
   refine bK ?_
   (have al:=hw;refine yd ?_;clear al)
   refine aj.fs (anns:=[.str s1]) ?_
   (have al:=hw;refine rj ?_;clear al)
   refine D.df (fR) ?_
   refine bK ?_
   subst nL
   refine D.F ⟨[1],[0]⟩ (e) ?_
   refine ao ?_
   refine aj.gT (i+1) (by omega) ⟨rfl,rfl,rfl,rfl,by simp only[Int.natCast_add]; rfl,trivial⟩ (by simp only[fy]; exact⟨rfl,trivial⟩) (by simp only[fy]; exact⟨rfl,trivial⟩) rfl (by simp only[fY,dr,dP,dV,fO,I.cR,b2.bJ,fG,lT,dG,dp,of_flat,go_sem]<;>rfl) (by show x.os.length-(i+1)<x.os.length-i; omega)
 |none=>
 have cM:=List.getElem?_eq_none_iff.1 af
 have bE:i=x.os.length:=by omega
 subst bE
 have d1: ¬(x.os.length:Int)<((x.os.map ca.row).length:Int):=by rw[List.length_map]; omega
 rw[List.take_length]
 have fV:(pv++(x.os.map jJ).flatten).length+E.length≤900000000:=by rw[List.length_append]; omega
 rw[oV]
 generalize pv++(x.os.map jJ).flatten=Y at fV ⊢
 have qt:=oy 0 (by decide) (.inr rfl) Y [[125]] (by simp) (by rw[←dc]; omega)
 rw[←dc]at qt
 have dw:Y++E≠[]:=by rw[dc]; simp [eE]
 (have al:=d1;refine bQ ?_;clear al)
 refine D.F ⟨[1],[0]⟩ (qt) ?_
 refine ao ?_
 refine D.F ⟨[1],[0]⟩ (t129 (T:=182) (A:= .ptr 0 0) (cs:=[.int .i64 0]) trivial (Y++E) dw) ?_
 refine ao ?_
 exact D.rx
end
end Go.bc.T.N
namespace Go.bc
open Go Go.bc.T.N
theorem xG: ∀s:a7,(iC s).length≤2*s.length
 |[]=>Nat.le_refl _
 |c::s=>by
  have:=xG s
  simp only[iC,List.length_append,List.length_cons]
  split<;>simp<;>omega
theorem Ph (s:a7):(p4 s).length≤2*s.length+2:=by
 have:=xG s
 simp only[p4,List.length_append,List.length_cons,List.length_nil]
 omega
theorem vB {n:Int}(aw: -1000000000≤n) (J:n≤1000000000):(Lib.itoa n).length≤21:=Lib.itoa_length_le n (by omega) (by omega)
theorem tz {s:a7}(h:db s=true):s.length≤16:=by
 cases s with
 |nil=>simp
 |cons c s=>
  simp only[db,mx,Bool.and_eq_true,decide_eq_true_eq]at h
  exact h.1.1
theorem EU (x:ad) (s:a7) (k:Int):(fX x s k).length≤s.length+2:=by
 unfold fX
 split
 ·simp
 ·omega
theorem ar2 {s:a7}(h:cV s≠0):s.length≤2:=by
 by_cases aa:s.length≤2
 ·exact aa
 ·exfalso
  apply h
  unfold cV
  repeat rw[if_neg (by intro e; subst e; simp at aa)]
theorem zE: ∀(N:Nat) (x:ad),x.bI≤N→dB x=true→(cm x).length≤90*x.bI
 |0,x,h,_=>by cases x; simp only[ad.bI]at h; omega
 |N+1,⟨k,o,m,t,n,l⟩,bW,aY=>by
  simp only[ad.bI]at bW ⊢
  simp only[dB,Bool.and_eq_true]at aY
  obtain⟨bh,hq⟩:=aY
  have rS:=bh
  simp only[cm,Cn]
  unfold A4
  rcases Ec bh with ⟨rfl,aw,J,aa⟩|⟨rfl,aw,J⟩|⟨rfl,aw⟩|⟨rfl,aw⟩|⟨rfl,aw⟩|⟨rfl,aw⟩
  ·have:=vB (n:=n) (by omega) (by omega)
   simp only[if_true]
   omega
  ·have:=Ph t
   simp only[show ¬(2:Int)=1 by decide,if_false,if_true]
   omega
  ·have:m.length≤16:=by
    simp [fL]at rS
    exact tz rS.1
   simp only[show ¬(3:Int)=1 by decide,show ¬(3:Int)=2 by decide,if_false,if_true]
   omega
  ·match l,aw with
   |[x],_=>
   simp only[mY,Bool.and_true]at hq
   simp only[ad.bB]at bW ⊢
   have:=zE N x (by omega) hq
   simp only[show ¬(4:Int)=1 by decide,show ¬(4:Int)=2 by decide,show ¬(4:Int)=3 by decide,if_false,if_true,List.map_cons,MG,List.length_append,List.length_cons,List.length_nil]
   omega
  ·match l,aw with
   |[x],_=>
   simp only[mY,Bool.and_true]at hq
   simp only[ad.bB]at bW ⊢
   have J:=zE N x (by omega) hq
   have aa:=EU x (cm x) 7
   have au:o.length=1:=by
    simp [fL]at rS
    rcases rS.1 with rfl|rfl<;>rfl
   simp only[show ¬(5:Int)=1 by decide,show ¬(5:Int)=2 by decide,show ¬(5:Int)=3 by decide,show ¬(5:Int)=4 by decide,if_false,if_true,List.map_cons,Sx,List.length_append]
   omega
  ·match l,aw with
   |[x,y],_=>
   simp only[mY,Bool.and_true,Bool.and_eq_true]at hq
   simp only[ad.bB]at bW ⊢
   have J:=zE N x (by omega) hq.1
   have uh:=zE N y (by omega) hq.2
   have aa:=EU x (cm x) (cV o)
   have Le:=EU y (cm y) (cV o+1)
   have au:o.length≤2:=by
    simp [fL]at rS
    exact ar2 rS.1
   simp only[show ¬(6:Int)=1 by decide,show ¬(6:Int)=2 by decide,show ¬(6:Int)=3 by decide,show ¬(6:Int)=4 by decide,show ¬(6:Int)=5 by decide,if_false,List.map_cons,Ht,List.length_append,List.length_cons,List.length_nil]
   omega
theorem s5 (d:Nat) (ps:List a7):(eE d ps).length=d+ps.flatten.length+1:=by simp only[eE,List.length_append,List.length_replicate,List.length_cons,List.length_nil]
theorem F4 {x:ad}(h:dB x=true):(cm x).length≤90*x.bI:=zE _ x (Nat.le_refl _) h
theorem OI: ∀(N:Nat),(∀(x:ac) (d:Nat) (bw:a7),x.bI≤N→hX x=true→d+kh x≤20→bw.length≤10→(ac.gS d bw x).length≤250*x.bI)∧(∀(l:List ac) (d:Nat),ac.bB l≤N→ho l=true→d+iv l≤20→(ac.fF d l).length≤250*ac.bB l)
 |0=>⟨fun x d bw h=>by cases x; simp only[ac.bI]at h; omega,fun l d h aY bw=>by
  cases l with
  |nil=>simp [ac.fF]
  |cons x l=>cases x; simp only[ac.bB,ac.bI]at h; omega⟩
 |N+1=>by
  obtain⟨i1,i2⟩:=OI N
  have key: ∀(x:ac) (d:Nat) (bw:a7),x.bI≤N+1→hX x=true→d+kh x≤20→bw.length≤10→(ac.gS d bw x).length≤250*x.bI:=by
   rintro⟨k,m,x,t,a,b⟩ d bw bW aY xe aQ1
   simp only[ac.bI]at bW ⊢
   simp only[hX,Bool.and_eq_true]at aY
   obtain⟨bh,pQ,pP,lY⟩:=aY
   simp only[kh]at xe
   have ab:=F4 pQ
   have Ea:1≤iL x:=by cases x; simp only[iL]; omega
   rcases Bi bh with ⟨rfl,rfl,aa,au⟩|⟨rfl,rfl,rfl⟩|⟨rfl,rfl,J,aa,au⟩
   ·have hm:m.length≤16:=by
     simp [eu]at bh
     exact tz bh.1
    simp only[ac.gS,if_true,s5,List.flatten_cons,List.flatten_nil,List.length_append,List.length_cons,List.length_nil]
    omega
   ·have aP:=i2 a (d+1) (by omega) pP (by omega)
    simp only[ac.gS,show ¬(2:Int)=1 by decide,show ¬(2:Int)=3 by decide,if_false,s5,List.flatten_cons,List.flatten_nil,List.length_append,List.length_cons,List.length_nil]
    have hb:(if jH b=true then ac.rC d b else (if b.isEmpty=true then[] else eE d [[125,32,101,108,115,101,32,123]]++ac.fF (d+1) b)++eE d [[125]]).length≤250*ac.bB b+60:=by
     cases eU:jH b with
     |true=>
      match b,eU,lY,bW,xe with
      |[y],eU,lY,bW,xe=>
      simp only[ho,Bool.and_true]at lY
      simp only[ac.bB]at bW ⊢
      simp only[iv]at xe
      simp only[if_true,ac.rC]
      have:=i1 y d [125,32,101,108,115,101,32,105,102,32] (by omega) lY (by omega) (by decide)
      omega
     |false=>
      simp only[Bool.false_eq_true,if_false]
      cases xf:b.isEmpty with
      |true=>
       simp only[if_true,List.nil_append,s5,List.flatten_cons,List.flatten_nil,List.length_append,List.length_cons,List.length_nil]
       omega
      |false=>
       have hP:=i2 b (d+1) (by omega) lY (by omega)
       simp only[Bool.false_eq_true,if_false,s5,List.flatten_cons,List.flatten_nil,List.length_append,List.length_cons,List.length_nil]
       omega
    omega
   ·have aP:=i2 a (d+1) (by omega) pP (by omega)
    have ai:=vB (n:=t) (by omega) (by omega)
    simp only[ac.gS,show ¬(3:Int)=1 by decide,if_false,if_true,s5,List.flatten_cons,List.flatten_nil,List.length_append,List.length_cons,List.length_nil]
    omega
  have ae5: ∀(l:List ac) (d:Nat),ac.bB l≤N+1→ho l=true→d+iv l≤20→(ac.fF d l).length≤250*ac.bB l:=by
   intro l
   induction l with
   |nil=>intro d _ _ _; simp [ac.fF]
   |cons x l cv=>
    intro d bW aY xe
    simp only[ac.bB]at bW ⊢
    simp only[ho,Bool.and_eq_true]at aY
    simp only[iv]at xe
    have J:=key x d [105,102,32] (by omega) aY.1 (by omega) (by decide)
    have aa:=cv d (by omega) aY.2 (by omega)
    simp only[ac.fF,List.length_append]
    omega
  exact⟨key,ae5⟩
theorem A3 {α:Type}(f:α→a7) (B:Nat): ∀l:List α,(∀x∈l,(f x).length≤B)→((l.map f).flatten).length≤B*l.length
 |[],_=>by simp
 |x::l,h=>by
  have J:=h x (by simp)
  have aa:=A3 f B l fun y aZ=>h y (List.mem_cons_of_mem _ aZ)
  simp only[List.map_cons,List.flatten_cons,List.length_append,List.length_cons,Nat.mul_add]
  omega
theorem Mw (sep:a7) (B:Nat) (l:List a7) (h: ∀x∈l,x.length≤B):(Lib.join l sep).length≤(B+sep.length)*l.length:=by
 cases l with
 |nil=>simp [Lib.join_nil]
 |cons x r=>
  rw[Lib.join_length]
  have: ∀l:List a7,(∀x∈l,x.length≤B)→Lib.lens l≤B*l.length:=by
   intro l
   induction l with
   |nil=>intro _; simp [Lib.lens]
   |cons y l cv=>
    intro h
    have J:=h y (by simp)
    have aa:=cv fun z aB=>h z (List.mem_cons_of_mem _ aB)
    simp only[Lib.lens,List.length_cons,Nat.mul_add,List.map_cons,List.sum_cons]at aa ⊢
    omega
  have J:=this (x::r) h
  have aa:sep.length*r.length≤sep.length*(x::r).length:=Nat.mul_le_mul_left _ (by simp)
  rw[Nat.add_mul]
  omega
theorem WY {l:List ac}{k:Nat}(h:l.all (fun x=>decide (kh x≤k))=true):iv l≤k:=by
 induction l with
 |nil=>simp [iv]
 |cons x l cv=>
  simp only[List.all_cons,Bool.and_eq_true,decide_eq_true_eq]at h
  simp only[iv]
  have:=cv h.2
  omega
theorem OB {s:a7}(h:kR s=true):s.length≤50:=by
 simp only[kR,Bool.and_eq_true,decide_eq_true_eq]at h
 exact h.1
theorem YE {h:cd}(aY:jZ h=true) (aP:ac.bB h.body≤10000):(jb h).length≤3000000:=by
 obtain⟨g1,g2⟩:=yI aY
 simp only[jZ,Bool.and_eq_true]at aY
 obtain⟨bC,bA,_,cO,_,fC⟩:=aY
 have J:=OB bC
 have aa:=tz bA
 have au:=Mw [44,32] 16 h.ps fun x ab=>tz (List.all_eq_true.1 cO x ab)
 have vo:(16+([44,32]:a7).length)*h.ps.length≤18*4:=Nat.mul_le_mul_left 18 g2
 have bn:=(OI 10000).2 h.body 2 aP g1 (by have:=WY fC; omega)
 simp only[jb,s5,List.flatten_cons,List.flatten_nil,List.length_append,List.length_cons,List.length_nil]at*
 omega
theorem aj9 {o:ca}(aY:j6 o=true) (aP:ad.bB o.args≤10000∧ad.bB o.dT≤10000):(jJ o).length≤5000000:=by
 obtain⟨g1,g2,g3⟩:=yJ aY
 simp only[j6,Bool.and_eq_true,decide_eq_true_eq]at aY
 obtain⟨bC,bA,cO,_⟩:=aY
 have J:=OB bC
 have aa:=tz bA
 have au:=Mw [44,32] 900000 (o.args.map cm) fun x ab=>by
  obtain⟨y,aZ,rfl⟩:=List.mem_map.1 ab
  have:=F4 (List.all_eq_true.1 g1 y aZ)
  have:=ad.pW aZ
  omega
 have vo:(900000+([44,32]:a7).length)*(o.args.map cm).length≤900002*4:=Nat.mul_le_mul_left 900002 (by rw[List.length_map]; exact cO)
 have bn:(p9 o.dT).length≤900010:=by
  cases hw:o.dT with
  |nil=>simp [p9]
  |cons w ws=>
   rw[hw]at g2 aP
   simp only[List.all_cons,Bool.and_eq_true]at g2
   simp only[ad.bB]at aP
   have:=F4 g2.1
   simp only[p9,List.length_append,List.length_cons,List.length_nil]
   omega
 simp only[jJ,s5,List.flatten_cons,List.flatten_nil,List.length_append,List.length_cons,List.length_nil]at*
 omega
theorem SA {v:cb}(aY:iN v=true):(jT v).length≤1000:=by
 obtain⟨g1,g2,g3,g4,g5,g6⟩:=DW aY
 have J:=vB g1 g2
 have aa:=vB g3 g4
 have au:v.name.length≤16:=by
  simp only[iN,Bool.and_eq_true]at aY
  exact tz aY.1
 have bn:(qM v.ik v.n v.s).length≤100:=by
  unfold qM
  split
  ·have:=Ph v.s; omega
  ·have:=vB (g5 ‹_›).1 (g5 ‹_›).2; omega
 have bL:(if v.hV=2 then ([116,101,120,116,32]:a7) else[105,110,116,32]).length≤5:=by split<;>simp
 simp only[jT,s5,List.flatten_cons,List.flatten_nil,List.length_append,List.length_cons,List.length_nil]at*
 omega
def qX (x:e9):Bool:=db x.name&&(db x.hD&&(db x.hA&&(decide (x.vars.length≤12)&&(decide (x.ap.length≤40)&&decide (x.os.length≤40)))))
def py (x:e9):Bool:=x.vars.all iN&&(x.ap.all jZ&&x.os.all j6)
def kJ (x:e9):Bool:=qX x&&(py x&&decide ((iK x).length≤8000))
structure oI (x:e9):Prop where
 aP: ∀h∈x.ap,ac.bB h.body≤10000
 hp: ∀h∈x.ap,h.ps.length≤1000000
 o6: ∀o∈x.os,ad.bB o.args≤10000∧ad.bB o.dT≤10000
 nS:x.vars.length≤1000000
 nh:x.ap.length≤1000000
 no:x.os.length≤1000000
theorem Cv {x:e9}(hb:oI x) (J:qX x=true) (aa:py x=true):CU x:=by
 simp only[qX,Bool.and_eq_true,decide_eq_true_eq]at J
 simp only[py,Bool.and_eq_true]at aa
 obtain⟨bC,bA,cO,fC,lH,MB⟩:=J
 obtain⟨g1,g2,g3⟩:=aa
 refine⟨g1,g2,g3,fun h hm=>by have:=hb.aP h hm; omega,fun o hm=>by have:=hb.o6 o hm; omega,hb.nS,hb.nh,hb.no,?_⟩
 have ar:=tz bC
 have ax:=tz bA
 have cw:=tz cO
 have fq:=A3 jT 1000 x.vars fun v af=>SA (List.all_eq_true.1 g1 v af)
 have lB:=A3 jb 3000000 x.ap fun v af=>YE (List.all_eq_true.1 g2 v af) (hb.aP v af)
 have AP:=A3 jJ 5000000 x.os fun v af=>aj9 (List.all_eq_true.1 g3 v af) (hb.o6 v af)
 simp only[iK,s5,List.flatten_cons,List.flatten_nil,List.length_append,List.length_cons,List.length_nil]
 omega
end Go.bc
namespace Go.bc
open Go
section
variable {en:Int}
theorem bind_mono {α β:Type}{R jt:dL α}{F tF:α→List ba→dL β}(J:R≠ .out→jt=R) (aa: ∀a r,R= .ok a r→F a r≠ .out→tF a r=F a r) (h:R.bind F≠ .out):jt.bind tF=R.bind F:=by
 cases R with
 |ok a r=>rw[J (by intro e; cases e)]; exact aa a r rfl h
 |err p e=>rw[J (by intro e; cases e)]; rfl
 |out=>exact absurd rfl h
theorem kO {β:Type}{c:Prop}[Decidable c]{A ya B qb:dL β}(J:A≠ .out→ya=A) (aa:B≠ .out→qb=B) (h:(if c then A else B)≠ .out):(if c then ya else qb)=(if c then A else B):=by
 by_cases ah:c
 ·rw[if_pos ah]at h ⊢; rw[if_pos ah]; exact J h
 ·rw[if_neg ah]at h ⊢; rw[if_neg ah]; exact aa h
theorem eV {β:Type}{A:dL β}(_:A≠ .out):A=A:=rfl
theorem uB: ∀n,(∀l,ht en n l≠ .out→∀m,n≤m→ht en m l=ht en n l)∧(∀k l,gY en n k l≠ .out→∀m,n≤m→gY en m k l=gY en n k l)∧(∀k y l,jw en n k y l≠ .out→∀m,n≤m→jw en m k y l=jw en n k y l)
 |0=>⟨fun l h=>absurd (by simp [ht]) h,fun k l h=>absurd (by simp [gY]) h,fun k y l h=>absurd (by simp [jw]) h⟩
 |n+1=>by
  obtain⟨i1,i2,i3⟩:=uB n
  refine⟨fun l h m hm=> ?_,fun k l h m hm=> ?_,fun k y l h m hm=> ?_⟩
  ·obtain⟨m,rfl⟩: ∃q,m=q+1:=⟨m-1,by omega⟩
   simp only[ht]at h ⊢
   refine kO (bind_mono (fun h=>i2 _ _ h m (by omega)) fun a r _ h=>eV h) (kO (bind_mono eV fun a r _=>bind_mono (fun h=>i2 _ _ h m (by omega)) fun a r _ h=>eV h) (kO (bind_mono (fun h=>i1 _ h m (by omega)) fun a r _ h=>eV h) (kO (bind_mono (fun h=>i1 _ h m (by omega)) fun a r _ h=>eV h) eV))) h
  ·obtain⟨m,rfl⟩: ∃q,m=q+1:=⟨m-1,by omega⟩
   simp only[gY]at h ⊢
   exact bind_mono (fun h=>i1 _ h m (by omega)) (fun a r _ h=>i3 _ _ _ h m (by omega)) h
  ·obtain⟨m,rfl⟩: ∃q,m=q+1:=⟨m-1,by omega⟩
   cases l with
   |nil=>rfl
   |cons t l=>
    simp only[jw]at h ⊢
    exact kO (kO eV (bind_mono (fun h=>i2 _ _ h m (by omega)) fun a r _ h=>i3 _ _ _ h m (by omega))) eV h
theorem dj {α β:Type}{R:dL α}{F:α→List ba→dL β}(J:R≠ .out) (aa: ∀a r,R= .ok a r→F a r≠ .out):R.bind F≠ .out:=by
 cases R with
 |ok a r=>exact aa a r rfl
 |err p e=>intro h; cases h
 |out=>exact absurd rfl J
theorem iz {β:Type}{c:Prop}[Decidable c]{A B:dL β}(J:c→A≠ .out) (aa: ¬c→B≠ .out):(if c then A else B)≠ .out:=by
 by_cases ah:c
 ·rw[if_pos ah]; exact J ah
 ·rw[if_neg ah]; exact aa ah
theorem fr {β:Type}{a:β}{r:List ba}:dL.ok a r≠ .out:=by intro h; cases h
theorem vh {β:Type}{p e:Int}:(dL.err p e:dL β)≠ .out:=by intro h; cases h
theorem jM {s:List UInt8}{l:List ba}:gm en s l≠ .out:=iz (fun _=>fr) fun _=>vh
theorem ta {k:Int}{l:List ba}:jN en k l≠ .out:=by
 cases l with
 |nil=>exact vh
 |cons t l=>exact iz (fun _=>fr) fun _=>vh
theorem pZ {l:List ba}:jO en l≠ .out:=iz (fun _=>dj ta fun _ _ _=>fr) fun _=>vh
theorem E8 {l:List ba}:mD en l≠ .out:=iz (fun _=>dj ta fun _ _ _=>fr) fun _=>dj ta fun _ _ _=>fr
theorem zt: ∀n,(∀l:List ba,2*l.length+1≤n→ht en n l≠ .out)∧(∀k (l:List ba),2*l.length+2≤n→gY en n k l≠ .out)∧(∀k y (l:List ba),2*l.length+1≤n→jw en n k y l≠ .out)
 |0=>⟨fun l h=>by omega,fun k l h=>by omega,fun k y l h=>by omega⟩
 |n+1=>by
  obtain⟨i1,i2,i3⟩:=zt n
  have ar:=(nT (en:=en) n).1
  have ax:=(nT (en:=en) n).2.1
  refine⟨fun l h=> ?_,fun k l h=> ?_,fun k y l h=> ?_⟩
  ·simp only[ht]
   refine iz (fun aw=> ?_) fun _=>iz (fun aw=> ?_) fun _=>iz (fun aw=> ?_) fun _=>iz (fun aw=> ?_) fun _=>iz (fun _=>dj pZ fun _ _ _=>fr) fun _=>iz (fun _=>dj ta fun _ _ _=>fr) fun _=>iz (fun _=>vh) fun _=>dj ta fun _ _ _=>fr
   all_goals have:=eZ aw
   ·exact dj (i2 _ _ (by omega)) fun _ _ _=>dj jM fun _ _ _=>fr
   ·refine dj jM fun _ r J=> ?_
    have:=ea J
    exact dj (i2 _ _ (by omega)) fun _ _ _=>dj jM fun _ _ _=>fr
   ·exact dj (i1 _ (by omega)) fun _ _ _=>fr
   ·exact dj (i1 _ (by omega)) fun _ _ _=>fr
  ·simp only[gY]
   refine dj (i1 _ (by omega)) fun x r J=> ?_
   have:=ar _ _ _ J
   exact i3 _ _ _ (by omega)
  ·cases l with
   |nil=>exact fr
   |cons t l=>
    simp only[List.length_cons]at h
    simp only[jw]
    refine iz (fun _=>iz (fun _=>fr) fun _=>dj (i2 _ _ (by omega)) fun x r J=> ?_) fun _=>fr
    have:=ax _ _ _ _ J
    exact i3 _ _ _ (by omega)
theorem On: ∀n,(∀l:List ba,3*l.length+2≤n→iP en n l≠ .out)∧(∀acc (l:List ba),3*l.length+4≤n→jK en n acc l≠ .out)∧(∀l:List ba,3*l.length+3≤n→je en n l≠ .out)∧(∀l:List ba,3*l.length+3≤n→iQ en n l≠ .out)
 |0=>⟨fun l h=>by omega,fun a l h=>by omega,fun l h=>by omega,fun l h=>by omega⟩
 |n+1=>by
  obtain⟨i1,i2,i3,i4⟩:=On n
  have ax:=(nT (en:=en) n).2.1
  have g2:=(zt (en:=en) n).2.1
  obtain⟨f1,f2,f3,f4⟩:=zu (en:=en) n
  refine⟨fun l h=> ?_,fun a l h=> ?_,fun l h=> ?_,fun l h=> ?_⟩
  ·simp only[iP]
   refine dj jM fun _ r J=> ?_
   have:=ea J
   exact i2 _ _ (by omega)
  ·simp only[jK]
   refine iz (fun _=>fr) fun _=>dj (i3 _ (by omega)) fun x r J=> ?_
   have:=f3 _ _ _ J
   exact i2 _ _ (by omega)
  ·simp only[je]
   refine iz (fun aw=> ?_) fun _=>iz (fun aw=> ?_) fun _=> ?_
   ·have:=eZ aw
    exact i4 _ (by omega)
   ·have:=eZ aw
    refine dj (g2 _ _ (by omega)) fun x r J=>dj jM fun _ r aa=>iz (fun _=>vh) fun _=>dj ta fun _ r au=> ?_
    have:=ax _ _ _ _ J
    have:=ea aa
    have:=ow au
    exact dj (i1 _ (by omega)) fun _ _ _=>fr
   ·refine dj pZ fun x r J=>dj jM fun _ r aa=> ?_
    have:=gR J
    have:=ea aa
    exact dj (g2 _ _ (by omega)) fun _ _ _=>dj jM fun _ _ _=>fr
  ·simp only[iQ]
   refine dj (g2 _ _ (by omega)) fun x r J=> ?_
   have:=ax _ _ _ _ J
   refine dj (i1 _ (by omega)) fun x r aa=> ?_
   have:=f1 _ _ _ aa
   refine iz (fun aw=> ?_) fun _=>fr
   have:=eZ aw
   refine iz (fun au=> ?_) fun _=>dj (i1 _ (by omega)) fun _ _ _=>fr
   have:=eZ au
   exact dj (i4 _ (by omega)) fun _ _ _=>fr
theorem Od: ∀(n:Nat) (s:List UInt8) (l:List ba),l.length+1≤n→l6 en n s l≠ .out
 |0,_,_,h=>by omega
 |n+1,s,l,h=>by
  simp only[l6]
  refine iz (fun aw=>dj pZ fun w r J=> ?_) fun _=>fr
  have:=eZ aw
  have:=gR J
  exact Od n _ _ (by omega)
theorem Oi {n:Nat}{l:List ba}(h:l.length+1≤n):nU en n l≠ .out:=dj pZ fun w r J=>by
 have:=gR J
 exact Od n _ _ (by omega)
theorem N9: ∀(n:Nat) (acc:List (List UInt8)) (l:List ba),l.length+1≤n→lm en n acc l≠ .out
 |0,_,_,h=>by omega
 |n+1,s,l,h=>by
  simp only[lm]
  refine iz (fun aw=>dj pZ fun w r J=> ?_) fun _=>fr
  have:=eZ aw
  have:=gR J
  exact N9 n _ _ (by omega)
theorem N1: ∀(n:Nat) (acc:List ad) (l:List ba),2*l.length+2≤n→ll en n acc l≠ .out
 |0,_,_,h=>by omega
 |n+1,s,l,h=>by
  simp only[ll]
  refine iz (fun aw=> ?_) fun _=>fr
  have:=eZ aw
  refine dj ((zt n).2.1 _ _ (by omega)) fun w r J=> ?_
  have:=(nT n).2.1 _ _ _ _ J
  exact N1 n _ _ (by omega)
theorem N6 {n:Nat}{l r:List ba}{a:List (List UInt8)}(h:nn en n l= .ok a r):r.length<l.length:=by
 unfold nn at h
 split at h
 ·rename_i aw
  cases h
  have:=eZ aw
  omega
 ·obtain⟨w,bO,J,h⟩:=cg h
  obtain⟨ps,b4,aa,h⟩:=cg h
  obtain⟨_,cJ,au,h⟩:=cg h
  cases h
  have:=gR J
  have:=E1 aa
  have:=ea au
  omega
theorem NY {n:Nat}{l r:List ba}{a:List ad}(h:nj en n l= .ok a r):r.length<l.length:=by
 unfold nj at h
 split at h
 ·rename_i aw
  cases h
  have:=eZ aw
  omega
 ·obtain⟨w,bO,J,h⟩:=cg h
  obtain⟨ps,b4,aa,h⟩:=cg h
  obtain⟨_,cJ,au,h⟩:=cg h
  cases h
  have:=(nT n).2.1 _ _ _ _ J
  have:=EY aa
  have:=ea au
  omega
theorem ao0 {n:Nat}{l:List ba}(h:l.length+1≤n):nn en n l≠ .out:=iz (fun _=>fr) fun _=>dj pZ fun w r J=>by
 have:=gR J
 exact dj (N9 n _ _ (by omega)) fun _ _ _=>dj jM fun _ _ _=>fr
theorem am1 {n:Nat}{l:List ba}(h:2*l.length+2≤n):nj en n l≠ .out:=iz (fun _=>fr) fun _=>dj ((zt n).2.1 _ _ h) fun w r J=>by
 have:=(nT n).2.1 _ _ _ _ J
 exact dj (N1 n _ _ (by omega)) fun _ _ _=>dj jM fun _ _ _=>fr
theorem ap4 {n:Nat}{l:List ba}(h:2*l.length+2≤n):ox en n l≠ .out:=iz (fun aw=>by
 have:=eZ aw
 exact dj ((zt n).2.1 _ _ (by omega)) fun _ _ _=>fr) fun _=>fr
theorem ao4 {l:List ba}:r8 en l≠ .out:=iz (fun _=>dj ta fun _ _ _=>dj jM fun _ _ _=>dj ta fun _ _ _=>fr) fun _=>dj jM fun _ _ _=>dj E8 fun _ _ _=>dj jM fun _ _ _=>dj E8 fun _ _ _=>fr
theorem an2 {l:List ba}:r7 en l≠ .out:=iz (fun _=>dj ta fun _ _ _=>fr) fun _=>dj E8 fun _ _ _=>fr
theorem ap1 {l:List ba}:qW en l≠ .out:=dj pZ fun _ _ _=>dj jM fun _ _ _=>dj ao4 fun _ _ _=>dj jM fun _ _ _=>dj an2 fun _ _ _=>dj jM fun _ _ _=>fr
theorem am8 {n:Nat}{l:List ba}(h:3*l.length+2≤n):nk en n l≠ .out:=dj (Oi (by omega)) fun m r J=>dj jM fun _ r aa=>by
 have:=uE J
 have:=ea aa
 refine dj (ao0 (by omega)) fun ps r au=>dj jM fun _ r bn=>dj pZ fun p r bL=> ?_
 have:=N6 au
 have:=ea bn
 have:=gR bL
 exact dj ((On n).1 _ (by omega)) fun _ _ _=>fr
theorem an6 {n:Nat}{l:List ba}(h:2*l.length+2≤n):nl en n l≠ .out:=dj (Oi (by omega)) fun m r J=>dj jM fun _ r aa=>by
 have:=uE J
 have:=ea aa
 refine dj (am1 (by omega)) fun ps r au=>dj jM fun _ r bn=>dj pZ fun p r bL=> ?_
 have:=NY au
 have:=ea bn
 have:=gR bL
 exact dj (ap4 (by omega)) fun _ _ _=>dj jM fun _ _ _=>fr
theorem Ow (n:Nat): ∀(m:Nat) (acc:List cb) (l:List ba),l.length+1≤m→lp en n m acc l≠ .out
 |0,_,_,h=>by omega
 |m+1,s,l,h=>by
  simp only[lp]
  refine iz (fun aw=>dj ap1 fun w r J=> ?_) fun _=>fr
  have:=eZ aw
  have:=BV J
  exact Ow n m _ _ (by omega)
theorem Fb (n:Nat): ∀ {m:Nat}{acc:List cb}{l r:List ba}{a:List cb},lp en n m acc l= .ok a r→r.length≤l.length
 |0,_,_,_,_,h=>by cases h
 |m+1,s,l,r,a,h=>by
  simp only[lp]at h
  split at h
  ·rename_i aw
   obtain⟨w,bO,J,h⟩:=cg h
   have:=eZ aw
   have:=BV J
   have:=Fb n h
   omega
  ·cases h
   exact Nat.le_refl _
theorem E4 (n:Nat): ∀(m:Nat) (ap:List cd) (os:List ca) (l:List ba),l.length+1≤m→3*l.length+2≤n→ln en n m ap os l≠ .out
 |0,_,_,_,h,_=>by omega
 |m+1,ap,os,l,h,a6=>by
  simp only[ln]
  refine iz (fun _=>fr) fun _=>iz (fun aw=> ?_) fun _=>dj jM fun _ r J=> ?_
  ·have:=eZ aw
   refine dj (am8 (by omega)) fun x r J=> ?_
   have:=EZ J
   exact E4 n m _ _ _ (by omega) (by omega)
  ·have:=ea J
   refine dj (an6 (by omega)) fun x r aa=> ?_
   have:=E0 aa
   exact E4 n m _ _ _ (by omega) (by omega)
theorem Oq {n:Nat}{l:List ba}(h:3*l.length+2≤n):lo en n l≠ .out:=dj jM fun _ r J=>dj pZ fun _ r aa=>dj jM fun _ r au=>dj pZ fun _ r bn=>dj jM fun _ r bL=>dj pZ fun _ r cq=>dj jM fun _ r j0=>by
 have:=ea J
 have:=gR aa
 have:=ea au
 have:=gR bn
 have:=ea bL
 have:=gR cq
 have:=ea j0
 refine dj (Ow n _ _ _ (by omega)) fun ay r j7=> ?_
 have:=Fb n j7
 refine dj (E4 n _ _ _ _ (by omega) (by omega)) fun p r rN=> ?_
 cases r with
 |nil=>exact fr
 |cons t r=>exact vh
end
def ba.c (t:ba):ba:=⟨t.kind,t.text,t.val,0⟩
section
variable (en a29:Int)
end
end Go.bc
namespace Go.bc
open Go Go.bc.T.N
def dH (s:a7):ba:=⟨1,s,0,0⟩
def cy (s:a7):ba:=⟨4,s,0,0⟩
def kr (v:Int):ba:=⟨2,[],v,0⟩
def p6 (s:a7):ba:=⟨3,s,0,0⟩
abbrev bH:=List ba
def k6 (k:Int) (y:ad) (l:bH) (x:ad) (r:bH):Prop:=∃n,jw 0 n k y l= .ok x r
def oH (l:bH) (b:List ac) (r:bH):Prop:=∃n,iP 0 n l= .ok b r
def mP (l:bH) (x:ac) (r:bH):Prop:=∃n,je 0 n l= .ok x r
def df (l:bH) (x:ac) (r:bH):Prop:=∃n,iQ 0 n l= .ok x r
def iS:List UInt8→List (List UInt8)
 |[]=>[[]]
 |c::s=>if c=46 then[]::iS s else match iS s with
  |w::ws=>(c::w)::ws
  |[]=>[[c]]
theorem F9: ∀ {s:List UInt8},46∉s→iS s=[s]
 |[],_=>rfl
 |c::s,h=>by
  simp only[List.mem_cons,not_or]at h
  rw[iS,if_neg (fun e=>h.1 e.symm),F9 h.2]
theorem F8: ∀ {u:List UInt8}(v:List UInt8),46∉u→iS (u++46::v)=u::iS v
 |[],v,_=>rfl
 |c::u,v,h=>by
  simp only[List.mem_cons,not_or]at h
  rw[List.cons_append,iS,if_neg (fun e=>h.1 e.symm),F8 v h.2]
theorem Mn: ∀ {u:List UInt8}(v:List UInt8),46∉u→Lib.indexByte (u++46::v) 46=(u.length:Int)
 |[],v,_=>by simp [Lib.indexByte]
 |c::u,v,h=>by
  simp only[List.mem_cons,not_or]at h
  have ai:=Mn v h.2
  have ah:(c==46)=false:=by simpa using fun e:c=46=>h.1 e.symm
  simp only[List.cons_append,Lib.indexByte,ai,ah,List.length_cons]
  have:((u.length:Int)== -1)=false:=by simp
  simp only[this,Bool.false_eq_true,if_false,Int.natCast_add]
  rfl
theorem RV: ∀(k:Nat) (s:List UInt8),s.count 46=k→(Lib.splitB pG 0 k ⟨⟨s⟩⟩).map (·.data.toList)=iS s
 |0,s,h=>by
  rw[Lib.splitB_zero,F9 (List.count_eq_zero.1 h)]
  rfl
 |k+1,s,h=>by
  obtain⟨u,v,rfl,hu⟩:=List.eq_append_cons_of_mem (List.count_pos_iff.1 (by omega:0<s.count 46))
  rw[List.count_append,List.count_cons_self,List.count_eq_zero.2 hu]at h
  have Zk:Lib.indexB ⟨⟨u++46::v⟩⟩ pG=(u.length:Int):=by
   show Lib.index (u++46::v) [46]= _
   rw[Lib.index_one,Mn v hu]
  rw[Lib.splitB_hit pG 0 k _ u.length Zk,List.map_cons,F8 v hu]
  have ar:(ByteArray.extract ⟨⟨u++46::v⟩⟩ 0 (u.length+0)).data.toList=u:=by
   rw[ByteArray.data_extract,Array.toList_extract]
   simp [List.extract]
  have ax:ByteArray.extract ⟨⟨u++46::v⟩⟩ (u.length+pG.size) (ByteArray.size ⟨⟨u++46::v⟩⟩)=⟨⟨v⟩⟩:=by
   apply ByteArray.ext
   apply Array.ext'
   rw[ByteArray.data_extract,Array.toList_extract]
   show List.extract (u++46::v) (u.length+1) (u++46::v).length=v
   simp [List.extract,←List.drop_drop]
   exact List.take_of_length_le (by omega)
  rw[ar,ax,RV k v (by omega)]
theorem Ga (s:List UInt8):sf s=iS s:=by
 unfold sf
 refine RV _ s ?_
 show s.count 46=Lib.count s [46]
 rw[Lib.count_one]
end Go.bc
namespace Go.bc.T.N
open Go Go.bc Go.Proofs Go.RowKit
set_option maxRecDepth 100000
attribute [local irreducible] Go.bc.aj Go.bc.ae Go.bc.bz
section
attribute [local go_sem] ad.ct ad.b9 ad.de ac.ct ac.b9 ac.de cj eN fZ gJ dp of_flat cb.row dG fG
theorem B5 (x:e9) (hb:oI x):Pure Tryz.prog 16 [x.ir] (.bool (kJ x)):=by
 have AT:=qV x.name
 have Xk:=qV x.hD
 have Xj:=qV x.hA
 have Em:=hb.nS
 have Ek:=hb.nh
 have ck:=hb.no
 have AN:=ax1 ad9 iN x.vars (by omega) fun v _=>ax2 v
 have wN:=ax3 ae0 jZ x.ap (by omega) fun v af=>ax4 v (by have:=hb.aP v af; omega) (by have:=hb.hp v af; omega)
 have AO:=ax6 ae1 j6 x.os (by omega) fun v af=>ax7 v (by have:=hb.o6 v af; omega)
 have rA:qX x=true→py x=true→Pure Tryz.prog 52 [x.ir] (.str (iK x)):=fun J aa=>O1 x (Cv hb J aa)
 rw[lq]at rA ⊢
 have ky:((x.vars.map cb.row).length:Int)=(x.vars.length:Int):=by rw[List.length_map]
 have kZ:((x.ap.map cd.row).length:Int)=(x.ap.length:Int):=by rw[List.length_map]
 have mO:((x.os.map ca.row).length:Int)=(x.os.length:Int):=by rw[List.length_map]
 simp only[kJ,qX,py]at rA ⊢
 generalize db x.name=As at*
 generalize db x.hD=Tv at*
 generalize db x.hA=Tu at*
 generalize x.vars.all iN=Tw at*
 generalize x.ap.all jZ=C1 at*
 generalize x.os.all j6=aG at*
 generalize iK x=C at*
 generalize x.vars.length=nS at*
 generalize x.ap.length=nh at*
 generalize x.os.length=no at*
 refine cF bN Tryz.func16 UG (by simp only[b3,I.flat,dG,dp,of_flat,Bool.and_self]) rfl ?_
 unfold oQ P7
 simp(disch:=omega)only[go_sem,simprocAttr]
 refine ao ?_
 refine D.P (AT) ?_
 cases As
 ·refine ao ?_
  exact D.rx
 refine ao ?_
 refine D.P (Xk) ?_
 cases Tv
 ·refine ao ?_
  exact D.rx
 refine ao ?_
 refine D.P (Xj) ?_
 cases Tu
 ·refine ao ?_
  exact D.rx
 by_cases J:nS≤12
 rotate_left
 ·have d1:(12:Int)<(nS:Int):=by omega
  (have al:=ky;have z2:=d1;refine e8 ?_;clear al z2)
  refine D.r ?_
  refine⟨_,rfl,.av ?_ rfl,trivial,trivial⟩
  simp [I.av,J]
 have d1: ¬(12:Int)<(nS:Int):=by omega
 by_cases aa:nh≤40
 rotate_left
 ·have d2:(40:Int)<(nh:Int):=by omega
  (repeat' first|(apply ae.s rfl;(·simp(disch:=omega)only[go_sem,simprocAttr,ky,d1,kZ,d2]<;>with_reducible rfl))|(apply aj.s true true;(·simp(disch:=omega)only[go_sem,simprocAttr,ky,d1,kZ,d2]<;>with_reducible rfl))|apply ae.nil|(refine aj.b6 ?_)|(apply ae.eX;(·simp(disch:=omega)only[go_sem,simprocAttr,ky,d1,kZ,d2]<;>with_reducible rfl))|(apply ae.eY;(·rfl);(·simp(disch:=omega)only[go_sem,simprocAttr,ky,d1,kZ,d2]<;>with_reducible rfl))|(apply ae.gs;(·simp(disch:=omega)only[go_sem,simprocAttr,ky,d1,kZ,d2]<;>with_reducible rfl))|((first|apply ae.e3|apply ae.e4|apply ae.e5);(·simp(disch:=omega)only[go_sem,simprocAttr,ky,d1,kZ,d2]<;>with_reducible rfl);(·simp(disch:=omega)only[go_sem,simprocAttr,ky,d1,kZ,d2]<;>with_reducible rfl);(·assumption);(·omega))|intro h)
  refine D.r ?_
  refine⟨_,rfl,.av ?_ rfl,trivial,trivial⟩
  simp [I.av,aa]
 have d2: ¬(40:Int)<(nh:Int):=by omega
 by_cases au:no≤40
 rotate_left
 ·have d3:(40:Int)<(no:Int):=by omega
  (repeat' first|(apply ae.s rfl;(·simp(disch:=omega)only[go_sem,simprocAttr,ky,d1,kZ,d2,mO,d3]<;>with_reducible rfl))|(apply aj.s true true;(·simp(disch:=omega)only[go_sem,simprocAttr,ky,d1,kZ,d2,mO,d3]<;>with_reducible rfl))|apply ae.nil|(refine aj.b6 ?_)|(apply ae.eX;(·simp(disch:=omega)only[go_sem,simprocAttr,ky,d1,kZ,d2,mO,d3]<;>with_reducible rfl))|(apply ae.eY;(·rfl);(·simp(disch:=omega)only[go_sem,simprocAttr,ky,d1,kZ,d2,mO,d3]<;>with_reducible rfl))|(apply ae.gs;(·simp(disch:=omega)only[go_sem,simprocAttr,ky,d1,kZ,d2,mO,d3]<;>with_reducible rfl))|((first|apply ae.e3|apply ae.e4|apply ae.e5);(·simp(disch:=omega)only[go_sem,simprocAttr,ky,d1,kZ,d2,mO,d3]<;>with_reducible rfl);(·simp(disch:=omega)only[go_sem,simprocAttr,ky,d1,kZ,d2,mO,d3]<;>with_reducible rfl);(·assumption);(·omega))|intro h)
  refine D.r ?_
  refine⟨_,rfl,.av ?_ rfl,trivial,trivial⟩
  simp [I.av,au]
 have d3: ¬(40:Int)<(no:Int):=by omega
 simp only[decide_eq_true J,decide_eq_true aa,decide_eq_true au,Bool.true_and,Bool.and_true]at rA ⊢
 (repeat' first|(apply ae.s rfl;(·simp(disch:=omega)only[go_sem,simprocAttr,ky,d1,kZ,d2,mO,d3]<;>with_reducible rfl))|(apply aj.s true true;(·simp(disch:=omega)only[go_sem,simprocAttr,ky,d1,kZ,d2,mO,d3]<;>with_reducible rfl))|apply ae.nil|(refine aj.b6 ?_)|(apply ae.eX;(·simp(disch:=omega)only[go_sem,simprocAttr,ky,d1,kZ,d2,mO,d3]<;>with_reducible rfl))|(apply ae.eY;(·rfl);(·simp(disch:=omega)only[go_sem,simprocAttr,ky,d1,kZ,d2,mO,d3]<;>with_reducible rfl))|(apply ae.gs;(·simp(disch:=omega)only[go_sem,simprocAttr,ky,d1,kZ,d2,mO,d3]<;>with_reducible rfl))|((first|apply ae.e3|apply ae.e4|apply ae.e5);(·simp(disch:=omega)only[go_sem,simprocAttr,ky,d1,kZ,d2,mO,d3]<;>with_reducible rfl);(·simp(disch:=omega)only[go_sem,simprocAttr,ky,d1,kZ,d2,mO,d3]<;>with_reducible rfl);(·assumption);(·omega))|intro h)
 refine D.P (AN) ?_
 cases Tw
 ·refine ao ?_
  exact D.rx
 refine ao ?_
 refine D.P (wN) ?_
 cases C1
 ·refine ao ?_
  exact D.rx
 refine ao ?_
 refine D.P (AO) ?_
 cases aG
 ·refine ao ?_
  exact D.rx
 refine ao ?_
 refine D.P (rA (by first|trivial|rfl) (by first|trivial|rfl)) ?_
 refine ao ?_
 refine D.r ?_
 refine⟨_,rfl,.av ?_ rfl,trivial,trivial⟩
 simp only[I.av,I.bool.injEq,Bool.true_and]
 exact decide_eq_decide.2 (by omega)
def xC (x:e9):I:=if kJ x=true then .di [.str (iK x),.int .i64 0] else .di [.str [],.int .i64 1]
theorem OY (x:e9) (hb:oI x):Pure Tryz.prog 18 [x.ir] (xC x):=by
 have oQ:=B5 x hb
 have rA:kJ x=true→Pure Tryz.prog 52 [x.ir] (.str (iK x)):=fun h=>O1 x (by
  simp only[kJ,Bool.and_eq_true]at h
  exact Cv hb h.1 h.2.1)
 rw[lq]at rA oQ ⊢
 unfold xC
 generalize iK x=C at*
 generalize kJ x=b at*
 refine cF bN Tryz.func18 UY (by simp only[b3,I.flat,dG,dp,of_flat,Bool.and_self]) (by cases b<;>rfl) ?_
 unfold ve Qo
 simp(disch:=omega)only[go_sem,simprocAttr]
 refine ao ?_
 refine D.P (oQ) ?_
 cases b
 ·refine ao ?_
  exact D.rx
 refine ao ?_
 refine D.P (rA rfl) ?_
 refine ao ?_
 exact D.rx
end
end Go.bc.T.N
namespace Go.bc
open Go Go.bc.T.N
section
variable {en:Int}
theorem zr: ∀n,(∀l x r,ht en n l= .ok x r→x.bI+r.length≤l.length)∧(∀k l x r,gY en n k l= .ok x r→x.bI+r.length≤l.length)∧(∀k y l x r,jw en n k y l= .ok x r→x.bI+r.length≤y.bI+l.length)
 |0=>⟨fun l x r h=>by simp [ht]at h,fun k l x r h=>by simp [gY]at h,fun k y l x r h=>by simp [jw]at h⟩
 |n+1=>by
  obtain⟨i1,i2,i3⟩:=zr n
  refine⟨fun l x r h=> ?_,fun k l x r h=> ?_,fun k y l x r h=> ?_⟩
  ·simp only[ht]at h
   split at h
   ·rename_i aw
    obtain⟨x,bO,J,h⟩:=cg h
    obtain⟨_,b4,aa,h⟩:=cg h
    cases h
    have:=i2 _ _ _ _ J
    have:=ea aa
    have:=eZ aw
    omega
   split at h
   ·rename_i aw
    obtain⟨_,bO,J,h⟩:=cg h
    obtain⟨x,b4,aa,h⟩:=cg h
    obtain⟨_,cJ,au,h⟩:=cg h
    cases h
    have:=i2 _ _ _ _ aa
    have:=ea J
    have:=ea au
    have:=eZ aw
    simp only[ad.bI,ad.bB]
    omega
   split at h
   ·rename_i aw
    obtain⟨x,bO,J,h⟩:=cg h
    cases h
    have:=i1 _ _ _ J
    have:=eZ aw
    simp only[ad.bI,ad.bB]
    omega
   split at h
   ·rename_i aw
    obtain⟨x,bO,J,h⟩:=cg h
    cases h
    have:=i1 _ _ _ J
    have:=eZ aw
    simp only[ad.bI,ad.bB]
    omega
   split at h
   ·obtain⟨x,bO,J,h⟩:=cg h
    cases h
    have:=gR J
    simp only[ad.bI,ad.bB]
    omega
   split at h
   ·obtain⟨x,bO,J,h⟩:=cg h
    cases h
    have:=ow J
    simp only[ad.bI,ad.bB]
    omega
   split at h
   ·cases h
   ·obtain⟨x,bO,J,h⟩:=cg h
    cases h
    have:=ow J
    simp only[ad.bI,ad.bB]
    omega
  ·simp only[gY]at h
   obtain⟨y,bO,J,h⟩:=cg h
   have:=i1 _ _ _ J
   have:=i3 _ _ _ _ _ h
   omega
  ·simp only[jw]at h
   cases l with
   |nil=>cases h; exact Nat.le_refl _
   |cons t l=>
    simp only at h
    split at h
    ·split at h
     ·cases h; exact Nat.le_refl _
     ·obtain⟨z,bO,J,h⟩:=cg h
      have:=i2 _ _ _ _ J
      have au:=i3 _ _ _ _ _ h
      simp only[ad.bI,ad.bB]at au
      simp only[List.length_cons]
      omega
    ·cases h; exact Nat.le_refl _
theorem Ol: ∀n,(∀l x r,iP en n l= .ok x r→ac.bB x+r.length≤l.length)∧(∀acc l x r,jK en n acc l= .ok x r→ac.bB x+r.length≤ac.bB acc+l.length)∧(∀l x r,je en n l= .ok x r→x.bI+r.length≤l.length)∧(∀l x r,iQ en n l= .ok x r→x.bI+r.length≤l.length+1)
 |0=>⟨fun l x r h=>by simp [iP]at h,fun a l x r h=>by simp [jK]at h,fun l x r h=>by simp [je]at h,fun l x r h=>by simp [iQ]at h⟩
 |n+1=>by
  obtain⟨i1,i2,i3,i4⟩:=Ol n
  have ax:=(zr (en:=en) n).2.1
  refine⟨fun l x r h=> ?_,fun a l x r h=> ?_,fun l x r h=> ?_,fun l x r h=> ?_⟩
  ·simp only[iP]at h
   obtain⟨_,bO,J,h⟩:=cg h
   have:=ea J
   have aa:=i2 _ _ _ _ h
   simp only[ac.bB]at aa
   omega
  ·simp only[jK]at h
   split at h
   ·rename_i aw
    cases h
    have:=eZ aw
    omega
   ·obtain⟨y,bO,J,h⟩:=cg h
    have:=i3 _ _ _ J
    have aa:=i2 _ _ _ _ h
    rw[ac.u1]at aa
    simp only[ac.bB]at aa
    omega
  ·simp only[je]at h
   split at h
   ·rename_i aw
    have:=eZ aw
    have:=i4 _ _ _ h
    omega
   split at h
   ·rename_i aw
    have:=eZ aw
    obtain⟨y,bO,J,h⟩:=cg h
    obtain⟨_,b4,aa,h⟩:=cg h
    split at h
    ·cases h
    obtain⟨t,cJ,au,h⟩:=cg h
    obtain⟨b,fk,bn,h⟩:=cg h
    cases h
    have:=ax _ _ _ _ J
    have:=ea aa
    have:=ow au
    have:=i1 _ _ _ bn
    simp only[ac.bI,ac.bB]
    omega
   ·obtain⟨w,bO,J,h⟩:=cg h
    obtain⟨_,b4,aa,h⟩:=cg h
    obtain⟨y,cJ,au,h⟩:=cg h
    obtain⟨_,fk,bn,h⟩:=cg h
    cases h
    have:=gR J
    have:=ea aa
    have:=ax _ _ _ _ au
    have:=ea bn
    simp only[ac.bI,ac.bB]
    omega
  ·simp only[iQ]at h
   obtain⟨y,bO,J,h⟩:=cg h
   obtain⟨b,b4,aa,h⟩:=cg h
   have:=ax _ _ _ _ J
   have:=i1 _ _ _ aa
   split at h
   ·rename_i aw
    have:=eZ aw
    split at h
    ·rename_i bL
     have:=eZ bL
     obtain⟨z,cJ,au,h⟩:=cg h
     cases h
     have:=i4 _ _ _ au
     simp only[ac.bI,ac.bB]
     omega
    ·obtain⟨z,cJ,au,h⟩:=cg h
     cases h
     have:=i1 _ _ _ au
     simp only[ac.bI,ac.bB]
     omega
   ·cases h
    simp only[ac.bI,ac.bB]
    omega
theorem N7: ∀ {n:Nat}{acc:List (List UInt8)}{l r:List ba}{a:List (List UInt8)},lm en n acc l= .ok a r→a.length+r.length≤acc.length+l.length
 |0,_,_,_,_,h=>by cases h
 |n+1,acc,l,r,a,h=>by
  simp only[lm]at h
  split at h
  ·rename_i aw
   obtain⟨w,bO,J,h⟩:=cg h
   have:=eZ aw
   have:=gR J
   have aa:=N7 h
   simp only[List.length_append,List.length_cons,List.length_nil]at aa
   omega
  ·cases h
   exact Nat.le_refl _
theorem NZ: ∀ {n:Nat}{acc:List ad}{l r:List ba}{a:List ad},ll en n acc l= .ok a r→ad.bB a+r.length≤ad.bB acc+l.length
 |0,_,_,_,_,h=>by cases h
 |n+1,acc,l,r,a,h=>by
  simp only[ll]at h
  split at h
  ·rename_i aw
   obtain⟨w,bO,J,h⟩:=cg h
   have:=eZ aw
   have:=(zr n).2.1 _ _ _ _ J
   have aa:=NZ h
   rw[ad.u1]at aa
   simp only[ad.bB]at aa
   omega
  ·cases h
   exact Nat.le_refl _
def CN (h:cd) (K:Nat):Prop:=ac.bB h.body≤K∧h.ps.length≤K
def CP (o:ca) (K:Nat):Prop:=ad.bB o.args≤K∧ad.bB o.dT≤K
theorem am6 {n:Nat}{l r:List ba}{a:cd}(h:nk en n l= .ok a r):CN a l.length:=by
 unfold nk at h
 obtain⟨m,bO,J,h⟩:=cg h
 obtain⟨_,b4,aa,h⟩:=cg h
 obtain⟨ps,cJ,au,h⟩:=cg h
 obtain⟨_,fk,bn,h⟩:=cg h
 obtain⟨p,jQ,bL,h⟩:=cg h
 obtain⟨b,oz,cq,h⟩:=cg h
 cases h
 have:=uE J
 have:=ea aa
 have:=N6 au
 have:=ea bn
 have:=gR bL
 have:=(Ol n).1 _ _ _ cq
 refine⟨by show ac.bB b≤ _; omega,?_⟩
 show ps.length≤ _
 unfold nn at au
 split at au
 ·cases au; simp
 ·obtain⟨w,cI,bC,au⟩:=cg au
  obtain⟨im,c8,bA,au⟩:=cg au
  obtain⟨_,ep,cO,au⟩:=cg au
  cases au
  have:=gR bC
  have fC:=N7 bA
  simp only[List.length_cons,List.length_nil]at fC
  omega
theorem an4 {n:Nat}{l r:List ba}{a:ca}(h:nl en n l= .ok a r):CP a l.length:=by
 unfold nl at h
 obtain⟨m,bO,J,h⟩:=cg h
 obtain⟨_,b4,aa,h⟩:=cg h
 obtain⟨xs,cJ,au,h⟩:=cg h
 obtain⟨_,fk,bn,h⟩:=cg h
 obtain⟨p,jQ,bL,h⟩:=cg h
 obtain⟨w,oz,cq,h⟩:=cg h
 obtain⟨_,Ra,j0,h⟩:=cg h
 cases h
 have:=uE J
 have:=ea aa
 have:=NY au
 have:=ea bn
 have:=gR bL
 refine⟨?_,?_⟩
 ·show ad.bB xs≤ _
  unfold nj at au
  split at au
  ·cases au; simp [ad.bB]
  ·obtain⟨w,cI,bC,au⟩:=cg au
   obtain⟨im,c8,bA,au⟩:=cg au
   obtain⟨_,ep,cO,au⟩:=cg au
   cases au
   have:=(zr n).2.1 _ _ _ _ bC
   have fC:=NZ bA
   simp only[ad.bB]at fC
   omega
 ·show ad.bB w≤ _
  unfold ox at cq
  split at cq
  ·rename_i aw
   obtain⟨w,cI,bC,cq⟩:=cg cq
   cases cq
   have:=eZ aw
   have:=(zr n).2.1 _ _ _ _ bC
   simp only[ad.bB]
   omega
  ·cases cq; simp [ad.bB]
theorem Ou (n:Nat): ∀ {m:Nat}{acc:List cb}{l r:List ba}{a:List cb},lp en n m acc l= .ok a r→a.length≤acc.length+l.length
 |0,_,_,_,_,h=>by cases h
 |m+1,s,l,r,a,h=>by
  simp only[lp]at h
  split at h
  ·rename_i aw
   obtain⟨w,bO,J,h⟩:=cg h
   have:=eZ aw
   have:=BV J
   have aa:=Ou n h
   simp only[List.length_append,List.length_cons,List.length_nil]at aa
   omega
  ·cases h
   omega
theorem E2 (n K:Nat): ∀ {m:Nat}{ap:List cd}{os:List ca}{l r:List ba}{p:List cd×List ca},ln en n m ap os l= .ok p r→l.length≤K→(∀h∈ap,CN h K)→(∀o∈os,CP o K)→(∀h∈p.1,CN h K)∧(∀o∈p.2,CP o K)∧p.1.length+p.2.length≤ap.length+os.length+l.length
 |0,_,_,_,_,_,h,_,_,_=>by cases h
 |m+1,ap,os,l,r,p,h,dv,eD,qC=>by
  simp only[ln]at h
  split at h
  ·cases h
   exact⟨eD,qC,by show ap.length+os.length≤ _; omega⟩
  split at h
  ·rename_i aw
   obtain⟨x,bO,J,h⟩:=cg h
   have:=eZ aw
   have aa:=am6 J
   have:=EZ J
   obtain⟨g1,g2,g3⟩:=E2 n K h (by omega) (fun y aZ=>by
    rcases List.mem_append.1 aZ with aZ|aZ
    ·exact eD y aZ
    ·rw[List.mem_singleton.1 aZ]
     exact⟨by have:=aa.1; omega,by have:=aa.2; omega⟩) qC
   exact⟨g1,g2,by simp only[List.length_append,List.length_cons,List.length_nil]at g3; omega⟩
  ·obtain⟨_,bO,J,h⟩:=cg h
   obtain⟨x,b4,aa,h⟩:=cg h
   have:=ea J
   have au:=an4 aa
   have:=E0 aa
   obtain⟨g1,g2,g3⟩:=E2 n K h (by omega) eD (fun y aZ=>by
    rcases List.mem_append.1 aZ with aZ|aZ
    ·exact qC y aZ
    ·rw[List.mem_singleton.1 aZ]
     exact⟨by have:=au.1; omega,by have:=au.2; omega⟩)
   exact⟨g1,g2,by simp only[List.length_append,List.length_cons,List.length_nil]at g3; omega⟩
theorem Oo {n:Nat}{l r:List ba}{x:e9}(h:lo en n l= .ok x r) (aH:l.length≤10000):oI x:=by
 unfold lo at h
 obtain⟨_,bO,J,h⟩:=cg h
 obtain⟨a,b4,aa,h⟩:=cg h
 obtain⟨_,cJ,au,h⟩:=cg h
 obtain⟨b,fk,bn,h⟩:=cg h
 obtain⟨_,jQ,bL,h⟩:=cg h
 obtain⟨c,oz,cq,h⟩:=cg h
 obtain⟨_,Ra,j0,h⟩:=cg h
 obtain⟨ay,aR8,j7,h⟩:=cg h
 obtain⟨p,Rs,rN,h⟩:=cg h
 have:=ea J
 have:=gR aa
 have:=ea au
 have:=gR bn
 have:=ea bL
 have:=gR cq
 have:=ea j0
 have:=Fb n j7
 have bC:=Ou n j7
 obtain⟨g1,g2,g3⟩:=E2 n 10000 rN (by omega) (fun _ h=>by cases h) (fun _ h=>by cases h)
 simp only[List.length_nil]at bC g3
 cases Rs with
 |cons t Rs=>cases h
 |nil=>
  cases h
  exact⟨fun h hm=>(g1 h hm).1,fun h hm=>by have:=(g1 h hm).2; omega,fun o hm=>g2 o hm,by show ay.length≤ _; omega,by show p.1.length≤ _; omega,by show p.2.length≤ _; omega⟩
end
theorem MJ (N:Nat): ∀(n:Nat) (acc:List ba) (x:List UInt8) (l:List ba),qQ N n acc x= .ok l→l.length≤acc.length+n
 |0,acc,x,l,h=>by simp only[qQ]at h; cases h; omega
 |n+1,acc,x,l,h=>by
  rw[uw]at h
  cases aZ:ko (x.length+1) x with
  |nil=>rw[aZ]at h; simp only[lexB]at h; cases h; omega
  |cons c y=>
   rw[aZ]at h
   simp only[lexB]at h
   cases aO:l9 (c::y) with
   |err e=>rw[aO]at h; cases h
   |ok t r=>
    rw[aO]at h
    have:=MJ N n _ r l h
    simp only[List.length_append,List.length_cons,List.length_nil]at this
    omega
theorem MH {s:List UInt8}{l:List ba}(h:pV s= .ok l):s.length≤8000∧l.length≤8001:=by
 unfold pV at h
 split at h
 ·cases h
 ·rename_i j7
  have:=MJ _ _ _ _ _ h
  simp only[List.length_nil]at this
  omega
def zH:e9:=⟨[],[],[],[],[],[]⟩
def BX (en:Int) (l:List ba):e9×Int×Int:=match lo en (3*l.length+2) l with
 | .ok x _=>if kJ x=true then (x,0,0) else (zH,0,6)
 | .err p e=>(zH,p,e)
 | .out=>(zH,0,0)
def tb (s:List UInt8):e9×Int×Int:=match pV s with
 | .ok l=>BX s.length l
 | .err p e=>(zH,p,e)
def xA (q:e9×Int×Int):I:= .di [q.1.ir,.int .i64 q.2.1,.int .i64 q.2.2]
end Go.bc
namespace Go.bc.T.N
open Go Go.bc Go.Proofs Go.RowKit
set_option maxRecDepth 100000
attribute [local irreducible] Go.bc.aj Go.bc.ae Go.bc.bz
section
attribute [local go_sem] ad.ct ad.b9 ad.de ac.ct ac.b9 ac.de cj eN fZ gJ dp of_flat cb.row dG fG oC fz mV
theorem MI (N:Nat): ∀(n:Nat) (acc:List ba) (x:List UInt8) (p e:Int),qQ N n acc x= .err p e→e≠0
 |0,acc,x,p,e,h=>by simp only[qQ]at h; cases h
 |n+1,acc,x,p,e,h=>by
  rw[uw]at h
  cases aZ:ko (x.length+1) x with
  |nil=>rw[aZ]at h; simp only[lexB]at h; cases h
  |cons c y=>
   rw[aZ]at h
   simp only[lexB]at h
   cases aO:l9 (c::y) with
   |err cC=>rw[aO]at h; cases h; exact Sa aO
   |ok t r=>
    rw[aO]at h
    exact MI N n _ r p e h
theorem ah0 {s:List UInt8}{p e:Int}(h:pV s= .err p e):e≠0:=by
 unfold pV at h
 split at h
 ·cases h; decide
 ·exact MI _ _ _ _ _ _ h
theorem GP:qi [.str [],.str [],.str [],.aV,.aV,.aV] [.str [],.str [],.str [],.ay 7 [],.ay 4 [],.ay 4 []]:= .cons (.av rfl rfl) (.cons (.av rfl rfl) (.cons (.av rfl rfl) (.cons .nil (.cons .nil (.cons .nil .nil)))))
theorem aI3 (x:e9):kC (.agg [.str x.name,.str x.hD,.str x.hA,.ay 7 (x.vars.map cb.row),.ay 4 (x.ap.map cd.row),.ay 4 (x.os.map ca.row)]) x.ir:= .av rfl (by simp only[lq,I.flat,b3,dG,dp,of_flat,Bool.and_self])
theorem Fo (s:a7) (ap:s.length≤1000000):Pure Tryz.prog 12 [.str s] (xA (tb s)):=by
 have ry:=aw8 s ap
 obtain⟨R,an⟩: ∃R,R=tb s:=⟨_,rfl⟩
 rw[←an]
 have yU:(xA R).flat=true:=by simp only[xA,lq,I.flat,b3,dG,dp,of_flat,Bool.and_self]
 refine cF bN Tryz.func12 Dc rfl yU ?_
 unfold tb at an
 cases uj:pV s with
 |err p e=>
  have dw: ¬e=0:=ah0 uj
  rw[uj]at ry an
  simp only[BH]at ry
  simp only at an
  unfold pI Cc
  simp(disch:=omega)only[go_sem,simprocAttr]
  refine ao ?_
  refine D.P (ry) ?_
  (have al:=dw;refine bQ ?_;clear al)
  refine D.r ?_
  rw[an]
  exact⟨_,rfl,.di (.cons (.agg GP) (.cons (.av rfl rfl) (.cons (.av rfl rfl) .nil))),trivial,trivial⟩
 |ok l=>
  obtain⟨aQ6,j9⟩:=MH uj
  have ck:=Oq (en:=(s.length:Int)) (n:=3*l.length+2) (l:=l) (Nat.le_refl _)
  have rz:=aw9 (3*l.length+2) l (s.length:Int) (by omega) ck
  rw[uj]at ry an
  simp only[BH]at ry
  simp only[BX]at an
  cases fV:lo (s.length:Int) (3*l.length+2) l with
  |out=>exact absurd fV ck
  |err p e=>
   rw[fV]at rz an
   simp only[k7]at rz
   simp only at an
   unfold pI Cc
   simp(disch:=omega)only[go_sem,simprocAttr]
   refine ao ?_
   refine D.P (ry) ?_
   refine ao ?_
   refine aj.IB (cap:=[.t 2,.t 3,.t 4]) (Qp:=fun cY c1=>cY=og p e∧c1.H.aU 0=some (27,z31)∧c1.H.aU 1=some (3,[.int .i64 0])∧c1.H.aU 2=some (28,[.int .i64 0])) (kt:=[(2,.ptr 0 0),(3,.ptr 1 0),(4,.ptr 2 0)]) ?_ ?_ ?_ ?_ (fun gr h=>Ii gr h) rfl ?_ ?_
   ·intro q bG
    simp only[List.mem_cons,List.not_mem_nil,or_false]at bG
    rcases bG with rfl|rfl|rfl<;>rfl
   ·intro q bG
    simp only[List.mem_cons,List.not_mem_nil,or_false]at bG
    rcases bG with rfl|rfl|rfl<;>decide
   ·intro q bG
    simp only[List.mem_cons,List.not_mem_nil,or_false]at bG
    rcases bG with rfl|rfl|rfl<;>rfl
   ·kernel_rfl
   ·rintro cY c1 ⟨rfl,aw,J,aa⟩
    refine wq.mono (WA aw rfl J aa) ?_
    rintro c2 rfl
    rw[an]
    refine⟨.di [.agg z31,.int .i64 p,.int .i64 e],?_,⟨_,rfl,.di (.cons (.agg GP) (.cons (.av rfl rfl) (.cons (.av rfl rfl) .nil))),trivial,trivial⟩⟩
    simp [oa,tT,tU,Env.get,a1.ch,aA.ch,n9]
    rfl
   simp(disch:=omega)only[go_sem,simprocAttr]
   refine ao ?_
   refine D.S3 ⟨[3],[]⟩ rz ⟨rfl,?_,?_,?_⟩
   all_goals (rw[zn]; rfl)
  |ok x r=>
   have hb:=Oo fV (by omega)
   have oQ:=B5 x hb
   rw[fV]at rz an
   simp only[k7]at rz
   simp only at an
   rw[show A7 x= .agg [.str x.name,.str x.hD,.str x.hA,.ay 7 (x.vars.map cb.row),.ay 4 (x.ap.map cd.row),.ay 4 (x.os.map ca.row)] from rfl]at rz
   rw[lq]at oQ
   unfold pI Cc
   simp(disch:=omega)only[go_sem,simprocAttr]
   refine ao ?_
   refine D.P (ry) ?_
   refine ao ?_
   refine aj.IB (cap:=[.t 2,.t 3,.t 4]) (Qp:=fun _ _=>False) (kt:=[]) (fun q bG=>by cases bG) (fun q bG=>by cases bG) (fun q bG=>by cases bG) ?_ (fun gr h=>Ii gr h) rfl (fun _ _ h=>h.elim) ?_
   ·kernel_rfl
   simp(disch:=omega)only[go_sem,simprocAttr]
   refine ao ?_
   refine D.F ⟨[3],[]⟩ (rz) ?_
   refine ao ?_
   refine D.P (oQ) ?_
   cases aY:kJ x
   ·rw[if_neg (by rw[aY]; decide)]at an
    refine ao ?_
    refine D.r ?_
    rw[an]
    exact⟨_,rfl,.di (.cons (.agg GP) (.cons (.av rfl rfl) (.cons (.av rfl rfl) .nil))),trivial,trivial⟩
   ·rw[if_pos aY]at an
    refine ao ?_
    refine D.r ?_
    rw[an]
    exact⟨_,rfl,.di (.cons (aI3 x) (.cons (.av rfl rfl) (.cons (.av rfl rfl) .nil))),trivial,trivial⟩
end
section
attribute [local go_sem] ad.ct ac.ct ad.b9 ac.b9 cj eN fZ gJ dp of_flat
theorem PO: ∀(N:Nat) (l:List ad),ad.bB l≤N→N≤1000000000→Pure Tryz.prog 44 [.ay 6 (l.map ad.row)] (.ay 6 (l.map ad.row))
 |N,l,bW,rO=>by
  have ek:l.length*88≤140737488355328:=by have:=ad.hZ l; omega
  refine cF bN Tryz.func44 aU4 (by simp only[b3,I.flat,ad.b9,Bool.and_self]) (by simp only[b3,I.flat,ad.b9,Bool.and_self]) ?_
  unfold XN aw6
  simp(disch:=omega)only[go_sem,simprocAttr]
  refine aj.seq ?_
  refine aj.b6 ?_
  refine bK ?_
  refine aj.seq ?_
  refine aj.b6 ?_
  refine bK ?_
  refine aj.rL 3 6 51 rfl (by decide) ?_
  simp(disch:=omega)only[go_sem,simprocAttr]
  refine ao ?_
  refine aj.dd (X:=Nat) 0 (fun i=>[(0,.ay 6 (l.map ad.row)),(3,.own 0 6 ((l.take i).map ad.row)),(4,.int .i64 (i:Int))]) (fun _=>[]) (fun i=>[(0,.bJ 51 6 ((l.take i).map ad.row).length)]) (fun i=>i≤l.length) (fun i=>l.length-i) (Nat.zero_le _) ⟨rfl,rfl,rfl,trivial⟩ trivial ⟨rfl,trivial⟩ ?_
  intro i ai
  try simp only at ai ⊢
  cases af:l[i]? with
  |some v=>
   have cK:=(List.getElem?_eq_some_iff.1 af).1
   have hm:=ad.lh af
   have ev:=Og ad.row af
   have hlen:(l.take i).length=i:=by simp; omega
   obtain⟨k,o,m,t,n,a⟩:=v
   simp only[ad.ct]at ev
   have d1:(i:Int)<((l.map ad.row).length:Int):=by rw[List.length_map]; omega
   match N,bW with
   |0,bW=>simp only[ad.bI]at hm; omega
   |N+1,bW=>
   simp only[ad.bI]at hm
   have ar:=PO N a (by omega) (by omega)
   (have al:=d1;refine pu ?_;clear al)
   refine aj.block ?_
   refine aj.seq ?_
   refine aj.b6 ?_
   refine bK ?_
   refine aj.fs (anns:=[.ay 6 (a.map ad.row)]) ?_
   refine bK ?_
   refine D.df ar ?_
   refine bK ?_
   refine D.gL ?_
   refine ao ?_
   refine aj.gT (i+1) (by omega) ⟨rfl,by simp only[ev]; rfl,rfl,trivial⟩ trivial ⟨by simp only[ev,List.length_append]; rfl,trivial⟩ rfl (by simp only[fY,dr,dP,dV,fO,I.cR,b2.bJ,go_sem]<;>rfl) (by show l.length-(i+1)<l.length-i; omega)
  |none=>
   have cM:=List.getElem?_eq_none_iff.1 af
   have e:i=l.length:=by omega
   subst e
   have d1: ¬(l.length:Int)<((l.map ad.row).length:Int):=by rw[List.length_map]; omega
   simp only[List.take_length]
   (have al:=d1;refine bQ ?_;clear al)
   refine D.r ?_
   exact⟨_,rfl,.av rfl (by simp only[I.flat,ad.b9]),trivial,trivial⟩
theorem SZ: ∀(N:Nat) (l:List ac),ac.bB l≤N→N≤100000000→Pure Tryz.prog 43 [.ay 11 (l.map ac.row)] (.ay 11 (l.map ac.row))
 |N,l,bW,rO=>by
  have ek:l.length*168≤140737488355328:=by have:=ac.hZ l; omega
  refine cF bN Tryz.func43 aU3 (by simp only[b3,I.flat,ac.b9,Bool.and_self]) (by simp only[b3,I.flat,ac.b9,Bool.and_self]) ?_
  unfold XL aw1
  simp(disch:=omega)only[go_sem,simprocAttr]
  refine aj.seq ?_
  refine aj.b6 ?_
  refine bK ?_
  refine aj.seq ?_
  refine aj.b6 ?_
  refine bK ?_
  refine aj.rL 3 11 165 rfl (by decide) ?_
  simp(disch:=omega)only[go_sem,simprocAttr]
  refine ao ?_
  refine aj.dd (X:=Nat) 0 (fun i=>[(0,.ay 11 (l.map ac.row)),(3,.own 0 11 ((l.take i).map ac.row)),(4,.int .i64 (i:Int))]) (fun _=>[]) (fun i=>[(0,.bJ 165 11 ((l.take i).map ac.row).length)]) (fun i=>i≤l.length) (fun i=>l.length-i) (Nat.zero_le _) ⟨rfl,rfl,rfl,trivial⟩ trivial ⟨rfl,trivial⟩ ?_
  intro i ai
  try simp only at ai ⊢
  cases af:l[i]? with
  |some v=>
   have cK:=(List.getElem?_eq_some_iff.1 af).1
   have hm:=ac.lh af
   have ev:=Og ac.row af
   have hlen:(l.take i).length=i:=by simp; omega
   obtain⟨k,m,x,t,a,b⟩:=v
   have aj5:x.bI≤N:=by simp only[ac.bI]at hm; omega
   have bE:Pure Tryz.prog 44 [.ay 6 [x.row]] (.ay 6 [x.row]):=PO x.bI [x] (by simp [ad.bB]) (by omega)
   obtain⟨bA,gv,m2,t2,mA,dZ⟩:=x
   simp only[ac.ct,ad.ct,List.cons_append,List.nil_append]at ev
   simp(disch:=omega)only[go_sem,simprocAttr]at bE
   have d1:(i:Int)<((l.map ac.row).length:Int):=by rw[List.length_map]; omega
   match N,bW with
   |0,bW=>simp only[ac.bI]at hm; omega
   |N+1,bW=>
   simp only[ac.bI]at hm
   have ar:=SZ N a (by omega) (by omega)
   have ax:=SZ N b (by omega) (by omega)
   (have al:=d1;refine pu ?_;clear al)
   refine aj.block ?_
   refine aj.seq ?_
   refine aj.b6 ?_
   refine bK ?_
   refine aj.fs (anns:=[.ay 6 [[.int .i64 bA,.str gv,.str m2,.str t2,.int .i64 mA,.ay 6 (dZ.map ad.row)]],.ay 11 (a.map ac.row),.ay 11 (b.map ac.row)]) ?_
   refine bK ?_
   refine D.df bE ?_
   refine bK ?_
   refine D.df ar ?_
   refine bK ?_
   refine D.df ax ?_
   refine bK ?_
   refine D.gL ?_
   refine ao ?_
   refine aj.gT (i+1) (by omega) ⟨rfl,by simp only[ev]; rfl,rfl,trivial⟩ trivial ⟨by simp only[ev,List.length_append]; rfl,trivial⟩ rfl (by simp only[fY,dr,dP,dV,fO,I.cR,b2.bJ,go_sem]<;>rfl) (by show l.length-(i+1)<l.length-i; omega)
  |none=>
   have cM:=List.getElem?_eq_none_iff.1 af
   have e:i=l.length:=by omega
   subst e
   have d1: ¬(l.length:Int)<((l.map ac.row).length:Int):=by rw[List.length_map]; omega
   simp only[List.take_length]
   (have al:=d1;refine bQ ?_;clear al)
   refine D.r ?_
   exact⟨_,rfl,.av rfl (by simp only[I.flat,ac.b9]),trivial,trivial⟩
attribute [local go_sem] cb.row dG fG mV
abbrev Oj:List I:=[.str [],.str [],.str [],.aV,.aV,.aV]
set_option maxHeartbeats 4000000 in
theorem aZ6 (x:e9) (ab:oI x):Pure Tryz.prog 15 [x.ir] x.ir:=by
 have aM:=ab.nS
 have dZ:=ab.nh
 have o2:=ab.no
 rw[lq]
 refine cF bN Tryz.func15 aT5 (by simp only[b3,I.flat,dG,dp,of_flat,Bool.and_self]) (by simp only[b3,I.flat,dG,dp,of_flat,Bool.and_self]) ?_
 unfold V9 ar6
 simp(disch:=omega)only[go_sem,simprocAttr]
 refine aj.seq ?_
 refine aj.b6 ?_
 refine bK ?_
 refine aj.seq ?_
 refine aj.b6 ?_
 refine bK ?_
 refine aj.oU 2 3 7 95 rfl rfl (by decide) ?_
 simp(disch:=omega)only[go_sem,simprocAttr]
 refine aj.oU 2 4 4 99 rfl rfl (by decide) ?_
 simp(disch:=omega)only[go_sem,simprocAttr]
 refine aj.oU 2 5 4 66 rfl rfl (by decide) ?_
 simp(disch:=omega)only[go_sem,simprocAttr]
 refine ao ?_
 refine aj.dd (X:=Nat) 0 (fun i=>[(1,.ptr 0 0),(2,.ptr 1 0),(3,.ptr 2 0),(4,.int .i64 (i:Int))]) (fun i=>[(0,27,x.cells),(1,35,Oj),(2,35,[.str x.name,.str x.hD,.str x.hA,.own 0 7 ((x.vars.take i).map cb.row),.own 1 4 (([]:List cd).map cd.row),.own 2 4 (([]:List ca).map ca.row)])]) (fun i=>[(0,.bJ 95 7 ((x.vars.take i).map cb.row).length),(1,.bJ 99 4 (([]:List cd).map cd.row).length),(2,.bJ 66 4 (([]:List ca).map ca.row).length)]) (fun i=>i≤x.vars.length) (fun i=>x.vars.length-i) (Nat.zero_le _) ⟨rfl,rfl,rfl,rfl,trivial⟩ ⟨rfl,rfl,rfl,trivial⟩ ⟨rfl,rfl,rfl,trivial⟩ ?_
 intro i ai
 try simp only at ai ⊢
 cases af:x.vars[i]? with
 |some v=>
  have cK:=(List.getElem?_eq_some_iff.1 af).1
  have hlen:(x.vars.take i).length=i:=by simp; omega
  have ev:=Og cb.row af
  have d1:(i:Int)<((x.vars.map cb.row).length:Int):=by rw[List.length_map]; omega
  (have al:=d1;refine bQ ?_;clear al)
  refine D.gL ?_
  refine ao ?_
  refine aj.dK (i+1) (by omega) ⟨rfl,rfl,rfl,rfl,trivial⟩ (by refine⟨rfl,rfl,?_,trivial⟩; simp only[ev]; rfl) (by refine⟨?_,rfl,rfl,trivial⟩; simp only[ev,List.length_append]; rfl) rfl rfl (by show x.vars.length-(i+1)<x.vars.length-i; omega)
 |none=>
 have cM:=List.getElem?_eq_none_iff.1 af
 have e:i=x.vars.length:=by omega
 subst e
 have d1: ¬(x.vars.length:Int)<((x.vars.map cb.row).length:Int):=by rw[List.length_map]; omega
 simp only[List.take_length]
 clear ai af cM
 (have al:=d1;refine bQ ?_;clear al)
 refine aj.dd (X:=Nat) 0 (fun i=>[(1,.ptr 0 0),(2,.ptr 1 0),(3,.ptr 2 0),(5,.int .i64 (i:Int))]) (fun i=>[(0,27,x.cells),(1,35,Oj),(2,35,[.str x.name,.str x.hD,.str x.hA,.own 0 7 (x.vars.map cb.row),.own 1 4 ((x.ap.take i).map cd.row),.own 2 4 (([]:List ca).map ca.row)])]) (fun i=>[(0,.bJ 95 7 (x.vars.map cb.row).length),(1,.bJ 99 4 ((x.ap.take i).map cd.row).length),(2,.bJ 66 4 (([]:List ca).map ca.row).length)]) (fun i=>i≤x.ap.length) (fun i=>x.ap.length-i) (Nat.zero_le _) ⟨rfl,rfl,rfl,rfl,trivial⟩ ⟨rfl,rfl,rfl,trivial⟩ ⟨rfl,rfl,rfl,trivial⟩ ?_
 intro i ai
 try simp only at ai ⊢
 cases af:x.ap[i]? with
 |some v=>
  have cK:=(List.getElem?_eq_some_iff.1 af).1
  have hlen:(x.ap.take i).length=i:=by simp; omega
  have ev:=Og cd.row af
  have d1:(i:Int)<((x.ap.map cd.row).length:Int):=by rw[List.length_map]; omega
  have ar:=SZ (ac.bB v.body) v.body (Nat.le_refl _) (by have:=ab.aP v (List.mem_of_getElem? af); omega)
  simp only[fZ]at ev
  (have al:=d1;refine pu ?_;clear al)
  refine aj.block ?_
  refine aj.seq ?_
  refine aj.b6 ?_
  refine bK ?_
  refine aj.fs (anns:=[.ay 11 (v.body.map ac.row)]) ?_
  refine bK ?_
  refine D.df ar ?_
  refine bK ?_
  refine D.gL ?_
  refine ao ?_
  refine aj.gT (i+1) (by omega) ⟨rfl,rfl,rfl,rfl,trivial⟩ (by refine⟨rfl,rfl,?_,trivial⟩; simp only[ev]; rfl) (by refine⟨rfl,?_,rfl,trivial⟩; simp only[ev,List.length_append]; rfl) rfl (by simp only[fG,Oj,fY,dr,dP,dV,fO,I.cR,b2.bJ,dG,dp,of_flat,go_sem]<;>rfl) (by show x.ap.length-(i+1)<x.ap.length-i; omega)
 |none=>
 have cM:=List.getElem?_eq_none_iff.1 af
 have e:i=x.ap.length:=by omega
 subst e
 have d1: ¬(x.ap.length:Int)<((x.ap.map cd.row).length:Int):=by rw[List.length_map]; omega
 simp only[List.take_length]
 clear ai af cM
 (have al:=d1;refine bQ ?_;clear al)
 refine aj.dd (X:=Nat) 0 (fun i=>[(1,.ptr 0 0),(2,.ptr 1 0),(3,.ptr 2 0),(7,.int .i64 (i:Int))]) (fun i=>[(0,27,x.cells),(1,35,Oj),(2,35,[.str x.name,.str x.hD,.str x.hA,.own 0 7 (x.vars.map cb.row),.own 1 4 (x.ap.map cd.row),.own 2 4 ((x.os.take i).map ca.row)])]) (fun i=>[(0,.bJ 95 7 (x.vars.map cb.row).length),(1,.bJ 99 4 (x.ap.map cd.row).length),(2,.bJ 66 4 ((x.os.take i).map ca.row).length)]) (fun i=>i≤x.os.length) (fun i=>x.os.length-i) (Nat.zero_le _) ⟨rfl,rfl,rfl,rfl,trivial⟩ ⟨rfl,rfl,rfl,trivial⟩ ⟨rfl,rfl,rfl,trivial⟩ ?_
 intro i ai
 try simp only at ai ⊢
 cases af:x.os[i]? with
 |some v=>
  have cK:=(List.getElem?_eq_some_iff.1 af).1
  have hlen:(x.os.take i).length=i:=by simp; omega
  have ev:=Og ca.row af
  have d1:(i:Int)<((x.os.map ca.row).length:Int):=by rw[List.length_map]; omega
  have ar:=PO (ad.bB v.args) v.args (Nat.le_refl _) (by have:=ab.o6 v (List.mem_of_getElem? af); omega)
  have ax:=PO (ad.bB v.dT) v.dT (Nat.le_refl _) (by have:=ab.o6 v (List.mem_of_getElem? af); omega)
  simp only[gJ]at ev
  (have al:=d1;refine pu ?_;clear al)
  refine aj.block ?_
  refine aj.seq ?_
  refine aj.b6 ?_
  refine bK ?_
  refine aj.fs (anns:=[.ay 6 (v.args.map ad.row),.ay 6 (v.dT.map ad.row)]) ?_
  refine bK ?_
  refine D.df ar ?_
  refine bK ?_
  refine D.df ax ?_
  refine bK ?_
  refine D.gL ?_
  refine ao ?_
  refine aj.gT (i+1) (by omega) ⟨rfl,rfl,rfl,rfl,trivial⟩ (by refine⟨rfl,rfl,?_,trivial⟩; simp only[ev]; rfl) (by refine⟨rfl,rfl,?_,trivial⟩; simp only[ev,List.length_append]; rfl) rfl (by simp only[fG,Oj,fY,dr,dP,dV,fO,I.cR,b2.bJ,dG,dp,of_flat,go_sem]<;>rfl) (by show x.os.length-(i+1)<x.os.length-i; omega)
 |none=>
 have cM:=List.getElem?_eq_none_iff.1 af
 have e:i=x.os.length:=by omega
 subst e
 have d1: ¬(x.os.length:Int)<((x.os.map ca.row).length:Int):=by rw[List.length_map]; omega
 simp only[List.take_length]
 clear ai af cM
 (have al:=d1;refine bQ ?_;clear al)
 refine D.r ?_
 refine⟨_,rfl,?_,trivial,trivial⟩
 exact .av rfl (by simp only[b3,I.flat,dG,dp,of_flat,Bool.and_self])
end
section
attribute [local go_sem] ad.ct ac.ct ad.b9 ac.b9 cj eN fZ gJ dp of_flat
attribute [local go_sem] cb.row dG fG mV
theorem PQ: ∀(N:Nat) (a b:List ad),ad.bB a≤N→N≤1000000000→Pure Tryz.prog 42 [.ay 6 (a.map ad.row),.ay 6 (b.map ad.row)] (.bool (lW a b))
  |N,a,b,bW,rO=>by
   have ek:a.length≤1000000000:=by have:=ad.hZ a; omega
   rw[AY]
   refine cF bN Tryz.func42 aU2 (by simp only[b3,I.flat,ad.b9,Bool.and_self]) rfl ?_
   unfold XK av9
   simp(disch:=omega)only[go_sem,simprocAttr]
   by_cases mq:a.length=b.length
   rotate_left
   ·have d0: ¬(((a.map ad.row).length:Int)=((b.map ad.row).length:Int)):=by simp only[List.length_map]; omega
    (have al:=d0;refine bQ ?_;clear al)
    refine D.r ?_
    exact⟨_,rfl,.av (by rw[pK mq]; rfl) rfl,trivial,trivial⟩
   have d0:((a.map ad.row).length:Int)=((b.map ad.row).length:Int):=by simp only[List.length_map]; omega
   (have al:=d0;refine bQ ?_;clear al)
   refine aj.dd (X:=Nat) 0 (fun i=>[(0,.ay 6 (a.map ad.row)),(1,.ay 6 (b.map ad.row)),(5,.int .i64 (i:Int))]) (fun _=>[]) (fun _=>[]) (fun i=>i≤a.length∧eL nF (a.drop i) (b.drop i)=eL nF a b) (fun i=>a.length-i) ⟨Nat.zero_le _,rfl⟩ ⟨rfl,rfl,rfl,trivial⟩ trivial trivial ?_
   rintro i ⟨ai,aB⟩
   try simp only at ai aB ⊢
   cases af:a[i]? with
   |some v=>
    have cK:=(List.getElem?_eq_some_iff.1 af).1
    obtain⟨u,hu⟩: ∃u,b[i]? =some u:=⟨_,List.getElem?_eq_getElem (by omega)⟩
    rw[oT af hu]at aB
    have d1:(i:Int)<((a.map ad.row).length:Int):=by rw[List.length_map]; omega
    have d2:(i:Int)<((b.map ad.row).length:Int):=by rw[List.length_map]; omega
    have hm:=ad.lh af
    obtain⟨k,o,m,t,n,l⟩:=v
    obtain⟨bA,gv,m2,t2,mA,dZ⟩:=u
    match N,bW with
    |0,bW=>simp only[ad.bI]at hm; omega
    |N+1,bW=>
    simp only[ad.bI]at hm
    have ar:=PQ N l dZ (by omega) (by omega)
    simp only[nF]at aB
    generalize lW l dZ=cW at ar aB
    clear hm
    (repeat' first|(apply ae.s rfl;(·simp(disch:=omega)only[go_sem,simprocAttr,d1,d2]<;>with_reducible rfl))|(apply aj.s true true;(·simp(disch:=omega)only[go_sem,simprocAttr,d1,d2]<;>with_reducible rfl))|apply ae.nil|(refine aj.b6 ?_)|(apply ae.eX;(·simp(disch:=omega)only[go_sem,simprocAttr,d1,d2]<;>with_reducible rfl))|(apply ae.eY;(·rfl);(·simp(disch:=omega)only[go_sem,simprocAttr,d1,d2]<;>with_reducible rfl))|(apply ae.gs;(·simp(disch:=omega)only[go_sem,simprocAttr,d1,d2]<;>with_reducible rfl))|((first|apply ae.e3|apply ae.e4|apply ae.e5);(·simp(disch:=omega)only[go_sem,simprocAttr,d1,d2]<;>with_reducible rfl);(·simp(disch:=omega)only[go_sem,simprocAttr,d1,d2]<;>with_reducible rfl);(·assumption);(·omega))|intro h)
    all_goals first
      |(refine D.R ?_
        refine⟨_,rfl,.av ?_ rfl,trivial,trivial⟩
        rw[←aB]
        simp_all [I.av])
      |skip
    refine D.P (ar) ?_
    (repeat' first|refine D.S ?_|refine D.cN true true ?_|refine ae.nil ?_|refine aj.b6 ?_|refine D.W ?_|refine D.Z ?_|refine D.G ?_ ?_|refine D.X ‹_› ?_|refine D.eh ‹_› ?_|refine D.ei ‹_› ?_|intro h|refine D.C ?_ ?_)
    ·refine D.r ?_
     refine⟨_,rfl,.av ?_ rfl,trivial,trivial⟩
     rw[←aB]
     simp_all [I.av]
    ·refine aj.gT (i+1) ⟨by omega,?_⟩ ⟨rfl,rfl,rfl,trivial⟩ trivial trivial rfl (by simp only[fY,dr,dP,dV,fO,I.cR,b2.bJ,go_sem]<;>rfl) (by show a.length-(i+1)<a.length-i; omega)
     rw[←aB]
     simp_all
   |none=>
    have cM:=List.getElem?_eq_none_iff.1 af
    have bE:i=a.length:=by omega
    subst bE
    have d1: ¬(a.length:Int)<((a.map ad.row).length:Int):=by rw[List.length_map]; omega
    have d2: ¬(a.length:Int)<((b.map ad.row).length:Int):=by rw[List.length_map]; omega
    rw[pJ (Nat.le_refl _) (by omega)]at aB
    rw[←aB]
    (have al:=d1;have z2:=d2;refine e8 ?_;clear al z2)
    exact D.rx
theorem Tq: ∀(N:Nat) (a b:List ac),ac.bB a≤N→N≤1000000000→Pure Tryz.prog 41 [.ay 11 (a.map ac.row),.ay 11 (b.map ac.row)] (.bool (mH a b))
  |N,a,b,bW,rO=>by
   have ek:a.length≤1000000000:=by have:=ac.hZ a; omega
   rw[Ct]
   refine cF bN Tryz.func41 aU1 (by simp only[b3,I.flat,ac.b9,Bool.and_self]) rfl ?_
   unfold Xo av4
   simp(disch:=omega)only[go_sem,simprocAttr]
   by_cases mq:a.length=b.length
   rotate_left
   ·have d0: ¬(((a.map ac.row).length:Int)=((b.map ac.row).length:Int)):=by simp only[List.length_map]; omega
    (have al:=d0;refine bQ ?_;clear al)
    refine D.r ?_
    exact⟨_,rfl,.av (by rw[pK mq]; rfl) rfl,trivial,trivial⟩
   have d0:((a.map ac.row).length:Int)=((b.map ac.row).length:Int):=by simp only[List.length_map]; omega
   (have al:=d0;refine bQ ?_;clear al)
   refine aj.dd (X:=Nat) 0 (fun i=>[(0,.ay 11 (a.map ac.row)),(1,.ay 11 (b.map ac.row)),(5,.int .i64 (i:Int))]) (fun _=>[]) (fun _=>[]) (fun i=>i≤a.length∧eL q3 (a.drop i) (b.drop i)=eL q3 a b) (fun i=>a.length-i) ⟨Nat.zero_le _,rfl⟩ ⟨rfl,rfl,rfl,trivial⟩ trivial trivial ?_
   rintro i ⟨ai,aB⟩
   try simp only at ai aB ⊢
   cases af:a[i]? with
   |some v=>
    have cK:=(List.getElem?_eq_some_iff.1 af).1
    obtain⟨u,hu⟩: ∃u,b[i]? =some u:=⟨_,List.getElem?_eq_getElem (by omega)⟩
    rw[oT af hu]at aB
    have d1:(i:Int)<((a.map ac.row).length:Int):=by rw[List.length_map]; omega
    have d2:(i:Int)<((b.map ac.row).length:Int):=by rw[List.length_map]; omega
    have hm:=ac.lh af
    obtain⟨k,m,x,t,GM,GN⟩:=v
    obtain⟨bA,m2,rc,t2,tB,su⟩:=u
    match N,bW with
    |0,bW=>simp only[ac.bI]at hm; omega
    |N+1,bW=>
    simp only[ac.bI]at hm
    have bE:Pure Tryz.prog 42 [.ay 6 ([x].map ad.row),.ay 6 ([rc].map ad.row)] (.bool (lW [x] [rc])):=PQ (ad.bB [x]) [x] [rc] (Nat.le_refl _) (by simp only[ad.bB]; omega)
    have ar:=Tq N GM tB (by omega) (by omega)
    have ax:=Tq N GN su (by omega) (by omega)
    simp only[lW,Bool.and_true]at bE
    simp only[q3]at aB
    generalize nF x rc=hi at bE aB
    generalize mH GM tB=eB at ar aB
    generalize mH GN su=dU at ax aB
    clear hm
    obtain⟨ae4,o6,ah9,aI9,kk,qO⟩:=x
    obtain⟨EH,l5,ai1,pj,b7,af9⟩:=rc
    simp(disch:=omega)only[go_sem,simprocAttr]at bE
    (repeat' first|(apply ae.s rfl;(·simp(disch:=omega)only[go_sem,simprocAttr,d1,d2]<;>with_reducible rfl))|(apply aj.s true true;(·simp(disch:=omega)only[go_sem,simprocAttr,d1,d2]<;>with_reducible rfl))|apply ae.nil|(refine aj.b6 ?_)|(apply ae.eX;(·simp(disch:=omega)only[go_sem,simprocAttr,d1,d2]<;>with_reducible rfl))|(apply ae.eY;(·rfl);(·simp(disch:=omega)only[go_sem,simprocAttr,d1,d2]<;>with_reducible rfl))|(apply ae.gs;(·simp(disch:=omega)only[go_sem,simprocAttr,d1,d2]<;>with_reducible rfl))|((first|apply ae.e3|apply ae.e4|apply ae.e5);(·simp(disch:=omega)only[go_sem,simprocAttr,d1,d2]<;>with_reducible rfl);(·simp(disch:=omega)only[go_sem,simprocAttr,d1,d2]<;>with_reducible rfl);(·assumption);(·omega))|intro h)
    all_goals first
      |(refine D.R ?_
        refine⟨_,rfl,.av ?_ rfl,trivial,trivial⟩
        rw[←aB]
        simp_all [I.av])
      |skip
    refine D.P (bE) ?_
    (repeat' first|refine D.S ?_|refine D.cN true true ?_|refine ae.nil ?_|refine aj.b6 ?_|refine D.W ?_|refine D.Z ?_|refine D.G ?_ ?_|refine D.X ‹_› ?_|refine D.eh ‹_› ?_|refine D.ei ‹_› ?_|intro h)
    all_goals first
      |(refine D.R ?_
        refine⟨_,rfl,.av ?_ rfl,trivial,trivial⟩
        rw[←aB]
        simp_all [I.av])
      |skip
    refine D.P (ar) ?_
    (repeat' first|refine D.S ?_|refine D.cN true true ?_|refine ae.nil ?_|refine aj.b6 ?_|refine D.W ?_|refine D.Z ?_|refine D.G ?_ ?_|refine D.X ‹_› ?_|refine D.eh ‹_› ?_|refine D.ei ‹_› ?_|intro h)
    all_goals first
      |(refine D.R ?_
        refine⟨_,rfl,.av ?_ rfl,trivial,trivial⟩
        rw[←aB]
        simp_all [I.av])
      |skip
    refine D.P (ax) ?_
    (repeat' first|refine D.S ?_|refine D.cN true true ?_|refine ae.nil ?_|refine aj.b6 ?_|refine D.W ?_|refine D.Z ?_|refine D.G ?_ ?_|refine D.X ‹_› ?_|refine D.eh ‹_› ?_|refine D.ei ‹_› ?_|intro h|refine D.C ?_ ?_)
    ·refine D.r ?_
     refine⟨_,rfl,.av ?_ rfl,trivial,trivial⟩
     rw[←aB]
     simp_all [I.av]
    ·refine aj.gT (i+1) ⟨by omega,?_⟩ ⟨rfl,rfl,rfl,trivial⟩ trivial trivial rfl (by simp only[fY,dr,dP,dV,fO,I.cR,b2.bJ,go_sem]<;>rfl) (by show a.length-(i+1)<a.length-i; omega)
     rw[←aB]
     simp_all
   |none=>
    have cM:=List.getElem?_eq_none_iff.1 af
    have bE:i=a.length:=by omega
    subst bE
    have d1: ¬(a.length:Int)<((a.map ac.row).length:Int):=by rw[List.length_map]; omega
    have d2: ¬(a.length:Int)<((b.map ac.row).length:Int):=by rw[List.length_map]; omega
    rw[pJ (Nat.le_refl _) (by omega)]at aB
    rw[←aB]
    (have al:=d1;have z2:=d2;refine e8 ?_;clear al z2)
    exact D.rx
set_option maxHeartbeats 4000000 in
theorem a08 (x y:e9) (ab:oI x):Pure Tryz.prog 14 [x.ir,y.ir] (.bool (xR x y)):=by
  have aM:=ab.nS
  have dZ:=ab.nh
  have o2:=ab.no
  replace aM:x.vars.length≤9223372036854775807:=by omega
  replace dZ:x.ap.length≤9223372036854775807:=by omega
  replace o2:x.os.length≤9223372036854775807:=by omega
  have mo:xR x y=(decide (x.name=y.name)&&(decide (x.hD=y.hD)&&(decide (x.hA=y.hA)&&(decide (x.vars=y.vars)&&(eL qE x.ap y.ap&&eL qT x.os y.os))))):=rfl
  have ol: ∃V,eL (fun a b=>decide (a=b)) x.vars y.vars=V:=⟨_,rfl⟩
  have eD: ∃V,eL qE x.ap y.ap=V:=⟨_,rfl⟩
  have qC: ∃V,eL qT x.os y.os=V:=⟨_,rfl⟩
  obtain⟨V,ol⟩:=ol
  obtain⟨H,eD⟩:=eD
  obtain⟨O,qC⟩:=qC
  have li:x.vars.length≠y.vars.length→V=false:=fun h=>by rw[←ol]; exact pK h
  have mA:x.ap.length≠y.ap.length→H=false:=fun h=>by rw[←eD]; exact pK h
  have MV:x.os.length≠y.os.length→O=false:=fun h=>by rw[←qC]; exact pK h
  rw[←yA x.vars y.vars,ol,eD,qC]at mo
  rw[mo]
  clear mo
  rw[lq,lq]
  refine cF bN Tryz.func14 aT4 (by simp only[b3,I.flat,dG,dp,of_flat,Bool.and_self]) rfl ?_
  unfold V8 ar1
  simp(disch:=omega)only[go_sem,simprocAttr]
  (repeat' first|(apply ae.s rfl;(·simp(disch:=omega)only[go_sem,simprocAttr,List.length_map]<;>with_reducible rfl))|(apply aj.s true true;(·simp(disch:=omega)only[go_sem,simprocAttr,List.length_map]<;>with_reducible rfl))|apply ae.nil|(refine aj.b6 ?_)|(apply ae.eX;(·simp(disch:=omega)only[go_sem,simprocAttr,List.length_map]<;>with_reducible rfl))|(apply ae.eY;(·rfl);(·simp(disch:=omega)only[go_sem,simprocAttr,List.length_map]<;>with_reducible rfl))|(apply ae.gs;(·simp(disch:=omega)only[go_sem,simprocAttr,List.length_map]<;>with_reducible rfl))|((first|apply ae.e3|apply ae.e4|apply ae.e5);(·simp(disch:=omega)only[go_sem,simprocAttr,List.length_map]<;>with_reducible rfl);(·simp(disch:=omega)only[go_sem,simprocAttr,List.length_map]<;>with_reducible rfl);(·assumption);(·omega))|intro h|(apply aj.cond;(·simp(disch:=omega)only[go_sem,simprocAttr,List.length_map]<;>with_reducible rfl)))
  all_goals (simp only[decide_eq_true_eq,decide_eq_false_iff_not,Bool.not_eq_true',Bool.not_eq_false',Int.natCast_inj,Decidable.not_not,ne_eq]at*)
  all_goals first
    |(refine D.R ?_
      refine⟨_,rfl,.av ?_ rfl,trivial,trivial⟩
      simp_all [I.av])
    |skip
  refine aj.dd (X:=Nat) 0 (fun i=>[(2,.ptr 0 0),(3,.ptr 1 0),(5,.int .i64 (i:Int))]) (fun _=>[(0,35,x.cells),(1,35,y.cells)]) (fun _=>[]) (fun i=>i≤x.vars.length∧eL (fun a b=>decide (a=b)) (x.vars.drop i) (y.vars.drop i)=V) (fun i=>x.vars.length-i) ⟨Nat.zero_le _,ol⟩ ⟨rfl,rfl,rfl,trivial⟩ ⟨rfl,rfl,trivial⟩ trivial ?_
  rintro i ⟨ai,aB⟩
  try simp only at ai aB ⊢
  cases af:x.vars[i]? with
  |some v=>
   have cK:=(List.getElem?_eq_some_iff.1 af).1
   obtain⟨u,hu⟩: ∃u,y.vars[i]? =some u:=⟨_,List.getElem?_eq_getElem (by omega)⟩
   rw[oT af hu]at aB
   have d1:(i:Int)<((x.vars.map cb.row).length:Int):=by rw[List.length_map]; omega
   have d2:(i:Int)<((y.vars.map cb.row).length:Int):=by rw[List.length_map]; omega
   (repeat' first|(apply ae.s rfl;(·simp(disch:=omega)only[go_sem,simprocAttr,d1,d2]<;>with_reducible rfl))|(apply aj.s true true;(·simp(disch:=omega)only[go_sem,simprocAttr,d1,d2]<;>with_reducible rfl))|apply ae.nil|(refine aj.b6 ?_)|(apply ae.eX;(·simp(disch:=omega)only[go_sem,simprocAttr,d1,d2]<;>with_reducible rfl))|(apply ae.eY;(·rfl);(·simp(disch:=omega)only[go_sem,simprocAttr,d1,d2]<;>with_reducible rfl))|(apply ae.gs;(·simp(disch:=omega)only[go_sem,simprocAttr,d1,d2]<;>with_reducible rfl))|((first|apply ae.e3|apply ae.e4|apply ae.e5);(·simp(disch:=omega)only[go_sem,simprocAttr,d1,d2]<;>with_reducible rfl);(·simp(disch:=omega)only[go_sem,simprocAttr,d1,d2]<;>with_reducible rfl);(·assumption);(·omega))|intro h|(apply aj.cond;(·simp(disch:=omega)only[go_sem,simprocAttr,d1,d2]<;>with_reducible rfl)))
   ·refine D.r ?_
    refine⟨_,rfl,.av ?_ rfl,trivial,trivial⟩
    have dw: ¬v=u:=by rintro rfl; simp at h
    simp_all [I.av]
   ·refine aj.dK (i+1) ⟨by omega,?_⟩ ⟨rfl,rfl,rfl,trivial⟩ ⟨rfl,rfl,trivial⟩ trivial rfl rfl (by show x.vars.length-(i+1)<x.vars.length-i; omega)
    have qH:v=u:=by obtain⟨_,_,_,_,_,_,_⟩:=v; obtain⟨_,_,_,_,_,_,_⟩:=u; simp_all
    rw[←aB]
    simp [qH]
  |none=>
  have cM:=List.getElem?_eq_none_iff.1 af
  have bE:i=x.vars.length:=by omega
  subst bE
  have d1: ¬(x.vars.length:Int)<((x.vars.map cb.row).length:Int):=by rw[List.length_map]; omega
  rw[pJ (Nat.le_refl _) (by omega)]at aB
  subst aB
  clear ai af cM
  (have al:=d1;refine bQ ?_;clear al)
  refine aj.dd (X:=Nat) 0 (fun i=>[(2,.ptr 0 0),(3,.ptr 1 0),(6,.int .i64 (i:Int))]) (fun _=>[(0,35,x.cells),(1,35,y.cells)]) (fun _=>[]) (fun i=>i≤x.ap.length∧eL qE (x.ap.drop i) (y.ap.drop i)=H) (fun i=>x.ap.length-i) ⟨Nat.zero_le _,eD⟩ ⟨rfl,rfl,rfl,trivial⟩ ⟨rfl,rfl,trivial⟩ trivial ?_
  rintro i ⟨ai,aB⟩
  try simp only at ai aB ⊢
  cases af:x.ap[i]? with
  |some v=>
   have cK:=(List.getElem?_eq_some_iff.1 af).1
   obtain⟨u,hu⟩: ∃u,y.ap[i]? =some u:=⟨_,List.getElem?_eq_getElem (by omega)⟩
   rw[oT af hu]at aB
   have d1:(i:Int)<((x.ap.map cd.row).length:Int):=by rw[List.length_map]; omega
   have d2:(i:Int)<((y.ap.map cd.row).length:Int):=by rw[List.length_map]; omega
   have ar:=a03 v.ps u.ps (by have:=ab.hp v (List.mem_of_getElem? af); unfold maxLen; omega)
   have ax:=Tq (ac.bB v.body) v.body u.body (Nat.le_refl _) (by have:=ab.aP v (List.mem_of_getElem? af); omega)
   simp only[qE]at aB
   generalize decide (v.ps=u.ps)=eB at ar aB
   generalize mH v.body u.body=dU at ax aB
   (repeat' first|(apply ae.s rfl;(·simp(disch:=omega)only[go_sem,simprocAttr,d1,d2]<;>with_reducible rfl))|(apply aj.s true true;(·simp(disch:=omega)only[go_sem,simprocAttr,d1,d2]<;>with_reducible rfl))|apply ae.nil|(refine aj.b6 ?_)|(apply ae.eX;(·simp(disch:=omega)only[go_sem,simprocAttr,d1,d2]<;>with_reducible rfl))|(apply ae.eY;(·rfl);(·simp(disch:=omega)only[go_sem,simprocAttr,d1,d2]<;>with_reducible rfl))|(apply ae.gs;(·simp(disch:=omega)only[go_sem,simprocAttr,d1,d2]<;>with_reducible rfl))|((first|apply ae.e3|apply ae.e4|apply ae.e5);(·simp(disch:=omega)only[go_sem,simprocAttr,d1,d2]<;>with_reducible rfl);(·simp(disch:=omega)only[go_sem,simprocAttr,d1,d2]<;>with_reducible rfl);(·assumption);(·omega))|intro h)
   all_goals first
     |(refine D.R ?_
       refine⟨_,rfl,.av ?_ rfl,trivial,trivial⟩
       simp_all [I.av])
     |skip
   refine D.P (ar) ?_
   (repeat' first|refine D.S ?_|refine D.cN true true ?_|refine ae.nil ?_|refine aj.b6 ?_|refine D.W ?_|refine D.Z ?_|refine D.G ?_ ?_|refine D.X ‹_› ?_|refine D.eh ‹_› ?_|refine D.ei ‹_› ?_|intro h)
   all_goals first
     |(refine D.R ?_
       refine⟨_,rfl,.av ?_ rfl,trivial,trivial⟩
       simp_all [I.av])
     |skip
   refine D.P (ax) ?_
   (repeat' first|refine D.S ?_|refine D.cN true true ?_|refine ae.nil ?_|refine aj.b6 ?_|refine D.W ?_|refine D.Z ?_|refine D.G ?_ ?_|refine D.X ‹_› ?_|refine D.eh ‹_› ?_|refine D.ei ‹_› ?_|intro h|refine D.C ?_ ?_)
   ·refine D.r ?_
    refine⟨_,rfl,.av ?_ rfl,trivial,trivial⟩
    simp_all [I.av]
   ·refine aj.gT (i+1) ⟨by omega,?_⟩ ⟨rfl,rfl,rfl,trivial⟩ ⟨rfl,rfl,trivial⟩ trivial rfl (by simp only[fG,fY,dr,dP,dV,fO,I.cR,b2.bJ,dG,dp,of_flat,go_sem]<;>rfl) (by show x.ap.length-(i+1)<x.ap.length-i; omega)
    rw[←aB]
    simp_all
  |none=>
  have cM:=List.getElem?_eq_none_iff.1 af
  have bE:i=x.ap.length:=by omega
  subst bE
  have d1: ¬(x.ap.length:Int)<((x.ap.map cd.row).length:Int):=by rw[List.length_map]; omega
  rw[pJ (Nat.le_refl _) (by omega)]at aB
  subst aB
  clear ai af cM
  (have al:=d1;refine bQ ?_;clear al)
  refine aj.dd (X:=Nat) 0 (fun i=>[(2,.ptr 0 0),(3,.ptr 1 0),(9,.int .i64 (i:Int))]) (fun _=>[(0,35,x.cells),(1,35,y.cells)]) (fun _=>[]) (fun i=>i≤x.os.length∧eL qT (x.os.drop i) (y.os.drop i)=O) (fun i=>x.os.length-i) ⟨Nat.zero_le _,qC⟩ ⟨rfl,rfl,rfl,trivial⟩ ⟨rfl,rfl,trivial⟩ trivial ?_
  rintro i ⟨ai,aB⟩
  try simp only at ai aB ⊢
  cases af:x.os[i]? with
  |some v=>
   have cK:=(List.getElem?_eq_some_iff.1 af).1
   obtain⟨u,hu⟩: ∃u,y.os[i]? =some u:=⟨_,List.getElem?_eq_getElem (by omega)⟩
   rw[oT af hu]at aB
   have d1:(i:Int)<((x.os.map ca.row).length:Int):=by rw[List.length_map]; omega
   have d2:(i:Int)<((y.os.map ca.row).length:Int):=by rw[List.length_map]; omega
   have ar:=PQ (ad.bB v.args) v.args u.args (Nat.le_refl _) (by have:=ab.o6 v (List.mem_of_getElem? af); omega)
   have ax:=PQ (ad.bB v.dT) v.dT u.dT (Nat.le_refl _) (by have:=ab.o6 v (List.mem_of_getElem? af); omega)
   simp only[qT]at aB
   generalize lW v.args u.args=eB at ar aB
   generalize lW v.dT u.dT=dU at ax aB
   (repeat' first|(apply ae.s rfl;(·simp(disch:=omega)only[go_sem,simprocAttr,d1,d2]<;>with_reducible rfl))|(apply aj.s true true;(·simp(disch:=omega)only[go_sem,simprocAttr,d1,d2]<;>with_reducible rfl))|apply ae.nil|(refine aj.b6 ?_)|(apply ae.eX;(·simp(disch:=omega)only[go_sem,simprocAttr,d1,d2]<;>with_reducible rfl))|(apply ae.eY;(·rfl);(·simp(disch:=omega)only[go_sem,simprocAttr,d1,d2]<;>with_reducible rfl))|(apply ae.gs;(·simp(disch:=omega)only[go_sem,simprocAttr,d1,d2]<;>with_reducible rfl))|((first|apply ae.e3|apply ae.e4|apply ae.e5);(·simp(disch:=omega)only[go_sem,simprocAttr,d1,d2]<;>with_reducible rfl);(·simp(disch:=omega)only[go_sem,simprocAttr,d1,d2]<;>with_reducible rfl);(·assumption);(·omega))|intro h)
   all_goals first
     |(refine D.R ?_
       refine⟨_,rfl,.av ?_ rfl,trivial,trivial⟩
       simp_all [I.av])
     |skip
   refine D.P (ar) ?_
   (repeat' first|refine D.S ?_|refine D.cN true true ?_|refine ae.nil ?_|refine aj.b6 ?_|refine D.W ?_|refine D.Z ?_|refine D.G ?_ ?_|refine D.X ‹_› ?_|refine D.eh ‹_› ?_|refine D.ei ‹_› ?_|intro h)
   all_goals first
     |(refine D.R ?_
       refine⟨_,rfl,.av ?_ rfl,trivial,trivial⟩
       simp_all [I.av])
     |skip
   refine D.P (ax) ?_
   (repeat' first|refine D.S ?_|refine D.cN true true ?_|refine ae.nil ?_|refine aj.b6 ?_|refine D.W ?_|refine D.Z ?_|refine D.G ?_ ?_|refine D.X ‹_› ?_|refine D.eh ‹_› ?_|refine D.ei ‹_› ?_|intro h|refine D.C ?_ ?_)
   ·refine D.r ?_
    refine⟨_,rfl,.av ?_ rfl,trivial,trivial⟩
    simp_all [I.av]
   ·refine aj.gT (i+1) ⟨by omega,?_⟩ ⟨rfl,rfl,rfl,trivial⟩ ⟨rfl,rfl,trivial⟩ trivial rfl (by simp only[fG,fY,dr,dP,dV,fO,I.cR,b2.bJ,dG,dp,of_flat,go_sem]<;>rfl) (by show x.os.length-(i+1)<x.os.length-i; omega)
    rw[←aB]
    simp_all
  |none=>
  have cM:=List.getElem?_eq_none_iff.1 af
  have bE:i=x.os.length:=by omega
  subst bE
  have d1: ¬(x.os.length:Int)<((x.os.map ca.row).length:Int):=by rw[List.length_map]; omega
  rw[pJ (Nat.le_refl _) (by omega)]at aB
  subst aB
  clear ai af cM
  (have al:=d1;refine bQ ?_;clear al)
  refine D.r ?_
  refine⟨_,rfl,.av ?_ rfl,trivial,trivial⟩
  simp_all [I.av]
end
section
attribute [local go_sem] ad.ct ac.ct ad.b9 ac.b9 cj eN fZ gJ dp of_flat
attribute [local go_sem] cb.row dG fG mV
def CQ:List (List a7):=[[[124,124]],[[38,38]],[[61,61],[33,61]],[[60],[60,61],[62],[62,61]],[[43],[45]],[[42],[47],[37]]]
def vH (l:List a7):List I:=[.ay 1 (l.map cj)]
theorem ah6 (l:List (List a7)):fP (l.map vH)=true:=qx (fun l=>by simp only[vH,b3,I.flat,eN,Bool.and_self]) l
def KC:List (List a7)→a7→Nat→Int
 |[],_,_=>0
 |l::T,s,i=>if l.contains s=true then (i:Int)+1 else KC T s (i+1)
theorem aV9 (s:a7):KC CQ s 0=cV s:=by
 by_cases J:s=[124,124]
 ·subst J; decide
 by_cases aa:s=[38,38]
 ·subst aa; decide
 by_cases au:s=[61,61]
 ·subst au; decide
 by_cases bn:s=[33,61]
 ·subst bn; decide
 by_cases bL:s=[60]
 ·subst bL; decide
 by_cases cq:s=[60,61]
 ·subst cq; decide
 by_cases j0:s=[62]
 ·subst j0; decide
 by_cases j7:s=[62,61]
 ·subst j7; decide
 by_cases rN:s=[43]
 ·subst rN; decide
 by_cases rM:s=[45]
 ·subst rM; decide
 by_cases ui:s=[42]
 ·subst ui; decide
 by_cases Bb:s=[47]
 ·subst Bb; decide
 by_cases Bc:s=[37]
 ·subst Bc; decide
 simp [CQ,KC,cV,J,aa,au,bn,bL,cq,j0,j7,rN,rM,ui,Bb,Bc]
attribute [local go_sem] vH ah6
theorem N2:CQ.length=6:=rfl
theorem PN (s:a7):Pure Tryz.prog 24 [.str s] (.int .i64 (cV s)):=by
 have R7:=aV9 s
 generalize cV s=R at R7 ⊢
 refine cF bN Tryz.func24 aT8 rfl rfl ?_
 unfold Ke at7
 simp(disch:=omega)only[go_sem,simprocAttr]
 refine ao ?_
 refine aj.dd (X:=Nat) 0 (fun i=>[(0,.str s),(3,.ay 1 (CQ.map vH)),(4,.int .i64 (i:Int))]) (fun _=>[]) (fun _=>[]) (fun i=>i≤6∧KC (CQ.drop i) s i=R) (fun i=>6-i) ⟨by decide,R7⟩ ⟨rfl,rfl,rfl,trivial⟩ trivial trivial ?_
 rintro i ⟨ai,aB⟩
 try simp only at ai aB ⊢
 cases af:CQ[i]? with
 |none=>
  have cM:=List.getElem?_eq_none_iff.1 af
  rw[N2]at cM
  have d1: ¬(i:Int)<((CQ.map vH).length:Int):=by rw[List.length_map,N2]; omega
  rw[List.drop_eq_nil_of_le (by rw[N2]; exact cM)]at aB
  (have al:=d1;refine bQ ?_;clear al)
  refine D.r ?_
  refine⟨_,rfl,.av ?_ rfl,trivial,trivial⟩
  rw[←aB]
  rfl
 |some l=>
 have cK:=(List.getElem?_eq_some_iff.1 af).1
 rw[N2]at cK
 have d1:(i:Int)<((CQ.map vH).length:Int):=by rw[List.length_map,N2]; omega
 have j9:l.length≤4:=by
  have:=List.mem_of_getElem? af
  simp [CQ]at this
  rcases this with rfl|rfl|rfl|rfl|rfl|rfl<;>decide
 rw[iM af]at aB
 simp only[KC]at aB
 (have al:=d1;refine bQ ?_;clear al)
 refine aj.dd (X:=Nat) 0 (fun k=>[(0,.str s),(3,.ay 1 (CQ.map vH)),(4,.int .i64 (i:Int)),(5,.int .i64 (k:Int))]) (fun _=>[]) (fun _=>[]) (fun k=>k≤l.length∧(if (l.drop k).contains s=true then (i:Int)+1 else KC (CQ.drop (i+1)) s (i+1))=R) (fun k=>l.length-k) ⟨Nat.zero_le _,by simpa using aB⟩ ⟨rfl,rfl,rfl,rfl,trivial⟩ trivial trivial ?_
 clear aB R7
 rintro k ⟨aC,aB⟩
 try simp only at aC aB ⊢
 cases hw:l[k]? with
 |none=>
  have cM:=List.getElem?_eq_none_iff.1 hw
  have d2: ¬(k:Int)<((l.map cj).length:Int):=by rw[List.length_map]; omega
  rw[List.drop_eq_nil_of_le cM]at aB
  simp only[List.contains_nil,Bool.false_eq_true,if_false]at aB
  (have al:=d1;have z2:=d2;refine e8 ?_;clear al z2)
  refine aj.dK (i+1) ⟨by omega,aB⟩ ⟨rfl,rfl,by simp only[Int.natCast_add]; rfl,trivial⟩ trivial trivial rfl rfl (by show 6-(i+1)<6-i; omega)
 |some x=>
  have y0:=(List.getElem?_eq_some_iff.1 hw).1
  have d2:(k:Int)<((l.map cj).length:Int):=by rw[List.length_map]; omega
  rw[iM hw]at aB
  by_cases ab:x=s
  ·simp only[List.contains_cons,ab,beq_self_eq_true,Bool.true_or,if_true]at aB
   (have al:=d1;have z2:=d2;have z3:=ab;refine ji ?_;clear al z2 z3)
   refine D.r ?_
   refine⟨_,rfl,.av ?_ rfl,trivial,trivial⟩
   rw[←aB]
   rfl
  ·have hQ:(s==x)=false:=by simpa using fun e:s=x=>ab e.symm
   simp only[List.contains_cons,hQ,Bool.false_or]at aB
   (have al:=d1;have z2:=d2;have z3:=ab;refine ji ?_;clear al z2 z3)
   refine aj.dK (k+1) ⟨by omega,aB⟩ ⟨rfl,rfl,rfl,by simp only[Int.natCast_add]; rfl,trivial⟩ trivial trivial rfl rfl (by show l.length-(k+1)<l.length-k; omega)
theorem ap9 (s:a7):oI (tb s).1:=by
 have aw:oI zH:=⟨fun h hm=>(by cases hm),fun h hm=>(by cases hm),fun o hm=>(by cases hm),Nat.zero_le _,Nat.zero_le _,Nat.zero_le _⟩
 unfold tb
 cases uj:pV s with
 |err p e=>exact aw
 |ok l=>
  obtain⟨_,aH⟩:=MH uj
  simp only[BX]
  cases fV:lo (s.length:Int) (3*l.length+2) l with
  |out=>exact aw
  |err p e=>exact aw
  |ok x r=>
   simp only
   split
   ·exact Oo fV (by omega)
   ·exact aw
end
section
set_option maxRecDepth 1000000
attribute [local go_sem] ad.ct ac.ct ad.b9 ac.b9 cj eN fZ gJ dp of_flat
attribute [local go_sem] cb.row dG fG mV
def Cr:a7:=[115,101,114,118,105,99,101,32,83,32,112,108,97,121,115,32,97,32,111,102,32,80,123,118,97,114,32,110,58,105,110,116,32,48,46,46,57,61,49,59,111,110,32,109,40,120,41,102,114,111,109,32,98,123,110,61,120,59,125,111,102,102,101,114,32,107,40,110,43,49,41,116,111,32,98,32,119,104,101,114,101,32,110,60,53,59,125]
def NU:a7:=[115,101,114,118,105,99,101,32,83,32,112,108,97,121,115,32,97,32,111,102,32,80,32,123,10,9,118,97,114,32,110,58,32,105,110,116,32,48,32,46,46,32,57,32,61,32,49,59,10,9,111,110,32,109,40,120,41,32,102,114,111,109,32,98,32,123,10,9,9,110,32,61,32,120,59,10,9,125,10,9,111,102,102,101,114,32,107,40,110,32,43,32,49,41,32,116,111,32,98,32,119,104,101,114,101,32,110,32,60,32,53,59,10,125,10]
def st:e9:=⟨[83],[97],[80],[⟨[110],1,0,9,1,1,[]⟩],[⟨[109],[98],[[120]],[.mk 1 [110] (.mk 3 [] [120] [] 0 []) 0 [] []]⟩],[⟨[107],[98],[.mk 6 [43] [] [] 0 [.mk 3 [] [110] [] 0 [],.mk 1 [] [] [] 1 []]],[.mk 6 [60] [] [] 0 [.mk 3 [] [110] [] 0 [],.mk 1 [] [] [] 5 []]]⟩]⟩
theorem Oz:tb Cr=(st,0,0):=by kernel_rfl
theorem K4:kJ st=true:=by kernel_rfl
theorem V4:iK st=NU:=by kernel_rfl
theorem R3:oI st:=by
 have:=ap9 Cr
 rw[Oz]at this
 exact this
theorem ak2:st.ok 1000:=by
 refine⟨by decide,by decide,by decide,by decide,?_,by decide,?_,by decide,?_⟩
 ·intro v af
  rw[List.mem_singleton.1 af]
  exact⟨⟨by decide,by decide⟩,rfl,rfl,rfl,rfl,rfl⟩
 ·intro v af
  rw[List.mem_singleton.1 af]
  exact⟨by decide,by decide,by decide,by decide,by decide,⟨rfl,by decide,⟨rfl,by decide,by decide,by decide,rfl,by decide,trivial⟩,rfl,by decide,by decide,trivial,trivial⟩,trivial⟩
 ·intro v af
  rw[List.mem_singleton.1 af]
  exact⟨by decide,by decide,by decide,⟨⟨rfl,by decide,by decide,by decide,rfl,by decide,⟨rfl,by decide,by decide,by decide,rfl,by decide,trivial⟩,⟨rfl,by decide,by decide,by decide,rfl,by decide,trivial⟩,trivial⟩,trivial⟩,by decide,⟨⟨rfl,by decide,by decide,by decide,rfl,by decide,⟨rfl,by decide,by decide,by decide,rfl,by decide,trivial⟩,⟨rfl,by decide,by decide,by decide,rfl,by decide,trivial⟩,trivial⟩,trivial⟩⟩
theorem as6:Pure Tryz.prog 11 [] (.bool true):=by
 have ar:=Fo Cr (by decide)
 have ax:=OY st R3
 have cw:=B5 st R3
 have fq:=aw7 (R:=1000) (by decide) st st ak2
 rw[Oz]at ar
 rw[K4]at cw
 rw[R4]at fq
 unfold xC at ax
 rw[if_pos K4,V4]at ax
 simp only[xA]at ar
 rw[lq]at ar ax cw fq
 simp only[st]at ar ax cw fq
 simp(disch:=omega)only[go_sem,simprocAttr]at ar
 simp(disch:=omega)only[go_sem,simprocAttr]at ax
 simp(disch:=omega)only[go_sem,simprocAttr]at cw
 simp(disch:=omega)only[go_sem,simprocAttr]at fq
 unfold Cr at ar
 unfold NU at ax
 refine cF bN Tryz.func11 Db rfl rfl ?_
 unfold IR Pr
 simp(disch:=omega)only[go_sem,simprocAttr]
 refine ao ?_
 refine D.P (ar) ?_
 refine ao ?_
 refine D.P (ax) ?_
 refine ao ?_
 refine D.P (cw) ?_
 refine ao ?_
 refine D.P (fq) ?_
 refine ao ?_
 exact D.rx
end
end Go.bc.T.N
namespace Go.Proofs.YtjkbgcgljnldeaaGreatDoor
open Go.ChangeShapes Go.WideShapes Go.ChangeAt Go.RowKit
def vF:=Rows.serviceEqualRow.laid
theorem Xa (os:Os) (args:Array Value):laidMetH Tryz.prog vF ((World.laidAll Tryz.prog os vF).forCall (fun _ _=>0) ⟨#[],args,[]⟩).memory:=by
 rw[MakeChecks.laidMetH_plain _ _ _ (by kernel_rfl)]
 exact laidMet_laidAll _ (by kernel_rfl) (by kernel_rfl)
section
variable {H:Type}{enc:TypeId×Value→H}
theorem Hx {a:Assume}{C:Checked}{os:Os}{f:FuncId}{fn:Func}{s:ChangeSpec}{conds:List PathCond}{apart fresh handsOn again:Bool}{X:World→Array Value→Prop}
  (uj: ∀(w w':World) (args:Array Value),w.heap=w'.heap→X w args→X w' args)
  (own:ownKnob C.prog.godebug=none) (started:os.Started) (aj3:C.prog.inits.idxOf? f=none) (xi:C.prog.funcs[f]? =some fn)
  (witness: ∃(w:World) (tape:Tape) (i:Input),w.os=os∧(w.forCall tape i).Shaped C.prog∧i.vars=[]∧Input.okWide C.prog (w.forCall tape i) .any w.heap.size f i∧
   ((s.pre enc C.prog fn conds apart (w.forCall tape i).memory i.args∧X (w.forCall tape i).memory i.args)∧sizedMet enc C.prog fn (OpenSpec.ofChange s) apart (w.forCall tape i).memory i.args)∧a.holds C.prog (lone (Frame.enter C.prog f i.args .normal) [] (w.forCall tape i)))
  (contract: ∀(W:World) (base:Nat) (args:Array Value) (iZ gs:List (DataW H)) (before:List MemPlace),
   (∀(j:Nat) t v,fn.params[j]? =some t→args[j]? =some v→Value.okWide C.prog W .any base t v)→
   DataW.Whole enc C.prog fn.params.toList s.vars apart W args.toList iZ gs before→
   (DataW.weightsEach C.prog (fn.params.toList++s.plain.varTypes C.prog) (iZ++gs)).all (·≤reachBytes)=true→
   X W args→W.ShapedOpen C.prog→
   Calls C.prog f args W fun e CV=> ∃v,e= .returned v∧s.post enc C.prog fn apart fresh handsOn again W args v CV):
  ReturnsInHanded a C os f .any (fun w args=>(s.pre enc C.prog fn conds apart w args∧X w args)∧sizedMet enc C.prog fn (OpenSpec.ofChange s) apart w args) (s.post enc C.prog fn apart fresh handsOn again):=by
 refine returnsInHanded_of_calls own started aj3 witness ?_
 intro w tape i _ Ev _ iy xm _
 obtain⟨_,_,_,XV,Za,_,_,_,_,Bz⟩:=iy
 obtain rfl:XV=fn:=Option.some.inj (Za.symm.trans xi)
 obtain⟨⟨⟨iZ,gs,before,hw,_⟩,ab⟩,aB⟩:=xm
 have Ey:=DataW.Whole.of_heap (w':=w.forCall tape i) (by rfl) hw
 refine (contract (w.forCall tape i) w.heap.size i.args iZ gs before Bz Ey (aB.weights hw) (uj _ _ _ (by rfl) ab) Ev).mono fun e CV ⟨v,he,hp⟩=> ?_
 subst he
 exact ChangeSpec.post_blind hp
end
theorem A8:Tryz.prog.globalNamed "internal/strconv.uint64pow10" =some 1:=by kernel_rfl
theorem X2:(Tryz.prog.globals[1]?).map (·.type)=some 261:=by kernel_rfl
theorem Wh:Tryz.prog.cellsOf 261=20:=by kernel_rfl
theorem Wg:Tryz.prog.cellsOf 249=1:=by kernel_rfl
theorem aD1:(((begin Tryz.prog (fun _ _=>0) default).world.heap[1]?).bind Obj.row?).map (·.2)=some 261:=by kernel_rfl
theorem Yi:1<Tryz.prog.globals.size:=of_decide_eq_true (by kernel_rfl)
theorem TL {W:World}{g t:Nat}(ap:W.ShapedOpen Tryz.prog) (aY:g<Tryz.prog.globals.size) (h:(((begin Tryz.prog (fun _ _=>0) default).world.heap[g]?).bind Obj.row?).map (·.2)=some t){name:String}(a6:Tryz.prog.globalNamed name=some g){cs:Array Value}(af:W.var? Tryz.prog name=some cs):W.heap[g]? =some (.cells cs t (0,0)):=by
 obtain⟨⟨zero,dx⟩,J,aa⟩:=Option.map_eq_some_iff.1 h
 simp only at aa
 subst aa
 obtain⟨c3,au,_⟩:=ap.1 g zero dx aY J
 unfold World.var? at af
 rw[a6]at af
 simp only[Option.bind_some,au,Option.some.injEq]at af
 rw[au,af]
theorem X6 {W:World}(ap:W.ShapedOpen Tryz.prog) (h:laidMetH Tryz.prog vF W):Go.bc.nv W:=by
 rw[MakeChecks.laidMetH_plain _ _ _ (by kernel_rfl)]at h
 have aa:laidMet Tryz.prog (("internal/strconv.uint64pow10",Lib.tabData .u64 Lib.pow10Tab)::[("unicode/utf8.acceptRanges",Rows.laid_unicode_utf8_acceptRanges),("unicode/utf8.first",Rows.laid_unicode_utf8_first)]) W:=h.tail.tail
 have v3:Lib.TabIs Tryz.prog W "internal/strconv.uint64pow10" .u64 Lib.pow10Tab:=Lib.tabIs_of_head A8 X2 Tryz.underlying261 Tryz.underlying249 Wg Wh aa
 have jj:=TL ap Yi aD1 A8 v3
 intro p hp
 simp only[Go.bc.yH,List.mem_cons,List.not_mem_nil,or_false]at hp
 subst hp
 exact⟨_,jj,261,_,rfl⟩
end Go.Proofs.YtjkbgcgljnldeaaGreatDoor
namespace Go.bc
open Go Go.bc.T.N
def lone (c:UInt8):Bool:=c==40||c==41||c==123||c==125||c==44||c==59||c==58
theorem zF (s:a7):iS s≠[]:=by
 cases s with
 |nil=>simp [iS]
 |cons c s=>
  simp only[iS]
  split
  ·simp
  ·split<;>simp
def nr (z:Int):bH:=if z<0 then[cy [45],kr (-z)] else[kr z]
def tr (k n:Int) (s:a7):bH:=if k=2 then[p6 s] else nr n
def q4 (v:cb):bH:=dH [118,97,114]::dH v.name::cy [58]::dH (if v.hV=2 then[116,101,120,116] else[105,110,116])::(nr v.cz++cy [46,46]::(nr v.ai++cy [61]::(tr v.ik v.n v.s++[cy [59]])))
end Go.bc
namespace Go.bc
open Go Go.bc.T.N
inductive hJ where
 |h (x:cd)
 |o (x:ca)
end Go.bc
namespace Go.bc.T.N
open Go Go.bc Go.Proofs Go.RowKit
set_option maxRecDepth 100000
attribute [local irreducible] Go.bc.aj Go.bc.ae Go.bc.bz
section
attribute [local go_sem] ad.ct ac.ct ad.b9 ac.b9 cj eN
theorem OR (z:Int):Pure Tryz.prog 139 [.int .u8 z] (.bool (xr z)):=by
 refine cF bN Tryz.func139 Uq rfl rfl ?_
 unfold Jh PR
 simp(disch:=omega)only[go_sem,simprocAttr]
 (repeat' first|refine D.S ?_|refine D.cN true true ?_|refine ae.nil ?_|refine aj.b6 ?_|refine D.W ?_|refine D.Z ?_|refine D.G ?_ ?_|refine D.X ‹_› ?_|refine D.eh ‹_› ?_|refine D.ei ‹_› ?_|intro h|refine D.C ?_ ?_)
 all_goals (refine D.R ?_)
 all_goals (refine⟨_,rfl,.av ?_ rfl,trivial,trivial⟩; simp_all [xr,I.av]<;>(try omega))
theorem au2 (z:Int):Pure Tryz.prog 141 [.int .u8 z] (.bool (vc z)):=by
 refine cF bN Tryz.func141 Ut rfl rfl ?_
 unfold Jj PU
 simp(disch:=omega)only[go_sem,simprocAttr]
 (repeat' first|refine D.S ?_|refine D.cN true true ?_|refine ae.nil ?_|refine aj.b6 ?_|refine D.W ?_|refine D.Z ?_|refine D.G ?_ ?_|refine D.X ‹_› ?_|refine D.eh ‹_› ?_|refine D.ei ‹_› ?_|intro h|refine D.C ?_ ?_)
 all_goals (refine D.R ?_)
 all_goals (refine⟨_,rfl,.av ?_ rfl,trivial,trivial⟩; simp_all [vc,I.av]<;>(try omega))
theorem au1 (z:Int):Pure Tryz.prog 140 [.int .u8 z] (.bool (uu z)):=by
 refine cF bN Tryz.func140 Us rfl rfl ?_
 unfold Ji PT
 simp(disch:=omega)only[go_sem,simprocAttr]
 refine ao ?_
 refine D.P (OR z) ?_
 (repeat' first|refine D.S ?_|refine D.cN true true ?_|refine ae.nil ?_|refine aj.b6 ?_|refine D.W ?_|refine D.Z ?_|refine D.G ?_ ?_|refine D.X ‹_› ?_|refine D.eh ‹_› ?_|refine D.ei ‹_› ?_|intro h|refine D.C ?_ ?_)
 ·refine D.r ?_
  refine⟨_,rfl,.av ?_ rfl,trivial,trivial⟩
  simp_all [uu,I.av]
 refine D.P (au2 z) ?_
 (repeat' first|refine D.S ?_|refine D.cN true true ?_|refine ae.nil ?_|refine aj.b6 ?_|refine D.W ?_|refine D.Z ?_|refine D.G ?_ ?_|refine D.X ‹_› ?_|refine D.eh ‹_› ?_|refine D.ei ‹_› ?_|intro h|refine D.C ?_ ?_)
 all_goals (refine D.R ?_)
 all_goals (refine⟨_,rfl,.av ?_ rfl,trivial,trivial⟩; simp_all [uu,I.av]<;>(try omega))
theorem at6 (l:List a7) (s:a7) (aH:l.length≤1000000000):Pure Tryz.prog 133 [.ay 1 (l.map cj),.str s] (.bool (l.contains s)):=by
 refine cF bN Tryz.func133 Uk (by simp only[b3,I.flat,eN,Bool.and_self]) rfl ?_
 unfold Jb PL
 simp(disch:=omega)only[go_sem,simprocAttr]
 refine ao ?_
 refine aj.dd (X:=Nat) 0 (fun i=>[(0,.ay 1 (l.map cj)),(1,.str s),(5,.int .i64 (i:Int))]) (fun _=>[]) (fun _=>[]) (fun i=>i≤l.length∧(l.drop i).contains s=l.contains s) (fun i=>l.length-i) ⟨Nat.zero_le _,rfl⟩ ⟨rfl,rfl,rfl,trivial⟩ trivial trivial ?_
 rintro i ⟨ai,aB⟩
 try simp only at ai aB ⊢
 cases af:l[i]? with
 |some v=>
  have cK:=(List.getElem?_eq_some_iff.1 af).1
  have d1:(i:Int)<((l.map cj).length:Int):=by rw[List.length_map]; omega
  rw[iM af]at aB
  by_cases ab:v=s
  ·simp only[List.contains_cons,ab,beq_self_eq_true,Bool.true_or]at aB
   (have al:=d1;have z2:=ab;refine e8 ?_;clear al z2)
   refine D.r ?_
   exact⟨_,rfl,.av (by rw[←aB]; rfl) rfl,trivial,trivial⟩
  ·have hQ:(s==v)=false:=by simpa using fun e:s=v=>ab e.symm
   simp only[List.contains_cons,hQ,Bool.false_or]at aB
   (have al:=d1;have z2:=ab;refine e8 ?_;clear al z2)
   refine aj.dK (i+1) ⟨by omega,aB⟩ ⟨rfl,rfl,by simp only[Int.natCast_add]; rfl,trivial⟩ trivial trivial rfl rfl (by show l.length-(i+1)<l.length-i; omega)
 |none=>
  have cM:=List.getElem?_eq_none_iff.1 af
  have bE:i=l.length:=by omega
  subst bE
  have d1: ¬(l.length:Int)<((l.map cj).length:Int):=by rw[List.length_map]; omega
  rw[List.drop_length]at aB
  (have al:=d1;refine bQ ?_;clear al)
  refine D.r ?_
  exact⟨_,rfl,.av (by rw[←aB]; rfl) rfl,trivial,trivial⟩
theorem aZ4:Pure Tryz.prog 134 [] (.ay 1 (r2.map cj)):=by
 refine cF bN Tryz.func134 aR3 rfl rfl ?_
 unfold Vy ap6
 simp(disch:=omega)only[go_sem,simprocAttr]
 refine ao ?_
 exact D.rx
theorem aZ3 (s:a7):Pure Tryz.prog 132 [.str s] (.bool (mx s)):=by
 cases s with
 |nil=>
  refine cF bN Tryz.func132 Vf rfl rfl ?_
  unfold Q0 TA
  simp(disch:=omega)only[go_sem,simprocAttr]
  refine ao ?_
  exact D.rx
 |cons c s=>
 have bW:mx (c::s)=(decide ((c::s).length≤16)&&(l1 c&&(c::s).all iO)):=rfl
 have aw:(c::s)[0]? =some c:=rfl
 have dw: ¬(c::s)=[]:=by simp
 have yz:Pure Tryz.prog 139 [.int .u8 (c.toNat:Int)] (.bool (l1 c)):=OR _
 generalize c::s=S at bW aw dw
 rw[bW]
 refine cF bN Tryz.func132 Vf rfl rfl ?_
 unfold Q0 TA
 simp(disch:=omega)only[go_sem,simprocAttr]
 (have al:=dw;refine bQ ?_;clear al)
 refine D.P (yz) ?_
 cases ek:l1 c
 ·refine ao ?_
  refine D.r ?_
  exact⟨_,rfl,.av (by simp [I.av]) rfl,trivial,trivial⟩
 by_cases aH:S.length≤16
 rotate_left
 ·have d1:(16:Int)<(S.length:Int):=by omega
  (have al:=d1;refine bQ ?_;clear al)
  refine D.r ?_
  exact⟨_,rfl,.av (by simp [I.av,aH]) rfl,trivial,trivial⟩
 have d1: ¬(16:Int)<(S.length:Int):=by omega
 simp only[decide_eq_true aH,Bool.true_and]
 (have al:=d1;refine bQ ?_;clear al)
 refine aj.dd (X:=Nat) 0 (fun i=>[(0,.str S),(3,.int .i64 (i:Int))]) (fun _=>[]) (fun _=>[]) (fun i=>i≤S.length∧(S.drop i).all iO=S.all iO) (fun i=>S.length-i) ⟨Nat.zero_le _,rfl⟩ ⟨rfl,rfl,trivial⟩ trivial trivial ?_
 rintro i ⟨ai,aB⟩
 try simp only at ai aB ⊢
 cases af:S[i]? with
 |some v=>
  have cK:=(List.getElem?_eq_some_iff.1 af).1
  have d2:(i:Int)<(S.length:Int):=by omega
  have O2:Pure Tryz.prog 140 [.int .u8 (v.toNat:Int)] (.bool (iO v)):=au1 _
  rw[iM af]at aB
  simp only[List.all_cons]at aB
  cases w8:iO v
  ·rw[w8]at aB O2
   (have al:=d2;refine bQ ?_;clear al)
   refine D.P (O2) ?_
   refine ao ?_
   refine D.r ?_
   exact⟨_,rfl,.av (by rw[←aB]; rfl) rfl,trivial,trivial⟩
  ·rw[w8]at aB O2
   (have al:=d2;refine bQ ?_;clear al)
   refine D.P (O2) ?_
   refine ao ?_
   refine aj.dK (i+1) ⟨by omega,by simpa using aB⟩ ⟨rfl,by simp only[Int.natCast_add]; rfl,trivial⟩ trivial trivial rfl rfl (by show S.length-(i+1)<S.length-i; omega)
 |none=>
  have cM:=List.getElem?_eq_none_iff.1 af
  have bE:i=S.length:=by omega
  subst bE
  have d2: ¬(S.length:Int)<(S.length:Int):=by omega
  rw[List.drop_length]at aB
  (have al:=d2;refine bQ ?_;clear al)
  refine D.r ?_
  exact⟨_,rfl,.av (by rw[←aB]; rfl) rfl,trivial,trivial⟩
theorem C9 (s:a7):Pure Tryz.prog 58 [.str s] (.bool (db s)):=by
 have ar:=aZ3 s
 have ax:=at6 r2 s (by decide)
 have fq:=aZ4
 unfold db
 generalize mx s=eB at*
 generalize r2.contains s=dU at*
 refine cF bN Tryz.func58 aU6 rfl rfl ?_
 unfold JD ax5
 simp(disch:=omega)only[go_sem,simprocAttr]
 refine ao ?_
 refine D.P (ar) ?_
 cases eB
 ·refine ao ?_
  exact D.rx
 refine ao ?_
 refine D.P (fq) ?_
 refine ao ?_
 refine D.P (ax) ?_
 refine ao ?_
 exact D.rx
theorem aZ5 (s:a7):Pure Tryz.prog 136 [.str s] (.bool (db s)):=by
 refine cF bN Tryz.func136 aS9 rfl rfl ?_
 unfold VA aq0
 simp(disch:=omega)only[go_sem,simprocAttr]
 refine ao ?_
 refine D.P (C9 s) ?_
 refine ao ?_
 exact D.rx
theorem a15: ∀ {u:a7}(v:a7),46∉u→iS (u++v)=(match iS v with
  |w::ws=>(u++w)::ws
  |[]=>[])
 |[],v,_=>by
  have:=zF v
  cases ap:iS v with
  |nil=>exact absurd ap this
  |cons w ws=>simp [ap]
 |c::u,v,h=>by
  simp only[List.mem_cons,not_or]at h
  have cv:=a15 (u:=u) v h.2
  rw[List.cons_append,iS,if_neg (fun e=>h.1 e.symm),cv]
  have:=zF v
  cases ap:iS v with
  |nil=>exact absurd ap this
  |cons w ws=>rfl
theorem ao1 (s:a7) (ap:s.length≤1000000000000000):Pure Tryz.prog 60 [.str s] (.bool (kR s)):=by
 obtain⟨R,an⟩: ∃R,R=(iS s).all db:=⟨_,rfl⟩
 have CG:kR s=(decide (s.length≤50)&&R):=by rw[kR,Ga,an]
 rw[CG]
 refine cF bN Tryz.func60 aU8 rfl rfl ?_
 unfold XQ ay5
 simp(disch:=omega)only[go_sem,simprocAttr]
 refine ao ?_
 refine aj.dd (X:=Nat×Nat) (0,0) (fun x=>[(0,.str s),(4,.int .i64 (x.1:Int)),(3,.int .i64 (x.2:Int))]) (fun _=>[]) (fun _=>[]) (fun x=>(x.1≤s.length∧x.2≤x.1∧46∉(s.take x.1).drop x.2∧R=(iS (s.drop x.2)).all db)∨(x.1=s.length+1∧R=true)) (fun x=>s.length+1-x.1) (.inl ⟨Nat.zero_le _,Nat.le_refl _,by simp,by simpa using an⟩) ⟨rfl,rfl,rfl,trivial⟩ trivial trivial ?_
 rintro⟨i,f⟩ h
 simp only at h ⊢
 rcases h with ⟨ai,aW,a6,aB⟩|⟨rfl,aB⟩
 rotate_left
 ·have d1: ¬((s.length:Int)+1≤(s.length:Int)):=by omega
  (repeat' first|(apply ae.s rfl;(·simp(disch:=omega)only[go_sem,simprocAttr,Int.natCast_add,d1]<;>with_reducible rfl))|(apply aj.s true true;(·simp(disch:=omega)only[go_sem,simprocAttr,Int.natCast_add,d1]<;>with_reducible rfl))|apply ae.nil|(refine aj.b6 ?_)|(apply ae.eX;(·simp(disch:=omega)only[go_sem,simprocAttr,Int.natCast_add,d1]<;>with_reducible rfl))|(apply ae.eY;(·rfl);(·simp(disch:=omega)only[go_sem,simprocAttr,Int.natCast_add,d1]<;>with_reducible rfl))|(apply ae.gs;(·simp(disch:=omega)only[go_sem,simprocAttr,Int.natCast_add,d1]<;>with_reducible rfl))|((first|apply ae.e3|apply ae.e4|apply ae.e5);(·simp(disch:=omega)only[go_sem,simprocAttr,Int.natCast_add,d1]<;>with_reducible rfl);(·simp(disch:=omega)only[go_sem,simprocAttr,Int.natCast_add,d1]<;>with_reducible rfl);(·assumption);(·omega))|intro h)
  refine D.r ?_
  refine⟨_,rfl,.av ?_ rfl,trivial,trivial⟩
  rw[aB]
  simp only[I.av,Bool.and_true,I.bool.injEq]
  exact decide_eq_decide.2 (by omega)
 have d1:(i:Int)≤(s.length:Int):=by omega
 have gi:s.drop f=(s.take i).drop f++s.drop i:=by
  conv=>lhs; rw[←List.take_append_drop i s]
  rw[List.drop_append_of_le_length (by rw[List.length_take]; omega)]
 obtain⟨u,hu⟩: ∃u,u=(s.take i).drop f:=⟨_,rfl⟩
 rw[←hu]at a6 gi
 have YC:=aZ5 u
 by_cases he:i=s.length
 ·subst he
  have d1:(s.length:Int)≤(s.length:Int):=by omega
  have El:s.drop s.length=[]:=List.drop_eq_nil_of_le (by omega)
  rw[El,List.append_nil]at gi
  rw[gi,F9 a6]at aB
  simp only[List.all_cons,List.all_nil,Bool.and_true]at aB
  (have al:=d1;refine bQ ?_;clear al)
  (apply ae.uM (f) (s.length);(·simp(disch:=omega)only[go_sem,simprocAttr]<;>with_reducible rfl);(·simp(disch:=omega)only[go_sem,simprocAttr]<;>with_reducible rfl);(·simp(disch:=omega)only[go_sem,simprocAttr]<;>with_reducible rfl);(·omega);(·omega);(·omega);(·(try simp only[List.length_map]);omega))
  rw[←hu]
  refine ao ?_
  refine D.P (YC) ?_
  rw[←aB]
  cases R
  ·refine ao ?_
   refine D.r ?_
   exact⟨_,rfl,.av (by simp [I.av]) rfl,trivial,trivial⟩
  ·refine ao ?_
   refine aj.dK (s.length+1,s.length+1) (by first|exact .inr ⟨rfl,rfl⟩|exact .inr rfl) ⟨rfl,by simp only[Int.natCast_add]; rfl,by simp only[Int.natCast_add]; rfl,trivial⟩ trivial trivial rfl rfl (by show s.length+1-(s.length+1)<s.length+1-s.length; omega)
 have cK:i<s.length:=by omega
 have d2: ¬(i:Int)=(s.length:Int):=by omega
 obtain⟨c,ah⟩: ∃c,s[i]? =some c:=⟨_,List.getElem?_eq_getElem cK⟩
 have YX:=iM ah
 rw[YX]at gi
 have kM:(s.take (i+1)).drop f=u++[c]:=by
  rw[List.take_add_one,ah,List.drop_append_of_le_length (by rw[List.length_take]; omega),←hu]
  rfl
 by_cases Zu:c.toNat=46
 ·have aW7:c=46:=UInt8.toNat_inj.1 Zu
  subst aW7
  rw[gi,F8 _ a6]at aB
  simp only[List.all_cons]at aB
  (have al:=d1;have z2:=d2;refine e8 ?_;clear al z2)
  (apply ae.uM (f) (i);(·simp(disch:=omega)only[go_sem,simprocAttr]<;>with_reducible rfl);(·simp(disch:=omega)only[go_sem,simprocAttr]<;>with_reducible rfl);(·simp(disch:=omega)only[go_sem,simprocAttr]<;>with_reducible rfl);(·omega);(·omega);(·omega);(·(try simp only[List.length_map]);omega))
  rw[←hu]
  refine ao ?_
  refine D.P (YC) ?_
  cases hw:db u
  ·rw[hw]at aB
   refine ao ?_
   refine D.r ?_
   exact⟨_,rfl,.av (by rw[aB]; simp [I.av]) rfl,trivial,trivial⟩
  ·rw[hw]at aB
   refine ao ?_
   refine aj.dK (i+1,i+1) (.inl ⟨by omega,Nat.le_refl _,by simp,by simpa using aB⟩) ⟨rfl,by simp only[Int.natCast_add]; rfl,by simp only[Int.natCast_add]; rfl,trivial⟩ trivial trivial rfl rfl (by show s.length+1-(i+1)<s.length+1-i; omega)
 ·have d3: ¬(c.toNat:Int)=46:=by omega
  (have al:=d1;have z2:=d2;have z3:=d3;refine ji ?_;clear al z2 z3)
  refine aj.dK (i+1,f) (.inl ⟨by omega,by omega,?_,aB⟩) ⟨rfl,by simp only[Int.natCast_add]; rfl,rfl,trivial⟩ trivial trivial rfl rfl (by show s.length+1-(i+1)<s.length+1-i; omega)
  simp only[kM,List.mem_append,List.mem_singleton,not_or]
  exact⟨a6,fun e=>Zu (by rw[←e]; rfl)⟩
theorem aZ7 (s:a7) (ap:s.length≤1000000000):Pure Tryz.prog 185 [.str s] (.bool (s.all eo)):=by
 refine cF bN Tryz.func185 aT6 rfl rfl ?_
 unfold Wa at4
 simp(disch:=omega)only[go_sem,simprocAttr]
 refine ao ?_
 refine aj.dd (X:=Nat) 0 (fun i=>[(0,.str s),(3,.int .i64 (i:Int))]) (fun _=>[]) (fun _=>[]) (fun i=>i≤s.length∧(s.drop i).all eo=s.all eo) (fun i=>s.length-i) ⟨Nat.zero_le _,rfl⟩ ⟨rfl,rfl,trivial⟩ trivial trivial ?_
 rintro i ⟨ai,aB⟩
 try simp only at ai aB ⊢
 cases af:s[i]? with
 |some v=>
  have cK:=(List.getElem?_eq_some_iff.1 af).1
  have d1:(i:Int)<(s.length:Int):=by omega
  rw[iM af]at aB
  simp only[List.all_cons]at aB
  by_cases J:v.toNat<32
  ·have d2:(v.toNat:Int)<32:=by omega
   have aq:eo v=false:=by simp [eo]; omega
   rw[aq]at aB
   (have al:=d1;have z2:=d2;refine e8 ?_;clear al z2)
   refine D.r ?_
   exact⟨_,rfl,.av (by rw[←aB]; rfl) rfl,trivial,trivial⟩
  have d2: ¬(v.toNat:Int)<32:=by omega
  by_cases aa:126<v.toNat
  ·have d3:(126:Int)<(v.toNat:Int):=by omega
   have aq:eo v=false:=by simp [eo]; omega
   rw[aq]at aB
   (have al:=d1;have z2:=d2;have z3:=d3;refine ji ?_;clear al z2 z3)
   refine D.r ?_
   exact⟨_,rfl,.av (by rw[←aB]; rfl) rfl,trivial,trivial⟩
  ·have d3: ¬(126:Int)<(v.toNat:Int):=by omega
   have aq:eo v=true:=by simp [eo]; omega
   rw[aq,Bool.true_and]at aB
   (have al:=d1;have z2:=d2;have z3:=d3;refine ji ?_;clear al z2 z3)
   refine aj.dK (i+1) ⟨by omega,aB⟩ ⟨rfl,by simp only[Int.natCast_add]; rfl,trivial⟩ trivial trivial rfl rfl (by show s.length-(i+1)<s.length-i; omega)
 |none=>
  have cM:=List.getElem?_eq_none_iff.1 af
  have bE:i=s.length:=by omega
  subst bE
  have d1: ¬(s.length:Int)<(s.length:Int):=by omega
  rw[List.drop_length]at aB
  (have al:=d1;refine bQ ?_;clear al)
  refine D.r ?_
  exact⟨_,rfl,.av (by rw[←aB]; rfl) rfl,trivial,trivial⟩
def E3 (k n:Int) (s:a7):Bool:=if k=1 then decide (-1000≤n)&&(decide (n≤1000)&&decide (s=[])) else if k=2 then decide (n=0)&&lM s else false
theorem an9 (k n:Int) (s:a7):Pure Tryz.prog 135 [.agg [.int .i64 k,.int .i64 n,.str s]] (.bool (E3 k n s)):=by
 have e:s.length≤40→Pure Tryz.prog 185 [.str s] (.bool (s.all eo)):=fun h=>aZ7 s (by omega)
 unfold E3 lM
 generalize s.all eo=b at*
 refine cF bN Tryz.func135 aS8 rfl rfl ?_
 unfold Vz ap8
 simp(disch:=omega)only[go_sem,simprocAttr]
 by_cases bC:k=1
 ·subst bC
  by_cases J: -1000≤n
  rotate_left
  ·(have al:=J;refine bQ ?_;clear al)
   refine D.r ?_
   exact⟨_,rfl,.av (by simp [I.av,J]) rfl,trivial,trivial⟩
  by_cases aa:n≤1000
  rotate_left
  ·(have al:=J;have z2:=aa;refine e8 ?_;clear al z2)
   refine D.r ?_
   exact⟨_,rfl,.av (by simp [I.av,aa]) rfl,trivial,trivial⟩
  (have al:=J;have z2:=aa;refine e8 ?_;clear al z2)
  refine D.r ?_
  exact⟨_,rfl,.av (by simp [I.av,J,aa]) rfl,trivial,trivial⟩
 by_cases bA:k=2
 ·subst bA
  by_cases J:n=0
  rotate_left
  ·(have al:=J;refine bQ ?_;clear al)
   refine D.r ?_
   exact⟨_,rfl,.av (by simp [I.av,J]) rfl,trivial,trivial⟩
  by_cases aa:s.length≤40
  rotate_left
  ·have d2: ¬(s.length:Int)≤40:=by omega
   (have al:=J;have z2:=d2;refine e8 ?_;clear al z2)
   refine D.r ?_
   exact⟨_,rfl,.av (by simp [I.av,aa]) rfl,trivial,trivial⟩
  have d2:(s.length:Int)≤40:=by omega
  (have al:=J;have z2:=d2;refine e8 ?_;clear al z2)
  refine D.P (e aa) ?_
  refine ao ?_
  refine D.r ?_
  exact⟨_,rfl,.av (by simp [I.av,J,aa]) rfl,trivial,trivial⟩
 (have al:=bC;have z2:=bA;refine e8 ?_;clear al z2)
 refine D.r ?_
 exact⟨_,rfl,.av (by simp [I.av,bC,bA]) rfl,trivial,trivial⟩
end
section
attribute [local go_sem] ad.ct ad.b9 ad.de ac.ct ac.b9 ac.de cj eN fZ gJ dp of_flat
theorem Xq:(List.range 10).all (fun d=>(Utf8.encode (48+(d:Int))).data.toList==[UInt8.ofNat (48+d)])=true:=by kernel_rfl
theorem Xs {d:Nat}(h:d<10):(Utf8.encode (48+(d:Int))).data.toList=[UInt8.ofNat (48+d)]:=by
 have:=List.all_eq_true.1 Xq d (List.mem_range.2 h)
 simpa only[beq_iff_eq] using this
theorem aX3 {n:Nat}(h:n<10):Lib.itoa (n:Int)=[UInt8.ofNat (48+n)]:=by
 unfold Lib.itoa
 rw[if_neg (by omega),Int.toNat_natCast,wK h]
theorem aX2 {n:Nat}(h: ¬n<10):Lib.itoa (n:Int)=Lib.itoa ((n/10:Nat):Int)++[UInt8.ofNat (48+n%10)]:=by
 unfold Lib.itoa
 rw[if_neg (by omega),if_neg (by omega),Int.toNat_natCast,Int.toNat_natCast,yw h]
theorem ak0 {n:Nat}(h:1≤n):Lib.itoa (-(n:Int))=45::Lib.decDigits n:=by
 unfold Lib.itoa
 rw[if_pos (by omega)]
 simp
theorem aJ5 (m:Nat):(-(m:Int)).tdiv 10= -((m/10:Nat):Int):=by rw[Int.neg_tdiv]; rfl
theorem ma (m:Nat):(-(m:Int)).tmod 10= -((m%10:Nat):Int):=by rw[Int.neg_tmod]; rfl
theorem aJ6 (m:Nat):(m:Int).tdiv 10=((m/10:Nat):Int):=rfl
theorem aJ7 (m:Nat):(m:Int).tmod 10=((m%10:Nat):Int):=rfl
theorem aM4 {d:Int}(aw:0≤d) (J:d<10):IntKind.i32.wrap (48+d)=48+d:=by
 simp only[IntKind.wrap,IntKind.bits,IntKind.signed]
 simp
 omega
attribute [local go_sem] aM4 Xs Int.sub_neg aJ5 ma aJ6 aJ7
theorem a07: ∀n:Nat,n≤1000000000→Pure Tryz.prog 75 [.int .i64 (n:Int)] (.str (Lib.itoa (n:Int))):=by
 intro n
 induction n using Nat.strongRecOn with
 |ind n cv=>
 intro a6
 have J: ¬(n:Int)< -9:=by omega
 have aa: ¬(n:Int)<0:=by omega
 refine cF bN Tryz.func75 Vs rfl rfl ?_
 unfold Re Um
 simp(disch:=omega)only[go_sem,simprocAttr]
 by_cases rM:n<10
 ·have au:(n:Int)<10:=by omega
  rw[aX3 rM]
  (have al:=J;have z2:=aa;have z3:=au;refine ji ?_;clear al z2 z3)
  exact D.rx
 ·have au: ¬(n:Int)<10:=by omega
  have e:=cv (n/10) (by omega) (by omega)
  have aH:=Lib.itoa_length_le ((n/10:Nat):Int) (by omega) (by omega)
  rw[aX2 rM]
  generalize Lib.itoa ((n/10:Nat):Int)=s at*
  (have al:=J;have z2:=aa;have z3:=au;refine ji ?_;clear al z2 z3)
  refine D.P (e) ?_
  refine ao ?_
  refine D.bR ?_
  refine ao ?_
  exact D.rx
theorem a06: ∀n:Nat,1≤n→n≤1000000000→Pure Tryz.prog 75 [.int .i64 (-(n:Int))] (.str (Lib.itoa (-(n:Int)))):=by
 intro n
 induction n using Nat.strongRecOn with
 |ind n cv=>
 intro hp a6
 rw[ak0 hp]
 refine cF bN Tryz.func75 Vs rfl rfl ?_
 unfold Re Um
 simp(disch:=omega)only[go_sem,simprocAttr]
 by_cases rM:n<10
 ·have J: ¬ -(n:Int)< -9:=by omega
  have aa: -(n:Int)<0:=by omega
  rw[wK rM]
  (have al:=J;have z2:=aa;refine e8 ?_;clear al z2)
  refine D.bR ?_
  refine ao ?_
  exact D.rx
 ·have J: -(n:Int)< -9:=by omega
  have e:=cv (n/10) (by omega) (by omega) (by omega)
  have aH:=Lib.itoa_length_le (-((n/10:Nat):Int)) (by omega) (by omega)
  rw[ak0 (by omega)]at aH e
  rw[yw rM]
  generalize Lib.decDigits (n/10)=s at*
  (have al:=J;refine bQ ?_;clear al)
  refine D.P (e) ?_
  refine ao ?_
  simp only[List.length_cons]at aH
  refine D.bR ?_
  refine ao ?_
  exact D.rx
theorem N8 (n:Int) (aw: -1000000000≤n) (J:n≤1000000000):Pure Tryz.prog 75 [.int .i64 n] (.str (Lib.itoa n)):=by
 by_cases h:0≤n
 ·obtain⟨m,rfl⟩:=Int.eq_ofNat_of_zero_le h
  exact a07 m (by omega)
 ·obtain⟨m,hm⟩:=Int.eq_ofNat_of_zero_le (a:= -n) (by omega)
  have:n= -(m:Int):=by omega
  subst this
  exact a06 m (by omega) (by omega)
theorem ao3 (s:a7) (ap:s.length≤100000000):Pure Tryz.prog 76 [.str s] (.str (p4 s)):=by
 refine cF bN Tryz.func76 aV1 rfl rfl ?_
 unfold Yn az5
 simp(disch:=omega)only[go_sem,simprocAttr]
 refine ao ?_
 refine aj.dd (X:=Nat×a7) (0,[34]) (fun x=>[(0,.str s),(3,.str x.2),(4,.int .i64 (x.1:Int))]) (fun _=>[]) (fun _=>[]) (fun x=>x.1≤s.length∧x.2=[34]++iC (s.take x.1)) (fun x=>s.length-x.1) ⟨Nat.zero_le _,rfl⟩ ⟨rfl,rfl,rfl,trivial⟩ trivial trivial ?_
 rintro⟨i,o⟩ ⟨ai,aB⟩
 try simp only at ai aB ⊢
 have aH:o.length≤300000000:=by
  have:=xG (s.take i)
  rw[aB,List.length_append,List.length_cons,List.length_nil]
  rw[List.length_take]at this
  omega
 cases af:s[i]? with
 |some v=>
  have cK:=(List.getElem?_eq_some_iff.1 af).1
  have d1:(i:Int)<(s.length:Int):=by omega
  have kM:(s.take (i+1))=s.take i++[v]:=by rw[List.take_add_one,af]; rfl
  have pS:(s.take (i+1)).drop i=[v]:=by
   rw[kM,List.drop_append_of_le_length (by rw[List.length_take]; omega),List.drop_eq_nil_of_le (by rw[List.length_take]; omega)]
   rfl
  have bG:iC [v]=if v.toNat=34∨v.toNat=92 then[92,v] else[v]:=by simp only[iC,List.append_nil]
  have zs:[34]++iC (s.take (i+1))=o++iC [v]:=by rw[kM,FF,←List.append_assoc,aB]
  rw[bG]at zs
  by_cases J:v.toNat=34
  ·have d2:(v.toNat:Int)=34:=by omega
   rw[if_pos (.inl J)]at zs
   (have al:=d1;have z2:=d2;refine e8 ?_;clear al z2)
   refine D.bR ?_
   refine ao ?_
   (apply ae.uM (i) (i+1);(·simp(disch:=omega)only[go_sem,simprocAttr]<;>with_reducible rfl);(·simp(disch:=omega)only[go_sem,simprocAttr]<;>with_reducible rfl);(·simp(disch:=omega)only[go_sem,simprocAttr]<;>with_reducible rfl);(·omega);(·omega);(·omega);(·(try simp only[List.length_map]);omega))
   rw[pS]
   refine ao ?_
   refine D.bR ?_
   refine ao ?_
   refine aj.dK (i+1,o++[92]++[v]) ⟨by omega,by simpa using zs.symm⟩ ⟨rfl,rfl,by simp only[Int.natCast_add]; rfl,trivial⟩ trivial trivial rfl rfl (by show s.length-(i+1)<s.length-i; omega)
  have d2: ¬(v.toNat:Int)=34:=by omega
  by_cases aa:v.toNat=92
  ·have d3:(v.toNat:Int)=92:=by omega
   rw[if_pos (.inr aa)]at zs
   (have al:=d1;have z2:=d2;have z3:=d3;refine ji ?_;clear al z2 z3)
   refine D.bR ?_
   refine ao ?_
   (apply ae.uM (i) (i+1);(·simp(disch:=omega)only[go_sem,simprocAttr]<;>with_reducible rfl);(·simp(disch:=omega)only[go_sem,simprocAttr]<;>with_reducible rfl);(·simp(disch:=omega)only[go_sem,simprocAttr]<;>with_reducible rfl);(·omega);(·omega);(·omega);(·(try simp only[List.length_map]);omega))
   rw[pS]
   refine ao ?_
   refine D.bR ?_
   refine ao ?_
   refine aj.dK (i+1,o++[92]++[v]) ⟨by omega,by simpa using zs.symm⟩ ⟨rfl,rfl,by simp only[Int.natCast_add]; rfl,trivial⟩ trivial trivial rfl rfl (by show s.length-(i+1)<s.length-i; omega)
  ·have d3: ¬(v.toNat:Int)=92:=by omega
   rw[if_neg (by omega)]at zs
   (have al:=d1;have z2:=d2;have z3:=d3;refine ji ?_;clear al z2 z3)
   (apply ae.uM (i) (i+1);(·simp(disch:=omega)only[go_sem,simprocAttr]<;>with_reducible rfl);(·simp(disch:=omega)only[go_sem,simprocAttr]<;>with_reducible rfl);(·simp(disch:=omega)only[go_sem,simprocAttr]<;>with_reducible rfl);(·omega);(·omega);(·omega);(·(try simp only[List.length_map]);omega))
   rw[pS]
   refine ao ?_
   refine D.bR ?_
   refine ao ?_
   refine aj.dK (i+1,o++[v]) ⟨by omega,by simpa using zs.symm⟩ ⟨rfl,rfl,by simp only[Int.natCast_add]; rfl,trivial⟩ trivial trivial rfl rfl (by show s.length-(i+1)<s.length-i; omega)
 |none=>
  have cM:=List.getElem?_eq_none_iff.1 af
  have bE:i=s.length:=by omega
  subst bE
  have d1: ¬(s.length:Int)<(s.length:Int):=by omega
  rw[List.take_length]at aB
  (have al:=d1;refine bQ ?_;clear al)
  refine D.bR ?_
  refine ao ?_
  refine D.r ?_
  exact⟨_,rfl,.av (by rw[aB]; rfl) rfl,trivial,trivial⟩
end
section
attribute [local go_sem] ad.ct ad.b9 ad.de ac.ct ac.b9 ac.de cj eN fZ gJ dp of_flat
theorem Fv: ∀(N:Nat),(∀x:ad,x.bI≤N→dB x=true→(cm x).length≤1000000000→Pure Tryz.prog 28 [.agg x.row] (.str (cm x)))∧(∀(x:ad) (k:Int),x.bI≤N→dB x=true→(fX x (cm x) k).length≤1000000000→Pure Tryz.prog 77 [.agg x.row,.int .i64 k] (.str (fX x (cm x) k)))
 |0=>⟨fun x h=>by cases x; simp only[ad.bI]at h; omega,fun x k h=>by cases x; simp only[ad.bI]at h; omega⟩
 |N+1=>by
  have key: ∀x:ad,x.bI≤N+1→dB x=true→(cm x).length≤1000000000→Pure Tryz.prog 28 [.agg x.row] (.str (cm x)):=by
   rintro⟨k,o,m,t,n,l⟩ bW aY ap
   simp only[ad.bI]at bW
   simp only[dB,Bool.and_eq_true]at aY
   obtain⟨bh,hq⟩:=aY
   simp only[cm,Cn]at ap ⊢
   have qL:=ap
   unfold A4 at ap ⊢
   refine cF bN Tryz.func28 aT9 (by simp only[b3,I.flat,ad.de,Bool.and_self]) rfl ?_
   unfold Wb au0
   simp(disch:=omega)only[go_sem,simprocAttr]
   rcases Ec bh with ⟨rfl,aw,J,aa⟩|⟨rfl,aw,J⟩|⟨rfl,aw⟩|⟨rfl,aw⟩|⟨rfl,aw⟩|⟨rfl,aw⟩
   ·refine ao ?_
    refine D.P (N8 n (by omega) (by omega)) ?_
    refine ao ?_
    exact D.rx
   ·refine ao ?_
    refine D.P (ao3 t (by omega)) ?_
    refine ao ?_
    exact D.rx
   ·refine ao ?_
    exact D.rx
   ·match l,aw with
    |[x],_=>
    simp only[mY,Bool.and_true]at hq
    simp only[ad.bB]at bW
    have hY:([108,101,110,40]++cm x++[41]).length≤1000000000:=ap
    simp only[List.length_append,List.length_cons,List.length_nil]at hY
    have e:=(Fv N).1 x (by omega) hq (by omega)
    rcases x with ⟨eb,ef,ed,eg,ee,ec⟩
    simp(disch:=omega)only[go_sem,simprocAttr]at e
    refine ao ?_
    refine D.P (e) ?_
    refine D.bR ?_
    refine D.bR ?_
    refine ao ?_
    exact D.rx
   ·match l,aw with
    |[x],_=>
    simp only[mY,Bool.and_true]at hq
    simp only[ad.bB]at bW
    have hY:(o++fX x (cm x) 7).length≤1000000000:=ap
    simp only[List.length_append]at hY
    have e:=(Fv N).2 x 7 (by omega) hq (by omega)
    show aj Tryz.prog _ _ _ _ (tJ (.str (o++fX x (cm x) 7)) [] []) _ _
    generalize fX x (cm x) 7=iD at e hY ⊢
    clear ap qL
    rcases x with ⟨eb,ef,ed,eg,ee,ec⟩
    simp(disch:=omega)only[go_sem,simprocAttr]at e
    iterate 6 refine iT ?_
    repeat refine D.cN true true ?_
    refine aj.fs (anns:=[.str iD]) ?_
    refine bK ?_
    refine D.df (e) ?_
    refine D.bR ?_ (hb:=by simp only[maxLen]; omega)
    refine ao ?_
    exact D.rx
   ·match l,aw with
    |[x,y],_=>
    simp only[mY,Bool.and_true,Bool.and_eq_true]at hq
    simp only[ad.bB]at bW
    have hY:(fX x (cm x) (cV o)++[32]++o++[32]++fX y (cm y) (cV o+1)).length≤1000000000:=ap
    simp only[List.length_append,List.length_cons,List.length_nil]at hY
    have e:=(Fv N).2 x (cV o) (by omega) hq.1 (by omega)
    have ax:=(Fv N).2 y (cV o+1) (by omega) hq.2 (by omega)
    show aj Tryz.prog _ _ _ _ (tJ (.str (fX x (cm x) (cV o)++[32]++o++[32]++fX y (cm y) (cV o+1))) [] []) _ _
    generalize fX x (cm x) (cV o)=iD at e hY ⊢
    generalize fX y (cm y) (cV o+1)=Ge at ax hY ⊢
    have hp:=uG o
    have oR:=PN o
    generalize cV o=gS at*
    clear ap qL
    rcases x with ⟨eb,ef,ed,eg,ee,ec⟩
    rcases y with ⟨sv,CK,x7,uU,x8,CJ⟩
    simp(disch:=omega)only[go_sem,simprocAttr]at e
    simp(disch:=omega)only[go_sem,simprocAttr]at ax
    iterate 7 refine iT ?_
    repeat refine D.cN true true ?_
    refine aj.b6 ?_
    refine bK ?_
    refine D.P (oR) ?_
    refine bK ?_
    repeat refine D.cN true true ?_
    refine aj.fs (anns:=[.str iD,.str Ge]) ?_
    refine bK ?_
    refine D.df (e) ?_
    refine D.bR ?_
    refine bK ?_
    refine D.bR ?_
    refine D.bR ?_
    refine bK ?_
    refine D.df (ax) ?_
    refine D.bR ?_
    refine ao ?_
    exact D.rx
  refine⟨key,fun x k bW aY ap=> ?_⟩
  have oR:=PN x.op
  by_cases cq:x.kind=6
  ·by_cases aC:cV x.op<k
   ·have jG:fX x (cm x) k=[40]++cm x++[41]:=if_pos ⟨cq,aC⟩
    rw[jG]at ap ⊢
    simp only[List.length_append,List.length_cons,List.length_nil]at ap
    have e:=key x bW aY (by omega)
    generalize cm x=iD at*
    rcases x with ⟨eb,ef,ed,eg,ee,ec⟩
    simp only[ad.kind,ad.op]at cq aC oR
    subst cq
    simp(disch:=omega)only[go_sem,simprocAttr]at e
    refine cF bN Tryz.func77 QW (by simp only[b3,I.flat,ad.de,Bool.and_self]) rfl ?_
    unfold O0 Qt
    simp(disch:=omega)only[go_sem,simprocAttr]
    refine ao ?_
    refine D.P (oR) ?_
    (have al:=aC;refine bQ ?_;clear al)
    refine D.P (e) ?_
    refine D.bR ?_
    refine D.bR ?_
    refine ao ?_
    exact D.rx
   ·have jG:fX x (cm x) k=cm x:=if_neg fun h=>aC h.2
    rw[jG]at ap ⊢
    have e:=key x bW aY (by omega)
    generalize cm x=iD at*
    rcases x with ⟨eb,ef,ed,eg,ee,ec⟩
    simp only[ad.kind,ad.op]at cq aC oR
    subst cq
    simp(disch:=omega)only[go_sem,simprocAttr]at e
    refine cF bN Tryz.func77 QW (by simp only[b3,I.flat,ad.de,Bool.and_self]) rfl ?_
    unfold O0 Qt
    simp(disch:=omega)only[go_sem,simprocAttr]
    refine ao ?_
    refine D.P (oR) ?_
    (have al:=aC;refine bQ ?_;clear al)
    refine D.P (e) ?_
    refine ao ?_
    exact D.rx
  ·have jG:fX x (cm x) k=cm x:=if_neg fun h=>cq h.1
   rw[jG]at ap ⊢
   have e:=key x bW aY (by omega)
   generalize cm x=iD at*
   rcases x with ⟨eb,ef,ed,eg,ee,ec⟩
   simp only[ad.kind]at cq
   simp(disch:=omega)only[go_sem,simprocAttr]at e
   refine cF bN Tryz.func77 QW (by simp only[b3,I.flat,ad.de,Bool.and_self]) rfl ?_
   unfold O0 Qt
   simp(disch:=omega)only[go_sem,simprocAttr]
   (have al:=cq;refine bQ ?_;clear al)
   refine D.P (e) ?_
   refine ao ?_
   exact D.rx
end
section
attribute [local go_sem] ad.ct ad.b9 ad.de ac.ct ac.b9 ac.de cj eN fZ gJ dp of_flat
theorem ak6 (sep:a7){lL:List a7}{i:Nat}{y:a7}(h:lL[i]? =some y):Lib.join (lL.take (i+1)) sep=(if i=0 then[] else Lib.join (lL.take i) sep++sep)++y:=by
 cases lL with
 |nil=>simp at h
 |cons x r=>
  cases i with
  |zero=>
   simp only[List.getElem?_cons_zero,Option.some.injEq]at h
   subst h
   simp only[List.take_succ_cons,List.take_zero,Lib.join_one,if_true,List.nil_append]
  |succ i=>
   rw[List.getElem?_cons_succ]at h
   rw[List.take_succ_cons,Lib.join_cons,Lib.joinTail_take_succ _ _ _ _ h,if_neg (by omega),List.take_succ_cons,Lib.join_cons]
   simp only[List.append_assoc]
theorem am0 (sep:a7) (lL:List a7) (i:Nat):(Lib.join (lL.take i) sep).length≤(Lib.join lL sep).length:=by
 cases lL with
 |nil=>simp
 |cons x r=>
  cases i with
  |zero=>simp only[List.take_zero,Lib.join_nil,List.length_nil]; omega
  |succ i=>
   rw[List.take_succ_cons,Lib.join_cons,Lib.join_cons,List.length_append,List.length_append]
   have:=Lib.joinTail_take_le sep r i
   omega
theorem aZ2 (l:List ad) (aP:ad.bB l≤1000000) (aY:l.all dB=true) (ap:(Lib.join (l.map cm) [44,32]).length≤1000000000):Pure Tryz.prog 131 [.ay 6 (l.map ad.row)] (.str (Lib.join (l.map cm) [44,32])):=by
 have j9:=ad.hZ l
 refine cF bN Tryz.func131 aR1 (by simp only[b3,I.flat,ad.b9,Bool.and_self]) rfl ?_
 unfold Vx ap5
 simp(disch:=omega)only[go_sem,simprocAttr]
 refine ao ?_
 refine aj.dd (X:=Nat×a7) (0,[]) (fun x=>[(0,.ay 6 (l.map ad.row)),(3,.str x.2),(4,.int .i64 (x.1:Int))]) (fun _=>[]) (fun _=>[]) (fun x=>x.1≤l.length∧x.2=Lib.join ((l.map cm).take x.1) [44,32]) (fun x=>l.length-x.1) ⟨Nat.zero_le _,rfl⟩ ⟨rfl,rfl,rfl,trivial⟩ trivial trivial ?_
 rintro⟨i,o⟩ ⟨ai,aB⟩
 try simp only at ai aB ⊢
 have aH:o.length≤1000000000:=by
  rw[aB]
  exact Nat.le_trans (am0 _ _ _) ap
 cases af:l[i]? with
 |some v=>
  have cK:=(List.getElem?_eq_some_iff.1 af).1
  have gN:=List.mem_of_getElem? af
  have d1:(i:Int)<((l.map ad.row).length:Int):=by rw[List.length_map]; omega
  have aX0:=Nat.le_trans (Mx (sep:=[44,32]) (List.mem_map_of_mem (f:=cm) gN)) ap
  have e:=(Fv 1000000).1 v (by have:=ad.pW gN; omega) (by simpa using List.all_eq_true.1 aY v gN) aX0
  have zs:=ak6 [44,32] (show (l.map cm)[i]? =some (cm v) by rw[List.getElem?_map,af]; rfl)
  rw[←aB]at zs
  generalize cm v=tp at*
  rcases v with ⟨eb,ef,ed,eg,ee,ec⟩
  simp(disch:=omega)only[go_sem,simprocAttr]at e
  by_cases aw:i=0
  ·have d2: ¬(0:Int)<(i:Int):=by omega
   rw[if_pos aw,List.nil_append]at zs
   have aq:o=[]:=by rw[aB,aw]; rfl
   (have al:=d1;have z2:=d2;refine e8 ?_;clear al z2)
   refine D.P (e) ?_
   refine D.bR ?_ (hb:=by simp only[maxLen]; omega)
   refine ao ?_
   refine aj.dK (i+1,o++tp) ⟨by omega,by rw[zs,aq]; rfl⟩ ⟨rfl,rfl,by simp only[Int.natCast_add]; rfl,trivial⟩ trivial trivial rfl rfl (by show l.length-(i+1)<l.length-i; omega)
  ·have d2:(0:Int)<(i:Int):=by omega
   rw[if_neg aw]at zs
   (have al:=d1;have z2:=d2;refine e8 ?_;clear al z2)
   refine D.bR ?_
   refine ao ?_
   refine D.P (e) ?_
   refine D.bR ?_
   refine ao ?_
   refine aj.dK (i+1,o++[44,32]++tp) ⟨by omega,zs.symm⟩ ⟨rfl,rfl,by simp only[Int.natCast_add]; rfl,trivial⟩ trivial trivial rfl rfl (by show l.length-(i+1)<l.length-i; omega)
 |none=>
  have cM:=List.getElem?_eq_none_iff.1 af
  have bE:i=l.length:=by omega
  subst bE
  have d1: ¬(l.length:Int)<((l.map ad.row).length:Int):=by rw[List.length_map]; omega
  rw[List.take_of_length_le (by rw[List.length_map]; omega)]at aB
  (have al:=d1;refine bQ ?_;clear al)
  refine D.r ?_
  exact⟨_,rfl,.av (by rw[aB]; rfl) rfl,trivial,trivial⟩
end
section
attribute [local go_sem] ad.ct ad.b9 ad.de ac.ct ac.b9 ac.de cj eN fZ gJ dp of_flat
def kp (d:Nat):a7:=List.replicate d 9
theorem aE1 (d:Nat):kp d++[9]=kp (d+1):=by
 unfold kp
 rw[List.replicate_succ']
theorem aD9 (d:Nat):(kp d).length=d:=by simp [kp]
def kc (d:Nat) (l:List ac):a7:=[123,10]++ac.fF (d+1) l++kp d++[125]
mutual
def ac.l2 (d:Nat):ac→a7
 | .mk k m x t a b=>if k=1 then m++[32,61,32]++cm x++[59]
  else if k=3 then[119,104,105,108,101,32]++cm x++[32,116,105,109,101,115,32]++Lib.itoa t++[32]++kc d a
  else[105,102,32]++cm x++[32]++kc d a++(if b.isEmpty=true then[] else[32,101,108,115,101,32]++(if jH b=true then ac.zf d b else kc d b))
def ac.zf (d:Nat):List ac→a7
 |[]=>[]
 |y:: _=>ac.l2 d y
end
mutual
theorem ac.SW (d:Nat): ∀x:ac,((x.kind=1∨x.kind=3)→∀bw,ac.gS d bw x=kp d++ac.l2 d x++[10])∧(¬x.kind=1→¬x.kind=3→∃r,ac.l2 d x=[105,102,32]++r∧∀bw,ac.gS d bw x=kp d++bw++r++[10])
 | .mk k m x t a b=>by
  have dc:=ac.aV6 d b
  simp only[ac.kind]
  refine⟨fun h bw=> ?_,fun J au=> ?_⟩
  ·by_cases J:k=1
   ·simp only[ac.gS,ac.l2,J,if_true,eE,List.flatten_cons,List.flatten_nil,List.append_assoc,List.append_nil]
    rfl
   ·have au:k=3:=h.resolve_left J
    simp only[ac.gS,ac.l2,au,show ¬(3:Int)=1 by decide,if_false,if_true,eE,List.flatten_cons,List.flatten_nil,List.append_assoc,List.append_nil,kc]
    rfl
  ·simp only[ac.gS,ac.l2,J,au,if_false,List.append_assoc]
   refine⟨_,rfl,fun bw=> ?_⟩
   cases b with
   |nil=>
    simp only[jH,List.isEmpty_nil,if_true,Bool.false_eq_true,if_false,eE,kc,List.flatten_cons,List.flatten_nil,List.append_assoc,List.append_nil,List.nil_append]
    rfl
   |cons y l=>
    simp only[List.isEmpty_cons,Bool.false_eq_true,if_false]
    cases hb:jH (y::l) with
    |true=>
     obtain⟨r,ar,ax⟩:=dc hb
     simp only[if_true,ar,ax,eE,kc,List.flatten_cons,List.flatten_nil,List.append_assoc,List.append_nil]
     simp [kp]
    |false=>
     simp only[Bool.false_eq_true,if_false,eE,kc,List.flatten_cons,List.flatten_nil,List.append_assoc,List.append_nil]
     simp [kp]
theorem ac.aV6 (d:Nat): ∀l:List ac,jH l=true→∃r,ac.zf d l=[105,102,32]++r∧ac.rC d l=kp d++[125,32,101,108,115,101,32,105,102,32]++r++[10]
 |[],h=>by simp [jH]at h
 |y::l,h=>by
  have aZ:=ac.SW d y
  have aC:y.kind=2:=by
   cases l with
   |nil=>simpa [jH] using h
   |cons z l=>simp [jH]at h
  obtain⟨r,ar,ax⟩:=aZ.2 (by omega) (by omega)
  exact⟨r,by simp only[ac.zf,ar],by simp only[ac.rC,ax]⟩
end
theorem ac.an8 (d:Nat) (x:ac):ac.gS d [105,102,32] x=kp d++ac.l2 d x++[10]:=by
 by_cases h:x.kind=1∨x.kind=3
 ·exact (ac.SW d x).1 h _
 ·obtain⟨r,ar,ax⟩:=(ac.SW d x).2 (fun e=>h (.inl e)) (fun e=>h (.inr e))
  rw[ar,ax]
  simp only[List.append_assoc]
def k6 (N:Nat):Prop:=∀(x:ac) (d:Nat),x.bI≤N→hX x=true→d+x.bI≤1000000→(ac.l2 d x).length≤1000000000→Pure Tryz.prog 184 [.agg x.row,.str (kp d)] (.str (ac.l2 d x))
def QJ (N:Nat):Prop:=∀(l:List ac) (d:Nat),ac.bB l≤N→ho l=true→d+1+ac.bB l≤1000000→(kc d l).length≤1000000000→Pure Tryz.prog 130 [.ay 11 (l.map ac.row),.str (kp d)] (.str (kc d l))
theorem ap0 {N:Nat}(mo:k6 N):QJ N:=by
 intro l d bW aY bw aH
 have j9:=ac.hZ l
 have L9:=aD9 d
 simp only[kc,List.length_append,List.length_cons,List.length_nil]at aH
 refine cF bN Tryz.func130 aQ8 (by simp only[b3,I.flat,ac.b9,Bool.and_self]) rfl ?_
 unfold Vw ap3
 simp(disch:=omega)only[go_sem,simprocAttr]
 refine ao ?_
 refine aj.dd (X:=Nat×a7) (0,[123,10]) (fun x=>[(0,.ay 11 (l.map ac.row)),(1,.str (kp d)),(5,.str x.2),(6,.int .i64 (x.1:Int))]) (fun _=>[]) (fun _=>[]) (fun x=>x.1≤l.length∧x.2=[123,10]++ac.fF (d+1) (l.take x.1)) (fun x=>l.length-x.1) ⟨Nat.zero_le _,rfl⟩ ⟨rfl,rfl,rfl,rfl,trivial⟩ trivial trivial ?_
 rintro⟨i,o⟩ ⟨ai,aB⟩
 try simp only at ai aB ⊢
 have sY:o.length≤1000000010:=by
  have:=Fh (d+1) l i
  rw[aB,List.length_append,List.length_cons,List.length_cons,List.length_nil]
  omega
 cases af:l[i]? with
 |some v=>
  have cK:=(List.getElem?_eq_some_iff.1 af).1
  have gN:=List.mem_of_getElem? af
  have R6:=ac.pW gN
  have d1:(i:Int)<((l.map ac.row).length:Int):=by rw[List.length_map]; omega
  have hle:=OJ (d+1) af
  rw[ac.an8]at hle
  simp only[List.length_append,List.length_cons,List.length_nil]at hle
  have e:=mo v (d+1) (by omega) (by rw[yK]at aY; exact List.all_eq_true.1 aY v gN) (by omega) (by omega)
  have zs:[123,10]++ac.fF (d+1) (l.take (i+1))=o++(kp (d+1)++ac.l2 (d+1) v++[10]):=by rw[Fi _ af,ac.an8,←List.append_assoc,aB]
  have a35:=aD9 (d+1)
  have pS:(ac.l2 (d+1) v).length≤1000000000:=by omega
  generalize ac.l2 (d+1) v=tp at*
  rcases v with ⟨aG6,aH4,⟨eb,ef,ed,eg,ee,ec⟩,aH7,a36,QG⟩
  simp(disch:=omega)only[go_sem,simprocAttr]at e
  (have al:=d1;refine bQ ?_;clear al)
  refine D.bR ?_
  rw[aE1]
  refine ao ?_
  refine D.bR ?_
  rw[aE1]
  refine ao ?_
  refine D.P (e) ?_
  refine D.bR ?_ (hb:=by simp only[maxLen]; omega)
  refine D.bR ?_
  refine D.bR ?_
  refine ao ?_
  refine aj.dK (i+1,o++(kp (d+1)++tp++[10])) ⟨by omega,zs.symm⟩ ⟨rfl,rfl,rfl,by simp only[Int.natCast_add]; rfl,trivial⟩ trivial trivial rfl rfl (by show l.length-(i+1)<l.length-i; omega)
 |none=>
  have cM:=List.getElem?_eq_none_iff.1 af
  have bE:i=l.length:=by omega
  subst bE
  have d1: ¬(l.length:Int)<((l.map ac.row).length:Int):=by rw[List.length_map]; omega
  rw[List.take_length]at aB
  (have al:=d1;refine bQ ?_;clear al)
  refine D.bR ?_ (hb:=by simp only[maxLen]; omega)
  refine D.bR ?_
  refine ao ?_
  refine D.r ?_
  exact⟨_,rfl,.av (by rw[aB]; rfl) rfl,trivial,trivial⟩
end
section
attribute [local go_sem] ad.ct ad.b9 ad.de ac.ct ac.b9 ac.de cj eN fZ gJ dp of_flat
theorem aZ0 {N:Nat}(dX:QJ N) (mo:k6 N):k6 (N+1):=by
 rintro⟨k,h7,x,t,hU,gD⟩ d bW aY bw aH
 simp only[ac.bI]at bW bw
 simp only[hX,Bool.and_eq_true]at aY
 obtain⟨bh,pQ,pP,lY⟩:=aY
 have xa:x.bI≤1000000:=by omega
 rcases Bi bh with ⟨rfl,rfl,aa,au⟩|⟨rfl,rfl,rfl⟩|⟨rfl,rfl,J,aa,au⟩
 ·simp only[ac.l2,if_true,List.length_append,List.length_cons,List.length_nil]at aH ⊢
  have e:=(Fv 1000000).1 x xa pQ (by omega)
  generalize cm x=iD at*
  rcases x with ⟨eb,ef,ed,eg,ee,ec⟩
  simp(disch:=omega)only[go_sem,simprocAttr]at e
  refine cF bN Tryz.func184 Kd (by simp only[b3,I.flat,ac.de,Bool.and_self]) rfl ?_
  unfold Jg J0
  simp(disch:=omega)only[go_sem,simprocAttr]
  iterate 3 refine iT ?_
  repeat refine D.cN true true ?_
  refine aj.fs (anns:=[.str iD]) ?_
  refine bK ?_
  refine D.bR ?_
  refine bK ?_
  refine D.df (e) ?_
  refine D.bR ?_
  refine D.bR ?_
  refine ao ?_
  exact D.rx
 ·simp only[ac.l2,show ¬(2:Int)=1 by decide,show ¬(2:Int)=3 by decide,if_false]at aH ⊢
  obtain⟨T,c4⟩: ∃T,T=(if gD.isEmpty=true then[] else[32,101,108,115,101,32]++(if jH gD=true then ac.zf d gD else kc d gD)):=⟨_,rfl⟩
  rw[←c4]at aH ⊢
  simp only[List.length_append,List.length_cons,List.length_nil]at aH
  have e:=(Fv 1000000).1 x xa pQ (by omega)
  by_cases dc:jH gD=true
  ·match gD,dc with
   |[y],dc=>
   have MO:y.kind=2:=by simpa [jH] using dc
   simp only[List.isEmpty_cons,Bool.false_eq_true,if_false,dc,if_true,ac.zf]at c4
   simp only[ac.bB]at bW bw
   simp only[ho,Bool.and_true]at lY
   have mm:=dX hU d (by omega) pP (by omega) (by omega)
   have rD:=mo y d (by omega) lY (by omega) (by have:=congrArg List.length c4; simp only[List.length_append,List.length_cons,List.length_nil]at this; omega)
   generalize cm x=iD at*
   generalize kc d hU=qO at*
   generalize ac.l2 d y=am3 at*
   subst c4
   simp only[List.length_append,List.length_cons,List.length_nil]at aH
   rcases x with ⟨eb,ef,ed,eg,ee,ec⟩
   rcases y with ⟨sv,x7,⟨aL6,mO,aM5,aO1,aM8,aM0⟩,uU,tB,su⟩
   simp only[ac.kind]at MO
   subst MO
   simp(disch:=omega)only[go_sem,simprocAttr]at e
   simp(disch:=omega)only[go_sem,simprocAttr]at rD
   refine cF bN Tryz.func184 Kd (by simp only[b3,I.flat,ac.de,Bool.and_self]) rfl ?_
   unfold Jg J0
   simp(disch:=omega)only[go_sem,simprocAttr]
   iterate 4 refine iT ?_
   repeat refine D.cN true true ?_
   refine aj.fs (anns:=[.str iD,.str qO]) ?_
   refine bK ?_
   refine D.df (e) ?_
   refine D.bR ?_
   refine D.bR ?_
   refine bK ?_
   refine D.df (mm) ?_
   refine D.bR ?_
   refine ao ?_
   refine D.bR ?_
   refine ao ?_
   refine D.P (rD) ?_
   refine D.bR ?_
   refine ao ?_
   refine D.r ?_
   exact⟨_,rfl,.av (by simp [I.av]) rfl,trivial,trivial⟩
  cases RN:jH gD with
  |true=>exact absurd RN dc
  |false=>
  rw[RN]at c4
  simp only[Bool.false_eq_true,if_false]at c4
  have mm:=dX hU d (by omega) pP (by omega) (by omega)
  cases My:gD.isEmpty with
  |true=>
   rw[My]at c4
   simp only[if_true]at c4
   subst c4
   have qI:gD=[]:=by simpa using My
   subst qI
   generalize cm x=iD at*
   generalize kc d hU=qO at*
   rcases x with ⟨eb,ef,ed,eg,ee,ec⟩
   simp(disch:=omega)only[go_sem,simprocAttr]at e
   refine cF bN Tryz.func184 Kd (by simp only[b3,I.flat,ac.de,Bool.and_self]) rfl ?_
   unfold Jg J0
   simp(disch:=omega)only[go_sem,simprocAttr]
   iterate 4 refine iT ?_
   repeat refine D.cN true true ?_
   refine aj.fs (anns:=[.str iD,.str qO]) ?_
   refine bK ?_
   refine D.df (e) ?_
   refine D.bR ?_
   refine D.bR ?_
   refine bK ?_
   refine D.df (mm) ?_
   refine D.bR ?_
   refine ao ?_
   refine D.r ?_
   exact⟨_,rfl,.av (by simp [I.av]) rfl,trivial,trivial⟩
  |false=>
  rw[My]at c4
  simp only[Bool.false_eq_true,if_false]at c4
  have rD:=dX gD d (by omega) lY (by omega) (by have:=congrArg List.length c4; simp only[List.length_append,List.length_cons,List.length_nil]at this; omega)
  by_cases J:gD.length=1
  ·match gD,J with
   |[y],_=>
   have MO: ¬y.kind=2:=by simpa [jH] using RN
   generalize cm x=iD at*
   generalize kc d hU=qO at*
   generalize kc d [y]=am3 at*
   subst c4
   simp only[List.length_append,List.length_cons,List.length_nil]at aH
   rcases x with ⟨eb,ef,ed,eg,ee,ec⟩
   rcases y with ⟨sv,x7,⟨aL6,mO,aM5,aO1,aM8,aM0⟩,uU,tB,su⟩
   simp only[ac.kind]at MO
   simp only[List.map_cons,List.map_nil]at rD
   simp(disch:=omega)only[go_sem,simprocAttr]at e
   simp(disch:=omega)only[go_sem,simprocAttr]at rD
   refine cF bN Tryz.func184 Kd (by simp only[b3,I.flat,ac.de,Bool.and_self]) rfl ?_
   unfold Jg J0
   simp(disch:=omega)only[go_sem,simprocAttr]
   iterate 4 refine iT ?_
   repeat refine D.cN true true ?_
   refine aj.fs (anns:=[.str iD,.str qO]) ?_
   refine bK ?_
   refine D.df (e) ?_
   refine D.bR ?_
   refine D.bR ?_
   refine bK ?_
   refine D.df (mm) ?_
   refine D.bR ?_
   (have al:=MO;refine bQ ?_;clear al)
   refine D.bR ?_
   refine ao ?_
   refine D.P (rD) ?_
   refine D.bR ?_
   refine ao ?_
   refine D.r ?_
   exact⟨_,rfl,.av (by simp [I.av]) rfl,trivial,trivial⟩
  ·have aw:gD.length≠0:=by
    intro bE
    rw[List.length_eq_zero_iff.1 bE]at My
    simp at My
   have d0: ¬((gD.map ac.row).length:Int)=0:=by rw[List.length_map]; omega
   have d1: ¬((gD.map ac.row).length:Int)=1:=by rw[List.length_map]; omega
   generalize cm x=iD at*
   generalize kc d hU=qO at*
   generalize kc d gD=am3 at*
   subst c4
   simp only[List.length_append,List.length_cons,List.length_nil]at aH
   rcases x with ⟨eb,ef,ed,eg,ee,ec⟩
   simp(disch:=omega)only[go_sem,simprocAttr]at e
   refine cF bN Tryz.func184 Kd (by simp only[b3,I.flat,ac.de,Bool.and_self]) rfl ?_
   unfold Jg J0
   simp(disch:=omega)only[go_sem,simprocAttr]
   iterate 4 refine iT ?_
   repeat refine D.cN true true ?_
   refine aj.fs (anns:=[.str iD,.str qO]) ?_
   refine bK ?_
   refine D.df (e) ?_
   refine D.bR ?_
   refine D.bR ?_
   refine bK ?_
   refine D.df (mm) ?_
   refine D.bR ?_
   (have al:=d0;have z2:=d1;refine e8 ?_;clear al z2)
   refine D.bR ?_
   refine ao ?_
   refine D.P (rD) ?_
   refine D.bR ?_
   refine ao ?_
   refine D.r ?_
   exact⟨_,rfl,.av (by simp [I.av]) rfl,trivial,trivial⟩
 ·simp only[ac.l2,show ¬(3:Int)=1 by decide,if_false,if_true,List.length_append,List.length_cons,List.length_nil]at aH ⊢
  have e:=(Fv 1000000).1 x xa pQ (by omega)
  have en:=N8 t (by omega) (by omega)
  have mm:=dX hU d (by omega) pP (by omega) (by omega)
  generalize cm x=iD at*
  generalize Lib.itoa t=jS at*
  generalize kc d hU=qO at*
  rcases x with ⟨eb,ef,ed,eg,ee,ec⟩
  simp(disch:=omega)only[go_sem,simprocAttr]at e
  refine cF bN Tryz.func184 Kd (by simp only[b3,I.flat,ac.de,Bool.and_self]) rfl ?_
  unfold Jg J0
  simp(disch:=omega)only[go_sem,simprocAttr]
  iterate 4 refine iT ?_
  repeat refine D.cN true true ?_
  refine aj.fs (anns:=[.str iD,.str jS,.str qO]) ?_
  refine bK ?_
  refine D.df (e) ?_
  refine D.bR ?_
  refine D.bR ?_
  refine bK ?_
  refine D.df (en) ?_
  refine D.bR ?_
  refine D.bR ?_
  refine bK ?_
  refine D.df (mm) ?_
  refine D.bR ?_
  refine ao ?_
  refine D.r ?_
  exact⟨_,rfl,.av (by simp [I.av]) rfl,trivial,trivial⟩
theorem SH: ∀N,k6 N∧QJ N
 |0=>by
  have h:k6 0:=by
   rintro⟨k,h7,x,t,hU,gD⟩ d bW
   simp only[ac.bI]at bW
   omega
  exact⟨h,ap0 h⟩
 |N+1=>by
  have h:=aZ0 (SH N).2 (SH N).1
  exact⟨h,ap0 h⟩
end
end Go.bc.T.N
