/- Part of a proof; own work. -/
import Derived.Lib.ItoaLen
import Derived.Test.YtjkbgcgljnldeaaGreatDoorRows
import Derived.ProofKit
import Derived.LaidMore
import Derived.OpenShut
import Derived.Stop.Joined
import Derived.LaidLaws
import Derived.Lay
import Derived.MakeChecks
import Derived.Lib.ItoaNum
import Derived.Lib.LaidTab
import Derived.Stop.LaidErr
import Derived.HandedShaped
import Derived.SizedLaws
import Derived.Test.YtjkbgcgljnldeaaGreatDoorProg
import Derived.KernelRfl
import Derived.Test.YtjkbgcgljnldeaaGreatDoorVS11
set_option linter.unusedVariables false
set_option linter.unusedSimpArgs false
set_option maxHeartbeats 16000000
namespace Go.bc.T.N
open Go Go.bc Go.Proofs Go.RowKit
set_option maxRecDepth 100000
attribute [local irreducible] Go.bc.aj Go.bc.ae Go.bc.bz
section
attribute [local go_sem] ad.ct ad.b9 ad.de ac.ct ac.b9 ac.de cj eN fZ gJ dp of_flat
theorem aG7 (s:a7):(sf s).length≤s.length+1:=by
 have hlen:=Lib.splitB_all pG (Nat.le_refl _) 0 _ ⟨⟨s⟩⟩ rfl
 have hle:=Lib.countB_le pG (Nat.le_refl _) s.length ⟨⟨s⟩⟩ (Nat.le_refl _)
 rw[sf,List.length_map,hlen]
 exact Nat.succ_le_succ hle
theorem ad4:c9 Tryz.prog 167=true:=by kernel_rfl
theorem av1 (s:a7):Pure Tryz.prog 167 [.str s] (.bool (!(db s))):=by
 refine cF bN Tryz.func167 UM rfl rfl ?_
 unfold JA Qd
 simp(disch:=omega)only[go_sem,simprocAttr]
 refine ao ?_
 refine D.P (qV s) ?_
 refine ao ?_
 exact D.rx
theorem aw3 {f:FuncId}(aW:c9 Tryz.prog f=true) (g:a7→Bool) (l:List a7) (aH:l.length≤1000000000000) (h: ∀v∈l,Pure Tryz.prog f [.str v] (.bool (!(g v)))):Pure Tryz.prog 195 [.ay 1 (l.map cj),.fn f []] (.int .i64 (hT g l 0)):=by
 refine cF bN Tryz.func195 HI (by simp only[b3,I.flat,eN,Bool.and_self]) rfl ?_
 unfold DC FJ
 simp(disch:=omega)only[go_sem,simprocAttr]
 refine ao ?_
 refine aj.dd (X:=Nat) 0 (fun i=>[(0,.ay 1 (l.map cj)),(1,.fn f []),(7,.int .i64 ((l.map cj).length:Int)),(8,.int .i64 (i:Int))]) (fun _=>[]) (fun _=>[]) (fun i=>i≤l.length∧hT g (l.drop i) i=hT g l 0) (fun i=>l.length-i) ⟨Nat.zero_le _,rfl⟩ ⟨rfl,rfl,rfl,rfl,trivial⟩ trivial trivial ?_
 rintro i ⟨ai,aB⟩
 try simp only at ai aB ⊢
 cases af:l[i]? with
 |some v=>
  have cK:=(List.getElem?_eq_some_iff.1 af).1
  rw[iM af]at aB
  simp only[hT]at aB
  have d1:(i:Int)<((l.map cj).length:Int):=by rw[List.length_map]; omega
  have e:=h v (List.mem_of_getElem? af)
  generalize g v=b at e aB
  clear h
  (have al:=d1;refine bQ ?_;clear al)
  refine D.V (aW) (e) ?_
  cases b
  ·refine ao ?_
   refine D.r ?_
   exact⟨_,rfl,.av (by rw[←aB]; rfl) rfl,trivial,trivial⟩
  ·refine ao ?_
   refine aj.dK (i+1) ⟨by omega,aB⟩ ⟨rfl,rfl,rfl,by simp only[Int.natCast_add]; rfl,trivial⟩ trivial trivial rfl rfl (by show l.length-(i+1)<l.length-i; omega)
 |none=>
  have cM:=List.getElem?_eq_none_iff.1 af
  have bE:i=l.length:=by omega
  subst bE
  have d1: ¬(l.length:Int)<((l.map cj).length:Int):=by rw[List.length_map]; omega
  rw[List.drop_length]at aB
  (have al:=d1;refine bQ ?_;clear al)
  refine D.r ?_
  exact⟨_,rfl,.av (by rw[←aB]; rfl) rfl,trivial,trivial⟩
theorem av0 {f:FuncId}(aW:c9 Tryz.prog f=true) (g:a7→Bool) (l:List a7) (aH:l.length≤1000000000000) (h: ∀v∈l,Pure Tryz.prog f [.str v] (.bool (!(g v)))):Pure Tryz.prog 165 [.ay 1 (l.map cj),.fn f []] (.bool (!(l.all g))):=by
 have e:=aw3 aW g l aH h
 refine cF bN Tryz.func165 HH (by simp only[b3,I.flat,eN,Bool.and_self]) rfl ?_
 unfold DB FI
 simp(disch:=omega)only[go_sem,simprocAttr]
 refine ao ?_
 refine D.P (e) ?_
 refine ao ?_
 refine D.r ?_
 exact⟨_,rfl,.av (by rw[←vU g l 0]; rfl) rfl,trivial,trivial⟩
def kR (s:a7):Bool:=decide (s.length≤50)&&(sf s).all db
theorem OP (s:a7):Pure Tryz.prog 111 [.str s] (.bool (kR s)):=by
 unfold kR
 refine cF bN Tryz.func111 T1 rfl rfl ?_
 unfold IT Pt
 simp(disch:=omega)only[go_sem,simprocAttr]
 by_cases h:s.length≤50
 ·have d:(s.length:Int)≤50:=by omega
  have aH:=aG7 s
  have e:=av0 ad4 db (sf s) (by omega) fun v _=>av1 v
  (have al:=d;refine bQ ?_;clear al)
  refine D.P (al6 s (by omega)) ?_
  refine ao ?_
  refine D.P (e) ?_
  refine ao ?_
  refine D.r ?_
  refine⟨_,rfl,.av ?_ rfl,trivial,trivial⟩
  simp [I.av,h]
 ·have d: ¬(s.length:Int)≤50:=by omega
  (have al:=d;refine bQ ?_;clear al)
  refine D.r ?_
  refine⟨_,rfl,.av ?_ rfl,trivial,trivial⟩
  simp [I.av,h]
theorem ad8:c9 Tryz.prog 45=true:=by kernel_rfl
theorem ae0:c9 Tryz.prog 49=true:=by kernel_rfl
theorem ae1:c9 Tryz.prog 51=true:=by kernel_rfl
def jZ (h:cd):Bool:=kR h.eK&&(db h.peer&&(decide (h.ps.length≤4)&&(h.ps.all db&&(h.body.all hX&&h.body.all (fun x=>decide (kh x≤10))))))
def j6 (o:ca):Bool:=kR o.eK&&(db o.peer&&(decide (o.args.length≤4)&&(decide (o.dT.length≤1)&&((o.args++o.dT).all dB&&(o.args++o.dT).all (fun x=>decide (iL x≤10))))))
theorem ac.pW {l:List ac}{v:ac}(h:v∈l):v.bI≤ac.bB l:=by
 obtain⟨i,ai⟩:=List.getElem?_of_mem h
 exact ac.lh ai
theorem ad.pW {l:List ad}{v:ad}(h:v∈l):v.bI≤ad.bB l:=by
 obtain⟨i,ai⟩:=List.getElem?_of_mem h
 exact ad.lh ai
theorem ax4 (h:cd) (hb:ac.bB h.body≤1000000000) (hp:h.ps.length≤1000000000):Pure Tryz.prog 49 [.agg h.row] (.bool (jZ h)):=by
 obtain⟨eK,peer,ps,body⟩:=h
 simp only at hb hp
 have aP6:=ac.hZ body
 have ar:=OP eK
 have ax:=qV peer
 have cw:=as7 ad8 db ps (by omega) fun v _=>qV v
 have fq:=B3 EG hX body (by omega) fun v af=>Fl 1000000000 v (by have:=ac.pW af; omega) (Nat.le_refl _)
 have lB:=B3 ad1 (fun x=>decide (kh x≤10)) body (by omega) fun v af=>as5 v (by have:=ac.pW af; omega)
 have me:((ps.map cj).length:Int)=(ps.length:Int):=by rw[List.length_map]
 simp only[jZ]
 generalize kR eK=eB at*
 generalize db peer=dU at*
 generalize ps.all db=jj at*
 generalize body.all hX=kD at*
 generalize (body.all fun x=>decide (kh x≤10))=qm at*
 refine cF bN Tryz.func49 Vo (by simp only[b3,I.flat,fZ,eN,ac.b9,Bool.and_self]) rfl ?_
 unfold J5 QP
 simp(disch:=omega)only[go_sem,simprocAttr]
 refine ao ?_
 refine D.P (ar) ?_
 cases eB
 ·refine ao ?_
  exact D.rx
 refine ao ?_
 refine D.P (ax) ?_
 cases dU
 ·refine ao ?_
  exact D.rx
 by_cases bn:ps.length≤4
 rotate_left
 ·have d: ¬(ps.length:Int)≤4:=by omega
  (have al:=me;have z2:=d;refine e8 ?_;clear al z2)
  refine D.r ?_
  refine⟨_,rfl,.av ?_ rfl,trivial,trivial⟩
  simp [I.av,bn]
 have d:(ps.length:Int)≤4:=by omega
 simp only[decide_eq_true bn,Bool.true_and]
 (have al:=me;have z2:=d;refine e8 ?_;clear al z2)
 refine D.P (cw) ?_
 cases jj
 ·refine ao ?_
  exact D.rx
 refine ao ?_
 refine D.P (fq) ?_
 cases kD
 ·refine ao ?_
  exact D.rx
 refine ao ?_
 refine D.P (lB) ?_
 refine ao ?_
 exact D.rx
end
section
attribute [local go_sem] ad.ct ad.b9 ad.de ac.ct ac.b9 ac.de cj eN fZ gJ dp of_flat
theorem ad.u1: ∀a b:List ad,ad.bB (a++b)=ad.bB a+ad.bB b
 |[],b=>by simp [ad.bB]
 |x::a,b=>by simp only[List.cons_append,ad.bB,ad.u1 a b]; omega
theorem ax7 (o:ca) (hb:ad.bB o.args+ad.bB o.dT≤1000000000):Pure Tryz.prog 51 [.agg o.row] (.bool (j6 o)):=by
 obtain⟨eK,peer,n3,wn⟩:=o
 simp only at hb
 have Bm:=ad.hZ n3
 have Zw:=ad.hZ wn
 have D5:=ad.u1 n3 wn
 have oX:=ad.hZ (n3++wn)
 have ar:=OP eK
 have ax:=qV peer
 have bE:=at1 n3 wn (by omega) (by omega)
 have fq:=Fp MA dB (n3++wn) (by omega) fun v af=>Fq 1000000000 v (by have:=ad.pW af; omega) (Nat.le_refl _)
 have lB:=Fp ad3 (fun x=>decide (iL x≤10)) (n3++wn) (by omega) fun v af=>at0 v (by have:=ad.pW af; omega)
 have me:((n3.map ad.row).length:Int)=(n3.length:Int):=by rw[List.length_map]
 have oG:((wn.map ad.row).length:Int)=(wn.length:Int):=by rw[List.length_map]
 simp only[j6]
 generalize kR eK=eB at*
 generalize db peer=dU at*
 generalize (n3++wn).all dB=kD at*
 generalize ((n3++wn).all fun x=>decide (iL x≤10))=qm at*
 generalize n3++wn=aO8 at*
 clear D5 oX hb Bm Zw
 refine cF bN Tryz.func51 Vq (by simp only[b3,I.flat,gJ,ad.b9,Bool.and_self]) rfl ?_
 unfold J6 QR
 simp(disch:=omega)only[go_sem,simprocAttr]
 refine ao ?_
 refine D.P (bE) ?_
 refine ao ?_
 refine D.P (ar) ?_
 cases eB
 ·refine ao ?_
  exact D.rx
 refine ao ?_
 refine D.P (ax) ?_
 cases dU
 ·refine ao ?_
  exact D.rx
 by_cases bn:n3.length≤4
 rotate_left
 ·have d: ¬(n3.length:Int)≤4:=by omega
  (have al:=me;have z2:=d;refine e8 ?_;clear al z2)
  refine D.r ?_
  refine⟨_,rfl,.av ?_ rfl,trivial,trivial⟩
  simp [I.av,bn]
 have d:(n3.length:Int)≤4:=by omega
 simp only[decide_eq_true bn,Bool.true_and]
 by_cases J:wn.length≤1
 rotate_left
 ·have d1: ¬(wn.length:Int)≤1:=by omega
  (repeat' first|(apply ae.s rfl;(·simp(disch:=omega)only[go_sem,simprocAttr,me,d,oG,d1]<;>with_reducible rfl))|(apply aj.s true true;(·simp(disch:=omega)only[go_sem,simprocAttr,me,d,oG,d1]<;>with_reducible rfl))|apply ae.nil|(refine aj.b6 ?_)|(apply ae.eX;(·simp(disch:=omega)only[go_sem,simprocAttr,me,d,oG,d1]<;>with_reducible rfl))|(apply ae.eY;(·rfl);(·simp(disch:=omega)only[go_sem,simprocAttr,me,d,oG,d1]<;>with_reducible rfl))|(apply ae.gs;(·simp(disch:=omega)only[go_sem,simprocAttr,me,d,oG,d1]<;>with_reducible rfl))|((first|apply ae.e3|apply ae.e4|apply ae.e5);(·simp(disch:=omega)only[go_sem,simprocAttr,me,d,oG,d1]<;>with_reducible rfl);(·simp(disch:=omega)only[go_sem,simprocAttr,me,d,oG,d1]<;>with_reducible rfl);(·assumption);(·omega))|intro h)
  refine D.r ?_
  refine⟨_,rfl,.av ?_ rfl,trivial,trivial⟩
  simp [I.av,J]
 have d1:(wn.length:Int)≤1:=by omega
 simp only[decide_eq_true J,Bool.true_and]
 (repeat' first|(apply ae.s rfl;(·simp(disch:=omega)only[go_sem,simprocAttr,me,d,oG,d1]<;>with_reducible rfl))|(apply aj.s true true;(·simp(disch:=omega)only[go_sem,simprocAttr,me,d,oG,d1]<;>with_reducible rfl))|apply ae.nil|(refine aj.b6 ?_)|(apply ae.eX;(·simp(disch:=omega)only[go_sem,simprocAttr,me,d,oG,d1]<;>with_reducible rfl))|(apply ae.eY;(·rfl);(·simp(disch:=omega)only[go_sem,simprocAttr,me,d,oG,d1]<;>with_reducible rfl))|(apply ae.gs;(·simp(disch:=omega)only[go_sem,simprocAttr,me,d,oG,d1]<;>with_reducible rfl))|((first|apply ae.e3|apply ae.e4|apply ae.e5);(·simp(disch:=omega)only[go_sem,simprocAttr,me,d,oG,d1]<;>with_reducible rfl);(·simp(disch:=omega)only[go_sem,simprocAttr,me,d,oG,d1]<;>with_reducible rfl);(·assumption);(·omega))|intro h)
 refine D.P (fq) ?_
 cases kD
 ·refine ao ?_
  exact D.rx
 refine ao ?_
 refine D.P (lB) ?_
 refine ao ?_
 exact D.rx
theorem Ec {k:Int}{o m t:a7}{n:Int}{kk:Nat}(h:fL k o m t n kk=true):(k=1∧0≤n∧n≤1000∧kk=0)∨(k=2∧t.length≤40∧kk=0)∨(k=3∧kk=0)∨(k=4∧kk=1)∨(k=5∧kk=1)∨(k=6∧kk=2):=by
 unfold fL at h
 by_cases J:k=1
 ·simp [J]at h; simp [J,h.1,h.2.1,h.2.2.1]
 by_cases aa:k=2
 ·simp [aa,lM]at h; simp [aa,h.1.1,h.2.1]
 by_cases au:k=3
 ·simp [au]at h; simp [au,h.2.1]
 by_cases bn:k=4
 ·simp [bn]at h; simp [bn,h.1]
 by_cases bL:k=5
 ·simp [bL]at h; simp [bL,h.2.1]
 by_cases cq:k=6
 ·simp [cq]at h; simp [cq,h.2.1]
 simp [J,aa,au,bn,bL,cq]at h
theorem tf: ∀(N:Nat),(∀x:ad,x.bI≤N→dB x=true→(cm x).length≤1000000000→Pure Tryz.prog 127 [.agg x.row] (.str (cm x)))∧(∀(x:ad) (k:Int),x.bI≤N→dB x=true→(fX x (cm x) k).length≤1000000000→Pure Tryz.prog 183 [.agg x.row,.int .i64 k] (.str (fX x (cm x) k)))
 |0=>⟨fun x h=>by cases x; simp only[ad.bI]at h; omega,fun x k h=>by cases x; simp only[ad.bI]at h; omega⟩
 |N+1=>by
  have key: ∀x:ad,x.bI≤N+1→dB x=true→(cm x).length≤1000000000→Pure Tryz.prog 127 [.agg x.row] (.str (cm x)):=by
   rintro⟨k,o,m,t,n,l⟩ bW aY ap
   simp only[ad.bI]at bW
   simp only[dB,Bool.and_eq_true]at aY
   obtain⟨bh,hq⟩:=aY
   simp only[cm,Cn]at ap ⊢
   have qL:=ap
   unfold A4 at ap ⊢
   refine cF bN Tryz.func127 Ug (by simp only[b3,I.flat,ad.de,Bool.and_self]) rfl ?_
   unfold I7 PH
   simp(disch:=omega)only[go_sem,simprocAttr]
   rcases Ec bh with ⟨rfl,aw,J,aa⟩|⟨rfl,aw,J⟩|⟨rfl,aw⟩|⟨rfl,aw⟩|⟨rfl,aw⟩|⟨rfl,aw⟩
   ·refine ao ?_
    refine D.P (zq n (by omega) (by omega)) ?_
    refine ao ?_
    exact D.rx
   ·refine ao ?_
    refine D.P (OZ t (by omega)) ?_
    refine ao ?_
    exact D.rx
   ·refine ao ?_
    exact D.rx
   ·match l,aw with
    |[x],_=>
    simp only[mY,Bool.and_true]at hq
    simp only[ad.bB]at bW
    have hY:([108,101,110,40]++cm x++[41]).length≤1000000000:=ap
    simp only[List.length_append,List.length_cons,List.length_nil]at hY
    have e:=(tf N).1 x (by omega) hq (by omega)
    rcases x with ⟨eb,ef,ed,eg,ee,ec⟩
    simp(disch:=omega)only[go_sem,simprocAttr]at e
    refine ao ?_
    refine D.P (e) ?_
    refine D.bR ?_
    refine D.bR ?_
    refine ao ?_
    exact D.rx
   ·match l,aw with
    |[x],_=>
    simp only[mY,Bool.and_true]at hq
    simp only[ad.bB]at bW
    have hY:(o++fX x (cm x) 7).length≤1000000000:=ap
    simp only[List.length_append]at hY
    have e:=(tf N).2 x 7 (by omega) hq (by omega)
    show aj Tryz.prog _ _ _ _ (tJ (.str (o++fX x (cm x) 7)) [] []) _ _
    generalize fX x (cm x) 7=iD at e hY ⊢
    clear ap qL
    rcases x with ⟨eb,ef,ed,eg,ee,ec⟩
    simp(disch:=omega)only[go_sem,simprocAttr]at e
    iterate 7 refine iT ?_
    repeat refine D.cN true true ?_
    refine aj.fs (anns:=[.str iD]) ?_
    refine bK ?_
    refine D.df (e) ?_
    refine D.bR ?_ (hb:=by simp only[maxLen]; omega)
    refine ao ?_
    exact D.rx
   ·match l,aw with
    |[x,y],_=>
    simp only[mY,Bool.and_true,Bool.and_eq_true]at hq
    simp only[ad.bB]at bW
    have hY:(fX x (cm x) (cV o)++[32]++o++[32]++fX y (cm y) (cV o+1)).length≤1000000000:=ap
    simp only[List.length_append,List.length_cons,List.length_nil]at hY
    have e:=(tf N).2 x (cV o) (by omega) hq.1 (by omega)
    have ax:=(tf N).2 y (cV o+1) (by omega) hq.2 (by omega)
    show aj Tryz.prog _ _ _ _ (tJ (.str (fX x (cm x) (cV o)++[32]++o++[32]++fX y (cm y) (cV o+1))) [] []) _ _
    generalize fX x (cm x) (cV o)=iD at e hY ⊢
    generalize fX y (cm y) (cV o+1)=Ge at ax hY ⊢
    have hp:=uG o
    have oR:=B6 o
    generalize cV o=gS at*
    clear ap qL
    rcases x with ⟨eb,ef,ed,eg,ee,ec⟩
    rcases y with ⟨sv,CK,x7,uU,x8,CJ⟩
    simp(disch:=omega)only[go_sem,simprocAttr]at e
    simp(disch:=omega)only[go_sem,simprocAttr]at ax
    iterate 7 refine iT ?_
    repeat refine D.cN true true ?_
    refine aj.b6 ?_
    refine bK ?_
    refine D.P (oR) ?_
    refine bK ?_
    repeat refine D.cN true true ?_
    refine aj.fs (anns:=[.str iD,.str Ge]) ?_
    refine bK ?_
    refine D.df (e) ?_
    refine D.bR ?_
    refine bK ?_
    refine D.bR ?_
    refine D.bR ?_
    refine bK ?_
    refine D.df (ax) ?_
    refine D.bR ?_
    refine ao ?_
    exact D.rx
  refine⟨key,fun x k bW aY ap=> ?_⟩
  have oR:=B6 x.op
  by_cases cq:x.kind=6
  ·by_cases aC:cV x.op<k
   ·have jG:fX x (cm x) k=[40]++cm x++[41]:=if_pos ⟨cq,aC⟩
    rw[jG]at ap ⊢
    simp only[List.length_append,List.length_cons,List.length_nil]at ap
    have e:=key x bW aY (by omega)
    generalize cm x=iD at*
    rcases x with ⟨eb,ef,ed,eg,ee,ec⟩
    simp only[ad.kind,ad.op]at cq aC oR
    subst cq
    simp(disch:=omega)only[go_sem,simprocAttr]at e
    refine cF bN Tryz.func183 De (by simp only[b3,I.flat,ad.de,Bool.and_self]) rfl ?_
    unfold AM Ce
    simp(disch:=omega)only[go_sem,simprocAttr]
    refine ao ?_
    refine D.P (oR) ?_
    (have al:=aC;refine bQ ?_;clear al)
    refine D.P (e) ?_
    refine D.bR ?_
    refine D.bR ?_
    refine ao ?_
    exact D.rx
   ·have jG:fX x (cm x) k=cm x:=if_neg fun h=>aC h.2
    rw[jG]at ap ⊢
    have e:=key x bW aY (by omega)
    generalize cm x=iD at*
    rcases x with ⟨eb,ef,ed,eg,ee,ec⟩
    simp only[ad.kind,ad.op]at cq aC oR
    subst cq
    simp(disch:=omega)only[go_sem,simprocAttr]at e
    refine cF bN Tryz.func183 De (by simp only[b3,I.flat,ad.de,Bool.and_self]) rfl ?_
    unfold AM Ce
    simp(disch:=omega)only[go_sem,simprocAttr]
    refine ao ?_
    refine D.P (oR) ?_
    (have al:=aC;refine bQ ?_;clear al)
    refine D.P (e) ?_
    refine ao ?_
    exact D.rx
  ·have jG:fX x (cm x) k=cm x:=if_neg fun h=>cq h.1
   rw[jG]at ap ⊢
   have e:=key x bW aY (by omega)
   generalize cm x=iD at*
   rcases x with ⟨eb,ef,ed,eg,ee,ec⟩
   simp only[ad.kind]at cq
   simp(disch:=omega)only[go_sem,simprocAttr]at e
   refine cF bN Tryz.func183 De (by simp only[b3,I.flat,ad.de,Bool.and_self]) rfl ?_
   unfold AM Ce
   simp(disch:=omega)only[go_sem,simprocAttr]
   (have al:=cq;refine bQ ?_;clear al)
   refine D.P (e) ?_
   refine ao ?_
   exact D.rx
end
section
attribute [local go_sem] hL lT ad.ct ad.b9 ad.de ac.ct ac.b9 ac.de cj eN
theorem at2 (k n:Int) (s:a7) (a6:k≠2→ -1000000000≤n∧n≤1000000000) (ap:s.length≤100000000):Pure Tryz.prog 124 [.agg [.int .i64 k,.int .i64 n,.str s]] (.str (qM k n s)):=by
 refine cF bN Tryz.func124 Ue rfl rfl ?_
 unfold I5 PF
 unfold qM
 simp(disch:=omega)only[go_sem,simprocAttr]
 by_cases h:k=2
 ·rw[if_pos h]
  (have al:=h;refine bQ ?_;clear al)
  refine D.P (OZ s ap) ?_
  refine ao ?_
  exact D.rx
 ·rw[if_neg h]
  (have al:=h;refine bQ ?_;clear al)
  refine D.P (zq n (a6 h).1 (a6 h).2) ?_
  refine ao ?_
  exact D.rx
theorem Mx {xs:List a7}{sep s:a7}(h:s∈xs):s.length≤(Lib.join xs sep).length:=by
 unfold Lib.join
 induction xs with
 |nil=>cases h
 |cons x l cv=>
  cases l with
  |nil=>simp at h; subst h; simp
  |cons y l=>
   rw[List.intercalate_cons_cons]
   rcases List.mem_cons.1 h with rfl|h
   ·simp only[List.length_append]; omega
   ·have:=cv h
    simp only[List.length_append]; omega
theorem at3 (l:List ad) (aP:ad.bB l≤1000000) (aY:l.all dB=true) (ap:(Lib.join (l.map cm) [44,32]).length≤1000000000):Pure Tryz.prog 128 [.ay 6 (l.map ad.row)] (.str (Lib.join (l.map cm) [44,32])):=by
 have j9:=ad.hZ l
 have rB:=NX (l.map cm) [44,32] (by rw[List.length_map]; omega) ap
 refine cF bN Tryz.func128 Uh (by simp only[b3,I.flat,ad.b9,Bool.and_self]) rfl ?_
 unfold I8 PI
 simp(disch:=omega)only[go_sem,simprocAttr]
 iterate 2 refine iT ?_
 refine aj.rL 3 1 9 rfl (by decide) ?_
 simp(disch:=omega)only[go_sem,simprocAttr]
 refine ao ?_
 refine aj.dd (X:=Nat) 0 (fun i=>[(6,.ay 6 (l.map ad.row)),(7,.int .i64 ((l.map ad.row).length:Int)),(8,.int .i64 (i:Int)),(3,.own 0 1 (((l.take i).map cm).map cj))]) (fun _=>[]) (fun i=>[(0,.bJ 9 1 (((l.take i).map cm).map cj).length)]) (fun i=>i≤l.length) (fun i=>l.length-i) (Nat.zero_le _) ⟨rfl,rfl,rfl,rfl,trivial⟩ trivial ⟨rfl,trivial⟩ ?_
 intro i ai
 try simp only at ai ⊢
 cases af:l[i]? with
 |some v=>
  have cK:=(List.getElem?_eq_some_iff.1 af).1
  have gN:=List.mem_of_getElem? af
  have ev:((l.take (i+1)).map cm).map cj=((l.take i).map cm).map cj++[cj (cm v)]:=by
   rw[List.take_add_one,af]; simp
  have hlen:(((l.take i).map cm).map cj).length=i:=by simp; omega
  have d1:(i:Int)<((l.map ad.row).length:Int):=by rw[List.length_map]; omega
  have e:=(tf 1000000).1 v (by have:=ad.pW gN; omega) (by simpa using List.all_eq_true.1 aY v gN) (Nat.le_trans (Mx (List.mem_map_of_mem gN)) ap)
  obtain⟨tp,ZX⟩: ∃tp,tp=cm v:=⟨_,rfl⟩
  rw[←ZX]at e ev
  generalize ((l.take i).map cm).map cj=rows at ev hlen ⊢
  rcases v with ⟨eb,ef,ed,eg,ee,ec⟩
  simp(disch:=omega)only[go_sem,simprocAttr]at e
  (have al:=d1;refine bQ ?_;clear al)
  refine D.P (e) ?_
  refine ao ?_
  refine D.gL ?_
  refine ao ?_
  refine aj.gT (i+1) (by omega) ⟨rfl,rfl,by simp only[Int.natCast_add]; rfl,by simp only[ev]; rfl,trivial⟩ trivial ⟨by simp only[ev,List.length_append]; rfl,trivial⟩ rfl (by simp only[fY,dr,dP,dV,fO,I.cR,b2.bJ,eN,go_sem]<;>rfl) (by show l.length-(i+1)<l.length-i; omega)
 |none=>
  have cM:=List.getElem?_eq_none_iff.1 af
  have bE:i=l.length:=by omega
  subst bE
  have d1: ¬(l.length:Int)<((l.map ad.row).length:Int):=by rw[List.length_map]; omega
  rw[List.take_length]
  (have al:=d1;refine bQ ?_;clear al)
  refine D.P (rB) ?_
  refine ao ?_
  exact D.rx
end
section
attribute [local go_sem] hL lT ad.ct ad.b9 ad.de ac.ct ac.b9 ac.de cj eN
theorem C8 (d:Nat):BT 182 [.int .i64 (d:Int)]:= .inr ⟨rfl,_,rfl⟩
theorem XT {ps:List a7}{i:Nat}{v:a7}(h:ps[i]? =some v):(ps.take (i+1)).flatten=(ps.take i).flatten++v:=by
 rw[List.take_add_one,h]; simp
theorem KZ (ps:List a7) (i:Nat):(ps.take i).flatten.length≤ps.flatten.length:=by
 conv=>rhs; rw[←List.take_append_drop i ps]
 rw[List.flatten_append,List.length_append]
 omega
theorem oy (d:Nat) (bw:d≤1000000){A:I}(fa:z8 A) (out:a7) (ps:List a7) (a6:ps.length≤1000) (aH:out.length+(eE d ps).length≤1000000000):bz Tryz.prog 122 [.ptr 0 0,.ay 1 (ps.map cj)] (pC 182 A out [.int .i64 (d:Int)]) (fJ (.di []) (lA 182 (.ptr 0 0) (out++eE d ps) [.int .i64 (d:Int)]) (qo (out++eE d ps))):=by
 have oX:out.length+(d+ps.flatten.length+1)≤1000000000:=by
  simp only[eE,List.length_append,List.length_replicate,List.length_cons,List.length_nil]at aH
  omega
 have bE:=OX (C8 d) fa out (List.replicate d 9) (by rw[List.length_replicate]; omega)
 have Xv:=al7 d bw
 have uq:(List.replicate d (9:UInt8)).length=d:=List.length_replicate
 unfold eE
 generalize List.replicate d (9:UInt8)=pj at*
 rcases fa with rfl|rfl
 all_goals
  have bG:=oX
  refine bz.intro bN Tryz.func122 Ud ?_
  unfold I4 PE
  simp(disch:=omega)only[go_sem,simprocAttr]
  repeat refine D.cN true true ?_
  refine aj.fs (anns:=[.str pj]) ?_
  refine bK ?_
  refine D.df (Xv) ?_
  refine bK ?_
  refine D.F ⟨[0],[0]⟩ (bE) ?_
  refine ao ?_
  refine aj.dd (X:=Nat) 0 (fun i=>[(0,.ptr 0 0),(15,.ay 1 (ps.map cj)),(16,.int .i64 ((ps.map cj).length:Int)),(17,.int .i64 (i:Int))]) (fun i=>[(0,182,[.ptr 0 0,.own 0 1 ((out++pj++(ps.take i).flatten).map hL),.int .i64 (d:Int)])]) (fun i=>[(0,.bJ 5 1 ((out++pj++(ps.take i).flatten).map hL).length)]) (fun i=>i≤ps.length) (fun i=>ps.length-i) (Nat.zero_le _) ⟨rfl,rfl,rfl,rfl,trivial⟩ ⟨by simp only[List.take_zero,List.flatten_nil,List.append_nil]; rfl,trivial⟩ ⟨by simp only[List.take_zero,List.flatten_nil,List.append_nil]; rfl,trivial⟩ ?_
  intro i ai
  try simp only at ai ⊢
  have yU:=KZ ps i
  cases af:ps[i]? with
  |some v=>
   have cK:=(List.getElem?_eq_some_iff.1 af).1
   have ev:=XT af
   have LD:=KZ ps (i+1)
   rw[ev,List.length_append]at LD
   have d1:(i:Int)<((ps.map cj).length:Int):=by rw[List.length_map]; omega
   have fV:(out++pj++(ps.take i).flatten).length+v.length≤1000000000:=by simp only[List.length_append]; omega
   have fy:out++pj++(ps.take (i+1)).flatten=(out++pj++(ps.take i).flatten)++v:=by rw[ev,List.append_assoc,List.append_assoc,List.append_assoc]
   generalize out++pj++(ps.take i).flatten=Y at fV fy ⊢
   (have al:=d1;refine bQ ?_;clear al)
   refine D.F ⟨[0],[0]⟩ (OX (C8 d) (.inr rfl) Y v fV) ?_
   refine ao ?_
   refine aj.dK (i+1) (by omega) ⟨rfl,rfl,rfl,by simp only[Int.natCast_add]; rfl,trivial⟩ (by simp only[fy]; exact⟨rfl,trivial⟩) (by simp only[fy]; exact⟨rfl,trivial⟩) rfl rfl (by show ps.length-(i+1)<ps.length-i; omega)
  |none=>
   have cM:=List.getElem?_eq_none_iff.1 af
   have bE:i=ps.length:=by omega
   subst bE
   have d1: ¬(ps.length:Int)<((ps.map cj).length:Int):=by rw[List.length_map]; omega
   rw[List.take_length]
   have fV:(out++pj++ps.flatten).length+1≤1000000000:=by simp only[List.length_append]; omega
   rw[show out++(pj++ps.flatten++[10])=(out++pj++ps.flatten)++[10] by simp only[List.append_assoc]]
   generalize out++pj++ps.flatten=Y at fV ⊢
   (have al:=d1;refine bQ ?_;clear al)
   refine D.F ⟨[0],[0]⟩ (xF (C8 d) (.inr rfl) Y 10 10 rfl fV) ?_
   refine ao ?_
   refine D.r ?_
   exact⟨rfl,⟨rfl,trivial⟩,rfl,trivial⟩
end
section
attribute [local go_sem] hL lT ad.ct ad.b9 ad.de ac.ct ac.b9 ac.de cj eN
abbrev vR (out:a7) (d:Nat):fe:=lA 182 (.ptr 0 0) out [.int .i64 (d:Int)]
theorem Fi (d:Nat){l:List ac}{i:Nat}{v:ac}(h:l[i]? =some v):ac.fF d (l.take (i+1))=ac.fF d (l.take i)++ac.gS d [105,102,32] v:=by
 have dM: ∀a b:List ac,ac.fF d (a++b)=ac.fF d a++ac.fF d b:=by
  intro a
  induction a with
  |nil=>intro b; rfl
  |cons x a cv=>intro b; simp only[List.cons_append,ac.fF,cv b,List.append_assoc]
 rw[List.take_add_one,h,dM]
 simp only[Option.toList_some,ac.fF,List.append_nil]
theorem Fh (d:Nat) (l:List ac) (i:Nat):(ac.fF d (l.take i)).length≤(ac.fF d l).length:=by
 induction l generalizing i with
 |nil=>simp
 |cons x l cv=>
  cases i with
  |zero=>simp [ac.fF]
  |succ i=>
   simp only[List.take_succ_cons,ac.fF,List.length_append]
   have:=cv i
   omega
theorem OJ (d:Nat){l:List ac}{i:Nat}{v:ac}(h:l[i]? =some v):(ac.fF d (l.take i)).length+(ac.gS d [105,102,32] v).length≤(ac.fF d l).length:=by
 have:=Fh d l (i+1)
 rw[Fi d h,List.length_append]at this
 exact this
def mP (N:Nat):Prop:=∀(x:ac) (d:Nat) (out:a7),x.bI≤N→hX x=true→d+x.bI≤1000000→out.length+(ac.gS d [105,102,32] x).length≤1000000000→bz Tryz.prog 182 [.ptr 0 0,.agg x.row] (pC 182 (.ptr 0 0) out [.int .i64 (d:Int)]) (fJ (.di []) (vR (out++ac.gS d [105,102,32] x) d) (qo (out++ac.gS d [105,102,32] x)))
def oH (N:Nat):Prop:=∀(l:List ac) (d:Nat) (out:a7),ac.bB l≤N→ho l=true→d+1+ac.bB l≤1000000→out.length+(ac.fF (d+1) l).length≤1000000000→bz Tryz.prog 126 [.ptr 0 0,.ay 11 (l.map ac.row)] (pC 182 (.ptr 0 0) out [.int .i64 (d:Int)]) (fJ (.di []) (vR (out++ac.fF (d+1) l) d) (qo (out++ac.fF (d+1) l)))
theorem OC {N:Nat}(mo:mP N):oH N:=by
 intro l d out bW aY bw aH
 have j9:=ac.hZ l
 rw[yK]at aY
 refine bz.intro bN Tryz.func126 Uf ?_
 unfold I6 PG
 simp(disch:=omega)only[go_sem,simprocAttr]
 refine ao ?_
 refine aj.dd (X:=Nat) 0 (fun i=>[(0,.ptr 0 0),(13,.ay 11 (l.map ac.row)),(14,.int .i64 ((l.map ac.row).length:Int)),(15,.int .i64 (i:Int))]) (fun i=>vR (out++ac.fF (d+1) (l.take i)) (d+1)) (fun i=>qo (out++ac.fF (d+1) (l.take i))) (fun i=>i≤l.length) (fun i=>l.length-i) (Nat.zero_le _) ⟨rfl,rfl,rfl,rfl,trivial⟩ ⟨by simp only[List.take_zero,ac.fF,List.append_nil,Int.natCast_add]; rfl,trivial⟩ ⟨by simp only[List.take_zero,ac.fF,List.append_nil]; rfl,trivial⟩ ?_
 intro i ai
 try simp only at ai ⊢
 have yU:=Fh (d+1) l i
 cases af:l[i]? with
 |some v=>
  have cK:=(List.getElem?_eq_some_iff.1 af).1
  have gN:=List.mem_of_getElem? af
  have aR0:=ac.pW gN
  have mZ:hX v=true:=by simpa using List.all_eq_true.1 aY v gN
  have LD:=OJ (d+1) af
  have fy:out++ac.fF (d+1) (l.take (i+1))=(out++ac.fF (d+1) (l.take i))++ac.gS (d+1) [105,102,32] v:=by rw[Fi _ af,List.append_assoc]
  have d1:(i:Int)<((l.map ac.row).length:Int):=by rw[List.length_map]; omega
  have fV:(out++ac.fF (d+1) (l.take i)).length+(ac.gS (d+1) [105,102,32] v).length≤1000000000:=by simp only[List.length_append]; omega
  generalize out++ac.fF (d+1) (l.take i)=Y at fV fy ⊢
  have e:=mo v (d+1) Y (by omega) mZ (by omega) fV
  generalize ac.gS (d+1) [105,102,32] v=mE at e fy
  rcases v with ⟨dY,aj0,⟨aN2,aN6,aN4,aN7,aN5,aN3⟩,aJ2,aE4,aE6⟩
  simp(disch:=omega)only[go_sem,simprocAttr]at e
  (have al:=d1;refine bQ ?_;clear al)
  refine D.F ⟨[0],[0]⟩ (e) ?_
  refine ao ?_
  refine aj.gT (i+1) (by omega) ⟨rfl,rfl,rfl,by simp only[Int.natCast_add]; rfl,trivial⟩ (by simp only[fy,vR,lA,Int.natCast_add]; exact⟨rfl,trivial⟩) (by simp only[fy]; exact⟨rfl,trivial⟩) rfl (by simp only[fY,dr,dP,dV,fO,I.cR,b2.bJ,vR,lA,lT,ac.b9,go_sem]<;>rfl) (by show l.length-(i+1)<l.length-i; omega)
 |none=>
  have cM:=List.getElem?_eq_none_iff.1 af
  have bE:i=l.length:=by omega
  subst bE
  have d1: ¬(l.length:Int)<((l.map ac.row).length:Int):=by rw[List.length_map]; omega
  rw[List.take_length]
  (have al:=d1;refine bQ ?_;clear al)
  refine D.r ?_
  refine⟨rfl,⟨?_,trivial⟩,rfl,trivial⟩
  simp only[vR,lA]
  rw[show ((d+1:Nat):Int)-1=(d:Int) by omega]
  rfl
theorem Bi {k:Int}{m:a7}{t:Int}{kk b7:Nat}(h:eu k m t kk b7=true):(k=1∧t=0∧kk=0∧b7=0)∨(k=2∧m=[]∧t=0)∨(k=3∧m=[]∧1≤t∧t≤50∧b7=0):=by
 unfold eu at h
 by_cases J:k=1
 ·simp [J]at h; simp [J,h.2.1,h.2.2.1,h.2.2.2]
 by_cases aa:k=2
 ·simp [aa]at h; simp [aa,h.1,h.2]
 by_cases au:k=3
 ·simp [au]at h; simp [au,h.1,h.2.1,h.2.2.1,h.2.2.2]
 simp [J,aa,au]at h
theorem xO {d:Nat}{s:a7}{ps:List a7}(h:s∈ps):s.length≤(eE d ps).length:=by
 have: ∀(l:List a7),s∈l→s.length≤l.flatten.length:=by
  intro l
  induction l with
  |nil=>intro h; cases h
  |cons x l cv=>
   intro h
   rw[List.flatten_cons,List.length_append]
   rcases List.mem_cons.1 h with rfl|h
   ·omega
   ·have:=cv h; omega
 have:=this ps h
 simp only[eE,List.length_append]
 omega
theorem ar5 {N:Nat}(dX:oH N):mP (N+1):=by
 rintro⟨k,h7,x,t,hU,gD⟩ d out bW aY bw aH
 simp only[ac.bI]at bW bw
 simp only[hX,Bool.and_eq_true]at aY
 obtain⟨bh,pQ,pP,lY⟩:=aY
 have xa:x.bI≤1000000:=by omega
 rcases Bi bh with ⟨rfl,rfl,aa,au⟩|⟨rfl,rfl,rfl⟩|⟨rfl,rfl,J,aa,au⟩
 ·have bE:ac.gS d [105,102,32] (.mk 1 h7 x 0 hU gD)=eE d [h7,[32,61,32],cm x,[59]]:=by simp only[ac.gS,if_true]
  rw[bE]at aH ⊢
  have ap:(cm x).length≤1000000000:=by have:=xO (d:=d) (s:=cm x) (ps:=[h7,[32,61,32],cm x,[59]]) (by simp); omega
  have e:=(tf 1000000).1 x xa pQ ap
  have el:=oy d (by omega) (.inr rfl) out [h7,[32,61,32],cm x,[59]] (by simp) aH
  generalize eE d [h7,[32,61,32],cm x,[59]]=L at*
  generalize cm x=iD at*
  rcases x with ⟨eb,ef,ed,eg,ee,ec⟩
  simp(disch:=omega)only[go_sem,simprocAttr]at e
  refine bz.intro bN Tryz.func182 Dd ?_
  unfold AL Cd
  simp(disch:=omega)only[go_sem,simprocAttr]
  iterate 3 refine iT ?_
  repeat refine D.cN true true ?_
  refine aj.fs (anns:=[.str iD]) ?_
  refine bK ?_
  refine D.df (e) ?_
  refine bK ?_
  refine D.F ⟨[0],[0]⟩ (el) ?_
  refine ao ?_
  refine D.r ?_
  exact⟨rfl,⟨rfl,trivial⟩,rfl,trivial⟩
 ·have eC: ∃F,F=out++ac.gS d [105,102,32] (.mk 2 [] x 0 hU gD):=⟨_,rfl⟩
  obtain⟨F,eC⟩:=eC
  have Be:F.length≤1000000000:=by rw[eC,List.length_append]; omega
  rw[←eC]
  rcases x with ⟨eb,ef,ed,eg,ee,ec⟩
  refine bz.intro bN Tryz.func182 Dd ?_
  unfold AL Cd
  simp(disch:=omega)only[go_sem,simprocAttr]
  iterate 4 refine iT ?_
  refine ao ?_
  refine aj.dd (X:=a7×ad×List ac×List ac×a7) ([105,102,32],.mk eb ef ed eg ee ec,hU,gD,out) (fun y=>[(0,.ptr 0 0),(3,.ptr 1 0),(4,.str y.1)]) (fun y=>[(0,182,[.ptr 0 0,.own 0 1 (y.2.2.2.2.map hL),.int .i64 (d:Int)]),(1,133,(ac.mk 2 [] y.2.1 0 y.2.2.1 y.2.2.2.1).row)]) (fun y=>[(0,.bJ 5 1 (y.2.2.2.2.map hL).length)]) (fun y=>dB y.2.1=true∧ho y.2.2.1=true∧ho y.2.2.2.1=true∧y.2.1.bI+ac.bB y.2.2.1+ac.bB y.2.2.2.1≤N∧d+(1+y.2.1.bI+ac.bB y.2.2.1+ac.bB y.2.2.2.1)≤1000000∧F=y.2.2.2.2++ac.gS d y.1 (.mk 2 [] y.2.1 0 y.2.2.1 y.2.2.2.1)) (fun y=>ac.bB y.2.2.2.1) ⟨pQ,pP,lY,by simp only; omega,by simp only; omega,eC⟩ ⟨rfl,rfl,rfl,trivial⟩ ⟨rfl,by simp only[ac.ct,ad.ct]; rfl,trivial⟩ ⟨rfl,trivial⟩ ?_
  rintro⟨D8,x,a,b,O⟩ ⟨pQ,pP,lY,bW,bw,eC⟩
  simp only at pQ pP lY bW bw eC ⊢
  have qC:=congrArg List.length eC
  simp only[ac.gS,show ¬(2:Int)=1 by decide,show ¬(2:Int)=3 by decide,if_false]at eC
  obtain⟨L,ek⟩: ∃L,L=eE d [D8,cm x,[32,123]]:=⟨_,rfl⟩
  obtain⟨re,sV⟩: ∃re,re=ac.fF (d+1) a:=⟨_,rfl⟩
  obtain⟨T,c4⟩: ∃T,T=(if jH b=true then ac.rC d b else (if b.isEmpty=true then[] else eE d [[125,32,101,108,115,101,32,123]]++ac.fF (d+1) b)++eE d [[125]]):=⟨_,rfl⟩
  rw[←ek,←sV,←c4]at eC
  have Yp:O.length+L.length+re.length+T.length=F.length:=by rw[eC]; simp only[List.length_append]; omega
  have ap:(cm x).length≤1000000000:=by have:=xO (d:=d) (s:=cm x) (ps:=[D8,cm x,[32,123]]) (by simp); rw[←ek]at this; omega
  have e:=(tf 1000000).1 x (by omega) pQ ap
  have el:=oy d (by omega) (.inr rfl) O [D8,cm x,[32,123]] (by simp) (by rw[←ek]; omega)
  rw[←ek]at el
  have kG:=dX a d (O++L) (by omega) pP (by omega) (by rw[←sV,List.length_append]; omega)
  rw[←sV]at kG
  clear ek sV qC
  generalize cm x=iD at*
  rcases x with ⟨eb,ef,ed,eg,ee,ec⟩
  simp only[ac.ct,ad.ct]
  simp(disch:=omega)only[go_sem,simprocAttr]at e
  refine ao ?_
  refine D.P (e) ?_
  refine ao ?_
  refine D.F ⟨[0],[0]⟩ (el) ?_
  refine ao ?_
  refine D.F ⟨[0],[0]⟩ (kG) ?_
  have w0:F=(O++L++re)++T:=by rw[eC]; simp only[List.append_assoc]
  have Ln:(O++L++re).length+T.length≤1000000000:=by simp only[List.length_append]; omega
  generalize O++L++re=Y at w0 Ln ⊢
  clear eC Yp el kG e
  by_cases oo:b=[]
  ·subst oo
   simp only[jH,List.isEmpty_nil,Bool.false_eq_true,if_false,if_true,List.nil_append]at c4
   have qt:=oy d (by omega) (.inr rfl) Y [[125]] (by simp) (by rw[←c4]; exact Ln)
   rw[←c4,←w0]at qt
   refine ao ?_
   refine D.F ⟨[0],[0]⟩ (qt) ?_
   refine ao ?_
   refine D.r ?_
   exact⟨rfl,⟨rfl,trivial⟩,rfl,trivial⟩
  cases eU:jH b with
  |true=>
   rw[eU,if_pos rfl]at c4
   match b,eU,lY,bW,bw,c4 with
   |[.mk sv x8 SL uU tB su],eU,lY,bW,bw,c4=>
   have eU:sv=2:=of_decide_eq_true eU
   subst eU
   simp only[ho,hX,Bool.and_true,Bool.and_eq_true]at lY
   obtain⟨Z9,aa0,Z7,Z8⟩:=lY
   rcases Bi Z9 with ⟨h,_⟩|⟨_,rfl,rfl⟩|⟨h,_⟩
   ·cases h
   rotate_left
   ·cases h
   simp only[ac.bB,ac.bI]at bW bw
   simp only[ac.rC]at c4
   rw[c4]at w0
   have Me:ac.bB su<ac.bB [ac.mk 2 [] SL 0 tB su]:=by simp only[ac.bB,ac.bI]; omega
   rcases SL with ⟨SM,SQ,SO,SR,SP,SN⟩
   refine ao ?_
   refine aj.dK ([125,32,101,108,115,101,32,105,102,32],.mk SM SQ SO SR SP SN,tB,su,Y) ⟨aa0,Z7,Z8,by simp only; omega,by simp only; omega,w0⟩ ⟨rfl,rfl,rfl,trivial⟩ ⟨rfl,by simp only[ac.ct,ad.ct]; rfl,trivial⟩ ⟨rfl,trivial⟩ rfl rfl Me
  |false=>
   have xf:b.isEmpty=false:=by cases b with|nil=>exact absurd rfl oo|cons _ _=>rfl
   rw[eU,xf]at c4
   simp only[Bool.false_eq_true,if_false]at c4
   obtain⟨yg,Bf⟩: ∃yg,yg=eE d [[125,32,101,108,115,101,32,123]]:=⟨_,rfl⟩
   obtain⟨Aa,Bd⟩: ∃Aa,Aa=ac.fF (d+1) b:=⟨_,rfl⟩
   obtain⟨E,dc⟩: ∃E,E=eE d [[125]]:=⟨_,rfl⟩
   rw[←Bf,←Bd,←dc]at c4
   have Lo:=congrArg List.length c4
   simp only[List.length_append]at Lo
   have ar:=oy d (by omega) (.inr rfl) Y [[125,32,101,108,115,101,32,123]] (by simp) (by rw[←Bf]; omega)
   rw[←Bf]at ar
   have ax:=dX b d (Y++yg) (by omega) lY (by omega) (by rw[←Bd,List.length_append]; omega)
   rw[←Bd]at ax
   have cw:=oy d (by omega) (.inr rfl) (Y++yg++Aa) [[125]] (by simp) (by rw[←dc]; simp only[List.length_append]; omega)
   rw[←dc]at cw
   have Lm:F=Y++yg++Aa++E:=by rw[w0,c4]; simp only[List.append_assoc]
   clear c4 Bf Bd dc w0 Lo
   by_cases hlen:b.length=1
   focus
    match b,hlen,eU with
    |[.mk sv x8 ⟨SM,SQ,SO,SR,SP,SN⟩ uU tB su],_,eU=>
    have eU: ¬sv=2:=of_decide_eq_false eU
    simp(disch:=omega)only[go_sem,simprocAttr]at ax
    (have al:=eU;refine bQ ?_;clear al)
    refine D.F ⟨[0],[0]⟩ (ar) ?_
    refine ao ?_
    refine D.F ⟨[0],[0]⟩ (ax) ?_
    refine ao ?_
    refine D.F ⟨[0],[0]⟩ (cw) ?_
    refine ao ?_
    refine D.r ?_
    rw[Lm]
    exact⟨rfl,⟨rfl,trivial⟩,rfl,trivial⟩
   have qF:0<b.length:=by cases b with|nil=>exact absurd rfl oo|cons _ _=>simp
   have d5: ¬((b.map ac.row).length:Int)=1:=by rw[List.length_map]; omega
   have d6:(0:Int)<((b.map ac.row).length:Int):=by rw[List.length_map]; omega
   (have al:=d5;have z2:=d6;refine e8 ?_;clear al z2)
   refine D.F ⟨[0],[0]⟩ (ar) ?_
   refine ao ?_
   refine D.F ⟨[0],[0]⟩ (ax) ?_
   refine ao ?_
   refine D.F ⟨[0],[0]⟩ (cw) ?_
   refine ao ?_
   refine D.r ?_
   rw[Lm]
   exact⟨rfl,⟨rfl,trivial⟩,rfl,trivial⟩
 ·have bE:ac.gS d [105,102,32] (.mk 3 [] x t hU gD)=eE d [[119,104,105,108,101,32],cm x,[32,116,105,109,101,115,32],Lib.itoa t,[32,123]]++ac.fF (d+1) hU++eE d [[125]]:=by simp only[ac.gS,show ¬(3:Int)=1 by decide,if_false,if_true]
  rw[bE]at aH ⊢
  obtain⟨L,ek⟩: ∃L,L=eE d [[119,104,105,108,101,32],cm x,[32,116,105,109,101,115,32],Lib.itoa t,[32,123]]:=⟨_,rfl⟩
  obtain⟨re,sV⟩: ∃re,re=ac.fF (d+1) hU:=⟨_,rfl⟩
  obtain⟨E,dc⟩: ∃E,E=eE d [[125]]:=⟨_,rfl⟩
  rw[←ek,←sV,←dc]at aH ⊢
  simp only[List.length_append]at aH
  have ap:(cm x).length≤1000000000:=by have:=xO (d:=d) (s:=cm x) (ps:=[[119,104,105,108,101,32],cm x,[32,116,105,109,101,115,32],Lib.itoa t,[32,123]]) (by simp); rw[←ek]at this; omega
  have e:=(tf 1000000).1 x xa pQ ap
  have tZ:=zq t (by omega) (by omega)
  have el:=oy d (by omega) (.inr rfl) out [[119,104,105,108,101,32],cm x,[32,116,105,109,101,115,32],Lib.itoa t,[32,123]] (by simp) (by rw[←ek]; omega)
  rw[←ek]at el
  have kG:=dX hU d (out++L) (by omega) pP (by omega) (by rw[←sV,List.length_append]; omega)
  rw[←sV]at kG
  have qt:=oy d (by omega) (.inr rfl) (out++L++re) [[125]] (by simp) (by rw[←dc]; simp only[List.length_append]; omega)
  rw[←dc]at qt
  clear ek sV dc
  generalize cm x=iD at*
  generalize Lib.itoa t=aF8 at*
  rcases x with ⟨eb,ef,ed,eg,ee,ec⟩
  simp(disch:=omega)only[go_sem,simprocAttr]at e
  refine bz.intro bN Tryz.func182 Dd ?_
  unfold AL Cd
  simp(disch:=omega)only[go_sem,simprocAttr]
  iterate 4 refine iT ?_
  repeat refine D.cN true true ?_
  refine aj.fs (anns:=[.str iD,.str aF8]) ?_
  refine bK ?_
  refine D.df (e) ?_
  refine bK ?_
  refine D.df (tZ) ?_
  refine bK ?_
  refine D.F ⟨[0],[0]⟩ (el) ?_
  refine ao ?_
  refine D.F ⟨[0],[0]⟩ (kG) ?_
  refine ao ?_
  refine D.F ⟨[0],[0]⟩ (qt) ?_
  refine ao ?_
  refine D.r ?_
  refine⟨rfl,⟨?_,trivial⟩,?_,trivial⟩
  ·simp only[vR,lA,List.append_assoc]; rfl
  ·simp only[qo,List.append_assoc]; rfl
theorem OL: ∀N,mP N∧oH N
 |0=>by
  have h:mP 0:=fun x d out h=>by cases x; simp only[ac.bI]at h; omega
  exact⟨h,OC h⟩
 |N+1=>by
  have h:=ar5 (OL N).2
  exact⟨h,OC h⟩
end
section
attribute [local go_sem] ad.ct ac.ct ad.b9 ac.b9 cj eN fZ gJ dp of_flat
attribute [local go_sem] cb.row dG
theorem O7 {R:Nat}(an:R≤140737488355328): ∀(N:Nat) (x y:ac),x.bI≤N→x.ok R→Pure Tryz.prog 68 [.agg x.row,.agg y.row] (.bool (q3 x y))
 |N,.mk k m x t a b,.mk bA m2 rc t2 a2 dU,bW,ab=>by
  have key: ∀(l dZ:List ac),ac.bB l+1≤N→l.length*168≤R→ac.lk R l→Pure Tryz.prog 67 [.ay 11 (l.map ac.row),.ay 11 (dZ.map ac.row),.fn 68 []] (.bool (mH l dZ)):=fun l dZ aH hlen aC=>by
   rw[Ct]
   refine O6 q3 68 (by kernel_rfl) l dZ (r3 an (by decide) hlen) fun i u v hu af=> ?_
   have hm:=ac.lh hu
   match N,aH with
   |0,aH=>omega
   |N+1,aH=>exact O7 an N u v (by omega) (ac.qU aC hu)
  simp only[ac.bI]at bW
  have mm:=key a a2 (by omega) ab.2.2.2.2.1 ab.2.2.2.2.2.2.1
  have kG:=key b dU (by omega) ab.2.2.2.2.2.1 ab.2.2.2.2.2.2.2
  have ex:=FA an x.bI x rc (Nat.le_refl _) ab.2.2.1
  clear ab key
  obtain⟨cO,pX,m3,t3,MV,o2⟩:=x
  obtain⟨fC,vM,m4,t4,n4,BF⟩:=rc
  simp(disch:=omega)only[go_sem,simprocAttr]at ex
  refine cF bN Tryz.func68 VG (by simp only[ac.ct,ad.ct,List.cons_append,List.nil_append,b3,I.flat,ad.b9,ac.b9,Bool.and_self]) rfl ?_
  unfold Kl Q8
  simp only[q3]
  generalize nF (ad.mk cO pX m3 t3 MV o2) (ad.mk fC vM m4 t4 n4 BF)=Hr at ex
  generalize mH a a2=aO4 at mm
  generalize mH b dU=lA at kG
  simp(disch:=omega)only[go_sem,simprocAttr]
  (repeat' first|refine D.S ?_|refine D.cN true true ?_|refine ae.nil ?_|refine aj.b6 ?_|refine D.W ?_|refine D.Z ?_|refine D.G ?_ ?_|refine D.X ‹_› ?_|refine D.eh ‹_› ?_|refine D.ei ‹_› ?_|intro h)
  ·refine D.P (ex) ?_
   (repeat' first|refine D.S ?_|refine D.cN true true ?_|refine ae.nil ?_|refine aj.b6 ?_|refine D.W ?_|refine D.Z ?_|refine D.G ?_ ?_|refine D.X ‹_› ?_|refine D.eh ‹_› ?_|refine D.ei ‹_› ?_|intro h)
   ·refine D.P (mm) ?_
    (repeat' first|refine D.S ?_|refine D.cN true true ?_|refine ae.nil ?_|refine aj.b6 ?_|refine D.W ?_|refine D.Z ?_|refine D.G ?_ ?_|refine D.X ‹_› ?_|refine D.eh ‹_› ?_|refine D.ei ‹_› ?_|intro h)
    ·refine D.P (kG) ?_
     refine ao ?_
     refine D.r ?_
     refine⟨_,rfl,.av ?_ rfl,trivial,trivial⟩
     simp_all [I.av]
    all_goals
     refine D.R ?_
     refine⟨_,rfl,.av ?_ rfl,trivial,trivial⟩
     simp_all [I.av]
   all_goals
    refine D.R ?_
    refine⟨_,rfl,.av ?_ rfl,trivial,trivial⟩
    simp_all [I.av]
  all_goals
   refine D.R ?_
   refine⟨_,rfl,.av ?_ rfl,trivial,trivial⟩
   simp_all [I.av]
theorem aH6 {R:Nat}(an:R≤140737488355328) (l dZ:List ac) (hlen:l.length*168≤R) (aC:ac.lk R l):Pure Tryz.prog 67 [.ay 11 (l.map ac.row),.ay 11 (dZ.map ac.row),.fn 68 []] (.bool (mH l dZ)):=by
 rw[Ct]
 exact O6 q3 68 (by kernel_rfl) l dZ (r3 an (by decide) hlen) fun i u v hu af=>O7 an u.bI u v (Nat.le_refl _) (ac.qU aC hu)
theorem KQ {R:Nat}(an:R≤140737488355328) (l dZ:List ad) (hlen:l.length*88≤R) (aC:ad.lk R l):Pure Tryz.prog 71 [.ay 6 (l.map ad.row),.ay 6 (dZ.map ad.row),.fn 72 []] (.bool (lW l dZ)):=by
 rw[AY]
 exact O8 nF 72 (by kernel_rfl) l dZ (r3 an (by decide) hlen) fun i u v hu af=>FA an u.bI u v (Nat.le_refl _) (ad.qU aC hu)
theorem ay1 {R:Nat}(an:R≤140737488355328) (a b:cd) (aP:a.ok R):Pure Tryz.prog 65 [.agg a.row,.agg b.row] (.bool (qE a b)):=by
 have ar:=ay2 a.ps b.ps (r3 an (by decide) aP.2.2.1)
 have ax:=aH6 an a.body b.body aP.2.2.2.2.1 aP.2.2.2.2.2
 refine cF bN Tryz.func65 VD (by simp only[fZ,b3,I.flat,eN,ac.b9,Bool.and_self]) rfl ?_
 unfold Ki Q5
 simp only[qE]
 generalize decide (a.ps=b.ps)=eB at ar
 generalize mH a.body b.body=dU at ax
 simp(disch:=omega)only[go_sem,simprocAttr]
 (repeat' first|refine D.S ?_|refine D.cN true true ?_|refine ae.nil ?_|refine aj.b6 ?_|refine D.W ?_|refine D.Z ?_|refine D.G ?_ ?_|refine D.X ‹_› ?_|refine D.eh ‹_› ?_|refine D.ei ‹_› ?_|intro h)
 ·refine D.P (ar) ?_
  (repeat' first|refine D.S ?_|refine D.cN true true ?_|refine ae.nil ?_|refine aj.b6 ?_|refine D.W ?_|refine D.Z ?_|refine D.G ?_ ?_|refine D.X ‹_› ?_|refine D.eh ‹_› ?_|refine D.ei ‹_› ?_|intro h)
  ·refine D.P (ax) ?_
   refine ao ?_
   refine D.r ?_
   refine⟨_,rfl,.av ?_ rfl,trivial,trivial⟩
   simp_all [I.av]
  all_goals
   refine D.R ?_
   refine⟨_,rfl,.av ?_ rfl,trivial,trivial⟩
   simp_all [I.av]
 all_goals
  refine D.R ?_
  refine⟨_,rfl,.av ?_ rfl,trivial,trivial⟩
  simp_all [I.av]
theorem ay4 {R:Nat}(an:R≤140737488355328) (a b:ca) (aP:a.ok R):Pure Tryz.prog 70 [.agg a.row,.agg b.row] (.bool (qT a b)):=by
 have ar:=KQ an a.args b.args aP.2.2.1 aP.2.2.2.1
 have ax:=KQ an a.dT b.dT aP.2.2.2.2.1 aP.2.2.2.2.2
 refine cF bN Tryz.func70 VI (by simp only[gJ,b3,I.flat,ad.b9,Bool.and_self]) rfl ?_
 unfold Kn Rb
 simp only[qT]
 generalize lW a.args b.args=eB at ar
 generalize lW a.dT b.dT=dU at ax
 simp(disch:=omega)only[go_sem,simprocAttr]
 (repeat' first|refine D.S ?_|refine D.cN true true ?_|refine ae.nil ?_|refine aj.b6 ?_|refine D.W ?_|refine D.Z ?_|refine D.G ?_ ?_|refine D.X ‹_› ?_|refine D.eh ‹_› ?_|refine D.ei ‹_› ?_|intro h)
 ·refine D.P (ar) ?_
  (repeat' first|refine D.S ?_|refine D.cN true true ?_|refine ae.nil ?_|refine aj.b6 ?_|refine D.W ?_|refine D.Z ?_|refine D.G ?_ ?_|refine D.X ‹_› ?_|refine D.eh ‹_› ?_|refine D.ei ‹_› ?_|intro h)
  ·refine D.P (ax) ?_
   refine ao ?_
   refine D.r ?_
   refine⟨_,rfl,.av ?_ rfl,trivial,trivial⟩
   simp_all [I.av]
  all_goals
   refine D.R ?_
   refine⟨_,rfl,.av ?_ rfl,trivial,trivial⟩
   simp_all [I.av]
 all_goals
  refine D.R ?_
  refine⟨_,rfl,.av ?_ rfl,trivial,trivial⟩
  simp_all [I.av]
theorem lq (x:e9):x.ir= .agg [.str x.name,.str x.hD,.str x.hA,.ay 7 (x.vars.map cb.row),.ay 4 (x.ap.map cd.row),.ay 4 (x.os.map ca.row)]:=rfl
theorem aw7 {R:Nat}(an:R≤140737488355328) (x y:e9) (ab:x.ok R):Pure Tryz.prog 22 [x.ir,y.ir] (.bool (xR x y)):=by
 have ar:=ax9 x.vars y.vars (r3 an (by decide) ab.nS)
 have ax:=ay0 qE 65 (by kernel_rfl) x.ap y.ap (r3 an (by decide) ab.nh) fun i u v hu af=>ay1 an u v (ab.ap u (List.mem_of_getElem? hu))
 have cw:=ay3 qT 70 (by kernel_rfl) x.os y.os (r3 an (by decide) ab.no) fun i u v hu af=>ay4 an u v (ab.os u (List.mem_of_getElem? hu))
 rw[lq,lq]
 refine cF bN Tryz.func22 Va (by simp only[b3,I.flat,dG,dp,of_flat,Bool.and_self]) rfl ?_
 unfold JV QB
 simp only[xR]
 generalize decide (x.vars=y.vars)=eB at ar
 generalize eL qE x.ap y.ap=dU at ax
 generalize eL qT x.os y.os=jj at cw
 simp(disch:=omega)only[go_sem,simprocAttr]
 (repeat' first|refine D.S ?_|refine D.cN true true ?_|refine ae.nil ?_|refine aj.b6 ?_|refine D.W ?_|refine D.Z ?_|refine D.G ?_ ?_|refine D.X ‹_› ?_|refine D.eh ‹_› ?_|refine D.ei ‹_› ?_|intro h)
 ·refine D.P (ar) ?_
  (repeat' first|refine D.S ?_|refine D.cN true true ?_|refine ae.nil ?_|refine aj.b6 ?_|refine D.W ?_|refine D.Z ?_|refine D.G ?_ ?_|refine D.X ‹_› ?_|refine D.eh ‹_› ?_|refine D.ei ‹_› ?_|intro h)
  ·refine D.P (ax) ?_
   (repeat' first|refine D.S ?_|refine D.cN true true ?_|refine ae.nil ?_|refine aj.b6 ?_|refine D.W ?_|refine D.Z ?_|refine D.G ?_ ?_|refine D.X ‹_› ?_|refine D.eh ‹_› ?_|refine D.ei ‹_› ?_|intro h)
   ·refine D.P (cw) ?_
    refine ao ?_
    refine D.r ?_
    refine⟨_,rfl,.av ?_ rfl,trivial,trivial⟩
    simp_all [I.av]
   all_goals
    refine D.R ?_
    refine⟨_,rfl,.av ?_ rfl,trivial,trivial⟩
    simp_all [I.av]
  all_goals
   refine D.R ?_
   refine⟨_,rfl,.av ?_ rfl,trivial,trivial⟩
   simp_all [I.av]
 all_goals
  refine D.R ?_
  refine⟨_,rfl,.av ?_ rfl,trivial,trivial⟩
  simp_all [I.av]
end
section
attribute [local go_sem] ad.ct ac.ct ad.b9 ac.b9 cj eN fZ gJ dp of_flat
attribute [local go_sem] cb.row dG
theorem fG (x:e9):x.cells=[.str x.name,.str x.hD,.str x.hA,.ay 7 (x.vars.map cb.row),.ay 4 (x.ap.map cd.row),.ay 4 (x.os.map ca.row)]:=rfl
attribute [local go_sem] fG mV
end
section
attribute [local go_sem] hL lT ad.ct ad.b9 ad.de ac.ct ac.b9 ac.de cj eN fZ gJ dp of_flat cb.row dG fG
theorem vI {α:Type}(f:α→a7){l:List α}{i:Nat}{v:α}(h:l[i]? =some v):((l.take (i+1)).map f).flatten=((l.take i).map f).flatten++f v:=by
 rw[List.take_add_one,h]; simp
theorem BJ {α:Type}(f:α→a7) (l:List α) (i:Nat):((l.take i).map f).flatten.length≤(l.map f).flatten.length:=by
 conv=>rhs; rw[←List.take_append_drop i l]
 rw[List.map_append,List.flatten_append,List.length_append]
 omega
theorem zj {α:Type}(f:α→a7){l:List α}{i:Nat}{v:α}(h:l[i]? =some v):((l.take i).map f).flatten.length+(f v).length≤(l.map f).flatten.length:=by
 have:=BJ f l (i+1)
 rw[vI f h,List.length_append]at this
 exact this
theorem DW {v:cb}(h:iN v=true): -1000000000≤v.cz∧v.cz≤1000000000∧ -1000000000≤v.ai∧v.ai≤1000000000∧(v.ik≠2→ -1000000000≤v.n∧v.n≤1000000000)∧v.s.length≤40:=by
 simp only[iN,Bool.and_eq_true,iX,decide_eq_true_eq]at h
 obtain⟨_,J,aa,_,au⟩:=h
 by_cases bC:v.ik=1
 ·rw[if_pos bC]at au
  simp only[Bool.and_eq_true,decide_eq_true_eq]at au
  exact⟨by omega,by omega,by omega,by omega,fun _=>by omega,by rw[au.2]; decide⟩
 rw[if_neg bC]at au
 by_cases bA:v.ik=2
 ·rw[if_pos bA]at au
  simp only[Bool.and_eq_true,decide_eq_true_eq,lM]at au
  exact⟨by omega,by omega,by omega,by omega,fun h=>absurd bA h,au.2.1⟩
 ·rw[if_neg bA]at au
  cases au
theorem yI {h:cd}(aY:jZ h=true):ho h.body=true∧h.ps.length≤4:=by
 simp only[jZ,Bool.and_eq_true,decide_eq_true_eq]at aY
 rw[yK]
 exact⟨aY.2.2.2.2.1,aY.2.2.1⟩
theorem yJ {o:ca}(aY:j6 o=true):o.args.all dB=true∧o.dT.all dB=true∧o.dT.length≤1:=by
 simp only[j6,Bool.and_eq_true,decide_eq_true_eq,List.all_append]at aY
 exact⟨aY.2.2.2.2.1.1,aY.2.2.2.2.1.2,aY.2.2.2.1⟩
structure CU (x:e9):Prop where
 ay:x.vars.all iN=true
 ap:x.ap.all jZ=true
 os:x.os.all j6=true
 aP: ∀h∈x.ap,ac.bB h.body≤900000
 o6: ∀o∈x.os,ad.bB o.args≤900000∧ad.bB o.dT≤900000
 nS:x.vars.length≤1000000
 nh:x.ap.length≤1000000
 no:x.os.length≤1000000
 len:(iK x).length≤900000000
theorem O1 (x:e9) (ab:CU x):Pure Tryz.prog 52 [x.ir] (.str (iK x)):=by
 have eC:=ab.len
 have Em:=ab.nS
 have Ek:=ab.nh
 have ck:=ab.no
 obtain⟨F,oV⟩: ∃F,F=iK x:=⟨_,rfl⟩
 rw[←oV]at eC ⊢
 unfold iK at oV
 obtain⟨H0,w7⟩: ∃H0,H0=eE 0 [[115,101,114,118,105,99,101,32],x.name,[32,112,108,97,121,115,32],x.hD,[32,111,102,32],x.hA,[32,123]]:=⟨_,rfl⟩
 obtain⟨E,dc⟩: ∃E,E=eE 0 [[125]]:=⟨_,rfl⟩
 rw[←w7,←dc]at oV
 have Be:=congrArg List.length oV
 simp only[List.length_append]at Be
 have ar:=oy 0 (by decide) (.inl rfl) [] [[115,101,114,118,105,99,101,32],x.name,[32,112,108,97,121,115,32],x.hD,[32,111,102,32],x.hA,[32,123]] (by simp) (by rw[←w7,List.length_nil]; omega)
 rw[←w7,List.nil_append]at ar
 rw[lq]
 refine cF bN Tryz.func52 Vr (by simp only[b3,I.flat,dG,dp,of_flat,Bool.and_self]) rfl ?_
 unfold rA QS
 simp(disch:=omega)only[go_sem,simprocAttr]
 iterate 2 refine iT ?_
 refine aj.oU 1 1 1 5 rfl rfl (by decide) ?_
 simp(disch:=omega)only[go_sem,simprocAttr]
 refine ao ?_
 refine D.F ⟨[1],[0]⟩ (ar) ?_
 refine ao ?_
 clear ar
 obtain⟨V,ol⟩: ∃V,V=H0++(x.vars.map jT).flatten:=⟨_,rfl⟩
 have Lp:V.length=H0.length+(x.vars.map jT).flatten.length:=by rw[ol,List.length_append]
 refine aj.dd (X:=Nat) 0 (fun i=>[(1,.ptr 0 0),(3,.ptr 1 0),(27,.ay 7 (x.vars.map cb.row)),(28,.int .i64 ((x.vars.map cb.row).length:Int)),(29,.int .i64 (i:Int))]) (fun i=>[(0,27,x.cells),(1,182,[.ptr 1 0,.own 0 1 ((H0++((x.vars.take i).map jT).flatten).map hL),.int .i64 1])]) (fun i=>[(0,.bJ 5 1 ((H0++((x.vars.take i).map jT).flatten).map hL).length)]) (fun i=>i≤x.vars.length) (fun i=>x.vars.length-i) (Nat.zero_le _) ⟨rfl,rfl,rfl,rfl,rfl,trivial⟩ ⟨rfl,by simp only[List.take_zero,List.map_nil,List.flatten_nil,List.append_nil]; rfl,trivial⟩ ⟨by simp only[List.take_zero,List.map_nil,List.flatten_nil,List.append_nil]; rfl,trivial⟩ ?_
 intro i ai
 try simp only at ai ⊢
 cases af:x.vars[i]? with
 |some v=>
  have cK:=(List.getElem?_eq_some_iff.1 af).1
  have gN:=List.mem_of_getElem? af
  have mZ:iN v=true:=by simpa using List.all_eq_true.1 ab.ay v gN
  have ev:=vI jT af
  have hle:=zj jT af
  have d1:(i:Int)<((x.vars.map cb.row).length:Int):=by rw[List.length_map]; omega
  obtain⟨Y,fV⟩: ∃Y,Y=H0++((x.vars.take i).map jT).flatten:=⟨_,rfl⟩
  have fy:H0++((x.vars.take (i+1)).map jT).flatten=Y++jT v:=by rw[ev,fV,List.append_assoc]
  have uk:Y.length+(jT v).length≤900000000:=by rw[fV,List.length_append]; omega
  obtain⟨g1,g2,g3,g4,g5,g6⟩:=DW mZ
  obtain⟨s1,o0⟩: ∃s1,s1=Lib.itoa v.cz:=⟨_,rfl⟩
  obtain⟨s2,nL⟩: ∃s2,s2=Lib.itoa v.ai:=⟨_,rfl⟩
  obtain⟨oA,Eu⟩: ∃oA,oA=qM v.ik v.n v.s:=⟨_,rfl⟩
  have fR:=zq v.cz g1 g2
  have il:=zq v.ai g3 g4
  have gl:=at2 v.ik v.n v.s g5 (by omega)
  have xo:jT v=eE 1 [[118,97,114,32],v.name,[58,32],if v.hV=2 then[116,101,120,116,32] else[105,110,116,32],s1,[32,46,46,32],s2,[32,61,32],oA,[59]]:=by rw[o0,nL,Eu]; rfl
  rw[←o0]at fR
  rw[←nL]at il
  rw[←Eu]at gl
  rw[←fV]
  generalize jT v=L at*
  clear ev hle fV o0 nL Eu
  by_cases aa:v.hV=2
  focus
   rw[if_pos aa]at xo
   have e:=oy 1 (by decide) (.inr rfl) Y [[118,97,114,32],v.name,[58,32],[116,101,120,116,32],s1,[32,46,46,32],s2,[32,61,32],oA,[59]] (by simp) (by rw[←xo]; omega)
   rw[←xo]at e
   (have al:=d1;have z2:=aa;refine fo ?_;refine fo ?_;refine fo ?_;refine fo ?_;refine fo ?_;clear al z2)
   (have al:=d1;have z2:=aa;refine ye ?_;clear al z2)
  rotate_left
  focus
   rw[if_neg aa]at xo
   have e:=oy 1 (by decide) (.inr rfl) Y [[118,97,114,32],v.name,[58,32],[105,110,116,32],s1,[32,46,46,32],s2,[32,61,32],oA,[59]] (by simp) (by rw[←xo]; omega)
   rw[←xo]at e
   (have al:=d1;have z2:=aa;refine fo ?_;refine fo ?_;refine fo ?_;refine fo ?_;clear al z2)
   (have al:=d1;have z2:=aa;refine ye ?_;clear al z2)
  all_goals
   refine aj.fs (anns:=[.str s1,.str s2,.str oA]) ?_
   (have al:=aa;refine rj ?_;clear al)
   refine D.df (fR) ?_
   refine bK ?_
   refine D.df (il) ?_
   refine bK ?_
   refine D.df (gl) ?_
   refine bK ?_
   refine D.F ⟨[1],[0]⟩ (e) ?_
   refine ao ?_
   refine aj.gT (i+1) (by omega) ⟨rfl,rfl,rfl,rfl,by simp only[Int.natCast_add]; rfl,trivial⟩ (by simp only[fy]; exact⟨rfl,rfl,trivial⟩) (by simp only[fy]; exact⟨rfl,trivial⟩) rfl (by simp only[fY,dr,dP,dV,fO,I.cR,b2.bJ,fG,lT,dG,dp,of_flat,go_sem]<;>rfl) (by show x.vars.length-(i+1)<x.vars.length-i; omega)
 |none=>
 have cM:=List.getElem?_eq_none_iff.1 af
 have bE:i=x.vars.length:=by omega
 subst bE
 have d1: ¬(x.vars.length:Int)<((x.vars.map cb.row).length:Int):=by rw[List.length_map]; omega
 rw[List.take_length,←ol]
 rw[←ol]at oV
 clear ai af cM
 obtain⟨pv,D3⟩: ∃pv,pv=V++(x.ap.map jb).flatten:=⟨_,rfl⟩
 have aP3:pv.length=V.length+(x.ap.map jb).flatten.length:=by rw[D3,List.length_append]
 (have al:=d1;refine bQ ?_;clear al)
 refine aj.dd (X:=Nat) 0 (fun i=>[(1,.ptr 0 0),(3,.ptr 1 0),(56,.ay 4 (x.ap.map cd.row)),(57,.int .i64 ((x.ap.map cd.row).length:Int)),(58,.int .i64 (i:Int))]) (fun i=>[(0,27,x.cells),(1,182,[.ptr 1 0,.own 0 1 ((V++((x.ap.take i).map jb).flatten).map hL),.int .i64 1])]) (fun i=>[(0,.bJ 5 1 ((V++((x.ap.take i).map jb).flatten).map hL).length)]) (fun i=>i≤x.ap.length) (fun i=>x.ap.length-i) (Nat.zero_le _) ⟨rfl,rfl,rfl,rfl,rfl,trivial⟩ ⟨rfl,by simp only[List.take_zero,List.map_nil,List.flatten_nil,List.append_nil]; rfl,trivial⟩ ⟨by simp only[List.take_zero,List.map_nil,List.flatten_nil,List.append_nil]; rfl,trivial⟩ ?_
 intro i ai
 try simp only at ai ⊢
 cases af:x.ap[i]? with
 |some v=>
  have cK:=(List.getElem?_eq_some_iff.1 af).1
  have gN:=List.mem_of_getElem? af
  have mZ:jZ v=true:=by simpa using List.all_eq_true.1 ab.ap v gN
  have YH:=ab.aP v gN
  have ev:=vI jb af
  have hle:=zj jb af
  have d1:(i:Int)<((x.ap.map cd.row).length:Int):=by rw[List.length_map]; omega
  obtain⟨Y,fV⟩: ∃Y,Y=V++((x.ap.take i).map jb).flatten:=⟨_,rfl⟩
  have fy:V++((x.ap.take (i+1)).map jb).flatten=Y++jb v:=by rw[ev,fV,List.append_assoc]
  have uk:Y.length+(jb v).length≤900000000:=by rw[fV,List.length_append]; omega
  obtain⟨g1,g2⟩:=yI mZ
  obtain⟨s1,o0⟩: ∃s1,s1=Lib.join v.ps [44,32]:=⟨_,rfl⟩
  obtain⟨L,ek⟩: ∃L,L=eE 1 [[111,110,32],v.eK,[40],s1,[41,32,102,114,111,109,32],v.peer,[32,123]]:=⟨_,rfl⟩
  obtain⟨B,dX⟩: ∃B,B=ac.fF (1+1) v.body:=⟨_,rfl⟩
  obtain⟨Z,w9⟩: ∃Z,Z=eE 1 [[125]]:=⟨_,rfl⟩
  have yY:jb v=L++B++Z:=by rw[ek,dX,w9,o0]; rfl
  rw[yY]at uk fy
  simp only[List.length_append]at uk
  have ZR:s1.length≤L.length:=by rw[ek]; exact xO (by simp)
  have fR:=NX v.ps [44,32] (by omega) (by rw[←o0]; omega)
  have e:=oy 1 (by decide) (.inr rfl) Y [[111,110,32],v.eK,[40],s1,[41,32,102,114,111,109,32],v.peer,[32,123]] (by simp) (by rw[←ek]; omega)
  have kG:=(OL 1000000).2 v.body 1 (Y++L) (by omega) g1 (by omega) (by rw[←dX,List.length_append]; omega)
  have qt:=oy 1 (by decide) (.inr rfl) (Y++L++B) [[125]] (by simp) (by rw[←w9,List.length_append,List.length_append]; omega)
  rw[←o0]at fR
  rw[←ek]at e
  rw[←dX]at kG
  rw[←w9]at qt
  have Bw:V++((x.ap.take (i+1)).map jb).flatten=Y++L++B++Z:=by rw[fy]; simp only[List.append_assoc]
  rw[←fV]
  clear ev fy hle fV o0 ek dX w9 yY
  (have al:=d1;refine gA ?_;refine gA ?_;clear al)
  (have al:=d1;refine yd ?_;clear al)
  refine aj.fs (anns:=[.str s1]) ?_
  refine bK ?_
  refine D.df (fR) ?_
  refine bK ?_
  refine D.F ⟨[1],[0]⟩ (e) ?_
  refine ao ?_
  refine D.F ⟨[1],[0]⟩ (kG) ?_
  refine ao ?_
  refine D.F ⟨[1],[0]⟩ (qt) ?_
  refine ao ?_
  refine aj.gT (i+1) (by omega) ⟨rfl,rfl,rfl,rfl,by simp only[Int.natCast_add]; rfl,trivial⟩ (by simp only[Bw]; exact⟨rfl,rfl,trivial⟩) (by simp only[Bw]; exact⟨rfl,trivial⟩) rfl (by simp only[fY,dr,dP,dV,fO,I.cR,b2.bJ,fG,lT,dG,dp,of_flat,go_sem]<;>rfl) (by show x.ap.length-(i+1)<x.ap.length-i; omega)
 |none=>
 have cM:=List.getElem?_eq_none_iff.1 af
 have bE:i=x.ap.length:=by omega
 subst bE
 have d1: ¬(x.ap.length:Int)<((x.ap.map cd.row).length:Int):=by rw[List.length_map]; omega
 rw[List.take_length,←D3]
 rw[←D3]at oV
 clear ai af cM
 (have al:=d1;refine bQ ?_;clear al)
 refine aj.dd (X:=Nat) 0 (fun i=>[(1,.ptr 0 0),(3,.ptr 1 0),(81,.ay 4 (x.os.map ca.row)),(82,.int .i64 ((x.os.map ca.row).length:Int)),(83,.int .i64 (i:Int))]) (fun i=>[(1,182,[.ptr 1 0,.own 0 1 ((pv++((x.os.take i).map jJ).flatten).map hL),.int .i64 1])]) (fun i=>[(0,.bJ 5 1 ((pv++((x.os.take i).map jJ).flatten).map hL).length)]) (fun i=>i≤x.os.length) (fun i=>x.os.length-i) (Nat.zero_le _) ⟨rfl,rfl,rfl,rfl,rfl,trivial⟩ ⟨by simp only[List.take_zero,List.map_nil,List.flatten_nil,List.append_nil]; rfl,trivial⟩ ⟨by simp only[List.take_zero,List.map_nil,List.flatten_nil,List.append_nil]; rfl,trivial⟩ ?_
 intro i ai
 try simp only at ai ⊢
 cases af:x.os[i]? with
 |some v=>
  have cK:=(List.getElem?_eq_some_iff.1 af).1
  have gN:=List.mem_of_getElem? af
  have mZ:j6 v=true:=by simpa using List.all_eq_true.1 ab.os v gN
  obtain⟨YH,Lt⟩:=ab.o6 v gN
  have ev:=vI jJ af
  have hle:=zj jJ af
  have d1:(i:Int)<((x.os.map ca.row).length:Int):=by rw[List.length_map]; omega
  obtain⟨Y,fV⟩: ∃Y,Y=pv++((x.os.take i).map jJ).flatten:=⟨_,rfl⟩
  have fy:pv++((x.os.take (i+1)).map jJ).flatten=Y++jJ v:=by rw[ev,fV,List.append_assoc]
  have uk:Y.length+(jJ v).length≤900000000:=by rw[fV,List.length_append]; omega
  obtain⟨g1,g2,g3⟩:=yJ mZ
  obtain⟨s1,o0⟩: ∃s1,s1=Lib.join (v.args.map cm) [44,32]:=⟨_,rfl⟩
  obtain⟨s2,nL⟩: ∃s2,s2=p9 v.dT:=⟨_,rfl⟩
  obtain⟨L,ek⟩: ∃L,L=eE 1 [[111,102,102,101,114,32],v.eK,[40],s1,[41,32,116,111,32],v.peer,s2,[59]]:=⟨_,rfl⟩
  have yY:jJ v=L:=by rw[ek,o0,nL]; rfl
  rw[yY]at uk fy
  have ZR:s1.length≤L.length:=by rw[ek]; exact xO (by simp)
  have aQ5:s2.length≤L.length:=by rw[ek]; exact xO (by simp)
  have fR:=at3 v.args (by omega) g1 (by rw[←o0]; omega)
  have e:=oy 1 (by decide) (.inr rfl) Y [[111,102,102,101,114,32],v.eK,[40],s1,[41,32,116,111,32],v.peer,s2,[59]] (by simp) (by rw[←ek]; omega)
  rw[←o0]at fR
  rw[←ek]at e
  rw[←fV]
  clear ev hle fV o0 ek yY
  cases hw:v.dT with
  |nil=>
   rw[hw]at nL
   simp only[p9]at nL
   (have al:=d1;have z2:=hw;refine fo ?_;refine fo ?_;refine fo ?_;refine fo ?_;clear al z2)
   (have al:=d1;have z2:=hw;refine ye ?_;clear al z2)
   refine aj.fs (anns:=[.str s1]) ?_
   (have al:=hw;refine rj ?_;clear al)
   refine D.df (fR) ?_
   refine bK ?_
   subst nL
   refine D.F ⟨[1],[0]⟩ (e) ?_
   refine ao ?_
   refine aj.gT (i+1) (by omega) ⟨rfl,rfl,rfl,rfl,by simp only[Int.natCast_add]; rfl,trivial⟩ (by simp only[fy]; exact⟨rfl,trivial⟩) (by simp only[fy]; exact⟨rfl,trivial⟩) rfl (by simp only[fY,dr,dP,dV,fO,I.cR,b2.bJ,fG,lT,dG,dp,of_flat,go_sem]<;>rfl) (by show x.os.length-(i+1)<x.os.length-i; omega)
  |cons w ws=>
   rw[hw]at nL g2 Lt
   simp only[p9]at nL
   have Z4:ws=[]:=by
    rw[hw]at g3
    simp only[List.length_cons]at g3
    exact List.length_eq_zero_iff.1 (by omega)
   subst Z4
   have Z3:dB w=true:=by simpa using g2
   simp only[ad.bB]at Lt
   have L6:=congrArg List.length nL
   simp only[List.length_append]at L6
   have DI:=(tf 1000000).1 w (by omega) Z3 (by omega)
   generalize cm w=ia at nL L6 DI
   rcases w with ⟨eb,ef,ed,eg,ee,ec⟩
   simp(disch:=omega)only[go_sem,simprocAttr]at DI
   (have al:=d1;have z2:=hw;refine fo ?_;refine fo ?_;refine fo ?_;refine fo ?_;clear al z2)
   (have al:=d1;have z2:=hw;refine ye ?_;clear al z2)
   refine aj.b6 ?_
   (have al:=hw;refine rj ?_;clear al)
   refine D.P (DI) ?_
   refine D.bR ?_
   refine bK ?_
   (have al:=hw;refine yd ?_;clear al)
   refine aj.fs (anns:=[.str s1]) ?_
   (have al:=hw;refine rj ?_;clear al)
   refine D.df (fR) ?_
   refine bK ?_
   subst nL
   refine D.F ⟨[1],[0]⟩ (e) ?_
   refine ao ?_
   refine aj.gT (i+1) (by omega) ⟨rfl,rfl,rfl,rfl,by simp only[Int.natCast_add]; rfl,trivial⟩ (by simp only[fy]; exact⟨rfl,trivial⟩) (by simp only[fy]; exact⟨rfl,trivial⟩) rfl (by simp only[fY,dr,dP,dV,fO,I.cR,b2.bJ,fG,lT,dG,dp,of_flat,go_sem]<;>rfl) (by show x.os.length-(i+1)<x.os.length-i; omega)
 |none=>
 have cM:=List.getElem?_eq_none_iff.1 af
 have bE:i=x.os.length:=by omega
 subst bE
 have d1: ¬(x.os.length:Int)<((x.os.map ca.row).length:Int):=by rw[List.length_map]; omega
 rw[List.take_length]
 have fV:(pv++(x.os.map jJ).flatten).length+E.length≤900000000:=by rw[List.length_append]; omega
 rw[oV]
 generalize pv++(x.os.map jJ).flatten=Y at fV ⊢
 have qt:=oy 0 (by decide) (.inr rfl) Y [[125]] (by simp) (by rw[←dc]; omega)
 rw[←dc]at qt
 have dw:Y++E≠[]:=by rw[dc]; simp [eE]
 (have al:=d1;refine bQ ?_;clear al)
 refine D.F ⟨[1],[0]⟩ (qt) ?_
 refine ao ?_
 refine D.F ⟨[1],[0]⟩ (t129 (T:=182) (A:= .ptr 0 0) (cs:=[.int .i64 0]) trivial (Y++E) dw) ?_
 refine ao ?_
 exact D.rx
end
end Go.bc.T.N
namespace Go.bc
open Go Go.bc.T.N
theorem xG: ∀s:a7,(iC s).length≤2*s.length
 |[]=>Nat.le_refl _
 |c::s=>by
  have:=xG s
  simp only[iC,List.length_append,List.length_cons]
  split<;>simp<;>omega
theorem Ph (s:a7):(p4 s).length≤2*s.length+2:=by
 have:=xG s
 simp only[p4,List.length_append,List.length_cons,List.length_nil]
 omega
theorem vB {n:Int}(aw: -1000000000≤n) (J:n≤1000000000):(Lib.itoa n).length≤21:=Lib.itoa_length_le n (by omega) (by omega)
theorem tz {s:a7}(h:db s=true):s.length≤16:=by
 cases s with
 |nil=>simp
 |cons c s=>
  simp only[db,mx,Bool.and_eq_true,decide_eq_true_eq]at h
  exact h.1.1
theorem EU (x:ad) (s:a7) (k:Int):(fX x s k).length≤s.length+2:=by
 unfold fX
 split
 ·simp
 ·omega
theorem ar2 {s:a7}(h:cV s≠0):s.length≤2:=by
 by_cases aa:s.length≤2
 ·exact aa
 ·exfalso
  apply h
  unfold cV
  repeat rw[if_neg (by intro e; subst e; simp at aa)]
theorem zE: ∀(N:Nat) (x:ad),x.bI≤N→dB x=true→(cm x).length≤90*x.bI
 |0,x,h,_=>by cases x; simp only[ad.bI]at h; omega
 |N+1,⟨k,o,m,t,n,l⟩,bW,aY=>by
  simp only[ad.bI]at bW ⊢
  simp only[dB,Bool.and_eq_true]at aY
  obtain⟨bh,hq⟩:=aY
  have rS:=bh
  simp only[cm,Cn]
  unfold A4
  rcases Ec bh with ⟨rfl,aw,J,aa⟩|⟨rfl,aw,J⟩|⟨rfl,aw⟩|⟨rfl,aw⟩|⟨rfl,aw⟩|⟨rfl,aw⟩
  ·have:=vB (n:=n) (by omega) (by omega)
   simp only[if_true]
   omega
  ·have:=Ph t
   simp only[show ¬(2:Int)=1 by decide,if_false,if_true]
   omega
  ·have:m.length≤16:=by
    simp [fL]at rS
    exact tz rS.1
   simp only[show ¬(3:Int)=1 by decide,show ¬(3:Int)=2 by decide,if_false,if_true]
   omega
  ·match l,aw with
   |[x],_=>
   simp only[mY,Bool.and_true]at hq
   simp only[ad.bB]at bW ⊢
   have:=zE N x (by omega) hq
   simp only[show ¬(4:Int)=1 by decide,show ¬(4:Int)=2 by decide,show ¬(4:Int)=3 by decide,if_false,if_true,List.map_cons,MG,List.length_append,List.length_cons,List.length_nil]
   omega
  ·match l,aw with
   |[x],_=>
   simp only[mY,Bool.and_true]at hq
   simp only[ad.bB]at bW ⊢
   have J:=zE N x (by omega) hq
   have aa:=EU x (cm x) 7
   have au:o.length=1:=by
    simp [fL]at rS
    rcases rS.1 with rfl|rfl<;>rfl
   simp only[show ¬(5:Int)=1 by decide,show ¬(5:Int)=2 by decide,show ¬(5:Int)=3 by decide,show ¬(5:Int)=4 by decide,if_false,if_true,List.map_cons,Sx,List.length_append]
   omega
  ·match l,aw with
   |[x,y],_=>
   simp only[mY,Bool.and_true,Bool.and_eq_true]at hq
   simp only[ad.bB]at bW ⊢
   have J:=zE N x (by omega) hq.1
   have uh:=zE N y (by omega) hq.2
   have aa:=EU x (cm x) (cV o)
   have Le:=EU y (cm y) (cV o+1)
   have au:o.length≤2:=by
    simp [fL]at rS
    exact ar2 rS.1
   simp only[show ¬(6:Int)=1 by decide,show ¬(6:Int)=2 by decide,show ¬(6:Int)=3 by decide,show ¬(6:Int)=4 by decide,show ¬(6:Int)=5 by decide,if_false,List.map_cons,Ht,List.length_append,List.length_cons,List.length_nil]
   omega
theorem s5 (d:Nat) (ps:List a7):(eE d ps).length=d+ps.flatten.length+1:=by simp only[eE,List.length_append,List.length_replicate,List.length_cons,List.length_nil]
theorem F4 {x:ad}(h:dB x=true):(cm x).length≤90*x.bI:=zE _ x (Nat.le_refl _) h
theorem OI: ∀(N:Nat),(∀(x:ac) (d:Nat) (bw:a7),x.bI≤N→hX x=true→d+kh x≤20→bw.length≤10→(ac.gS d bw x).length≤250*x.bI)∧(∀(l:List ac) (d:Nat),ac.bB l≤N→ho l=true→d+iv l≤20→(ac.fF d l).length≤250*ac.bB l)
 |0=>⟨fun x d bw h=>by cases x; simp only[ac.bI]at h; omega,fun l d h aY bw=>by
  cases l with
  |nil=>simp [ac.fF]
  |cons x l=>cases x; simp only[ac.bB,ac.bI]at h; omega⟩
 |N+1=>by
  obtain⟨i1,i2⟩:=OI N
  have key: ∀(x:ac) (d:Nat) (bw:a7),x.bI≤N+1→hX x=true→d+kh x≤20→bw.length≤10→(ac.gS d bw x).length≤250*x.bI:=by
   rintro⟨k,m,x,t,a,b⟩ d bw bW aY xe aQ1
   simp only[ac.bI]at bW ⊢
   simp only[hX,Bool.and_eq_true]at aY
   obtain⟨bh,pQ,pP,lY⟩:=aY
   simp only[kh]at xe
   have ab:=F4 pQ
   have Ea:1≤iL x:=by cases x; simp only[iL]; omega
   rcases Bi bh with ⟨rfl,rfl,aa,au⟩|⟨rfl,rfl,rfl⟩|⟨rfl,rfl,J,aa,au⟩
   ·have hm:m.length≤16:=by
     simp [eu]at bh
     exact tz bh.1
    simp only[ac.gS,if_true,s5,List.flatten_cons,List.flatten_nil,List.length_append,List.length_cons,List.length_nil]
    omega
   ·have aP:=i2 a (d+1) (by omega) pP (by omega)
    simp only[ac.gS,show ¬(2:Int)=1 by decide,show ¬(2:Int)=3 by decide,if_false,s5,List.flatten_cons,List.flatten_nil,List.length_append,List.length_cons,List.length_nil]
    have hb:(if jH b=true then ac.rC d b else (if b.isEmpty=true then[] else eE d [[125,32,101,108,115,101,32,123]]++ac.fF (d+1) b)++eE d [[125]]).length≤250*ac.bB b+60:=by
     cases eU:jH b with
     |true=>
      match b,eU,lY,bW,xe with
      |[y],eU,lY,bW,xe=>
      simp only[ho,Bool.and_true]at lY
      simp only[ac.bB]at bW ⊢
      simp only[iv]at xe
      simp only[if_true,ac.rC]
      have:=i1 y d [125,32,101,108,115,101,32,105,102,32] (by omega) lY (by omega) (by decide)
      omega
     |false=>
      simp only[Bool.false_eq_true,if_false]
      cases xf:b.isEmpty with
      |true=>
       simp only[if_true,List.nil_append,s5,List.flatten_cons,List.flatten_nil,List.length_append,List.length_cons,List.length_nil]
       omega
      |false=>
       have hP:=i2 b (d+1) (by omega) lY (by omega)
       simp only[Bool.false_eq_true,if_false,s5,List.flatten_cons,List.flatten_nil,List.length_append,List.length_cons,List.length_nil]
       omega
    omega
   ·have aP:=i2 a (d+1) (by omega) pP (by omega)
    have ai:=vB (n:=t) (by omega) (by omega)
    simp only[ac.gS,show ¬(3:Int)=1 by decide,if_false,if_true,s5,List.flatten_cons,List.flatten_nil,List.length_append,List.length_cons,List.length_nil]
    omega
  have ae5: ∀(l:List ac) (d:Nat),ac.bB l≤N+1→ho l=true→d+iv l≤20→(ac.fF d l).length≤250*ac.bB l:=by
   intro l
   induction l with
   |nil=>intro d _ _ _; simp [ac.fF]
   |cons x l cv=>
    intro d bW aY xe
    simp only[ac.bB]at bW ⊢
    simp only[ho,Bool.and_eq_true]at aY
    simp only[iv]at xe
    have J:=key x d [105,102,32] (by omega) aY.1 (by omega) (by decide)
    have aa:=cv d (by omega) aY.2 (by omega)
    simp only[ac.fF,List.length_append]
    omega
  exact⟨key,ae5⟩
theorem A3 {α:Type}(f:α→a7) (B:Nat): ∀l:List α,(∀x∈l,(f x).length≤B)→((l.map f).flatten).length≤B*l.length
 |[],_=>by simp
 |x::l,h=>by
  have J:=h x (by simp)
  have aa:=A3 f B l fun y aZ=>h y (List.mem_cons_of_mem _ aZ)
  simp only[List.map_cons,List.flatten_cons,List.length_append,List.length_cons,Nat.mul_add]
  omega
theorem Mw (sep:a7) (B:Nat) (l:List a7) (h: ∀x∈l,x.length≤B):(Lib.join l sep).length≤(B+sep.length)*l.length:=by
 cases l with
 |nil=>simp [Lib.join_nil]
 |cons x r=>
  rw[Lib.join_length]
  have: ∀l:List a7,(∀x∈l,x.length≤B)→Lib.lens l≤B*l.length:=by
   intro l
   induction l with
   |nil=>intro _; simp [Lib.lens]
   |cons y l cv=>
    intro h
    have J:=h y (by simp)
    have aa:=cv fun z aB=>h z (List.mem_cons_of_mem _ aB)
    simp only[Lib.lens,List.length_cons,Nat.mul_add,List.map_cons,List.sum_cons]at aa ⊢
    omega
  have J:=this (x::r) h
  have aa:sep.length*r.length≤sep.length*(x::r).length:=Nat.mul_le_mul_left _ (by simp)
  rw[Nat.add_mul]
  omega
theorem WY {l:List ac}{k:Nat}(h:l.all (fun x=>decide (kh x≤k))=true):iv l≤k:=by
 induction l with
 |nil=>simp [iv]
 |cons x l cv=>
  simp only[List.all_cons,Bool.and_eq_true,decide_eq_true_eq]at h
  simp only[iv]
  have:=cv h.2
  omega
theorem OB {s:a7}(h:kR s=true):s.length≤50:=by
 simp only[kR,Bool.and_eq_true,decide_eq_true_eq]at h
 exact h.1
theorem YE {h:cd}(aY:jZ h=true) (aP:ac.bB h.body≤10000):(jb h).length≤3000000:=by
 obtain⟨g1,g2⟩:=yI aY
 simp only[jZ,Bool.and_eq_true]at aY
 obtain⟨bC,bA,_,cO,_,fC⟩:=aY
 have J:=OB bC
 have aa:=tz bA
 have au:=Mw [44,32] 16 h.ps fun x ab=>tz (List.all_eq_true.1 cO x ab)
 have vo:(16+([44,32]:a7).length)*h.ps.length≤18*4:=Nat.mul_le_mul_left 18 g2
 have bn:=(OI 10000).2 h.body 2 aP g1 (by have:=WY fC; omega)
 simp only[jb,s5,List.flatten_cons,List.flatten_nil,List.length_append,List.length_cons,List.length_nil]at*
 omega
theorem aj9 {o:ca}(aY:j6 o=true) (aP:ad.bB o.args≤10000∧ad.bB o.dT≤10000):(jJ o).length≤5000000:=by
 obtain⟨g1,g2,g3⟩:=yJ aY
 simp only[j6,Bool.and_eq_true,decide_eq_true_eq]at aY
 obtain⟨bC,bA,cO,_⟩:=aY
 have J:=OB bC
 have aa:=tz bA
 have au:=Mw [44,32] 900000 (o.args.map cm) fun x ab=>by
  obtain⟨y,aZ,rfl⟩:=List.mem_map.1 ab
  have:=F4 (List.all_eq_true.1 g1 y aZ)
  have:=ad.pW aZ
  omega
 have vo:(900000+([44,32]:a7).length)*(o.args.map cm).length≤900002*4:=Nat.mul_le_mul_left 900002 (by rw[List.length_map]; exact cO)
 have bn:(p9 o.dT).length≤900010:=by
  cases hw:o.dT with
  |nil=>simp [p9]
  |cons w ws=>
   rw[hw]at g2 aP
   simp only[List.all_cons,Bool.and_eq_true]at g2
   simp only[ad.bB]at aP
   have:=F4 g2.1
   simp only[p9,List.length_append,List.length_cons,List.length_nil]
   omega
 simp only[jJ,s5,List.flatten_cons,List.flatten_nil,List.length_append,List.length_cons,List.length_nil]at*
 omega
theorem SA {v:cb}(aY:iN v=true):(jT v).length≤1000:=by
 obtain⟨g1,g2,g3,g4,g5,g6⟩:=DW aY
 have J:=vB g1 g2
 have aa:=vB g3 g4
 have au:v.name.length≤16:=by
  simp only[iN,Bool.and_eq_true]at aY
  exact tz aY.1
 have bn:(qM v.ik v.n v.s).length≤100:=by
  unfold qM
  split
  ·have:=Ph v.s; omega
  ·have:=vB (g5 ‹_›).1 (g5 ‹_›).2; omega
 have bL:(if v.hV=2 then ([116,101,120,116,32]:a7) else[105,110,116,32]).length≤5:=by split<;>simp
 simp only[jT,s5,List.flatten_cons,List.flatten_nil,List.length_append,List.length_cons,List.length_nil]at*
 omega
def qX (x:e9):Bool:=db x.name&&(db x.hD&&(db x.hA&&(decide (x.vars.length≤12)&&(decide (x.ap.length≤40)&&decide (x.os.length≤40)))))
def py (x:e9):Bool:=x.vars.all iN&&(x.ap.all jZ&&x.os.all j6)
def kJ (x:e9):Bool:=qX x&&(py x&&decide ((iK x).length≤8000))
structure oI (x:e9):Prop where
 aP: ∀h∈x.ap,ac.bB h.body≤10000
 hp: ∀h∈x.ap,h.ps.length≤1000000
 o6: ∀o∈x.os,ad.bB o.args≤10000∧ad.bB o.dT≤10000
 nS:x.vars.length≤1000000
 nh:x.ap.length≤1000000
 no:x.os.length≤1000000
theorem Cv {x:e9}(hb:oI x) (J:qX x=true) (aa:py x=true):CU x:=by
 simp only[qX,Bool.and_eq_true,decide_eq_true_eq]at J
 simp only[py,Bool.and_eq_true]at aa
 obtain⟨bC,bA,cO,fC,lH,MB⟩:=J
 obtain⟨g1,g2,g3⟩:=aa
 refine⟨g1,g2,g3,fun h hm=>by have:=hb.aP h hm; omega,fun o hm=>by have:=hb.o6 o hm; omega,hb.nS,hb.nh,hb.no,?_⟩
 have ar:=tz bC
 have ax:=tz bA
 have cw:=tz cO
 have fq:=A3 jT 1000 x.vars fun v af=>SA (List.all_eq_true.1 g1 v af)
 have lB:=A3 jb 3000000 x.ap fun v af=>YE (List.all_eq_true.1 g2 v af) (hb.aP v af)
 have AP:=A3 jJ 5000000 x.os fun v af=>aj9 (List.all_eq_true.1 g3 v af) (hb.o6 v af)
 simp only[iK,s5,List.flatten_cons,List.flatten_nil,List.length_append,List.length_cons,List.length_nil]
 omega
end Go.bc
namespace Go.bc
open Go
section
variable {en:Int}
theorem bind_mono {α β:Type}{R jt:dL α}{F tF:α→List ba→dL β}(J:R≠ .out→jt=R) (aa: ∀a r,R= .ok a r→F a r≠ .out→tF a r=F a r) (h:R.bind F≠ .out):jt.bind tF=R.bind F:=by
 cases R with
 |ok a r=>rw[J (by intro e; cases e)]; exact aa a r rfl h
 |err p e=>rw[J (by intro e; cases e)]; rfl
 |out=>exact absurd rfl h
theorem kO {β:Type}{c:Prop}[Decidable c]{A ya B qb:dL β}(J:A≠ .out→ya=A) (aa:B≠ .out→qb=B) (h:(if c then A else B)≠ .out):(if c then ya else qb)=(if c then A else B):=by
 by_cases ah:c
 ·rw[if_pos ah]at h ⊢; rw[if_pos ah]; exact J h
 ·rw[if_neg ah]at h ⊢; rw[if_neg ah]; exact aa h
theorem eV {β:Type}{A:dL β}(_:A≠ .out):A=A:=rfl
theorem uB: ∀n,(∀l,ht en n l≠ .out→∀m,n≤m→ht en m l=ht en n l)∧(∀k l,gY en n k l≠ .out→∀m,n≤m→gY en m k l=gY en n k l)∧(∀k y l,jw en n k y l≠ .out→∀m,n≤m→jw en m k y l=jw en n k y l)
 |0=>⟨fun l h=>absurd (by simp [ht]) h,fun k l h=>absurd (by simp [gY]) h,fun k y l h=>absurd (by simp [jw]) h⟩
 |n+1=>by
  obtain⟨i1,i2,i3⟩:=uB n
  refine⟨fun l h m hm=> ?_,fun k l h m hm=> ?_,fun k y l h m hm=> ?_⟩
  ·obtain⟨m,rfl⟩: ∃q,m=q+1:=⟨m-1,by omega⟩
   simp only[ht]at h ⊢
   refine kO (bind_mono (fun h=>i2 _ _ h m (by omega)) fun a r _ h=>eV h) (kO (bind_mono eV fun a r _=>bind_mono (fun h=>i2 _ _ h m (by omega)) fun a r _ h=>eV h) (kO (bind_mono (fun h=>i1 _ h m (by omega)) fun a r _ h=>eV h) (kO (bind_mono (fun h=>i1 _ h m (by omega)) fun a r _ h=>eV h) eV))) h
  ·obtain⟨m,rfl⟩: ∃q,m=q+1:=⟨m-1,by omega⟩
   simp only[gY]at h ⊢
   exact bind_mono (fun h=>i1 _ h m (by omega)) (fun a r _ h=>i3 _ _ _ h m (by omega)) h
  ·obtain⟨m,rfl⟩: ∃q,m=q+1:=⟨m-1,by omega⟩
   cases l with
   |nil=>rfl
   |cons t l=>
    simp only[jw]at h ⊢
    exact kO (kO eV (bind_mono (fun h=>i2 _ _ h m (by omega)) fun a r _ h=>i3 _ _ _ h m (by omega))) eV h
theorem vi: ∀n,(∀l,iP en n l≠ .out→∀m,n≤m→iP en m l=iP en n l)∧(∀acc l,jK en n acc l≠ .out→∀m,n≤m→jK en m acc l=jK en n acc l)∧(∀l,je en n l≠ .out→∀m,n≤m→je en m l=je en n l)∧(∀l,iQ en n l≠ .out→∀m,n≤m→iQ en m l=iQ en n l)
 |0=>⟨fun l h=>absurd (by simp [iP]) h,fun a l h=>absurd (by simp [jK]) h,fun l h=>absurd (by simp [je]) h,fun l h=>absurd (by simp [iQ]) h⟩
 |n+1=>by
  obtain⟨i1,i2,i3,i4⟩:=vi n
  have ax:=(uB (en:=en) n).2.1
  refine⟨fun l h m hm=> ?_,fun a l h m hm=> ?_,fun l h m hm=> ?_,fun l h m hm=> ?_⟩
  all_goals obtain⟨m,rfl⟩: ∃q,m=q+1:=⟨m-1,by omega⟩
  ·simp only[iP]at h ⊢
   exact bind_mono eV (fun a r _ h=>i2 _ _ h m (by omega)) h
  ·simp only[jK]at h ⊢
   exact kO eV (bind_mono (fun h=>i3 _ h m (by omega)) fun a r _ h=>i2 _ _ h m (by omega)) h
  ·simp only[je]at h ⊢
   refine kO (fun h=>i4 _ h m (by omega)) (kO (bind_mono (fun h=>ax _ _ h m (by omega)) fun a r _=>bind_mono eV fun a r _=>kO eV (bind_mono eV fun a r _=>bind_mono (fun h=>i1 _ h m (by omega)) fun a r _ h=>eV h)) (bind_mono eV fun a r _=>bind_mono eV fun a r _=>bind_mono (fun h=>ax _ _ h m (by omega)) fun a r _ h=>eV h)) h
  ·simp only[iQ]at h ⊢
   refine bind_mono (fun h=>ax _ _ h m (by omega)) (fun a r _=>bind_mono (fun h=>i1 _ h m (by omega)) fun a r _=>kO (kO (bind_mono (fun h=>i4 _ h m (by omega)) fun a r _ h=>eV h) (bind_mono (fun h=>i1 _ h m (by omega)) fun a r _ h=>eV h)) eV) h
theorem dj {α β:Type}{R:dL α}{F:α→List ba→dL β}(J:R≠ .out) (aa: ∀a r,R= .ok a r→F a r≠ .out):R.bind F≠ .out:=by
 cases R with
 |ok a r=>exact aa a r rfl
 |err p e=>intro h; cases h
 |out=>exact absurd rfl J
theorem iz {β:Type}{c:Prop}[Decidable c]{A B:dL β}(J:c→A≠ .out) (aa: ¬c→B≠ .out):(if c then A else B)≠ .out:=by
 by_cases ah:c
 ·rw[if_pos ah]; exact J ah
 ·rw[if_neg ah]; exact aa ah
theorem fr {β:Type}{a:β}{r:List ba}:dL.ok a r≠ .out:=by intro h; cases h
theorem vh {β:Type}{p e:Int}:(dL.err p e:dL β)≠ .out:=by intro h; cases h
theorem jM {s:List UInt8}{l:List ba}:gm en s l≠ .out:=iz (fun _=>fr) fun _=>vh
theorem ta {k:Int}{l:List ba}:jN en k l≠ .out:=by
 cases l with
 |nil=>exact vh
 |cons t l=>exact iz (fun _=>fr) fun _=>vh
theorem pZ {l:List ba}:jO en l≠ .out:=iz (fun _=>dj ta fun _ _ _=>fr) fun _=>vh
theorem E8 {l:List ba}:mD en l≠ .out:=iz (fun _=>dj ta fun _ _ _=>fr) fun _=>dj ta fun _ _ _=>fr
theorem zt: ∀n,(∀l:List ba,2*l.length+1≤n→ht en n l≠ .out)∧(∀k (l:List ba),2*l.length+2≤n→gY en n k l≠ .out)∧(∀k y (l:List ba),2*l.length+1≤n→jw en n k y l≠ .out)
 |0=>⟨fun l h=>by omega,fun k l h=>by omega,fun k y l h=>by omega⟩
 |n+1=>by
  obtain⟨i1,i2,i3⟩:=zt n
  have ar:=(nT (en:=en) n).1
  have ax:=(nT (en:=en) n).2.1
  refine⟨fun l h=> ?_,fun k l h=> ?_,fun k y l h=> ?_⟩
  ·simp only[ht]
   refine iz (fun aw=> ?_) fun _=>iz (fun aw=> ?_) fun _=>iz (fun aw=> ?_) fun _=>iz (fun aw=> ?_) fun _=>iz (fun _=>dj pZ fun _ _ _=>fr) fun _=>iz (fun _=>dj ta fun _ _ _=>fr) fun _=>iz (fun _=>vh) fun _=>dj ta fun _ _ _=>fr
   all_goals have:=eZ aw
   ·exact dj (i2 _ _ (by omega)) fun _ _ _=>dj jM fun _ _ _=>fr
   ·refine dj jM fun _ r J=> ?_
    have:=ea J
    exact dj (i2 _ _ (by omega)) fun _ _ _=>dj jM fun _ _ _=>fr
   ·exact dj (i1 _ (by omega)) fun _ _ _=>fr
   ·exact dj (i1 _ (by omega)) fun _ _ _=>fr
  ·simp only[gY]
   refine dj (i1 _ (by omega)) fun x r J=> ?_
   have:=ar _ _ _ J
   exact i3 _ _ _ (by omega)
  ·cases l with
   |nil=>exact fr
   |cons t l=>
    simp only[List.length_cons]at h
    simp only[jw]
    refine iz (fun _=>iz (fun _=>fr) fun _=>dj (i2 _ _ (by omega)) fun x r J=> ?_) fun _=>fr
    have:=ax _ _ _ _ J
    exact i3 _ _ _ (by omega)
theorem On: ∀n,(∀l:List ba,3*l.length+2≤n→iP en n l≠ .out)∧(∀acc (l:List ba),3*l.length+4≤n→jK en n acc l≠ .out)∧(∀l:List ba,3*l.length+3≤n→je en n l≠ .out)∧(∀l:List ba,3*l.length+3≤n→iQ en n l≠ .out)
 |0=>⟨fun l h=>by omega,fun a l h=>by omega,fun l h=>by omega,fun l h=>by omega⟩
 |n+1=>by
  obtain⟨i1,i2,i3,i4⟩:=On n
  have ax:=(nT (en:=en) n).2.1
  have g2:=(zt (en:=en) n).2.1
  obtain⟨f1,f2,f3,f4⟩:=zu (en:=en) n
  refine⟨fun l h=> ?_,fun a l h=> ?_,fun l h=> ?_,fun l h=> ?_⟩
  ·simp only[iP]
   refine dj jM fun _ r J=> ?_
   have:=ea J
   exact i2 _ _ (by omega)
  ·simp only[jK]
   refine iz (fun _=>fr) fun _=>dj (i3 _ (by omega)) fun x r J=> ?_
   have:=f3 _ _ _ J
   exact i2 _ _ (by omega)
  ·simp only[je]
   refine iz (fun aw=> ?_) fun _=>iz (fun aw=> ?_) fun _=> ?_
   ·have:=eZ aw
    exact i4 _ (by omega)
   ·have:=eZ aw
    refine dj (g2 _ _ (by omega)) fun x r J=>dj jM fun _ r aa=>iz (fun _=>vh) fun _=>dj ta fun _ r au=> ?_
    have:=ax _ _ _ _ J
    have:=ea aa
    have:=ow au
    exact dj (i1 _ (by omega)) fun _ _ _=>fr
   ·refine dj pZ fun x r J=>dj jM fun _ r aa=> ?_
    have:=gR J
    have:=ea aa
    exact dj (g2 _ _ (by omega)) fun _ _ _=>dj jM fun _ _ _=>fr
  ·simp only[iQ]
   refine dj (g2 _ _ (by omega)) fun x r J=> ?_
   have:=ax _ _ _ _ J
   refine dj (i1 _ (by omega)) fun x r aa=> ?_
   have:=f1 _ _ _ aa
   refine iz (fun aw=> ?_) fun _=>fr
   have:=eZ aw
   refine iz (fun au=> ?_) fun _=>dj (i1 _ (by omega)) fun _ _ _=>fr
   have:=eZ au
   exact dj (i4 _ (by omega)) fun _ _ _=>fr
theorem Od: ∀(n:Nat) (s:List UInt8) (l:List ba),l.length+1≤n→l6 en n s l≠ .out
 |0,_,_,h=>by omega
 |n+1,s,l,h=>by
  simp only[l6]
  refine iz (fun aw=>dj pZ fun w r J=> ?_) fun _=>fr
  have:=eZ aw
  have:=gR J
  exact Od n _ _ (by omega)
theorem Oi {n:Nat}{l:List ba}(h:l.length+1≤n):nU en n l≠ .out:=dj pZ fun w r J=>by
 have:=gR J
 exact Od n _ _ (by omega)
theorem N9: ∀(n:Nat) (acc:List (List UInt8)) (l:List ba),l.length+1≤n→lm en n acc l≠ .out
 |0,_,_,h=>by omega
 |n+1,s,l,h=>by
  simp only[lm]
  refine iz (fun aw=>dj pZ fun w r J=> ?_) fun _=>fr
  have:=eZ aw
  have:=gR J
  exact N9 n _ _ (by omega)
theorem N1: ∀(n:Nat) (acc:List ad) (l:List ba),2*l.length+2≤n→ll en n acc l≠ .out
 |0,_,_,h=>by omega
 |n+1,s,l,h=>by
  simp only[ll]
  refine iz (fun aw=> ?_) fun _=>fr
  have:=eZ aw
  refine dj ((zt n).2.1 _ _ (by omega)) fun w r J=> ?_
  have:=(nT n).2.1 _ _ _ _ J
  exact N1 n _ _ (by omega)
theorem N6 {n:Nat}{l r:List ba}{a:List (List UInt8)}(h:nn en n l= .ok a r):r.length<l.length:=by
 unfold nn at h
 split at h
 ·rename_i aw
  cases h
  have:=eZ aw
  omega
 ·obtain⟨w,bO,J,h⟩:=cg h
  obtain⟨ps,b4,aa,h⟩:=cg h
  obtain⟨_,cJ,au,h⟩:=cg h
  cases h
  have:=gR J
  have:=E1 aa
  have:=ea au
  omega
theorem NY {n:Nat}{l r:List ba}{a:List ad}(h:nj en n l= .ok a r):r.length<l.length:=by
 unfold nj at h
 split at h
 ·rename_i aw
  cases h
  have:=eZ aw
  omega
 ·obtain⟨w,bO,J,h⟩:=cg h
  obtain⟨ps,b4,aa,h⟩:=cg h
  obtain⟨_,cJ,au,h⟩:=cg h
  cases h
  have:=(nT n).2.1 _ _ _ _ J
  have:=EY aa
  have:=ea au
  omega
theorem ao0 {n:Nat}{l:List ba}(h:l.length+1≤n):nn en n l≠ .out:=iz (fun _=>fr) fun _=>dj pZ fun w r J=>by
 have:=gR J
 exact dj (N9 n _ _ (by omega)) fun _ _ _=>dj jM fun _ _ _=>fr
theorem am1 {n:Nat}{l:List ba}(h:2*l.length+2≤n):nj en n l≠ .out:=iz (fun _=>fr) fun _=>dj ((zt n).2.1 _ _ h) fun w r J=>by
 have:=(nT n).2.1 _ _ _ _ J
 exact dj (N1 n _ _ (by omega)) fun _ _ _=>dj jM fun _ _ _=>fr
theorem ap4 {n:Nat}{l:List ba}(h:2*l.length+2≤n):ox en n l≠ .out:=iz (fun aw=>by
 have:=eZ aw
 exact dj ((zt n).2.1 _ _ (by omega)) fun _ _ _=>fr) fun _=>fr
theorem ao4 {l:List ba}:r8 en l≠ .out:=iz (fun _=>dj ta fun _ _ _=>dj jM fun _ _ _=>dj ta fun _ _ _=>fr) fun _=>dj jM fun _ _ _=>dj E8 fun _ _ _=>dj jM fun _ _ _=>dj E8 fun _ _ _=>fr
theorem an2 {l:List ba}:r7 en l≠ .out:=iz (fun _=>dj ta fun _ _ _=>fr) fun _=>dj E8 fun _ _ _=>fr
theorem ap1 {l:List ba}:qW en l≠ .out:=dj pZ fun _ _ _=>dj jM fun _ _ _=>dj ao4 fun _ _ _=>dj jM fun _ _ _=>dj an2 fun _ _ _=>dj jM fun _ _ _=>fr
theorem am8 {n:Nat}{l:List ba}(h:3*l.length+2≤n):nk en n l≠ .out:=dj (Oi (by omega)) fun m r J=>dj jM fun _ r aa=>by
 have:=uE J
 have:=ea aa
 refine dj (ao0 (by omega)) fun ps r au=>dj jM fun _ r bn=>dj pZ fun p r bL=> ?_
 have:=N6 au
 have:=ea bn
 have:=gR bL
 exact dj ((On n).1 _ (by omega)) fun _ _ _=>fr
theorem an6 {n:Nat}{l:List ba}(h:2*l.length+2≤n):nl en n l≠ .out:=dj (Oi (by omega)) fun m r J=>dj jM fun _ r aa=>by
 have:=uE J
 have:=ea aa
 refine dj (am1 (by omega)) fun ps r au=>dj jM fun _ r bn=>dj pZ fun p r bL=> ?_
 have:=NY au
 have:=ea bn
 have:=gR bL
 exact dj (ap4 (by omega)) fun _ _ _=>dj jM fun _ _ _=>fr
theorem Ow (n:Nat): ∀(m:Nat) (acc:List cb) (l:List ba),l.length+1≤m→lp en n m acc l≠ .out
 |0,_,_,h=>by omega
 |m+1,s,l,h=>by
  simp only[lp]
  refine iz (fun aw=>dj ap1 fun w r J=> ?_) fun _=>fr
  have:=eZ aw
  have:=BV J
  exact Ow n m _ _ (by omega)
theorem Fb (n:Nat): ∀ {m:Nat}{acc:List cb}{l r:List ba}{a:List cb},lp en n m acc l= .ok a r→r.length≤l.length
 |0,_,_,_,_,h=>by cases h
 |m+1,s,l,r,a,h=>by
  simp only[lp]at h
  split at h
  ·rename_i aw
   obtain⟨w,bO,J,h⟩:=cg h
   have:=eZ aw
   have:=BV J
   have:=Fb n h
   omega
  ·cases h
   exact Nat.le_refl _
theorem E4 (n:Nat): ∀(m:Nat) (ap:List cd) (os:List ca) (l:List ba),l.length+1≤m→3*l.length+2≤n→ln en n m ap os l≠ .out
 |0,_,_,_,h,_=>by omega
 |m+1,ap,os,l,h,a6=>by
  simp only[ln]
  refine iz (fun _=>fr) fun _=>iz (fun aw=> ?_) fun _=>dj jM fun _ r J=> ?_
  ·have:=eZ aw
   refine dj (am8 (by omega)) fun x r J=> ?_
   have:=EZ J
   exact E4 n m _ _ _ (by omega) (by omega)
  ·have:=ea J
   refine dj (an6 (by omega)) fun x r aa=> ?_
   have:=E0 aa
   exact E4 n m _ _ _ (by omega) (by omega)
theorem Oq {n:Nat}{l:List ba}(h:3*l.length+2≤n):lo en n l≠ .out:=dj jM fun _ r J=>dj pZ fun _ r aa=>dj jM fun _ r au=>dj pZ fun _ r bn=>dj jM fun _ r bL=>dj pZ fun _ r cq=>dj jM fun _ r j0=>by
 have:=ea J
 have:=gR aa
 have:=ea au
 have:=gR bn
 have:=ea bL
 have:=gR cq
 have:=ea j0
 refine dj (Ow n _ _ _ (by omega)) fun ay r j7=> ?_
 have:=Fb n j7
 refine dj (E4 n _ _ _ _ (by omega) (by omega)) fun p r rN=> ?_
 cases r with
 |nil=>exact fr
 |cons t r=>exact vh
theorem Je: ∀(n:Nat) (s:List UInt8) (l:List ba),l6 en n s l≠ .out→∀m,n≤m→l6 en m s l=l6 en n s l
 |0,_,_,h,_,_=>absurd rfl h
 |n+1,s,l,h,m,hm=>by
  obtain⟨m,rfl⟩: ∃q,m=q+1:=⟨m-1,by omega⟩
  simp only[l6]at h ⊢
  exact kO (bind_mono eV fun w r _ h=>Je n _ _ h m (by omega)) eV h
theorem JX {n:Nat}{l:List ba}(h:nU en n l≠ .out){m:Nat}(hm:n≤m):nU en m l=nU en n l:=bind_mono eV (fun w r _ h=>Je n _ _ h m hm) h
theorem Ja: ∀(n:Nat) (s:List (List UInt8)) (l:List ba),lm en n s l≠ .out→∀m,n≤m→lm en m s l=lm en n s l
 |0,_,_,h,_,_=>absurd rfl h
 |n+1,s,l,h,m,hm=>by
  obtain⟨m,rfl⟩: ∃q,m=q+1:=⟨m-1,by omega⟩
  simp only[lm]at h ⊢
  exact kO (bind_mono eV fun w r _ h=>Ja n _ _ h m (by omega)) eV h
theorem Ik: ∀(n:Nat) (s:List ad) (l:List ba),ll en n s l≠ .out→∀m,n≤m→ll en m s l=ll en n s l
 |0,_,_,h,_,_=>absurd rfl h
 |n+1,s,l,h,m,hm=>by
  obtain⟨m,rfl⟩: ∃q,m=q+1:=⟨m-1,by omega⟩
  simp only[ll]at h ⊢
  exact kO (bind_mono (fun h=>(uB n).2.1 _ _ h m (by omega)) fun w r _ h=>Ik n _ _ h m (by omega)) eV h
theorem Xb {n:Nat}{l:List ba}(h:nn en n l≠ .out){m:Nat}(hm:n≤m):nn en m l=nn en n l:=kO eV (bind_mono eV fun w r _=>bind_mono (fun h=>Ja n _ _ h m hm) fun w r _ h=>eV h) h
theorem Vc {n:Nat}{l:List ba}(h:nj en n l≠ .out){m:Nat}(hm:n≤m):nj en m l=nj en n l:=kO eV (bind_mono (fun h=>(uB n).2.1 _ _ h m hm) fun w r _=>bind_mono (fun h=>Ik n _ _ h m hm) fun w r _ h=>eV h) h
theorem Y2 {n:Nat}{l:List ba}(h:ox en n l≠ .out){m:Nat}(hm:n≤m):ox en m l=ox en n l:=kO (bind_mono (fun h=>(uB n).2.1 _ _ h m hm) fun w r _ h=>eV h) eV h
theorem Vt {n:Nat}{l:List ba}(h:nk en n l≠ .out){m:Nat}(hm:n≤m):nk en m l=nk en n l:=bind_mono (fun h=>JX h hm) (fun w r _=>bind_mono eV fun w r _=>bind_mono (fun h=>Xb h hm) fun w r _=>bind_mono eV fun w r _=>bind_mono eV fun w r _=>bind_mono (fun h=>(vi n).1 _ h m hm) fun w r _ h=>eV h) h
theorem WW {n:Nat}{l:List ba}(h:nl en n l≠ .out){m:Nat}(hm:n≤m):nl en m l=nl en n l:=bind_mono (fun h=>JX h hm) (fun w r _=>bind_mono eV fun w r _=>bind_mono (fun h=>Vc h hm) fun w r _=>bind_mono eV fun w r _=>bind_mono eV fun w r _=>bind_mono (fun h=>Y2 h hm) fun w r _=>bind_mono eV fun w r _ h=>eV h) h
theorem J7 (n k:Nat): ∀(m:Nat) (s:List cb) (l:List ba),lp en n m s l≠ .out→∀j,m≤j→lp en k j s l=lp en n m s l
 |0,_,_,h,_,_=>absurd rfl h
 |m+1,s,l,h,j,bq=>by
  obtain⟨j,rfl⟩: ∃q,j=q+1:=⟨j-1,by omega⟩
  simp only[lp]at h ⊢
  exact kO (bind_mono eV fun w r _ h=>J7 n k m _ _ h j (by omega)) eV h
theorem Ca {n k:Nat}(aC:n≤k): ∀(m:Nat) (ap:List cd) (os:List ca) (l:List ba),ln en n m ap os l≠ .out→∀j,m≤j→ln en k j ap os l=ln en n m ap os l
 |0,_,_,_,h,_,_=>absurd rfl h
 |m+1,ap,os,l,h,j,bq=>by
  obtain⟨j,rfl⟩: ∃q,j=q+1:=⟨j-1,by omega⟩
  simp only[ln]at h ⊢
  exact kO eV (kO (bind_mono (fun h=>Vt h aC) fun w r _ h=>Ca aC m _ _ _ h j (by omega)) (bind_mono eV fun w r _=>bind_mono (fun h=>WW h aC) fun w r _ h=>Ca aC m _ _ _ h j (by omega))) h
theorem J1 {n:Nat}{l:List ba}(h:lo en n l≠ .out){m:Nat}(hm:n≤m):lo en m l=lo en n l:=bind_mono eV (fun w r _=>bind_mono eV fun w r _=>bind_mono eV fun w r _=>bind_mono eV fun w r _=>bind_mono eV fun w r _=>bind_mono eV fun w r _=>bind_mono eV fun w r _=>bind_mono (fun h=>J7 n m n _ _ h m hm) fun w r _=>bind_mono (fun h=>Ca hm n _ _ _ h m hm) fun w r _=>by cases r<;>exact eV) h
end
end Go.bc
namespace Go.bc
open Go Go.bc.T.N
def dH (s:a7):ba:=⟨1,s,0,0⟩
def cy (s:a7):ba:=⟨4,s,0,0⟩
def kr (v:Int):ba:=⟨2,[],v,0⟩
def p6 (s:a7):ba:=⟨3,s,0,0⟩
abbrev bH:=List ba
def oH (l:bH) (b:List ac) (r:bH):Prop:=∃n,iP 0 n l= .ok b r
def mP (l:bH) (x:ac) (r:bH):Prop:=∃n,je 0 n l= .ok x r
def df (l:bH) (x:ac) (r:bH):Prop:=∃n,iQ 0 n l= .ok x r
end Go.bc
namespace Go.bc.T.N
open Go Go.bc Go.Proofs Go.RowKit
set_option maxRecDepth 100000
attribute [local irreducible] Go.bc.aj Go.bc.ae Go.bc.bz
section
attribute [local go_sem] ad.ct ad.b9 ad.de ac.ct ac.b9 ac.de cj eN fZ gJ dp of_flat cb.row dG fG
theorem B5 (x:e9) (hb:oI x):Pure Tryz.prog 16 [x.ir] (.bool (kJ x)):=by
 have AT:=qV x.name
 have Xk:=qV x.hD
 have Xj:=qV x.hA
 have Em:=hb.nS
 have Ek:=hb.nh
 have ck:=hb.no
 have AN:=ax1 ad9 iN x.vars (by omega) fun v _=>ax2 v
 have wN:=ax3 ae0 jZ x.ap (by omega) fun v af=>ax4 v (by have:=hb.aP v af; omega) (by have:=hb.hp v af; omega)
 have AO:=ax6 ae1 j6 x.os (by omega) fun v af=>ax7 v (by have:=hb.o6 v af; omega)
 have rA:qX x=true→py x=true→Pure Tryz.prog 52 [x.ir] (.str (iK x)):=fun J aa=>O1 x (Cv hb J aa)
 rw[lq]at rA ⊢
 have ky:((x.vars.map cb.row).length:Int)=(x.vars.length:Int):=by rw[List.length_map]
 have kZ:((x.ap.map cd.row).length:Int)=(x.ap.length:Int):=by rw[List.length_map]
 have mO:((x.os.map ca.row).length:Int)=(x.os.length:Int):=by rw[List.length_map]
 simp only[kJ,qX,py]at rA ⊢
 generalize db x.name=As at*
 generalize db x.hD=Tv at*
 generalize db x.hA=Tu at*
 generalize x.vars.all iN=Tw at*
 generalize x.ap.all jZ=C1 at*
 generalize x.os.all j6=aG at*
 generalize iK x=C at*
 generalize x.vars.length=nS at*
 generalize x.ap.length=nh at*
 generalize x.os.length=no at*
 refine cF bN Tryz.func16 UG (by simp only[b3,I.flat,dG,dp,of_flat,Bool.and_self]) rfl ?_
 unfold oQ P7
 simp(disch:=omega)only[go_sem,simprocAttr]
 refine ao ?_
 refine D.P (AT) ?_
 cases As
 ·refine ao ?_
  exact D.rx
 refine ao ?_
 refine D.P (Xk) ?_
 cases Tv
 ·refine ao ?_
  exact D.rx
 refine ao ?_
 refine D.P (Xj) ?_
 cases Tu
 ·refine ao ?_
  exact D.rx
 by_cases J:nS≤12
 rotate_left
 ·have d1:(12:Int)<(nS:Int):=by omega
  (have al:=ky;have z2:=d1;refine e8 ?_;clear al z2)
  refine D.r ?_
  refine⟨_,rfl,.av ?_ rfl,trivial,trivial⟩
  simp [I.av,J]
 have d1: ¬(12:Int)<(nS:Int):=by omega
 by_cases aa:nh≤40
 rotate_left
 ·have d2:(40:Int)<(nh:Int):=by omega
  (repeat' first|(apply ae.s rfl;(·simp(disch:=omega)only[go_sem,simprocAttr,ky,d1,kZ,d2]<;>with_reducible rfl))|(apply aj.s true true;(·simp(disch:=omega)only[go_sem,simprocAttr,ky,d1,kZ,d2]<;>with_reducible rfl))|apply ae.nil|(refine aj.b6 ?_)|(apply ae.eX;(·simp(disch:=omega)only[go_sem,simprocAttr,ky,d1,kZ,d2]<;>with_reducible rfl))|(apply ae.eY;(·rfl);(·simp(disch:=omega)only[go_sem,simprocAttr,ky,d1,kZ,d2]<;>with_reducible rfl))|(apply ae.gs;(·simp(disch:=omega)only[go_sem,simprocAttr,ky,d1,kZ,d2]<;>with_reducible rfl))|((first|apply ae.e3|apply ae.e4|apply ae.e5);(·simp(disch:=omega)only[go_sem,simprocAttr,ky,d1,kZ,d2]<;>with_reducible rfl);(·simp(disch:=omega)only[go_sem,simprocAttr,ky,d1,kZ,d2]<;>with_reducible rfl);(·assumption);(·omega))|intro h)
  refine D.r ?_
  refine⟨_,rfl,.av ?_ rfl,trivial,trivial⟩
  simp [I.av,aa]
 have d2: ¬(40:Int)<(nh:Int):=by omega
 by_cases au:no≤40
 rotate_left
 ·have d3:(40:Int)<(no:Int):=by omega
  (repeat' first|(apply ae.s rfl;(·simp(disch:=omega)only[go_sem,simprocAttr,ky,d1,kZ,d2,mO,d3]<;>with_reducible rfl))|(apply aj.s true true;(·simp(disch:=omega)only[go_sem,simprocAttr,ky,d1,kZ,d2,mO,d3]<;>with_reducible rfl))|apply ae.nil|(refine aj.b6 ?_)|(apply ae.eX;(·simp(disch:=omega)only[go_sem,simprocAttr,ky,d1,kZ,d2,mO,d3]<;>with_reducible rfl))|(apply ae.eY;(·rfl);(·simp(disch:=omega)only[go_sem,simprocAttr,ky,d1,kZ,d2,mO,d3]<;>with_reducible rfl))|(apply ae.gs;(·simp(disch:=omega)only[go_sem,simprocAttr,ky,d1,kZ,d2,mO,d3]<;>with_reducible rfl))|((first|apply ae.e3|apply ae.e4|apply ae.e5);(·simp(disch:=omega)only[go_sem,simprocAttr,ky,d1,kZ,d2,mO,d3]<;>with_reducible rfl);(·simp(disch:=omega)only[go_sem,simprocAttr,ky,d1,kZ,d2,mO,d3]<;>with_reducible rfl);(·assumption);(·omega))|intro h)
  refine D.r ?_
  refine⟨_,rfl,.av ?_ rfl,trivial,trivial⟩
  simp [I.av,au]
 have d3: ¬(40:Int)<(no:Int):=by omega
 simp only[decide_eq_true J,decide_eq_true aa,decide_eq_true au,Bool.true_and,Bool.and_true]at rA ⊢
 (repeat' first|(apply ae.s rfl;(·simp(disch:=omega)only[go_sem,simprocAttr,ky,d1,kZ,d2,mO,d3]<;>with_reducible rfl))|(apply aj.s true true;(·simp(disch:=omega)only[go_sem,simprocAttr,ky,d1,kZ,d2,mO,d3]<;>with_reducible rfl))|apply ae.nil|(refine aj.b6 ?_)|(apply ae.eX;(·simp(disch:=omega)only[go_sem,simprocAttr,ky,d1,kZ,d2,mO,d3]<;>with_reducible rfl))|(apply ae.eY;(·rfl);(·simp(disch:=omega)only[go_sem,simprocAttr,ky,d1,kZ,d2,mO,d3]<;>with_reducible rfl))|(apply ae.gs;(·simp(disch:=omega)only[go_sem,simprocAttr,ky,d1,kZ,d2,mO,d3]<;>with_reducible rfl))|((first|apply ae.e3|apply ae.e4|apply ae.e5);(·simp(disch:=omega)only[go_sem,simprocAttr,ky,d1,kZ,d2,mO,d3]<;>with_reducible rfl);(·simp(disch:=omega)only[go_sem,simprocAttr,ky,d1,kZ,d2,mO,d3]<;>with_reducible rfl);(·assumption);(·omega))|intro h)
 refine D.P (AN) ?_
 cases Tw
 ·refine ao ?_
  exact D.rx
 refine ao ?_
 refine D.P (wN) ?_
 cases C1
 ·refine ao ?_
  exact D.rx
 refine ao ?_
 refine D.P (AO) ?_
 cases aG
 ·refine ao ?_
  exact D.rx
 refine ao ?_
 refine D.P (rA (by first|trivial|rfl) (by first|trivial|rfl)) ?_
 refine ao ?_
 refine D.r ?_
 refine⟨_,rfl,.av ?_ rfl,trivial,trivial⟩
 simp only[I.av,I.bool.injEq,Bool.true_and]
 exact decide_eq_decide.2 (by omega)
def xC (x:e9):I:=if kJ x=true then .di [.str (iK x),.int .i64 0] else .di [.str [],.int .i64 1]
theorem OY (x:e9) (hb:oI x):Pure Tryz.prog 18 [x.ir] (xC x):=by
 have oQ:=B5 x hb
 have rA:kJ x=true→Pure Tryz.prog 52 [x.ir] (.str (iK x)):=fun h=>O1 x (by
  simp only[kJ,Bool.and_eq_true]at h
  exact Cv hb h.1 h.2.1)
 rw[lq]at rA oQ ⊢
 unfold xC
 generalize iK x=C at*
 generalize kJ x=b at*
 refine cF bN Tryz.func18 UY (by simp only[b3,I.flat,dG,dp,of_flat,Bool.and_self]) (by cases b<;>rfl) ?_
 unfold ve Qo
 simp(disch:=omega)only[go_sem,simprocAttr]
 refine ao ?_
 refine D.P (oQ) ?_
 cases b
 ·refine ao ?_
  exact D.rx
 refine ao ?_
 refine D.P (rA rfl) ?_
 refine ao ?_
 exact D.rx
end
end Go.bc.T.N
namespace Go.bc
open Go Go.bc.T.N
section
variable {en:Int}
theorem zr: ∀n,(∀l x r,ht en n l= .ok x r→x.bI+r.length≤l.length)∧(∀k l x r,gY en n k l= .ok x r→x.bI+r.length≤l.length)∧(∀k y l x r,jw en n k y l= .ok x r→x.bI+r.length≤y.bI+l.length)
 |0=>⟨fun l x r h=>by simp [ht]at h,fun k l x r h=>by simp [gY]at h,fun k y l x r h=>by simp [jw]at h⟩
 |n+1=>by
  obtain⟨i1,i2,i3⟩:=zr n
  refine⟨fun l x r h=> ?_,fun k l x r h=> ?_,fun k y l x r h=> ?_⟩
  ·simp only[ht]at h
   split at h
   ·rename_i aw
    obtain⟨x,bO,J,h⟩:=cg h
    obtain⟨_,b4,aa,h⟩:=cg h
    cases h
    have:=i2 _ _ _ _ J
    have:=ea aa
    have:=eZ aw
    omega
   split at h
   ·rename_i aw
    obtain⟨_,bO,J,h⟩:=cg h
    obtain⟨x,b4,aa,h⟩:=cg h
    obtain⟨_,cJ,au,h⟩:=cg h
    cases h
    have:=i2 _ _ _ _ aa
    have:=ea J
    have:=ea au
    have:=eZ aw
    simp only[ad.bI,ad.bB]
    omega
   split at h
   ·rename_i aw
    obtain⟨x,bO,J,h⟩:=cg h
    cases h
    have:=i1 _ _ _ J
    have:=eZ aw
    simp only[ad.bI,ad.bB]
    omega
   split at h
   ·rename_i aw
    obtain⟨x,bO,J,h⟩:=cg h
    cases h
    have:=i1 _ _ _ J
    have:=eZ aw
    simp only[ad.bI,ad.bB]
    omega
   split at h
   ·obtain⟨x,bO,J,h⟩:=cg h
    cases h
    have:=gR J
    simp only[ad.bI,ad.bB]
    omega
   split at h
   ·obtain⟨x,bO,J,h⟩:=cg h
    cases h
    have:=ow J
    simp only[ad.bI,ad.bB]
    omega
   split at h
   ·cases h
   ·obtain⟨x,bO,J,h⟩:=cg h
    cases h
    have:=ow J
    simp only[ad.bI,ad.bB]
    omega
  ·simp only[gY]at h
   obtain⟨y,bO,J,h⟩:=cg h
   have:=i1 _ _ _ J
   have:=i3 _ _ _ _ _ h
   omega
  ·simp only[jw]at h
   cases l with
   |nil=>cases h; exact Nat.le_refl _
   |cons t l=>
    simp only at h
    split at h
    ·split at h
     ·cases h; exact Nat.le_refl _
     ·obtain⟨z,bO,J,h⟩:=cg h
      have:=i2 _ _ _ _ J
      have au:=i3 _ _ _ _ _ h
      simp only[ad.bI,ad.bB]at au
      simp only[List.length_cons]
      omega
    ·cases h; exact Nat.le_refl _
theorem Ol: ∀n,(∀l x r,iP en n l= .ok x r→ac.bB x+r.length≤l.length)∧(∀acc l x r,jK en n acc l= .ok x r→ac.bB x+r.length≤ac.bB acc+l.length)∧(∀l x r,je en n l= .ok x r→x.bI+r.length≤l.length)∧(∀l x r,iQ en n l= .ok x r→x.bI+r.length≤l.length+1)
 |0=>⟨fun l x r h=>by simp [iP]at h,fun a l x r h=>by simp [jK]at h,fun l x r h=>by simp [je]at h,fun l x r h=>by simp [iQ]at h⟩
 |n+1=>by
  obtain⟨i1,i2,i3,i4⟩:=Ol n
  have ax:=(zr (en:=en) n).2.1
  refine⟨fun l x r h=> ?_,fun a l x r h=> ?_,fun l x r h=> ?_,fun l x r h=> ?_⟩
  ·simp only[iP]at h
   obtain⟨_,bO,J,h⟩:=cg h
   have:=ea J
   have aa:=i2 _ _ _ _ h
   simp only[ac.bB]at aa
   omega
  ·simp only[jK]at h
   split at h
   ·rename_i aw
    cases h
    have:=eZ aw
    omega
   ·obtain⟨y,bO,J,h⟩:=cg h
    have:=i3 _ _ _ J
    have aa:=i2 _ _ _ _ h
    rw[ac.u1]at aa
    simp only[ac.bB]at aa
    omega
  ·simp only[je]at h
   split at h
   ·rename_i aw
    have:=eZ aw
    have:=i4 _ _ _ h
    omega
   split at h
   ·rename_i aw
    have:=eZ aw
    obtain⟨y,bO,J,h⟩:=cg h
    obtain⟨_,b4,aa,h⟩:=cg h
    split at h
    ·cases h
    obtain⟨t,cJ,au,h⟩:=cg h
    obtain⟨b,fk,bn,h⟩:=cg h
    cases h
    have:=ax _ _ _ _ J
    have:=ea aa
    have:=ow au
    have:=i1 _ _ _ bn
    simp only[ac.bI,ac.bB]
    omega
   ·obtain⟨w,bO,J,h⟩:=cg h
    obtain⟨_,b4,aa,h⟩:=cg h
    obtain⟨y,cJ,au,h⟩:=cg h
    obtain⟨_,fk,bn,h⟩:=cg h
    cases h
    have:=gR J
    have:=ea aa
    have:=ax _ _ _ _ au
    have:=ea bn
    simp only[ac.bI,ac.bB]
    omega
  ·simp only[iQ]at h
   obtain⟨y,bO,J,h⟩:=cg h
   obtain⟨b,b4,aa,h⟩:=cg h
   have:=ax _ _ _ _ J
   have:=i1 _ _ _ aa
   split at h
   ·rename_i aw
    have:=eZ aw
    split at h
    ·rename_i bL
     have:=eZ bL
     obtain⟨z,cJ,au,h⟩:=cg h
     cases h
     have:=i4 _ _ _ au
     simp only[ac.bI,ac.bB]
     omega
    ·obtain⟨z,cJ,au,h⟩:=cg h
     cases h
     have:=i1 _ _ _ au
     simp only[ac.bI,ac.bB]
     omega
   ·cases h
    simp only[ac.bI,ac.bB]
    omega
theorem N7: ∀ {n:Nat}{acc:List (List UInt8)}{l r:List ba}{a:List (List UInt8)},lm en n acc l= .ok a r→a.length+r.length≤acc.length+l.length
 |0,_,_,_,_,h=>by cases h
 |n+1,acc,l,r,a,h=>by
  simp only[lm]at h
  split at h
  ·rename_i aw
   obtain⟨w,bO,J,h⟩:=cg h
   have:=eZ aw
   have:=gR J
   have aa:=N7 h
   simp only[List.length_append,List.length_cons,List.length_nil]at aa
   omega
  ·cases h
   exact Nat.le_refl _
theorem NZ: ∀ {n:Nat}{acc:List ad}{l r:List ba}{a:List ad},ll en n acc l= .ok a r→ad.bB a+r.length≤ad.bB acc+l.length
 |0,_,_,_,_,h=>by cases h
 |n+1,acc,l,r,a,h=>by
  simp only[ll]at h
  split at h
  ·rename_i aw
   obtain⟨w,bO,J,h⟩:=cg h
   have:=eZ aw
   have:=(zr n).2.1 _ _ _ _ J
   have aa:=NZ h
   rw[ad.u1]at aa
   simp only[ad.bB]at aa
   omega
  ·cases h
   exact Nat.le_refl _
def CN (h:cd) (K:Nat):Prop:=ac.bB h.body≤K∧h.ps.length≤K
def CP (o:ca) (K:Nat):Prop:=ad.bB o.args≤K∧ad.bB o.dT≤K
theorem am6 {n:Nat}{l r:List ba}{a:cd}(h:nk en n l= .ok a r):CN a l.length:=by
 unfold nk at h
 obtain⟨m,bO,J,h⟩:=cg h
 obtain⟨_,b4,aa,h⟩:=cg h
 obtain⟨ps,cJ,au,h⟩:=cg h
 obtain⟨_,fk,bn,h⟩:=cg h
 obtain⟨p,jQ,bL,h⟩:=cg h
 obtain⟨b,oz,cq,h⟩:=cg h
 cases h
 have:=uE J
 have:=ea aa
 have:=N6 au
 have:=ea bn
 have:=gR bL
 have:=(Ol n).1 _ _ _ cq
 refine⟨by show ac.bB b≤ _; omega,?_⟩
 show ps.length≤ _
 unfold nn at au
 split at au
 ·cases au; simp
 ·obtain⟨w,cI,bC,au⟩:=cg au
  obtain⟨im,c8,bA,au⟩:=cg au
  obtain⟨_,ep,cO,au⟩:=cg au
  cases au
  have:=gR bC
  have fC:=N7 bA
  simp only[List.length_cons,List.length_nil]at fC
  omega
theorem an4 {n:Nat}{l r:List ba}{a:ca}(h:nl en n l= .ok a r):CP a l.length:=by
 unfold nl at h
 obtain⟨m,bO,J,h⟩:=cg h
 obtain⟨_,b4,aa,h⟩:=cg h
 obtain⟨xs,cJ,au,h⟩:=cg h
 obtain⟨_,fk,bn,h⟩:=cg h
 obtain⟨p,jQ,bL,h⟩:=cg h
 obtain⟨w,oz,cq,h⟩:=cg h
 obtain⟨_,Ra,j0,h⟩:=cg h
 cases h
 have:=uE J
 have:=ea aa
 have:=NY au
 have:=ea bn
 have:=gR bL
 refine⟨?_,?_⟩
 ·show ad.bB xs≤ _
  unfold nj at au
  split at au
  ·cases au; simp [ad.bB]
  ·obtain⟨w,cI,bC,au⟩:=cg au
   obtain⟨im,c8,bA,au⟩:=cg au
   obtain⟨_,ep,cO,au⟩:=cg au
   cases au
   have:=(zr n).2.1 _ _ _ _ bC
   have fC:=NZ bA
   simp only[ad.bB]at fC
   omega
 ·show ad.bB w≤ _
  unfold ox at cq
  split at cq
  ·rename_i aw
   obtain⟨w,cI,bC,cq⟩:=cg cq
   cases cq
   have:=eZ aw
   have:=(zr n).2.1 _ _ _ _ bC
   simp only[ad.bB]
   omega
  ·cases cq; simp [ad.bB]
theorem Ou (n:Nat): ∀ {m:Nat}{acc:List cb}{l r:List ba}{a:List cb},lp en n m acc l= .ok a r→a.length≤acc.length+l.length
 |0,_,_,_,_,h=>by cases h
 |m+1,s,l,r,a,h=>by
  simp only[lp]at h
  split at h
  ·rename_i aw
   obtain⟨w,bO,J,h⟩:=cg h
   have:=eZ aw
   have:=BV J
   have aa:=Ou n h
   simp only[List.length_append,List.length_cons,List.length_nil]at aa
   omega
  ·cases h
   omega
theorem E2 (n K:Nat): ∀ {m:Nat}{ap:List cd}{os:List ca}{l r:List ba}{p:List cd×List ca},ln en n m ap os l= .ok p r→l.length≤K→(∀h∈ap,CN h K)→(∀o∈os,CP o K)→(∀h∈p.1,CN h K)∧(∀o∈p.2,CP o K)∧p.1.length+p.2.length≤ap.length+os.length+l.length
 |0,_,_,_,_,_,h,_,_,_=>by cases h
 |m+1,ap,os,l,r,p,h,dv,eD,qC=>by
  simp only[ln]at h
  split at h
  ·cases h
   exact⟨eD,qC,by show ap.length+os.length≤ _; omega⟩
  split at h
  ·rename_i aw
   obtain⟨x,bO,J,h⟩:=cg h
   have:=eZ aw
   have aa:=am6 J
   have:=EZ J
   obtain⟨g1,g2,g3⟩:=E2 n K h (by omega) (fun y aZ=>by
    rcases List.mem_append.1 aZ with aZ|aZ
    ·exact eD y aZ
    ·rw[List.mem_singleton.1 aZ]
     exact⟨by have:=aa.1; omega,by have:=aa.2; omega⟩) qC
   exact⟨g1,g2,by simp only[List.length_append,List.length_cons,List.length_nil]at g3; omega⟩
  ·obtain⟨_,bO,J,h⟩:=cg h
   obtain⟨x,b4,aa,h⟩:=cg h
   have:=ea J
   have au:=an4 aa
   have:=E0 aa
   obtain⟨g1,g2,g3⟩:=E2 n K h (by omega) eD (fun y aZ=>by
    rcases List.mem_append.1 aZ with aZ|aZ
    ·exact qC y aZ
    ·rw[List.mem_singleton.1 aZ]
     exact⟨by have:=au.1; omega,by have:=au.2; omega⟩)
   exact⟨g1,g2,by simp only[List.length_append,List.length_cons,List.length_nil]at g3; omega⟩
theorem Oo {n:Nat}{l r:List ba}{x:e9}(h:lo en n l= .ok x r) (aH:l.length≤10000):oI x:=by
 unfold lo at h
 obtain⟨_,bO,J,h⟩:=cg h
 obtain⟨a,b4,aa,h⟩:=cg h
 obtain⟨_,cJ,au,h⟩:=cg h
 obtain⟨b,fk,bn,h⟩:=cg h
 obtain⟨_,jQ,bL,h⟩:=cg h
 obtain⟨c,oz,cq,h⟩:=cg h
 obtain⟨_,Ra,j0,h⟩:=cg h
 obtain⟨ay,aR8,j7,h⟩:=cg h
 obtain⟨p,Rs,rN,h⟩:=cg h
 have:=ea J
 have:=gR aa
 have:=ea au
 have:=gR bn
 have:=ea bL
 have:=gR cq
 have:=ea j0
 have:=Fb n j7
 have bC:=Ou n j7
 obtain⟨g1,g2,g3⟩:=E2 n 10000 rN (by omega) (fun _ h=>by cases h) (fun _ h=>by cases h)
 simp only[List.length_nil]at bC g3
 cases Rs with
 |cons t Rs=>cases h
 |nil=>
  cases h
  exact⟨fun h hm=>(g1 h hm).1,fun h hm=>by have:=(g1 h hm).2; omega,fun o hm=>g2 o hm,by show ay.length≤ _; omega,by show p.1.length≤ _; omega,by show p.2.length≤ _; omega⟩
end
theorem MJ (N:Nat): ∀(n:Nat) (acc:List ba) (x:List UInt8) (l:List ba),qQ N n acc x= .ok l→l.length≤acc.length+n
 |0,acc,x,l,h=>by simp only[qQ]at h; cases h; omega
 |n+1,acc,x,l,h=>by
  rw[uw]at h
  cases aZ:ko (x.length+1) x with
  |nil=>rw[aZ]at h; simp only[lexB]at h; cases h; omega
  |cons c y=>
   rw[aZ]at h
   simp only[lexB]at h
   cases aO:l9 (c::y) with
   |err e=>rw[aO]at h; cases h
   |ok t r=>
    rw[aO]at h
    have:=MJ N n _ r l h
    simp only[List.length_append,List.length_cons,List.length_nil]at this
    omega
theorem MH {s:List UInt8}{l:List ba}(h:pV s= .ok l):s.length≤8000∧l.length≤8001:=by
 unfold pV at h
 split at h
 ·cases h
 ·rename_i j7
  have:=MJ _ _ _ _ _ h
  simp only[List.length_nil]at this
  omega
def zH:e9:=⟨[],[],[],[],[],[]⟩
def BX (en:Int) (l:List ba):e9×Int×Int:=match lo en (3*l.length+2) l with
 | .ok x _=>if kJ x=true then (x,0,0) else (zH,0,6)
 | .err p e=>(zH,p,e)
 | .out=>(zH,0,0)
def tb (s:List UInt8):e9×Int×Int:=match pV s with
 | .ok l=>BX s.length l
 | .err p e=>(zH,p,e)
def xA (q:e9×Int×Int):I:= .di [q.1.ir,.int .i64 q.2.1,.int .i64 q.2.2]
end Go.bc
namespace Go.bc.T.N
open Go Go.bc Go.Proofs Go.RowKit
set_option maxRecDepth 100000
attribute [local irreducible] Go.bc.aj Go.bc.ae Go.bc.bz
section
attribute [local go_sem] ad.ct ad.b9 ad.de ac.ct ac.b9 ac.de cj eN fZ gJ dp of_flat cb.row dG fG oC fz mV
theorem MI (N:Nat): ∀(n:Nat) (acc:List ba) (x:List UInt8) (p e:Int),qQ N n acc x= .err p e→e≠0
 |0,acc,x,p,e,h=>by simp only[qQ]at h; cases h
 |n+1,acc,x,p,e,h=>by
  rw[uw]at h
  cases aZ:ko (x.length+1) x with
  |nil=>rw[aZ]at h; simp only[lexB]at h; cases h
  |cons c y=>
   rw[aZ]at h
   simp only[lexB]at h
   cases aO:l9 (c::y) with
   |err cC=>rw[aO]at h; cases h; exact Sa aO
   |ok t r=>
    rw[aO]at h
    exact MI N n _ r p e h
theorem ah0 {s:List UInt8}{p e:Int}(h:pV s= .err p e):e≠0:=by
 unfold pV at h
 split at h
 ·cases h; decide
 ·exact MI _ _ _ _ _ _ h
theorem GP:qi [.str [],.str [],.str [],.aV,.aV,.aV] [.str [],.str [],.str [],.ay 7 [],.ay 4 [],.ay 4 []]:= .cons (.av rfl rfl) (.cons (.av rfl rfl) (.cons (.av rfl rfl) (.cons .nil (.cons .nil (.cons .nil .nil)))))
theorem aI3 (x:e9):kC (.agg [.str x.name,.str x.hD,.str x.hA,.ay 7 (x.vars.map cb.row),.ay 4 (x.ap.map cd.row),.ay 4 (x.os.map ca.row)]) x.ir:= .av rfl (by simp only[lq,I.flat,b3,dG,dp,of_flat,Bool.and_self])
theorem Fo (s:a7) (ap:s.length≤1000000):Pure Tryz.prog 12 [.str s] (xA (tb s)):=by
 have ry:=aw8 s ap
 obtain⟨R,an⟩: ∃R,R=tb s:=⟨_,rfl⟩
 rw[←an]
 have yU:(xA R).flat=true:=by simp only[xA,lq,I.flat,b3,dG,dp,of_flat,Bool.and_self]
 refine cF bN Tryz.func12 Dc rfl yU ?_
 unfold tb at an
 cases uj:pV s with
 |err p e=>
  have dw: ¬e=0:=ah0 uj
  rw[uj]at ry an
  simp only[BH]at ry
  simp only at an
  unfold pI Cc
  simp(disch:=omega)only[go_sem,simprocAttr]
  refine ao ?_
  refine D.P (ry) ?_
  (have al:=dw;refine bQ ?_;clear al)
  refine D.r ?_
  rw[an]
  exact⟨_,rfl,.di (.cons (.agg GP) (.cons (.av rfl rfl) (.cons (.av rfl rfl) .nil))),trivial,trivial⟩
 |ok l=>
  obtain⟨aQ6,j9⟩:=MH uj
  have ck:=Oq (en:=(s.length:Int)) (n:=3*l.length+2) (l:=l) (Nat.le_refl _)
  have rz:=aw9 (3*l.length+2) l (s.length:Int) (by omega) ck
  rw[uj]at ry an
  simp only[BH]at ry
  simp only[BX]at an
  cases fV:lo (s.length:Int) (3*l.length+2) l with
  |out=>exact absurd fV ck
  |err p e=>
   rw[fV]at rz an
   simp only[k7]at rz
   simp only at an
   unfold pI Cc
   simp(disch:=omega)only[go_sem,simprocAttr]
   refine ao ?_
   refine D.P (ry) ?_
   refine ao ?_
   refine aj.IB (cap:=[.t 2,.t 3,.t 4]) (Qp:=fun cY c1=>cY=og p e∧c1.H.aU 0=some (27,z31)∧c1.H.aU 1=some (3,[.int .i64 0])∧c1.H.aU 2=some (28,[.int .i64 0])) (kt:=[(2,.ptr 0 0),(3,.ptr 1 0),(4,.ptr 2 0)]) ?_ ?_ ?_ ?_ (fun gr h=>Ii gr h) rfl ?_ ?_
   ·intro q bG
    simp only[List.mem_cons,List.not_mem_nil,or_false]at bG
    rcases bG with rfl|rfl|rfl<;>rfl
   ·intro q bG
    simp only[List.mem_cons,List.not_mem_nil,or_false]at bG
    rcases bG with rfl|rfl|rfl<;>decide
   ·intro q bG
    simp only[List.mem_cons,List.not_mem_nil,or_false]at bG
    rcases bG with rfl|rfl|rfl<;>rfl
   ·kernel_rfl
   ·rintro cY c1 ⟨rfl,aw,J,aa⟩
    refine wq.mono (WA aw rfl J aa) ?_
    rintro c2 rfl
    rw[an]
    refine⟨.di [.agg z31,.int .i64 p,.int .i64 e],?_,⟨_,rfl,.di (.cons (.agg GP) (.cons (.av rfl rfl) (.cons (.av rfl rfl) .nil))),trivial,trivial⟩⟩
    simp [oa,tT,tU,Env.get,a1.ch,aA.ch,n9]
    rfl
   simp(disch:=omega)only[go_sem,simprocAttr]
   refine ao ?_
   refine D.S3 ⟨[3],[]⟩ rz ⟨rfl,?_,?_,?_⟩
   all_goals (rw[zn]; rfl)
  |ok x r=>
   have hb:=Oo fV (by omega)
   have oQ:=B5 x hb
   rw[fV]at rz an
   simp only[k7]at rz
   simp only at an
   rw[show A7 x= .agg [.str x.name,.str x.hD,.str x.hA,.ay 7 (x.vars.map cb.row),.ay 4 (x.ap.map cd.row),.ay 4 (x.os.map ca.row)] from rfl]at rz
   rw[lq]at oQ
   unfold pI Cc
   simp(disch:=omega)only[go_sem,simprocAttr]
   refine ao ?_
   refine D.P (ry) ?_
   refine ao ?_
   refine aj.IB (cap:=[.t 2,.t 3,.t 4]) (Qp:=fun _ _=>False) (kt:=[]) (fun q bG=>by cases bG) (fun q bG=>by cases bG) (fun q bG=>by cases bG) ?_ (fun gr h=>Ii gr h) rfl (fun _ _ h=>h.elim) ?_
   ·kernel_rfl
   simp(disch:=omega)only[go_sem,simprocAttr]
   refine ao ?_
   refine D.F ⟨[3],[]⟩ (rz) ?_
   refine ao ?_
   refine D.P (oQ) ?_
   cases aY:kJ x
   ·rw[if_neg (by rw[aY]; decide)]at an
    refine ao ?_
    refine D.r ?_
    rw[an]
    exact⟨_,rfl,.di (.cons (.agg GP) (.cons (.av rfl rfl) (.cons (.av rfl rfl) .nil))),trivial,trivial⟩
   ·rw[if_pos aY]at an
    refine ao ?_
    refine D.r ?_
    rw[an]
    exact⟨_,rfl,.di (.cons (aI3 x) (.cons (.av rfl rfl) (.cons (.av rfl rfl) .nil))),trivial,trivial⟩
end
section
attribute [local go_sem] ad.ct ac.ct ad.b9 ac.b9 cj eN fZ gJ dp of_flat
attribute [local go_sem] cb.row dG fG mV
def vH (l:List a7):List I:=[.ay 1 (l.map cj)]
theorem ah6 (l:List (List a7)):fP (l.map vH)=true:=qx (fun l=>by simp only[vH,b3,I.flat,eN,Bool.and_self]) l
attribute [local go_sem] vH ah6
theorem ap9 (s:a7):oI (tb s).1:=by
 have aw:oI zH:=⟨fun h hm=>(by cases hm),fun h hm=>(by cases hm),fun o hm=>(by cases hm),Nat.zero_le _,Nat.zero_le _,Nat.zero_le _⟩
 unfold tb
 cases uj:pV s with
 |err p e=>exact aw
 |ok l=>
  obtain⟨_,aH⟩:=MH uj
  simp only[BX]
  cases fV:lo (s.length:Int) (3*l.length+2) l with
  |out=>exact aw
  |err p e=>exact aw
  |ok x r=>
   simp only
   split
   ·exact Oo fV (by omega)
   ·exact aw
end
section
set_option maxRecDepth 1000000
attribute [local go_sem] ad.ct ac.ct ad.b9 ac.b9 cj eN fZ gJ dp of_flat
attribute [local go_sem] cb.row dG fG mV
def Cr:a7:=[115,101,114,118,105,99,101,32,83,32,112,108,97,121,115,32,97,32,111,102,32,80,123,118,97,114,32,110,58,105,110,116,32,48,46,46,57,61,49,59,111,110,32,109,40,120,41,102,114,111,109,32,98,123,110,61,120,59,125,111,102,102,101,114,32,107,40,110,43,49,41,116,111,32,98,32,119,104,101,114,101,32,110,60,53,59,125]
def NU:a7:=[115,101,114,118,105,99,101,32,83,32,112,108,97,121,115,32,97,32,111,102,32,80,32,123,10,9,118,97,114,32,110,58,32,105,110,116,32,48,32,46,46,32,57,32,61,32,49,59,10,9,111,110,32,109,40,120,41,32,102,114,111,109,32,98,32,123,10,9,9,110,32,61,32,120,59,10,9,125,10,9,111,102,102,101,114,32,107,40,110,32,43,32,49,41,32,116,111,32,98,32,119,104,101,114,101,32,110,32,60,32,53,59,10,125,10]
def st:e9:=⟨[83],[97],[80],[⟨[110],1,0,9,1,1,[]⟩],[⟨[109],[98],[[120]],[.mk 1 [110] (.mk 3 [] [120] [] 0 []) 0 [] []]⟩],[⟨[107],[98],[.mk 6 [43] [] [] 0 [.mk 3 [] [110] [] 0 [],.mk 1 [] [] [] 1 []]],[.mk 6 [60] [] [] 0 [.mk 3 [] [110] [] 0 [],.mk 1 [] [] [] 5 []]]⟩]⟩
theorem Oz:tb Cr=(st,0,0):=by kernel_rfl
theorem K4:kJ st=true:=by kernel_rfl
theorem V4:iK st=NU:=by kernel_rfl
theorem R3:oI st:=by
 have:=ap9 Cr
 rw[Oz]at this
 exact this
theorem ak2:st.ok 1000:=by
 refine⟨by decide,by decide,by decide,by decide,?_,by decide,?_,by decide,?_⟩
 ·intro v af
  rw[List.mem_singleton.1 af]
  exact⟨⟨by decide,by decide⟩,rfl,rfl,rfl,rfl,rfl⟩
 ·intro v af
  rw[List.mem_singleton.1 af]
  exact⟨by decide,by decide,by decide,by decide,by decide,⟨rfl,by decide,⟨rfl,by decide,by decide,by decide,rfl,by decide,trivial⟩,rfl,by decide,by decide,trivial,trivial⟩,trivial⟩
 ·intro v af
  rw[List.mem_singleton.1 af]
  exact⟨by decide,by decide,by decide,⟨⟨rfl,by decide,by decide,by decide,rfl,by decide,⟨rfl,by decide,by decide,by decide,rfl,by decide,trivial⟩,⟨rfl,by decide,by decide,by decide,rfl,by decide,trivial⟩,trivial⟩,trivial⟩,by decide,⟨⟨rfl,by decide,by decide,by decide,rfl,by decide,⟨rfl,by decide,by decide,by decide,rfl,by decide,trivial⟩,⟨rfl,by decide,by decide,by decide,rfl,by decide,trivial⟩,trivial⟩,trivial⟩⟩
theorem as6:Pure Tryz.prog 11 [] (.bool true):=by
 have ar:=Fo Cr (by decide)
 have ax:=OY st R3
 have cw:=B5 st R3
 have fq:=aw7 (R:=1000) (by decide) st st ak2
 rw[Oz]at ar
 rw[K4]at cw
 rw[R4]at fq
 unfold xC at ax
 rw[if_pos K4,V4]at ax
 simp only[xA]at ar
 rw[lq]at ar ax cw fq
 simp only[st]at ar ax cw fq
 simp(disch:=omega)only[go_sem,simprocAttr]at ar
 simp(disch:=omega)only[go_sem,simprocAttr]at ax
 simp(disch:=omega)only[go_sem,simprocAttr]at cw
 simp(disch:=omega)only[go_sem,simprocAttr]at fq
 unfold Cr at ar
 unfold NU at ax
 refine cF bN Tryz.func11 Db rfl rfl ?_
 unfold IR Pr
 simp(disch:=omega)only[go_sem,simprocAttr]
 refine ao ?_
 refine D.P (ar) ?_
 refine ao ?_
 refine D.P (ax) ?_
 refine ao ?_
 refine D.P (cw) ?_
 refine ao ?_
 refine D.P (fq) ?_
 refine ao ?_
 exact D.rx
end
end Go.bc.T.N
namespace Go.Proofs.YtjkbgcgljnldeaaGreatDoor
open Go.ChangeShapes Go.WideShapes Go.ChangeAt Go.RowKit
def vF:=Rows.serviceEqualRow.laid
theorem Xa (os:Os) (args:Array Value):laidMetH Tryz.prog vF ((World.laidAll Tryz.prog os vF).forCall (fun _ _=>0) ⟨#[],args,[]⟩).memory:=by
 rw[MakeChecks.laidMetH_plain _ _ _ (by kernel_rfl)]
 exact laidMet_laidAll _ (by kernel_rfl) (by kernel_rfl)
section
variable {H:Type}{enc:TypeId×Value→H}
theorem wS {a:Assume}{C:Checked}{os:Os}{f:FuncId}{fn:Func}{s:ChangeSpec}{conds:List PathCond}{apart fresh handsOn again:Bool}{X:World→Array Value→Prop}
  (uj: ∀(w w':World) (args:Array Value),w.heap=w'.heap→X w args→X w' args)
  (own:ownKnob C.prog.godebug=none) (started:os.Started) (aj3:C.prog.inits.idxOf? f=none) (xi:C.prog.funcs[f]? =some fn)
  (witness: ∃(w:World) (tape:Tape) (i:Input),w.os=os∧(w.forCall tape i).Shaped C.prog∧i.vars=[]∧Input.okWide C.prog (w.forCall tape i) .any w.heap.size f i∧
   ((s.pre enc C.prog fn conds apart (w.forCall tape i).memory i.args∧X (w.forCall tape i).memory i.args)∧sizedMet enc C.prog fn (OpenSpec.ofChange s) apart (w.forCall tape i).memory i.args)∧a.holds C.prog (lone (Frame.enter C.prog f i.args .normal) [] (w.forCall tape i)))
  (contract: ∀(W:World) (base:Nat) (args:Array Value) (iZ gs:List (DataW H)) (before:List MemPlace),
   (∀(j:Nat) t v,fn.params[j]? =some t→args[j]? =some v→Value.okWide C.prog W .any base t v)→
   DataW.Whole enc C.prog fn.params.toList s.vars apart W args.toList iZ gs before→
   (DataW.weightsEach C.prog (fn.params.toList++s.plain.varTypes C.prog) (iZ++gs)).all (·≤reachBytes)=true→
   X W args→W.ShapedOpen C.prog→
   Calls C.prog f args W fun e CV=> ∃v,e= .returned v∧s.post enc C.prog fn apart fresh handsOn again W args v CV):
  ReturnsInHanded a C os f .any (fun w args=>(s.pre enc C.prog fn conds apart w args∧X w args)∧sizedMet enc C.prog fn (OpenSpec.ofChange s) apart w args) (s.post enc C.prog fn apart fresh handsOn again):=by
 refine returnsInHanded_of_calls own started aj3 witness ?_
 intro w tape i _ Ev _ iy xm _
 obtain⟨_,_,_,XV,Za,_,_,_,_,Bz⟩:=iy
 obtain rfl:XV=fn:=Option.some.inj (Za.symm.trans xi)
 obtain⟨⟨⟨iZ,gs,before,hw,_⟩,ab⟩,aB⟩:=xm
 have Ey:=DataW.Whole.of_heap (w':=w.forCall tape i) (by rfl) hw
 refine (contract (w.forCall tape i) w.heap.size i.args iZ gs before Bz Ey (aB.weights hw) (uj _ _ _ (by rfl) ab) Ev).mono fun e CV ⟨v,he,hp⟩=> ?_
 subst he
 exact ChangeSpec.post_blind hp
end
theorem A8:Tryz.prog.globalNamed "internal/strconv.uint64pow10" =some 1:=by kernel_rfl
theorem X2:(Tryz.prog.globals[1]?).map (·.type)=some 261:=by kernel_rfl
theorem Wh:Tryz.prog.cellsOf 261=20:=by kernel_rfl
theorem Wg:Tryz.prog.cellsOf 249=1:=by kernel_rfl
theorem aD1:(((begin Tryz.prog (fun _ _=>0) default).world.heap[1]?).bind Obj.row?).map (·.2)=some 261:=by kernel_rfl
theorem Yi:1<Tryz.prog.globals.size:=of_decide_eq_true (by kernel_rfl)
theorem TL {W:World}{g t:Nat}(ap:W.ShapedOpen Tryz.prog) (aY:g<Tryz.prog.globals.size) (h:(((begin Tryz.prog (fun _ _=>0) default).world.heap[g]?).bind Obj.row?).map (·.2)=some t){name:String}(a6:Tryz.prog.globalNamed name=some g){cs:Array Value}(af:W.var? Tryz.prog name=some cs):W.heap[g]? =some (.cells cs t (0,0)):=by
 obtain⟨⟨zero,dx⟩,J,aa⟩:=Option.map_eq_some_iff.1 h
 simp only at aa
 subst aa
 obtain⟨c3,au,_⟩:=ap.1 g zero dx aY J
 unfold World.var? at af
 rw[a6]at af
 simp only[Option.bind_some,au,Option.some.injEq]at af
 rw[au,af]
theorem X6 {W:World}(ap:W.ShapedOpen Tryz.prog) (h:laidMetH Tryz.prog vF W):Go.bc.nv W:=by
 rw[MakeChecks.laidMetH_plain _ _ _ (by kernel_rfl)]at h
 have aa:laidMet Tryz.prog (("internal/strconv.uint64pow10",Lib.tabData .u64 Lib.pow10Tab)::[("unicode/utf8.acceptRanges",Rows.laid_unicode_utf8_acceptRanges),("unicode/utf8.first",Rows.laid_unicode_utf8_first)]) W:=h.tail.tail
 have v3:Lib.TabIs Tryz.prog W "internal/strconv.uint64pow10" .u64 Lib.pow10Tab:=Lib.tabIs_of_head A8 X2 Tryz.underlying261 Tryz.underlying249 Wg Wh aa
 have jj:=TL ap Yi aD1 A8 v3
 intro p hp
 simp only[Go.bc.yH,List.mem_cons,List.not_mem_nil,or_false]at hp
 subst hp
 exact⟨_,jj,261,_,rfl⟩
end Go.Proofs.YtjkbgcgljnldeaaGreatDoor
namespace Go.bc
open Go Go.bc.T.N
def lone (c:UInt8):Bool:=c==40||c==41||c==123||c==125||c==44||c==59||c==58
def nr (z:Int):bH:=if z<0 then[cy [45],kr (-z)] else[kr z]
def tr (k n:Int) (s:a7):bH:=if k=2 then[p6 s] else nr n
def q4 (v:cb):bH:=dH [118,97,114]::dH v.name::cy [58]::dH (if v.hV=2 then[116,101,120,116] else[105,110,116])::(nr v.cz++cy [46,46]::(nr v.ai++cy [61]::(tr v.ik v.n v.s++[cy [59]])))
end Go.bc
namespace Go.bc
open Go Go.bc.T.N
inductive hJ where
 |h (x:cd)
 |o (x:ca)
end Go.bc
namespace Go.bc.T.N
open Go Go.bc Go.Proofs Go.RowKit
set_option maxRecDepth 100000
attribute [local irreducible] Go.bc.aj Go.bc.ae Go.bc.bz
section
attribute [local go_sem] ad.ct ac.ct ad.b9 ac.b9 cj eN
theorem OR (z:Int):Pure Tryz.prog 139 [.int .u8 z] (.bool (xr z)):=by
 refine cF bN Tryz.func139 Uq rfl rfl ?_
 unfold Jh PR
 simp(disch:=omega)only[go_sem,simprocAttr]
 (repeat' first|refine D.S ?_|refine D.cN true true ?_|refine ae.nil ?_|refine aj.b6 ?_|refine D.W ?_|refine D.Z ?_|refine D.G ?_ ?_|refine D.X ‹_› ?_|refine D.eh ‹_› ?_|refine D.ei ‹_› ?_|intro h|refine D.C ?_ ?_)
 all_goals (refine D.R ?_)
 all_goals (refine⟨_,rfl,.av ?_ rfl,trivial,trivial⟩; simp_all [xr,I.av]<;>(try omega))
theorem au2 (z:Int):Pure Tryz.prog 141 [.int .u8 z] (.bool (vc z)):=by
 refine cF bN Tryz.func141 Ut rfl rfl ?_
 unfold Jj PU
 simp(disch:=omega)only[go_sem,simprocAttr]
 (repeat' first|refine D.S ?_|refine D.cN true true ?_|refine ae.nil ?_|refine aj.b6 ?_|refine D.W ?_|refine D.Z ?_|refine D.G ?_ ?_|refine D.X ‹_› ?_|refine D.eh ‹_› ?_|refine D.ei ‹_› ?_|intro h|refine D.C ?_ ?_)
 all_goals (refine D.R ?_)
 all_goals (refine⟨_,rfl,.av ?_ rfl,trivial,trivial⟩; simp_all [vc,I.av]<;>(try omega))
theorem au1 (z:Int):Pure Tryz.prog 140 [.int .u8 z] (.bool (uu z)):=by
 refine cF bN Tryz.func140 Us rfl rfl ?_
 unfold Ji PT
 simp(disch:=omega)only[go_sem,simprocAttr]
 refine ao ?_
 refine D.P (OR z) ?_
 (repeat' first|refine D.S ?_|refine D.cN true true ?_|refine ae.nil ?_|refine aj.b6 ?_|refine D.W ?_|refine D.Z ?_|refine D.G ?_ ?_|refine D.X ‹_› ?_|refine D.eh ‹_› ?_|refine D.ei ‹_› ?_|intro h|refine D.C ?_ ?_)
 ·refine D.r ?_
  refine⟨_,rfl,.av ?_ rfl,trivial,trivial⟩
  simp_all [uu,I.av]
 refine D.P (au2 z) ?_
 (repeat' first|refine D.S ?_|refine D.cN true true ?_|refine ae.nil ?_|refine aj.b6 ?_|refine D.W ?_|refine D.Z ?_|refine D.G ?_ ?_|refine D.X ‹_› ?_|refine D.eh ‹_› ?_|refine D.ei ‹_› ?_|intro h|refine D.C ?_ ?_)
 all_goals (refine D.R ?_)
 all_goals (refine⟨_,rfl,.av ?_ rfl,trivial,trivial⟩; simp_all [uu,I.av]<;>(try omega))
theorem at6 (l:List a7) (s:a7) (aH:l.length≤1000000000):Pure Tryz.prog 133 [.ay 1 (l.map cj),.str s] (.bool (l.contains s)):=by
 refine cF bN Tryz.func133 Uk (by simp only[b3,I.flat,eN,Bool.and_self]) rfl ?_
 unfold Jb PL
 simp(disch:=omega)only[go_sem,simprocAttr]
 refine ao ?_
 refine aj.dd (X:=Nat) 0 (fun i=>[(0,.ay 1 (l.map cj)),(1,.str s),(5,.int .i64 (i:Int))]) (fun _=>[]) (fun _=>[]) (fun i=>i≤l.length∧(l.drop i).contains s=l.contains s) (fun i=>l.length-i) ⟨Nat.zero_le _,rfl⟩ ⟨rfl,rfl,rfl,trivial⟩ trivial trivial ?_
 rintro i ⟨ai,aB⟩
 try simp only at ai aB ⊢
 cases af:l[i]? with
 |some v=>
  have cK:=(List.getElem?_eq_some_iff.1 af).1
  have d1:(i:Int)<((l.map cj).length:Int):=by rw[List.length_map]; omega
  rw[iM af]at aB
  by_cases ab:v=s
  ·simp only[List.contains_cons,ab,beq_self_eq_true,Bool.true_or]at aB
   (have al:=d1;have z2:=ab;refine e8 ?_;clear al z2)
   refine D.r ?_
   exact⟨_,rfl,.av (by rw[←aB]; rfl) rfl,trivial,trivial⟩
  ·have hQ:(s==v)=false:=by simpa using fun e:s=v=>ab e.symm
   simp only[List.contains_cons,hQ,Bool.false_or]at aB
   (have al:=d1;have z2:=ab;refine e8 ?_;clear al z2)
   refine aj.dK (i+1) ⟨by omega,aB⟩ ⟨rfl,rfl,by simp only[Int.natCast_add]; rfl,trivial⟩ trivial trivial rfl rfl (by show l.length-(i+1)<l.length-i; omega)
 |none=>
  have cM:=List.getElem?_eq_none_iff.1 af
  have bE:i=l.length:=by omega
  subst bE
  have d1: ¬(l.length:Int)<((l.map cj).length:Int):=by rw[List.length_map]; omega
  rw[List.drop_length]at aB
  (have al:=d1;refine bQ ?_;clear al)
  refine D.r ?_
  exact⟨_,rfl,.av (by rw[←aB]; rfl) rfl,trivial,trivial⟩
end
section
attribute [local go_sem] ad.ct ad.b9 ad.de ac.ct ac.b9 ac.de cj eN fZ gJ dp of_flat
theorem Xq:(List.range 10).all (fun d=>(Utf8.encode (48+(d:Int))).data.toList==[UInt8.ofNat (48+d)])=true:=by kernel_rfl
theorem Xs {d:Nat}(h:d<10):(Utf8.encode (48+(d:Int))).data.toList=[UInt8.ofNat (48+d)]:=by
 have:=List.all_eq_true.1 Xq d (List.mem_range.2 h)
 simpa only[beq_iff_eq] using this
theorem aJ5 (m:Nat):(-(m:Int)).tdiv 10= -((m/10:Nat):Int):=by rw[Int.neg_tdiv]; rfl
theorem ma (m:Nat):(-(m:Int)).tmod 10= -((m%10:Nat):Int):=by rw[Int.neg_tmod]; rfl
theorem aJ6 (m:Nat):(m:Int).tdiv 10=((m/10:Nat):Int):=rfl
theorem aJ7 (m:Nat):(m:Int).tmod 10=((m%10:Nat):Int):=rfl
theorem aM4 {d:Int}(aw:0≤d) (J:d<10):IntKind.i32.wrap (48+d)=48+d:=by
 simp only[IntKind.wrap,IntKind.bits,IntKind.signed]
 simp
 omega
attribute [local go_sem] aM4 Xs Int.sub_neg aJ5 ma aJ6 aJ7
end
end Go.bc.T.N
set_option maxRecDepth 100000
namespace Go.bc.T.N
open Go Go.bc Go.Proofs Go.ChangeShapes Go.WideShapes Go.RowKit
theorem Ar:Tryz.prog.bytesOf 9=16:=by kernel_rfl
variable {R:Nat}
section
variable {H:Type}{enc:TypeId×Value→H}{w:World}{base:Nat}{spare:Nat→Bool}{held:Bool}
end
end Go.bc.T.N
namespace Go.bc.T.N
open Go Go.bc Go.Proofs Go.RowKit
set_option maxRecDepth 100000
attribute [local irreducible] Go.bc.aj Go.bc.ae Go.bc.bz
section
attribute [local go_sem] ba.row
def q4 (s:a7):uW→I
 | .ok t r=> .di [.agg t.row,.int .i64 ((s.length-r.length:Nat):Int),.int .i64 0]
 | .err e=> .di [.agg z4,.int .i64 0,.int .i64 e]
theorem lb (s:a7) (R:uW):(q4 s R).flat=true:=by cases R<;>simp only[q4,I.flat,b3,ba.row,z4,Bool.and_self]
theorem s7 {s:a7}: ∃w r:a7,s=w++r∧s.takeWhile iY=w∧s.dropWhile iY=r∧(∀(i:Nat) (c:UInt8),w[i]? =some c→iY c=true)∧(∀(c:UInt8) (y:a7),r=c::y→iY c=false):=by
 refine⟨_,_,(List.takeWhile_append_dropWhile (p:=iY) (l:=s)).symm,rfl,rfl,fun i c h=> ?_,fun c y h=> ?_⟩
 ·have:=W5 h
  simp [iY,vc,this]
 ·induction s with
  |nil=>cases h
  |cons d l cv=>
   rw[List.dropWhile_cons]at h
   split at h
   ·exact cv h
   ·rename_i bw
    cases h
    simpa using bw
theorem ww (s:a7) (ap:s.length≤1000000):Pure Tryz.prog 142 [.str s] (q4 s (vL s)):=by
 obtain⟨w,r,js,hw,ag,Y0,Y1⟩:=s7 (s:=s)
 obtain⟨R,an⟩: ∃R,R=zl w r:=⟨_,rfl⟩
 have bW:vL s=R:=by rw[vL,hw,ag,an]
 have hlen:s.length=w.length+r.length:=by rw[js,List.length_append]
 rw[bW]
 clear bW hw ag
 refine cF bN Tryz.func142 sz rfl (lb _ _) ?_
 unfold jE rX
 simp(disch:=omega)only[go_sem,simprocAttr]
 refine ao ?_
 refine aj.dd (X:=Nat×Int) (0,0) (fun y=>[(0,.str s),(2,.ptr 0 0),(5,.int .i64 (y.1:Int)),(6,.int .i64 y.2)]) (fun y=>[(0,63,z4)]) (fun _=>[]) (fun y=>y.1≤w.length∧0≤y.2∧y.2≤1099511627776∧(w.length≤6→y.2<10^y.1∧pk (w.drop y.1) y.2=pk w 0)) (fun y=>w.length-y.1) ⟨Nat.zero_le _,Int.le_refl _,by decide,fun _=>⟨by decide,rfl⟩⟩ ⟨rfl,rfl,rfl,rfl,trivial⟩ ⟨rfl,trivial⟩ trivial ?_
 rintro⟨i,v⟩ ⟨ai,r0,By,aB⟩
 simp only at ai r0 By aB ⊢
 by_cases kN:i<w.length
 ·have kV:w[i]? =some w[i]:=List.getElem?_eq_getElem kN
  have nm:=Y0 i _ kV
  have af:s[i]? =some w[i]:=by rw[js,List.getElem?_append_left kN]; exact kV
  rw[iM kV]at aB
  simp only[pk]at aB
  generalize w[i]=c at*
  have YX:48≤(c.toNat:Int)∧(c.toNat:Int)≤57:=by simpa [iY,vc] using nm
  have Jj:=au2 (c.toNat:Int)
  rw[show vc (c.toNat:Int)=true from nm]at Jj
  have d1:(i:Int)<(s.length:Int):=by omega
  have ar:IntKind.u8.wrap ((c.toNat:Int)-48)=(c.toNat:Int)-48:=SJ (by omega) (by omega)
  have hm:min (10*v+((c.toNat:Int)-48)) 1099511627776≤1099511627776:=Int.min_le_right _ _
  (have al:=d1;refine bQ ?_;clear al)
  refine D.P (Jj) ?_
  (have al:=d1;have z2:=ar;refine e8 ?_;clear al z2)
  refine aj.dK (i+1,min (10*v+((c.toNat:Int)-48)) 1099511627776) ⟨by simp only; omega,by simp only; omega,hm,fun cq=> ?_⟩ ⟨rfl,rfl,by simp only[Int.natCast_add]; rfl,rfl,trivial⟩ ⟨rfl,trivial⟩ trivial rfl rfl (by show w.length-(i+1)<w.length-i; omega)
  obtain⟨y6,aB⟩:=aB cq
  have hp:(10:Int)^i≤100000:=by
   have:(10:Int)^i≤10^5:=by exact_mod_cast Nat.pow_le_pow_right (by decide) (show i≤5 by omega)
   simpa using this
  have bG:(10:Int)^(i+1)=10*10^i:=by rw[Int.pow_succ,Int.mul_comm]
  have uo:min (10*v+((c.toNat:Int)-48)) 1099511627776=10*v+((c.toNat:Int)-48):=by omega
  simp only
  rw[uo]
  exact⟨by rw[bG]; omega,aB⟩
 have bE:i=w.length:=by omega
 subst bE
 rw[List.drop_length]at aB
 simp only[pk]at aB
 clear ai kN Y0
 unfold zl at an
 have ti: ∀c y,r=c::y→ki r=true→Pure Tryz.prog 140 [.int .u8 (c.toNat:Int)] (.bool true):=fun c y e h=>by
  subst e
  have Ji:=au1 (c.toNat:Int)
  rw[show uu (c.toNat:Int)=true from h]at Ji
  exact Ji
 have na: ∀c y,r=c::y→ki r=false→Pure Tryz.prog 140 [.int .u8 (c.toNat:Int)] (.bool false):=fun c y e h=>by
  subst e
  have Ji:=au1 (c.toNat:Int)
  rw[show uu (c.toNat:Int)=false from h]at Ji
  exact Ji
 have kc: ∀c y,r=c::y→Pure Tryz.prog 141 [.int .u8 (c.toNat:Int)] (.bool false):=fun c y e=>by
  have Jj:=au2 (c.toNat:Int)
  rw[show vc (c.toNat:Int)=false from Y1 c y e]at Jj
  exact Jj
 have kf: ∀c y,r=c::y→s[w.length]? =some c:=fun c y e=>by rw[js,e,List.getElem?_append_right (Nat.le_refl _),Nat.sub_self]; rfl
 have p0:=hlen
 have Zw:s.length-r.length=w.length:=by omega
 have kj: ∀q,q=q4 s (.ok ⟨2,[],pk w 0,0⟩ r)→q= .di [.agg [.int .i64 2,.str [],.int .i64 (pk w 0),.int .i64 0],.int .i64 (w.length:Int),.int .i64 0]:=fun q e=>by
  rw[e,q4,Zw]; rfl
 cases w8:ki r with
 |true=>
  rw[if_pos w8]at an
  rcases r with _|⟨c,y⟩
  ·simp [ki]at w8
  have af:=kf c y rfl
  have ah:=zi c
  have Jj:=kc c y rfl
  have Ji:=ti c y rfl w8
  simp only[List.length_cons]at hlen
  have d1:(w.length:Int)<(s.length:Int):=by omega
  (have al:=d1;refine bQ ?_;clear al)
  refine D.P (Jj) ?_
  (have al:=d1;refine bQ ?_;clear al)
  refine D.P (Ji) ?_
  refine ao ?_
  refine D.r ?_
  rw[an]
  exact⟨_,rfl,.av rfl rfl,trivial,trivial⟩
 |false=>
 rw[if_neg (by rw[w8]; decide)]at an
 by_cases cq:6<w.length
 ·rw[if_pos (.inl cq)]at an
  have d6:(6:Int)<(w.length:Int):=by omega
  clear kj
  rcases r with _|⟨c,y⟩
  ·simp only[List.length_nil]at hlen
   have d1: ¬(w.length:Int)<(s.length:Int):=by omega
   (have al:=d1;have z2:=d6;refine e8 ?_;clear al z2)
   refine D.r ?_
   rw[an]
   exact⟨_,rfl,.av rfl rfl,trivial,trivial⟩
  ·have af:=kf c y rfl
   have ah:=zi c
   have Jj:=kc c y rfl
   have Ji:=na c y rfl w8
   simp only[List.length_cons]at hlen
   have d1:(w.length:Int)<(s.length:Int):=by omega
   (have al:=d1;refine bQ ?_;clear al)
   refine D.P (Jj) ?_
   (have al:=d1;refine bQ ?_;clear al)
   refine D.P (Ji) ?_
   clear af
   (have al:=d6;refine bQ ?_;clear al)
   refine D.r ?_
   rw[an]
   exact⟨_,rfl,.av rfl rfl,trivial,trivial⟩
 have d6: ¬(6:Int)<(w.length:Int):=by omega
 replace aB:=aB (by omega)
 by_cases aw:1<w.length∧w.head?=some 48
 ·rw[if_pos (.inr aw)]at an
  have d2:(1:Int)<(w.length:Int):=by omega
  have r0:s[0]? =some 48:=by rw[js,List.getElem?_append_left (by omega),←List.head?_eq_getElem?]; exact aw.2
  have wN:((48:UInt8).toNat:Int)=48:=rfl
  clear kj
  rcases r with _|⟨c,y⟩
  ·simp only[List.length_nil]at hlen
   have d1: ¬(w.length:Int)<(s.length:Int):=by omega
   (have al:=d1;have z2:=d6;have z3:=d2;refine ji ?_;clear al z2 z3)
   (have al:=wN;refine bQ ?_;clear al)
   refine D.r ?_
   rw[an]
   exact⟨_,rfl,.av rfl rfl,trivial,trivial⟩
  ·have af:=kf c y rfl
   have ah:=zi c
   have Jj:=kc c y rfl
   have Ji:=na c y rfl w8
   simp only[List.length_cons]at hlen
   have d1:(w.length:Int)<(s.length:Int):=by omega
   (have al:=d1;refine bQ ?_;clear al)
   refine D.P (Jj) ?_
   (have al:=d1;refine bQ ?_;clear al)
   refine D.P (Ji) ?_
   clear af
   (have al:=d6;have z2:=d2;have z3:=wN;refine ji ?_;clear al z2 z3)
   refine D.r ?_
   rw[an]
   exact⟨_,rfl,.av rfl rfl,trivial,trivial⟩
 rw[if_neg (fun bh=>bh.elim cq aw)]at an
 by_cases aa:1<w.length
 ·have d2:(1:Int)<(w.length:Int):=by omega
  obtain⟨mT,qf⟩: ∃mT,w[0]? =some mT:=⟨_,List.getElem?_eq_getElem (by omega)⟩
  have r0:s[0]? =some mT:=by rw[js,List.getElem?_append_left (by omega)]; exact qf
  have d3: ¬(mT.toNat:Int)=48:=fun e=>aw ⟨aa,by
   rw[List.head?_eq_getElem?,qf]
   congr 1
   apply UInt8.toNat_inj.1
   have:(48:UInt8).toNat=48:=rfl
   omega⟩
  rcases r with _|⟨c,y⟩
  ·simp only[List.length_nil]at hlen
   have d1: ¬(w.length:Int)<(s.length:Int):=by omega
   (have al:=d1;have z2:=d6;have z3:=d2;refine ji ?_;clear al z2 z3)
   (have al:=d3;refine bQ ?_;clear al)
   refine D.r ?_
   rw[an]
   exact⟨_,rfl,.av (by rw[kj _ rfl,←aB.2]; rfl) (lb _ _),trivial,trivial⟩
  ·have af:=kf c y rfl
   have ah:=zi c
   have Jj:=kc c y rfl
   have Ji:=na c y rfl w8
   simp only[List.length_cons]at hlen
   have d1:(w.length:Int)<(s.length:Int):=by omega
   (have al:=d1;refine bQ ?_;clear al)
   refine D.P (Jj) ?_
   (have al:=d1;refine bQ ?_;clear al)
   refine D.P (Ji) ?_
   clear af
   (have al:=d6;have z2:=d2;have z3:=d3;refine ji ?_;clear al z2 z3)
   refine D.r ?_
   rw[an]
   exact⟨_,rfl,.av (by rw[kj _ rfl,←aB.2]; rfl) (lb _ _),trivial,trivial⟩
 ·have d2: ¬(1:Int)<(w.length:Int):=by omega
  rcases r with _|⟨c,y⟩
  ·simp only[List.length_nil]at hlen
   have d1: ¬(w.length:Int)<(s.length:Int):=by omega
   (have al:=d1;have z2:=d6;have z3:=d2;refine ji ?_;clear al z2 z3)
   refine D.r ?_
   rw[an]
   exact⟨_,rfl,.av (by rw[kj _ rfl,←aB.2]; rfl) (lb _ _),trivial,trivial⟩
  ·have af:=kf c y rfl
   have ah:=zi c
   have Jj:=kc c y rfl
   have Ji:=na c y rfl w8
   simp only[List.length_cons]at hlen
   have d1:(w.length:Int)<(s.length:Int):=by omega
   (have al:=d1;refine bQ ?_;clear al)
   refine D.P (Jj) ?_
   (have al:=d1;refine bQ ?_;clear al)
   refine D.P (Ji) ?_
   clear af
   (have al:=d6;have z2:=d2;refine e8 ?_;clear al z2)
   refine D.r ?_
   rw[an]
   exact⟨_,rfl,.av (by rw[kj _ rfl,←aB.2]; rfl) (lb _ _),trivial,trivial⟩
end
section
attribute [local go_sem] ba.row
def cX:a7→a7→Option (a7×a7)
 | _,[]=>none
 |b,c::x=>if c.toNat=34 then some (b,x)
  else if c.toNat=92 then match x with
   |[]=>none
   |d::y=>if d.toNat=34∨d.toNat=92 then cX (b++[d]) y else none
  else if c.toNat<32∨126<c.toNat then none else cX (b++[c]) x
theorem my (b:a7) (c:UInt8) (x:a7):cX b (c::x)=if c.toNat=34 then some (b,x)
  else if c.toNat=92 then (match x with
   |[]=>none
   |d::y=>if d.toNat=34∨d.toNat=92 then cX (b++[d]) y else none)
  else if c.toNat<32∨126<c.toNat then none else cX (b++[c]) x:=by
 cases x with
 |nil=>simp only[cX]
 |cons d y=>rw[cX]
def kW:Option (a7×a7)→uW
 |none=> .err 3
 |some (t,r)=>if 40<t.length then .err 6 else .ok ⟨3,t,0,0⟩ r
theorem n0: ∀(n:Nat) (b x:a7),x.length≤n→jy b x=kW (cX b x)
 |n,b,[],h=>by simp only[jy,cX,kW]
 |0,b,c::x,h=>by simp at h
 |n+1,b,c::x,h=>by
  simp only[List.length_cons]at h
  rw[aJ8,my]
  by_cases J:c.toNat=34
  ·rw[if_pos J,if_pos J]
   rfl
  rw[if_neg J,if_neg J]
  by_cases aa:c.toNat=92
  ·rw[if_pos aa,if_pos aa]
   cases x with
   |nil=>rfl
   |cons d y=>
    simp only[List.length_cons]at h
    simp only
    by_cases au:d.toNat=34∨d.toNat=92
    ·rw[if_pos au,if_pos au]
     exact n0 n _ _ (by omega)
    ·rw[if_neg au,if_neg au]
     rfl
  rw[if_neg aa,if_neg aa]
  by_cases au:c.toNat<32∨126<c.toNat
  ·rw[if_pos au,if_pos au]
   rfl
  ·rw[if_neg au,if_neg au]
   exact n0 n _ _ (by omega)
def lf (s:a7):Option (a7×a7)→I
 |none=> .di [.str [],.int .i64 0]
 |some (t,r)=> .di [.str t,.int .i64 ((s.length-r.length:Nat):Int)]
theorem ss (s:a7) (R:Option (a7×a7)):(lf s R).flat=true:=by cases R<;>simp only[lf,I.flat,b3,Bool.and_self]
theorem pg: ∀(n:Nat) (b x:a7) (t r:a7),x.length≤n→cX b x=some (t,r)→r.length<x.length
 |n,b,[],t,r,h,e=>by simp only[cX]at e; cases e
 |0,b,c::x,t,r,h,e=>by simp at h
 |n+1,b,c::x,t,r,h,e=>by
  simp only[List.length_cons]at h
  rw[my]at e
  split at e
  ·cases e; simp
  split at e
  ·cases x with
   |nil=>cases e
   |cons d y=>
    simp only[List.length_cons]at h
    simp only at e
    split at e
    ·have:=pg n _ _ _ _ (by omega) e
     simp only[List.length_cons]
     omega
    ·cases e
  split at e
  ·cases e
  ·have:=pg n _ _ _ _ (by omega) e
   simp only[List.length_cons]
   omega
theorem wD (x:a7) (ap:x.length≤1000000):Pure Tryz.prog 143 [.str (34::x)] (lf (34::x) (cX [] x)):=by
 obtain⟨R,an⟩: ∃R,R=cX [] x:=⟨_,rfl⟩
 rw[←an]
 obtain⟨s,cc⟩: ∃s,s=(34:UInt8)::x:=⟨_,rfl⟩
 have pS:s.length=x.length+1:=by rw[cc]; rfl
 have mo:fT s x 1:=⟨by omega,by rw[cc]; rfl⟩
 rw[←cc]
 refine cF bN Tryz.func143 sA rfl (ss _ _) ?_
 unfold hS r6
 simp(disch:=omega)only[go_sem,simprocAttr]
 refine ao ?_
 refine aj.dd (X:=a7×a7×Nat) ([],x,1) (fun y=>[(0,.str s),(4,.str y.1),(5,.int .i64 (y.2.2:Int))]) (fun _=>[]) (fun _=>[]) (fun y=>fT s y.2.1 y.2.2∧y.1.length≤y.2.2∧R=cX y.1 y.2.1) (fun y=>y.2.1.length) ⟨mo,Nat.zero_le _,an⟩ ⟨rfl,rfl,rfl,trivial⟩ trivial trivial ?_
 rintro⟨b,y,p⟩ ⟨aZ,hb,an⟩
 simp only at aZ hb an ⊢
 have oY:=aZ.1
 cases y with
 |nil=>
  simp only[List.length_nil]at oY
  simp only[cX]at an
  have d1: ¬(p:Int)<(s.length:Int):=by omega
  (have al:=d1;refine bQ ?_;clear al)
  refine D.r ?_
  rw[an]
  exact⟨_,rfl,.av rfl rfl,trivial,trivial⟩
 |cons c y=>
 have af:=aZ.get
 have ah:=zi c
 have aO:=aZ.tail
 simp only[List.length_cons]at oY
 have d1:(p:Int)<(s.length:Int):=by omega
 rw[my]at an
 by_cases sU:c.toNat=34
 ·rw[if_pos sU]at an
  have d2:(c.toNat:Int)=34:=by omega
  (have al:=d1;have z2:=d2;refine e8 ?_;clear al z2)
  refine D.r ?_
  rw[an]
  exact⟨_,rfl,.av (by simp only[lf,I.av,jU]; rw[aO.eq]; simp only[Int.natCast_add]; rfl) (ss _ _),trivial,trivial⟩
 rw[if_neg sU]at an
 have d2: ¬(c.toNat:Int)=34:=by omega
 by_cases Lj:c.toNat=92
 ·rw[if_pos Lj]at an
  have d3:(c.toNat:Int)=92:=by omega
  cases y with
  |nil=>
   simp only[List.length_nil]at oY
   have d4: ¬(p:Int)+1<(s.length:Int):=by omega
   (repeat' first|(apply ae.s rfl;(·simp(disch:=omega)only[go_sem,simprocAttr,d1,d2,d3,d4]<;>with_reducible rfl))|(apply aj.s true true;(·simp(disch:=omega)only[go_sem,simprocAttr,d1,d2,d3,d4]<;>with_reducible rfl))|apply ae.nil|(refine aj.b6 ?_)|(apply ae.eX;(·simp(disch:=omega)only[go_sem,simprocAttr,d1,d2,d3,d4]<;>with_reducible rfl))|(apply ae.eY;(·rfl);(·simp(disch:=omega)only[go_sem,simprocAttr,d1,d2,d3,d4]<;>with_reducible rfl))|(apply ae.gs;(·simp(disch:=omega)only[go_sem,simprocAttr,d1,d2,d3,d4]<;>with_reducible rfl))|((first|apply ae.e3|apply ae.e4|apply ae.e5);(·simp(disch:=omega)only[go_sem,simprocAttr,d1,d2,d3,d4]<;>with_reducible rfl);(·simp(disch:=omega)only[go_sem,simprocAttr,d1,d2,d3,d4]<;>with_reducible rfl);(·assumption);(·omega))|intro h)
   refine D.r ?_
   rw[an]
   exact⟨_,rfl,.av rfl rfl,trivial,trivial⟩
  |cons d y=>
   have bw:=zi d
   have rZ:=aO.tail
   simp only[List.length_cons]at oY
   have d4:(p:Int)+1<(s.length:Int):=by omega
   have pS:(s.take (p+1+1)).drop (p+1)=[d]:=fT.io (u:=[d]) aO
   simp only at an
   (have al:=d1;refine bQ ?_;clear al)
   (have al:=d2;have z2:=d3;have z3:=d4;refine ji ?_;clear al z2 z3)
   clear af
   have af:=aO.get
   by_cases au:d.toNat=34
   ·rw[if_pos (.inl au)]at an
    have d5:(d.toNat:Int)=34:=by omega
    (have al:=d5;refine bQ ?_;clear al)
    (apply ae.uM (p+1) (p+1+1);(·simp(disch:=omega)only[go_sem,simprocAttr]<;>with_reducible rfl);(·simp(disch:=omega)only[go_sem,simprocAttr]<;>with_reducible rfl);(·simp(disch:=omega)only[go_sem,simprocAttr]<;>with_reducible rfl);(·omega);(·omega);(·omega);(·(try simp only[List.length_map]);omega))
    rw[pS]
    refine ao ?_
    refine D.bR ?_
    refine ao ?_
    refine aj.dK (b++[d],y,p+1+1) ⟨rZ,by simp only[List.length_append,List.length_cons,List.length_nil]; omega,an⟩ ⟨rfl,rfl,by simp only[Int.natCast_add]; rfl,trivial⟩ trivial trivial rfl rfl (by show y.length<y.length+1+1; omega)
   have d5: ¬(d.toNat:Int)=34:=by omega
   by_cases bn:d.toNat=92
   ·rw[if_pos (.inr bn)]at an
    have d6:(d.toNat:Int)=92:=by omega
    (have al:=d5;have z2:=d6;refine e8 ?_;clear al z2)
    (apply ae.uM (p+1) (p+1+1);(·simp(disch:=omega)only[go_sem,simprocAttr]<;>with_reducible rfl);(·simp(disch:=omega)only[go_sem,simprocAttr]<;>with_reducible rfl);(·simp(disch:=omega)only[go_sem,simprocAttr]<;>with_reducible rfl);(·omega);(·omega);(·omega);(·(try simp only[List.length_map]);omega))
    rw[pS]
    refine ao ?_
    refine D.bR ?_
    refine ao ?_
    refine aj.dK (b++[d],y,p+1+1) ⟨rZ,by simp only[List.length_append,List.length_cons,List.length_nil]; omega,an⟩ ⟨rfl,rfl,by simp only[Int.natCast_add]; rfl,trivial⟩ trivial trivial rfl rfl (by show y.length<y.length+1+1; omega)
   ·rw[if_neg (fun h=>h.elim au bn)]at an
    have d6: ¬(d.toNat:Int)=92:=by omega
    (have al:=d5;have z2:=d6;refine e8 ?_;clear al z2)
    clear af
    have af:=aZ.get
    (have al:=d3;refine bQ ?_;clear al)
    refine D.r ?_
    rw[an]
    exact⟨_,rfl,.av rfl rfl,trivial,trivial⟩
 ·rw[if_neg Lj]at an
  have d3: ¬(c.toNat:Int)=92:=by omega
  by_cases pH:c.toNat<32
  ·rw[if_pos (.inl pH)]at an
   have d4:(c.toNat:Int)<32:=by omega
   (have al:=d1;refine bQ ?_;clear al)
   (have al:=d2;have z2:=d3;have z3:=d4;refine ji ?_;clear al z2 z3)
   refine D.r ?_
   rw[an]
   exact⟨_,rfl,.av rfl rfl,trivial,trivial⟩
  have d4: ¬(c.toNat:Int)<32:=by omega
  by_cases pF:126<c.toNat
  ·rw[if_pos (.inr pF)]at an
   have d5:(126:Int)<(c.toNat:Int):=by omega
   (have al:=d1;refine bQ ?_;clear al)
   (have al:=d2;have z2:=d3;have z3:=d4;refine ji ?_;clear al z2 z3)
   (have al:=d5;refine bQ ?_;clear al)
   refine D.r ?_
   rw[an]
   exact⟨_,rfl,.av rfl rfl,trivial,trivial⟩
  ·rw[if_neg (fun h=>h.elim pH pF)]at an
   have d5: ¬(126:Int)<(c.toNat:Int):=by omega
   have pS:(s.take (p+1)).drop p=[c]:=fT.io (u:=[c]) aZ
   (have al:=d1;refine bQ ?_;clear al)
   (have al:=d2;have z2:=d3;have z3:=d4;refine ji ?_;clear al z2 z3)
   (have al:=d5;refine bQ ?_;clear al)
   (apply ae.uM (p) (p+1);(·simp(disch:=omega)only[go_sem,simprocAttr]<;>with_reducible rfl);(·simp(disch:=omega)only[go_sem,simprocAttr]<;>with_reducible rfl);(·simp(disch:=omega)only[go_sem,simprocAttr]<;>with_reducible rfl);(·omega);(·omega);(·omega);(·(try simp only[List.length_map]);omega))
   rw[pS]
   refine ao ?_
   refine D.bR ?_
   refine ao ?_
   refine aj.dK (b++[c],y,p+1) ⟨aO,by simp only[List.length_append,List.length_cons,List.length_nil]; omega,an⟩ ⟨rfl,rfl,by simp only[Int.natCast_add]; rfl,trivial⟩ trivial trivial rfl rfl (by show y.length<y.length+1; omega)
end
section
attribute [local go_sem] ba.row
theorem sp (p:UInt8→Bool){c:UInt8}: ∀ {l:a7},c∈l.takeWhile p→p c=true
 |[],h=>by simp at h
 |d::l,h=>by
  rw[List.takeWhile_cons]at h
  split at h
  ·rename_i bw
   rcases List.mem_cons.1 h with rfl|h
   ·exact bw
   ·exact sp p h
  ·simp at h
theorem pi (p:UInt8→Bool){c:UInt8}{y:a7}: ∀ {l:a7},l.dropWhile p=c::y→p c=false
 |[],h=>by simp at h
 |d::l,h=>by
  rw[List.dropWhile_cons]at h
  split at h
  ·exact pi p h
  ·rename_i bw
   cases h
   simpa using bw
theorem vd {c:UInt8}{x:a7}{p:UInt8→Bool}(h:p c=true):1≤((c::x).takeWhile p).length:=by
 rw[List.takeWhile_cons,if_pos h,List.length_cons]
 omega
theorem wO (s:a7) (ap:s.length≤1000000) (c:UInt8) (x:a7) (cc:s=c::x) (ek:l1 c=true):Pure Tryz.prog 74 [.str s] (q4 s (vJ s)):=by
 have Z1:1≤(s.takeWhile iO).length:=by rw[cc]; exact vd (ag8 ek)
 have r0:s[0]? =some c:=by rw[cc]; rfl
 have js:=(List.takeWhile_append_dropWhile (p:=iO) (l:=s)).symm
 have Y0: ∀(i:Nat) (e:UInt8),(s.takeWhile iO)[i]? =some e→iO e=true:=fun i e h=>sp iO (List.mem_of_getElem? h)
 have Y1: ∀(e:UInt8) (y:a7),s.dropWhile iO=e::y→iO e=false:=fun e y h=>pi iO h
 obtain⟨R,an⟩: ∃R,R=vJ s:=⟨_,rfl⟩
 rw[←an]
 unfold vJ at an
 generalize s.takeWhile iO=w at*
 generalize s.dropWhile iO=r at*
 have hlen:s.length=w.length+r.length:=by rw[js,List.length_append]
 have kM:s.take w.length=w:=by rw[js,List.take_left]
 have Zw:s.length-r.length=w.length:=by omega
 have Jh:=OR (c.toNat:Int)
 rw[show xr (c.toNat:Int)=true from ek]at Jh
 have kc: ∀e y,r=e::y→Pure Tryz.prog 140 [.int .u8 (e.toNat:Int)] (.bool false):=fun e y h=>by
  have Ji:=au1 (e.toNat:Int)
  rw[show uu (e.toNat:Int)=false from Y1 e y h]at Ji
  exact Ji
 have kf: ∀e y,r=e::y→s[w.length]? =some e:=fun e y h=>by rw[js,h,List.getElem?_append_right (Nat.le_refl _),Nat.sub_self]; rfl
 clear cc ek
 refine cF bN Tryz.func74 iS rfl (lb _ _) ?_
 unfold gF iI
 simp(disch:=omega)only[go_sem,simprocAttr]
 refine ao ?_
 refine D.P (Jh) ?_
 refine ao ?_
 clear r0
 refine aj.dd (X:=Nat) 1 (fun y=>[(0,.str s),(2,.ptr 0 0),(5,.int .i64 (y:Int))]) (fun y=>[(0,63,z4)]) (fun _=>[]) (fun y=>1≤y∧y≤w.length) (fun y=>w.length-y) ⟨Nat.le_refl _,Z1⟩ ⟨rfl,rfl,rfl,trivial⟩ ⟨rfl,trivial⟩ trivial ?_
 rintro i ⟨uc,ai⟩
 try simp only at ai uc ⊢
 by_cases kN:i<w.length
 ·have kV:w[i]? =some w[i]:=List.getElem?_eq_getElem kN
  have nm:=Y0 i _ kV
  have af:s[i]? =some w[i]:=by rw[js,List.getElem?_append_left kN]; exact kV
  generalize w[i]=e at*
  have Ji:=au1 (e.toNat:Int)
  rw[show uu (e.toNat:Int)=true from nm]at Ji
  have d1:(i:Int)<(s.length:Int):=by omega
  clear kV
  (have al:=d1;refine bQ ?_;clear al)
  refine D.P (Ji) ?_
  refine ao ?_
  refine aj.dK (i+1) ⟨by omega,by omega⟩ ⟨rfl,rfl,by simp only[Int.natCast_add]; rfl,trivial⟩ ⟨rfl,trivial⟩ trivial rfl rfl (by show w.length-(i+1)<w.length-i; omega)
 have bE:i=w.length:=by omega
 subst bE
 clear ai kN Y0
 by_cases mC:16<w.length
 ·rw[if_pos mC]at an
  have d6:(16:Int)<(w.length:Int):=by omega
  rcases r with _|⟨e,y⟩
  ·simp only[List.length_nil]at hlen
   have d1: ¬(w.length:Int)<(s.length:Int):=by omega
   (have al:=d1;have z2:=d6;refine e8 ?_;clear al z2)
   refine D.r ?_
   rw[an]
   exact⟨_,rfl,.av rfl rfl,trivial,trivial⟩
  ·have af:=kf e y rfl
   have ah:=zi e
   have Ji:=kc e y rfl
   simp only[List.length_cons]at hlen
   have d1:(w.length:Int)<(s.length:Int):=by omega
   (have al:=d1;refine bQ ?_;clear al)
   refine D.P (Ji) ?_
   (have al:=d6;refine bQ ?_;clear al)
   refine D.r ?_
   rw[an]
   exact⟨_,rfl,.av rfl rfl,trivial,trivial⟩
 ·rw[if_neg mC]at an
  have d6: ¬(16:Int)<(w.length:Int):=by omega
  have kj:q4 s R= .di [.agg [.int .i64 1,.str w,.int .i64 0,.int .i64 0],.int .i64 (w.length:Int),.int .i64 0]:=by rw[an,q4,Zw]; rfl
  rw[kj]
  rcases r with _|⟨e,y⟩
  ·simp only[List.length_nil]at hlen
   have d1: ¬(w.length:Int)<(s.length:Int):=by omega
   (have al:=d1;have z2:=d6;refine e8 ?_;clear al z2)
   (apply ae.aG3 (w.length);(·simp(disch:=omega)only[go_sem,simprocAttr]<;>with_reducible rfl);(·simp(disch:=omega)only[go_sem,simprocAttr]<;>with_reducible rfl);(·omega);(·(try simp only[List.length_map]);omega))
   rw[kM]
   refine ao ?_
   exact D.rx
  ·have af:=kf e y rfl
   have ah:=zi e
   have Ji:=kc e y rfl
   simp only[List.length_cons]at hlen
   have d1:(w.length:Int)<(s.length:Int):=by omega
   (have al:=d1;refine bQ ?_;clear al)
   refine D.P (Ji) ?_
   (have al:=d6;refine bQ ?_;clear al)
   (apply ae.aG3 (w.length);(·simp(disch:=omega)only[go_sem,simprocAttr]<;>with_reducible rfl);(·simp(disch:=omega)only[go_sem,simprocAttr]<;>with_reducible rfl);(·omega);(·(try simp only[List.length_map]);omega))
   rw[kM]
   refine ao ?_
   exact D.rx
theorem uD (c:UInt8):(qS.map (fun c=>[c])).contains [c]=decide (c∈qS):=by
 rw[Bool.eq_iff_iff]
 simp
theorem uP (m:a7):gO.contains m=decide (m∈gO):=by
 rw[Bool.eq_iff_iff]
 simp
theorem wL (c:UInt8) (x:a7) (ap:x.length≤900000):Pure Tryz.prog 74 [.str (c::x)] (q4 (c::x) (l9 (c::x))):=by
 obtain⟨s,cc⟩: ∃s,s=c::x:=⟨_,rfl⟩
 have pS:s.length=x.length+1:=by rw[cc]; rfl
 have r0:s[0]? =some c:=by rw[cc]; rfl
 have ah:=zi c
 have Jh:=OR (c.toNat:Int)
 have Jj:=au2 (c.toNat:Int)
 rw[←cc]
 cases ek:l1 c with
 |true=>
  rw[show l9 s=vJ s from by rw[cc,l9,if_pos ek]]
  exact wO s (by omega) c x cc ek
 |false=>
 rw[show xr (c.toNat:Int)=false from ek]at Jh
 cases Ll:iY c with
 |true=>
  rw[show vc (c.toNat:Int)=true from Ll]at Jj
  have jE:=ww s (by omega)
  rw[show l9 s=vL s from by rw[cc,l9,if_neg (by rw[ek]; decide),if_pos Ll]]
  clear cc
  cases bW:vL s with
  |err e=>
   rw[bW]at jE
   simp only[q4]at jE ⊢
   refine cF bN Tryz.func74 iS rfl rfl ?_
   unfold gF iI
   simp(disch:=omega)only[go_sem,simprocAttr]
   refine ao ?_
   refine D.P (Jh) ?_
   refine ao ?_
   refine D.P (Jj) ?_
   refine ao ?_
   refine D.P (jE) ?_
   refine ao ?_
   exact D.rx
  |ok t r=>
   rw[bW]at jE
   simp only[q4,ba.row]at jE ⊢
   refine cF bN Tryz.func74 iS rfl rfl ?_
   unfold gF iI
   simp(disch:=omega)only[go_sem,simprocAttr]
   refine ao ?_
   refine D.P (Jh) ?_
   refine ao ?_
   refine D.P (Jj) ?_
   refine ao ?_
   refine D.P (jE) ?_
   refine ao ?_
   exact D.rx
 |false=>
 rw[show vc (c.toNat:Int)=false from Ll]at Jj
 by_cases sU:c.toNat=34
 ·have d1:(c.toNat:Int)=34:=by omega
  have th:c=34:=UInt8.toNat_inj.1 (by rw[sU]; rfl)
  have hS:=wD x (by omega)
  rw[←th,←cc]at hS
  have c4:l9 s=kW (cX [] x):=by rw[cc,l9,if_neg (by rw[ek]; decide),if_neg (by rw[Ll]; decide),if_pos sU,n0 _ _ _ (Nat.le_refl _)]
  rw[c4]
  cases ks:cX [] x with
  |none=>
   rw[ks]at hS
   simp only[lf,kW,q4]at hS ⊢
   refine cF bN Tryz.func74 iS rfl rfl ?_
   unfold gF iI
   simp(disch:=omega)only[go_sem,simprocAttr]
   refine ao ?_
   refine D.P (Jh) ?_
   refine ao ?_
   refine D.P (Jj) ?_
   (have al:=d1;refine bQ ?_;clear al)
   refine D.P (hS) ?_
   refine ao ?_
   exact D.rx
  |some p=>
   obtain⟨t,r⟩:=p
   have uq:=pg _ _ _ _ _ (Nat.le_refl _) ks
   rw[ks]at hS
   simp only[lf]at hS
   obtain⟨n,a6⟩: ∃n,n=s.length-r.length:=⟨_,rfl⟩
   rw[←a6]at hS
   have d2: ¬(n:Int)=0:=by omega
   by_cases Lf:40<t.length
   ·have d3:(40:Int)<(t.length:Int):=by omega
    simp only[kW,if_pos Lf,q4]
    refine cF bN Tryz.func74 iS rfl rfl ?_
    unfold gF iI
    simp(disch:=omega)only[go_sem,simprocAttr]
    refine ao ?_
    refine D.P (Jh) ?_
    refine ao ?_
    refine D.P (Jj) ?_
    (have al:=d1;refine bQ ?_;clear al)
    refine D.P (hS) ?_
    (have al:=d2;have z2:=d3;refine e8 ?_;clear al z2)
    exact D.rx
   ·have d3: ¬(40:Int)<(t.length:Int):=by omega
    simp only[kW,if_neg Lf,q4,ba.row,←a6]
    refine cF bN Tryz.func74 iS rfl rfl ?_
    unfold gF iI
    simp(disch:=omega)only[go_sem,simprocAttr]
    refine ao ?_
    refine D.P (Jh) ?_
    refine ao ?_
    refine D.P (Jj) ?_
    (have al:=d1;refine bQ ?_;clear al)
    refine D.P (hS) ?_
    (have al:=d2;have z2:=d3;refine e8 ?_;clear al z2)
    exact D.rx
 have d1: ¬(c.toNat:Int)=34:=by omega
 have ar:=at6 (qS.map (fun c=>[c])) [c] (by decide)
 rw[uD]at ar
 have k6:s.take 1=[c]:=by rw[cc]; rfl
 have c4:l9 s=ux s:=by rw[cc,l9,if_neg (by rw[ek]; decide),if_neg (by rw[Ll]; decide),if_neg sU]
 rw[c4]
 have rO: ∀h:s.take 2∉gO,ux s=if c∈qS then .ok ⟨4,[c],0,0⟩ x else .err 3:=fun h=>by
  rw[cc]at h ⊢
  rw[ux,if_neg h]
 have p1:s.length-x.length=1:=by omega
 cases x with
 |nil=>
  rw[rO (by rw[cc]; simp [gO])]
  simp only[List.length_nil]at pS
  have d2: ¬(1:Int)<(s.length:Int):=by omega
  by_cases hm:c∈qS
  ·rw[decide_eq_true hm]at ar
   simp only[qS,List.map_cons,List.map_nil,cj]at ar
   rw[if_pos hm]
   simp only[q4,ba.row,p1]
   refine cF bN Tryz.func74 iS rfl rfl ?_
   unfold gF iI
   simp(disch:=omega)only[go_sem,simprocAttr]
   refine ao ?_
   refine D.P (Jh) ?_
   refine ao ?_
   refine D.P (Jj) ?_
   (have al:=d1;have z2:=d2;refine e8 ?_;clear al z2)
   (apply ae.aG3 (1);(·simp(disch:=omega)only[go_sem,simprocAttr]<;>with_reducible rfl);(·simp(disch:=omega)only[go_sem,simprocAttr]<;>with_reducible rfl);(·omega);(·(try simp only[List.length_map]);omega))
   rw[k6]
   refine ao ?_
   refine D.P (ar) ?_
   refine ao ?_
   (apply ae.aG3 (1);(·simp(disch:=omega)only[go_sem,simprocAttr]<;>with_reducible rfl);(·simp(disch:=omega)only[go_sem,simprocAttr]<;>with_reducible rfl);(·omega);(·(try simp only[List.length_map]);omega))
   rw[k6]
   refine ao ?_
   exact D.rx
  ·rw[decide_eq_false hm]at ar
   simp only[qS,List.map_cons,List.map_nil,cj]at ar
   rw[if_neg hm]
   simp only[q4]
   refine cF bN Tryz.func74 iS rfl rfl ?_
   unfold gF iI
   simp(disch:=omega)only[go_sem,simprocAttr]
   refine ao ?_
   refine D.P (Jh) ?_
   refine ao ?_
   refine D.P (Jj) ?_
   (have al:=d1;have z2:=d2;refine e8 ?_;clear al z2)
   (apply ae.aG3 (1);(·simp(disch:=omega)only[go_sem,simprocAttr]<;>with_reducible rfl);(·simp(disch:=omega)only[go_sem,simprocAttr]<;>with_reducible rfl);(·omega);(·(try simp only[List.length_map]);omega))
   rw[k6]
   refine ao ?_
   refine D.P (ar) ?_
   refine ao ?_
   exact D.rx
 |cons d y=>
  simp only[List.length_cons]at pS
  have d2:(1:Int)<(s.length:Int):=by omega
  have la:s.take 2=[c,d]:=by rw[cc]; rfl
  have ax:=at6 gO [c,d] (by decide)
  rw[uP]at ax
  by_cases nq:[c,d]∈gO
  ·rw[decide_eq_true nq]at ax
   simp only[gO,List.map_cons,List.map_nil,cj]at ax
   have an:ux s= .ok ⟨4,[c,d],0,0⟩ y:=by
    have:s.take 2∈gO:=by rw[la]; exact nq
    rw[cc]at this ⊢
    rw[ux,if_pos this]
    rfl
   have oY:s.length-y.length=2:=by omega
   rw[an]
   simp only[q4,ba.row,oY]
   refine cF bN Tryz.func74 iS rfl rfl ?_
   unfold gF iI
   simp(disch:=omega)only[go_sem,simprocAttr]
   refine ao ?_
   refine D.P (Jh) ?_
   refine ao ?_
   refine D.P (Jj) ?_
   (have al:=d1;have z2:=d2;refine e8 ?_;clear al z2)
   (apply ae.aG3 (2);(·simp(disch:=omega)only[go_sem,simprocAttr]<;>with_reducible rfl);(·simp(disch:=omega)only[go_sem,simprocAttr]<;>with_reducible rfl);(·omega);(·(try simp only[List.length_map]);omega))
   rw[la]
   refine ao ?_
   refine D.P (ax) ?_
   refine ao ?_
   (apply ae.aG3 (2);(·simp(disch:=omega)only[go_sem,simprocAttr]<;>with_reducible rfl);(·simp(disch:=omega)only[go_sem,simprocAttr]<;>with_reducible rfl);(·omega);(·(try simp only[List.length_map]);omega))
   rw[la]
   refine ao ?_
   exact D.rx
  ·rw[decide_eq_false nq]at ax
   simp only[gO,List.map_cons,List.map_nil,cj]at ax
   rw[rO (by rw[la]; exact nq)]
   by_cases hm:c∈qS
   ·rw[decide_eq_true hm]at ar
    simp only[qS,List.map_cons,List.map_nil,cj]at ar
    rw[if_pos hm]
    simp only[q4,ba.row,p1]
    refine cF bN Tryz.func74 iS rfl rfl ?_
    unfold gF iI
    simp(disch:=omega)only[go_sem,simprocAttr]
    refine ao ?_
    refine D.P (Jh) ?_
    refine ao ?_
    refine D.P (Jj) ?_
    (have al:=d1;have z2:=d2;refine e8 ?_;clear al z2)
    (apply ae.aG3 (2);(·simp(disch:=omega)only[go_sem,simprocAttr]<;>with_reducible rfl);(·simp(disch:=omega)only[go_sem,simprocAttr]<;>with_reducible rfl);(·omega);(·(try simp only[List.length_map]);omega))
    rw[la]
    refine ao ?_
    refine D.P (ax) ?_
    refine ao ?_
    (apply ae.aG3 (1);(·simp(disch:=omega)only[go_sem,simprocAttr]<;>with_reducible rfl);(·simp(disch:=omega)only[go_sem,simprocAttr]<;>with_reducible rfl);(·omega);(·(try simp only[List.length_map]);omega))
    rw[k6]
    refine ao ?_
    refine D.P (ar) ?_
    refine ao ?_
    (apply ae.aG3 (1);(·simp(disch:=omega)only[go_sem,simprocAttr]<;>with_reducible rfl);(·simp(disch:=omega)only[go_sem,simprocAttr]<;>with_reducible rfl);(·omega);(·(try simp only[List.length_map]);omega))
    rw[k6]
    refine ao ?_
    exact D.rx
   ·rw[decide_eq_false hm]at ar
    simp only[qS,List.map_cons,List.map_nil,cj]at ar
    rw[if_neg hm]
    simp only[q4]
    refine cF bN Tryz.func74 iS rfl rfl ?_
    unfold gF iI
    simp(disch:=omega)only[go_sem,simprocAttr]
    refine ao ?_
    refine D.P (Jh) ?_
    refine ao ?_
    refine D.P (Jj) ?_
    (have al:=d1;have z2:=d2;refine e8 ?_;clear al z2)
    (apply ae.aG3 (2);(·simp(disch:=omega)only[go_sem,simprocAttr]<;>with_reducible rfl);(·simp(disch:=omega)only[go_sem,simprocAttr]<;>with_reducible rfl);(·omega);(·(try simp only[List.length_map]);omega))
    rw[la]
    refine ao ?_
    refine D.P (ax) ?_
    refine ao ?_
    (apply ae.aG3 (1);(·simp(disch:=omega)only[go_sem,simprocAttr]<;>with_reducible rfl);(·simp(disch:=omega)only[go_sem,simprocAttr]<;>with_reducible rfl);(·omega);(·(try simp only[List.length_map]);omega))
    rw[k6]
    refine ao ?_
    refine D.P (ar) ?_
    refine ao ?_
    exact D.rx
end
section
attribute [local go_sem] ba.row
theorem sx {c:UInt8}(h:lS c=true):c.toNat=32∨c.toNat=9∨c.toNat=10∨c.toNat=13:=by
 simp only[lS,Bool.or_eq_true,beq_iff_eq]at h
 rcases h with h|h|h|h<;>(subst h; decide)
theorem sw {c:UInt8}(h:lS c=false): ¬c.toNat=32∧¬c.toNat=9∧¬c.toNat=10∧¬c.toNat=13:=by
 have key: ∀n:Fin 256,lS (UInt8.ofNat n.val)=false→¬n.val=32∧¬n.val=9∧¬n.val=10∧¬n.val=13:=by decide+kernel
 have:=key ⟨c.toNat,c.toNat_lt⟩
 simp only[UInt8.ofNat_toNat]at this
 exact this h
theorem so (n:Nat):ko n []=[]:=by cases n<;>rfl
theorem rR (s x:a7) (a:Nat) (ap:s.length≤1000000) (ab:fT s x a):Pure Tryz.prog 73 [.str s,.int .i64 (a:Int)] (.int .i64 ((s.length-(ko (x.length+1) x).length:Nat):Int)):=by
 obtain⟨R,an⟩: ∃R,R=ko (x.length+1) x:=⟨_,rfl⟩
 rw[←an]
 refine cF bN Tryz.func73 sD rfl rfl ?_
 unfold jW sg
 simp(disch:=omega)only[go_sem,simprocAttr]
 refine ao ?_
 refine aj.dd (X:=a7×Nat×Nat) (x,a,x.length+1) (fun y=>[(0,.str s),(1,.int .i64 (y.2.1:Int))]) (fun _=>[]) (fun _=>[]) (fun y=>fT s y.1 y.2.1∧y.1.length<y.2.2∧R=ko y.2.2 y.1) (fun y=>y.1.length) ⟨ab,by simp,an⟩ ⟨rfl,rfl,trivial⟩ trivial trivial ?_
 rintro⟨y,p,n⟩ ⟨aZ,a6,an⟩
 simp only at aZ a6 an ⊢
 clear ab
 have oY:=aZ.1
 rcases n with _|n
 ·omega
 cases y with
 |nil=>
  simp only[List.length_nil]at oY
  simp only[ko]at an
  have d1: ¬(p:Int)<(s.length:Int):=by omega
  (have al:=d1;refine bQ ?_;clear al)
  refine D.r ?_
  rw[an]
  exact⟨_,rfl,.av (by rw[List.length_nil,show s.length-0=p by omega]; rfl) rfl,trivial,trivial⟩
 |cons c y=>
 have af:=aZ.get
 have ah:=zi c
 have aO:=aZ.tail
 simp only[List.length_cons]at oY a6
 simp only[ko]at an
 have d1:(p:Int)<(s.length:Int):=by omega
 cases hb:lS c with
 |true=>
  rw[if_pos hb]at an
  rcases sx hb with h|h|h|h
  ·have d0:(c.toNat:Int)=32:=by omega
   (have al:=d1;refine bQ ?_;clear al)
   (have al:=d0;refine bQ ?_;clear al)
   refine aj.dK (y,p+1,n) ⟨aO,by simp only; omega,an⟩ ⟨rfl,by simp only[Int.natCast_add]; rfl,trivial⟩ trivial trivial rfl rfl (by show y.length<y.length+1; omega)
  ·have d0:(c.toNat:Int)=9:=by omega
   have cD: ¬(c.toNat:Int)=32:=by omega
   (have al:=d1;refine bQ ?_;clear al)
   (have al:=cD;have z2:=d0;refine e8 ?_;clear al z2)
   refine aj.dK (y,p+1,n) ⟨aO,by simp only; omega,an⟩ ⟨rfl,by simp only[Int.natCast_add]; rfl,trivial⟩ trivial trivial rfl rfl (by show y.length<y.length+1; omega)
  ·have d0:(c.toNat:Int)=10:=by omega
   have cD: ¬(c.toNat:Int)=32:=by omega
   have li: ¬(c.toNat:Int)=9:=by omega
   (have al:=d1;refine bQ ?_;clear al)
   (have al:=cD;have z2:=li;have z3:=d0;refine ji ?_;clear al z2 z3)
   refine aj.dK (y,p+1,n) ⟨aO,by simp only; omega,an⟩ ⟨rfl,by simp only[Int.natCast_add]; rfl,trivial⟩ trivial trivial rfl rfl (by show y.length<y.length+1; omega)
  ·have d0:(c.toNat:Int)=13:=by omega
   have cD: ¬(c.toNat:Int)=32:=by omega
   have li: ¬(c.toNat:Int)=9:=by omega
   have mA: ¬(c.toNat:Int)=10:=by omega
   (have al:=d1;refine bQ ?_;clear al)
   (have al:=cD;have z2:=li;have z3:=mA;refine ji ?_;clear al z2 z3)
   (have al:=d0;refine bQ ?_;clear al)
   refine aj.dK (y,p+1,n) ⟨aO,by simp only; omega,an⟩ ⟨rfl,by simp only[Int.natCast_add]; rfl,trivial⟩ trivial trivial rfl rfl (by show y.length<y.length+1; omega)
 |false=>
 rw[if_neg (by rw[hb]; decide)]at an
 obtain⟨hi,eB,dU,jj⟩:=sw hb
 have cD: ¬(c.toNat:Int)=32:=by omega
 have li: ¬(c.toNat:Int)=9:=by omega
 have mA: ¬(c.toNat:Int)=10:=by omega
 have MV: ¬(c.toNat:Int)=13:=by omega
 by_cases DX:c.toNat=47
 rotate_left
 ·have n4: ¬(c.toNat:Int)=47:=by omega
  rw[if_neg (by
   intro e
   have bE:=congrArg List.head? e
   simp only[List.take_succ_cons,List.head?_cons,Option.some.injEq]at bE
   exact DX (by rw[bE]; rfl))]at an
  (have al:=d1;refine bQ ?_;clear al)
  (have al:=cD;have z2:=li;have z3:=mA;refine ji ?_;clear al z2 z3)
  (have al:=MV;have z2:=n4;refine e8 ?_;clear al z2)
  refine D.r ?_
  rw[an]
  exact⟨_,rfl,.av (by rw[aZ.eq]; rfl) rfl,trivial,trivial⟩
 have d4:(c.toNat:Int)=47:=by omega
 have n5:c=47:=UInt8.toNat_inj.1 (by rw[DX]; rfl)
 cases y with
 |nil=>
  simp only[List.length_nil]at oY
  rw[if_neg (by simp)]at an
  have d5: ¬(p:Int)+1<(s.length:Int):=by omega
  (have al:=d1;refine bQ ?_;clear al)
  (have al:=cD;have z2:=li;have z3:=mA;refine ji ?_;clear al z2 z3)
  (have al:=MV;have z2:=d4;have z3:=d5;refine ji ?_;clear al z2 z3)
  refine D.r ?_
  rw[an]
  exact⟨_,rfl,.av (by rw[aZ.eq]; rfl) rfl,trivial,trivial⟩
 |cons d y=>
 have bw:=zi d
 simp only[List.length_cons]at oY a6
 have d5:(p:Int)+1<(s.length:Int):=by omega
 by_cases ad9:d.toNat=47
 rotate_left
 ·have uV: ¬(d.toNat:Int)=47:=by omega
  rw[if_neg (by
   intro e
   simp only[List.take_succ_cons,List.take_zero,List.cons.injEq,and_true]at e
   exact ad9 (by rw[e.2]; rfl))]at an
  (have al:=d1;refine bQ ?_;clear al)
  (have al:=cD;have z2:=li;have z3:=mA;refine ji ?_;clear al z2 z3)
  (have al:=MV;have z2:=d4;have z3:=d5;refine ji ?_;clear al z2 z3)
  clear af
  have af:=aO.get
  (have al:=uV;refine bQ ?_;clear al)
  refine D.r ?_
  rw[an]
  exact⟨_,rfl,.av (by rw[aZ.eq]; rfl) rfl,trivial,trivial⟩
 have d6:(d.toNat:Int)=47:=by omega
 have od:d=47:=UInt8.toNat_inj.1 (by rw[ad9]; rfl)
 rw[if_pos (by rw[n5,od]; rfl)]at an
 have p0:vG (c::d::y)=(y.dropWhile (·!=10)).tail:=by
  rw[n5,od]
  rfl
 rw[p0]at an
 (have al:=d1;refine bQ ?_;clear al)
 (have al:=cD;have z2:=li;have z3:=mA;refine ji ?_;clear al z2 z3)
 (have al:=MV;have z2:=d4;have z3:=d5;refine ji ?_;clear al z2 z3)
 clear af
 have af:=aO.get
 (have al:=d6;refine bQ ?_;clear al)
 clear af
 have tY:=lK (·!=10) y
 refine aj.dd (X:=a7×Nat) (c::d::y,p) (fun z=>[(0,.str s),(1,.int .i64 (z.2:Int))]) (fun _=>[]) (fun _=>[]) (fun z=>fT s z.1 z.2∧z.1.dropWhile (·!=10)=y.dropWhile (·!=10)) (fun z=>z.1.length) ⟨aZ,by rw[n5,od]; rfl⟩ ⟨rfl,rfl,trivial⟩ trivial trivial ?_
 rintro⟨z,q⟩ ⟨aB,hw⟩
 try simp only at aB hw ⊢
 have p5:=aB.1
 cases z with
 |nil=>
  simp only[List.length_nil]at p5
  rw[←hw]at an
  have d7: ¬(q:Int)<(s.length:Int):=by omega
  (have al:=d7;refine bQ ?_;clear al)
  refine aj.dK ([],q,n) ⟨aB,by simp only[List.length_nil]; omega,by rw[an]; simp [so]⟩ ⟨rfl,rfl,trivial⟩ trivial trivial rfl rfl (by show 0<y.length+1+1; omega)
 |cons e z=>
 have af:=aB.get
 have he:=zi e
 have uC:=aB.tail
 simp only[List.length_cons]at p5
 have d7:(q:Int)<(s.length:Int):=by omega
 by_cases rM:e=10
 ·have d8:(e.toNat:Int)=10:=by rw[rM]; rfl
  have Z2:y.dropWhile (·!=10)=e::z:=by
   rw[←hw,List.dropWhile_cons,if_neg (by rw[rM]; decide)]
  rw[Z2,List.tail_cons]at an
  rw[Z2,List.length_cons]at tY
  (have al:=d7;have z2:=d8;refine e8 ?_;clear al z2)
  refine aj.dK (e::z,q,n+1) ⟨aB,by simp only[List.length_cons]; omega,by rw[an,ko,if_pos (by rw[rM]; rfl)]⟩ ⟨rfl,rfl,trivial⟩ trivial trivial rfl rfl (by show z.length+1<y.length+1+1; omega)
 ·have d8: ¬(e.toNat:Int)=10:=fun h=>rM (UInt8.toNat_inj.1 (by show e.toNat=10; omega))
  rw[List.dropWhile_cons,if_pos (by simpa using rM)]at hw
  (have al:=d7;have z2:=d8;refine e8 ?_;clear al z2)
  refine aj.dK (z,q+1) ⟨uC,hw⟩ ⟨rfl,by simp only[Int.natCast_add]; rfl,trivial⟩ trivial trivial rfl rfl (by show z.length<z.length+1; omega)
end
section
attribute [local go_sem] ba.row oC
theorem rF (s:a7) (ap:s.length≤900000):Pure Tryz.prog 26 [.str s] (BH (pV s)):=by
 obtain⟨R,an⟩: ∃R,R=pV s:=⟨_,rfl⟩
 rw[←an]
 refine cF bN Tryz.func26 sC rfl (by cases R<;>simp only[BH,I.flat,b3,oC,fP,Bool.and_self]) ?_
 unfold jL r9
 unfold pV at an
 simp(disch:=omega)only[go_sem,simprocAttr]
 by_cases j7:8000<s.length
 ·rw[if_pos j7]at an
  have d1:(8000:Int)<(s.length:Int):=by omega
  (have al:=d1;refine bQ ?_;clear al)
  refine D.r ?_
  rw[an]
  exact⟨_,rfl,.di (.cons .nil (.cons (.av rfl rfl) (.cons (.av rfl rfl) .nil))),trivial,trivial⟩
 rw[if_neg j7,uw]at an
 have d1: ¬(8000:Int)<(s.length:Int):=by omega
 have jW:=rR s s 0 (by omega) (fT.refl s)
 obtain⟨aL3,Mc⟩:=Cp (s.length+1) s
 obtain⟨BU,L2,EB,_⟩:=(fT.refl s).of Mc
 generalize ko (s.length+1) s=wo at*
 rw[L2]at jW
 clear L2 Mc
 (have al:=d1;refine pu ?_;clear al)
 refine D.P (jW) ?_
 refine yc ?_
 refine aj.rL 5 4 63 rfl (by decide) ?_
 simp(disch:=omega)only[go_sem,simprocAttr]
 refine D.cN true true ?_
 have oo:wo.length≤s.length:=by have:=EB.1; omega
 clear jW d1
 refine aj.dd (X:=List ba×a7×Nat×Nat) ([],wo,BU,s.length) (fun x=>[(0,.str s),(5,.own 0 4 (x.1.map ba.row)),(6,.int .i64 (x.2.2.1:Int))]) (fun _=>[]) (fun x=>[(0,.bJ 63 4 (x.1.map ba.row).length)]) (fun x=>fT s x.2.1 x.2.2.1∧x.1.length≤x.2.2.1∧x.2.1.length≤x.2.2.2∧R=lexB s.length x.2.2.2 x.1 x.2.1) (fun x=>x.2.1.length) ⟨EB,Nat.zero_le _,oo,an⟩ ⟨rfl,rfl,rfl,trivial⟩ trivial ⟨rfl,trivial⟩ ?_
 rintro⟨acc,y,p,n⟩ ⟨aZ,hb,a6,an⟩
 simp only at aZ hb a6 an ⊢
 clear EB oo
 have oY:=aZ.1
 cases y with
 |nil=>
  simp only[List.length_nil]at oY
  simp only[lexB]at an
  have d1: ¬(p:Int)<(s.length:Int):=by omega
  (have al:=d1;refine bQ ?_;clear al)
  refine D.r ?_
  rw[an]
  exact⟨_,rfl,.di (.cons (.av rfl (by simp only[I.flat,oC])) (.cons (.av rfl rfl) (.cons (.av rfl rfl) .nil))),trivial,trivial⟩
 |cons c y=>
 have xe:=aZ.2
 simp only[List.length_cons]at oY
 have d1:(p:Int)<(s.length:Int):=by omega
 simp only[lexB]at an
 rw[aZ.eq]at an
 have gF:=wL c y (by omega)
 obtain⟨T,c4⟩: ∃T,T=l9 (c::y):=⟨_,rfl⟩
 have ZW: ∀t r,T= .ok t r→∃d u,c::y=(d::u)++r:=fun t r h=>Sb (c4▸h)
 have Y8: ∀wR,T= .err wR→wR≠0:=fun wR h=>Sa (c4▸h)
 rw[←c4]at an gF
 clear c4
 (have al:=d1;refine bQ ?_;clear al)
 (apply ae.RU (p);(·simp(disch:=omega)only[go_sem,simprocAttr]<;>with_reducible rfl);(·simp(disch:=omega)only[go_sem,simprocAttr]<;>with_reducible rfl);(·omega);(·(try simp only[List.length_map]);omega))
 rw[xe]
 refine ao ?_
 cases T with
 |err wR=>
  simp only at an
  have d2: ¬wR=0:=Y8 wR rfl
  simp only[q4]at gF
  refine D.P (gF) ?_
  (have al:=d2;refine bQ ?_;clear al)
  refine D.r ?_
  rw[an]
  exact⟨_,rfl,.di (.cons .nil (.cons (.av rfl rfl) (.cons (.av rfl rfl) .nil))),trivial,trivial⟩
 |ok t r=>
  simp only at an
  obtain⟨d,u,hu⟩:=ZW t r rfl
  obtain⟨fR,pR,L5,yZ⟩:=aZ.of hu
  have jW:=rR s r fR (by omega) L5
  obtain⟨x5,Bx⟩:=Cp (r.length+1) r
  obtain⟨il,rW,ZM,oX⟩:=L5.of Bx
  have uq:r.length<(c::y).length:=by rw[hu]; simp only[List.length_append,List.length_cons]; omega
  rcases n with _|n
  ·simp at a6
  rw[uw]at an
  have Me:(ko (r.length+1) r).length≤r.length:=by have:=congrArg List.length Bx; rw[List.length_append]at this; omega
  generalize ko (r.length+1) r=po at*
  rw[rW]at jW
  obtain⟨t1,t2,t3,t4⟩:=t
  simp only[q4,ba.row]at gF
  obtain⟨k,aC⟩: ∃k,k=(c::y).length-r.length:=⟨_,rfl⟩
  rw[←aC]at gF
  have wY:p+k=fR:=by
   have:=congrArg List.length hu
   simp only[List.length_append]at this
   have J:=L5.1
   simp only[List.length_cons]at aC this
   omega
  have hw:IntKind.i64.wrap ((p:Int)+(k:Int))=(fR:Int):=by rw[wrap64 (by omega) (by omega)]; omega
  refine D.P (gF) ?_
  refine ao ?_
  refine D.gL ?_
  (have al:=hw;refine bQ ?_;clear al)
  refine D.P (jW) ?_
  refine ao ?_
  simp only[List.length_cons]at a6 uq yZ
  refine aj.gT (acc++[⟨t1,t2,t3,(p:Int)⟩],po,il,n) ⟨ZM,by simp only[List.length_append,List.length_cons,List.length_nil]; omega,by simp only; omega,an⟩ ⟨rfl,by simp only[List.map_append,List.map_cons,List.map_nil,ba.row]; rfl,rfl,trivial⟩ trivial ⟨by simp only[List.map_append,List.map_cons,List.map_nil,List.length_append]; rfl,trivial⟩ rfl (by simp only[fY,dr,dP,dV,fO,I.cR,b2.bJ,oC,go_sem]<;>rfl) (by show po.length<y.length+1; omega)
end
end Go.bc.T.N
namespace Go.bc
open Go Go.bc.T.N
section
variable {m:a7}
theorem nE {p:UInt8→Bool}(hp:p 10=false): ∀x:a7,(x++10::m).takeWhile p=x.takeWhile p∧(x++10::m).dropWhile p=x.dropWhile p++10::m
 |[]=>by simp [List.takeWhile_cons,List.dropWhile_cons,hp]
 |c::x=>by
  obtain⟨J,aa⟩:=nE hp x
  rw[List.cons_append,List.takeWhile_cons,List.dropWhile_cons,List.takeWhile_cons,List.dropWhile_cons]
  cases p c
  ·simp
  ·simp [J,aa]
theorem tq (r:a7):ki (r++10::m)=ki r:=by cases r<;>rfl
theorem ph: ∀(n:Nat) (b x t r:a7),x.length≤n→cX b x=some (t,r)→cX b (x++10::m)=some (t,r++10::m)
 |n,b,[],t,r,h,e=>by simp only[cX]at e; cases e
 |0,b,c::x,t,r,h,e=>by simp at h
 |n+1,b,c::x,t,r,h,e=>by
  simp only[List.length_cons]at h
  rw[my]at e
  rw[List.cons_append,my]
  split at e
  ·rename_i J
   cases e
   rw[if_pos J]
  rename_i J
  rw[if_neg J]
  split at e
  ·rename_i aa
   rw[if_pos aa]
   cases x with
   |nil=>cases e
   |cons d y=>
    simp only[List.length_cons]at h
    simp only at e
    rw[List.cons_append]
    simp only
    split at e
    ·rename_i au
     rw[if_pos au]
     exact ph n _ _ _ _ (by omega) e
    ·cases e
  rename_i aa
  rw[if_neg aa]
  split at e
  ·cases e
  ·rename_i au
   rw[if_neg au]
   exact ph n _ _ _ _ (by omega) e
theorem wX {c:UInt8}{y:a7}{t:ba}{r:a7}(h:l9 (c::y)= .ok t r):l9 (c::(y++10::m))= .ok t (r++10::m):=by
 simp only[l9]at h ⊢
 split at h
 ·rename_i aH
  rw[if_pos aH]
  obtain⟨ar,ax⟩:=nE (m:=m) (p:=iO) rfl (c::y)
  unfold vJ at h ⊢
  rw[List.cons_append]at ar ax
  rw[ar,ax]
  split at h
  ·cases h
  ·rename_i mC
   rw[if_neg mC]
   cases h
   rfl
 rename_i aH
 rw[if_neg aH]
 split at h
 ·rename_i bw
  rw[if_pos bw]
  obtain⟨ar,ax⟩:=nE (m:=m) (p:=iY) rfl (c::y)
  unfold vL zl at h ⊢
  rw[List.cons_append]at ar ax
  rw[ar,ax,tq]
  split at h
  ·cases h
  rename_i J
  rw[if_neg J]
  split at h
  ·cases h
  ·rename_i cq
   rw[if_neg cq]
   cases h
   rfl
 rename_i bw
 rw[if_neg bw]
 split at h
 ·rename_i sU
  rw[if_pos sU]
  rw[n0 _ _ _ (Nat.le_refl _)]at h ⊢
  cases ks:cX [] y with
  |none=>rw[ks]at h; cases h
  |some p=>
   obtain⟨b,dn⟩:=p
   rw[ph _ _ _ _ _ (Nat.le_refl _) ks]
   rw[ks]at h
   simp only[kW]at h ⊢
   split at h
   ·cases h
   ·rename_i Lf
    rw[if_neg Lf]
    cases h
    rfl
 rename_i sU
 rw[if_neg sU]
 unfold ux at h ⊢
 have ck: ∀c:UInt8,[c,10]∉gO:=by
  intro c
  simp [gO]
 have aO: ∀z,(c::y).take 2∈gO→(c::(y++z)).take 2=(c::y).take 2∧(c::(y++z)).drop 2=(c::y).drop 2++z:=by
  intro z hm
  cases y with
  |nil=>simp [gO]at hm
  |cons d y=>exact⟨rfl,rfl⟩
 split at h
 ·rename_i hm
  obtain⟨ar,ax⟩:=aO (10::m) hm
  rw[ar,ax,if_pos hm]
  cases h
  rfl
 ·rename_i hm
  have:(c::(y++10::m)).take 2∉gO:=by
   cases y with
   |nil=>exact ck c
   |cons d y=>exact hm
  rw[if_neg this]
  simp only at h ⊢
  split at h
  ·rename_i J
   rw[if_pos J]
   cases h
   rfl
  ·cases h
theorem pd: ∀(n:Nat) (x:a7) (c:UInt8) (y:a7),x.length<n→ko n x=c::y→∀k,(x++10::m).length<k→ko k (x++10::m)=c::y++10::m
 |0,x,c,y,h,_,_,_=>by omega
 |n+1,[],c,y,_,e,_,_=>by cases e
 |n+1,d::x,c,y,h,e,0,aC=>by omega
 |n+1,d::x,c,y,h,e,k+1,aC=>by
  simp only[List.length_cons,List.length_append]at h aC
  simp only[ko]at e
  rw[List.cons_append]
  simp only[ko]
  split at e
  ·rename_i hb
   rw[if_pos hb]
   exact pd n x c y (by omega) e k (by simp only[List.length_append,List.length_cons]; omega)
  rename_i hb
  rw[if_neg hb]
  have aa: ∀z:a7,(d::x).take 2=[47,47]→(d::(x++z)).take 2=[47,47]:=by
   intro z aB
   cases x with
   |nil=>simp at aB
   |cons a x=>exact aB
  split at e
  ·rename_i ah
   rw[if_pos (aa _ ah)]
   cases bw:(d::x).dropWhile (·!=10) with
   |nil=>
    have:vG (d::x)=[]:=by unfold vG; rw[bw]; rfl
    rw[this,so]at e
    cases e
   |cons a z=>
    have ar:vG (d::x)=z:=by unfold vG; rw[bw]; rfl
    have ax:vG (d::(x++10::m))=z++10::m:=by
     have:=(nE (m:=m) (p:=(·!=10)) rfl (d::x)).2
     rw[List.cons_append,bw]at this
     unfold vG
     rw[this]
     rfl
    have aH:=lK (·!=10) (d::x)
    rw[bw]at aH
    simp only[List.length_cons]at aH
    have aB:z.length<x.length:=by
     have dw:d≠10:=by
      intro e
      subst e
      have bE:=congrArg List.head? ah
      simp at bE
     rw[List.dropWhile_cons,if_pos (by simpa using dw)]at bw
     have:=lK (·!=10) x
     rw[bw]at this
     simp only[List.length_cons]at this
     omega
    rw[ar]at e
    rw[ax]
    exact pd n z c y (by omega) e k (by simp only[List.length_append,List.length_cons]; omega)
  ·rename_i ah
   cases e
   have: ¬(d::(x++10::m)).take 2=[47,47]:=by
    cases x with
    |nil=>intro h; simp at h
    |cons a y=>exact ah
   rw[if_neg this]
   rfl
theorem qD (N:Nat): ∀(n:Nat) (acc:List ba) (x:a7) (l:List ba),qQ N n acc x= .ok l→∃b8,l=acc++b8
 |0,acc,x,l,h=>by simp only[qQ]at h; cases h; exact⟨[],by simp⟩
 |n+1,acc,x,l,h=>by
  rw[uw]at h
  cases aZ:ko (x.length+1) x with
  |nil=>rw[aZ]at h; simp only[lexB]at h; cases h; exact⟨[],by simp⟩
  |cons c y=>
   rw[aZ]at h
   simp only[lexB]at h
   cases c4:l9 (c::y) with
   |err e=>rw[c4]at h; cases h
   |ok t r=>
    rw[c4]at h
    obtain⟨b8,e⟩:=qD N n _ _ _ h
    exact⟨_::b8,by rw[e,List.append_assoc]; rfl⟩
theorem qu (N:Nat): ∀(n:Nat) (acc:List ba) (x:a7) (l:List ba),x.length<n→x.length≤N→qQ N n acc x= .ok l→∀(mA:Nat) (dZ:List ba),(x++10::m).length<mA→qQ (N+(m.length+1)) mA acc (x++10::m)= .ok dZ→∃b8,dZ=l++b8
 |0,acc,x,l,h,_,_,_,_,_,_=>by omega
 |n+1,acc,x,l,a6,bW,h,mA,dZ,LY,aa=>by
  rw[uw]at h
  cases aZ:ko (x.length+1) x with
  |nil=>
   rw[aZ]at h
   simp only[lexB]at h
   cases h
   exact qD _ _ _ _ _ aa
  |cons c y=>
   have Me:=ov (x.length+1) x
   rw[aZ]at h Me
   simp only[lexB]at h
   cases c4:l9 (c::y) with
   |err e=>rw[c4]at h; cases h
   |ok t r=>
    rw[c4]at h
    simp only at h
    obtain⟨d,u,hu⟩:=Sb c4
    have uq:=congrArg List.length hu
    simp only[List.length_append,List.length_cons]at uq Me
    obtain⟨k,rfl⟩: ∃k,mA=k+1:=⟨mA-1,by omega⟩
    rw[uw,pd _ _ _ _ (Nat.lt_succ_self _) aZ _ (Nat.lt_succ_self _),List.cons_append]at aa
    simp only[lexB,wX c4]at aa
    have vu:N+(m.length+1)-(c::(y++10::m)).length=N-(c::y).length:=by
     simp only[List.length_cons,List.length_append]
     omega
    rw[vu]at aa
    simp only[List.length_append,List.length_cons]at LY
    exact qu N n _ r l (by omega) (by omega) h k dZ (by simp only[List.length_append,List.length_cons]; omega) aa
theorem uQ {s:a7}{l dZ:List ba}(J:pV s= .ok l) (aa:pV (s++10::m)= .ok dZ): ∃b8,dZ=l++b8:=by
 unfold pV at J aa
 split at J
 ·cases J
 split at aa
 ·cases aa
 refine qu s.length _ _ s l (Nat.lt_succ_self _) (Nat.le_refl _) J ((s++10::m).length+1) dZ (Nat.lt_succ_self _) ?_
 rw[List.length_append,List.length_cons]at aa ⊢
 exact aa
end
section
variable (en en':Int) (q:List ba)
def kp {α:Type}:dL α→dL α→Prop
 | .ok a r,jt=>r=[]∨jt= .ok a (r++q)
 | .err p e,jt=>p=en∨jt= .err p e
 | .out,_=>True
def ju {α:Type}:dL α→Prop
 | .ok _ r=>r=[]
 | .err p _=>p=en
 | .out=>True
def G {α:Type}(f f':List ba→dL α):Prop:=(∀l,kp en q (f l) (f' (l++q)))∧ju en (f [])
def lr {α:Type}(f f':List ba→dL α):Prop:=∀t l,kp en q (f (t::l)) (f' (t::(l++q)))
variable {en en' q}
theorem ju.iD {α:Type}{R jt:dL α}(h:ju en R):kp en q R jt:=by
 cases R with
 |ok a r=>exact Or.inl h
 |err p e=>exact Or.inl h
 |out=>trivial
theorem G.of {α:Type}{f f' g g':List ba→dL α}(h: ∀l,f l=g l) (ij: ∀l,f' l=g' l) (k:G en q g g'):G en q f f':=⟨fun l=>by rw[h,ij]; exact k.1 l,by rw[h]; exact k.2⟩
theorem G.one {α:Type}{f f':List ba→dL α}(k:G en q f f'):lr en q f f':=fun t l=>k.1 (t::l)
theorem G.mr {α:Type}{f f':List ba→dL α}(k:lr en q f f') (z:ju en (f [])):G en q f f':=⟨fun l=>by
 cases l with
 |nil=>exact z.iD
 |cons t l=>exact k t l,z⟩
theorem G.tail {α:Type}{f f':List ba→dL α}(k:G en q f f'):lr en q (fun l=>f l.tail) (fun l=>f' l.tail):=fun t l=>k.1 l
theorem G.ret {α:Type}(a:α):G en q (fun l=> .ok a l) (fun l=> .ok a l):=⟨fun l=> .inr rfl,rfl⟩
theorem G.fail {α:Type}(e:Int):G en q (fun l=>(.err (yD en l) e:dL α)) (fun l=> .err (yD en' l) e):=G.mr (fun t l=> .inr rfl) rfl
theorem G.out {α:Type}{f:List ba→dL α}:G en q (fun _=> .out) f:=⟨fun _=>trivial,trivial⟩
theorem kp.bind {α β:Type}{R jt:dL α}{F tF:α→List ba→dL β}(h:kp en q R jt) (eC: ∀a,G en q (F a) (tF a)):kp en q (R.bind F) (jt.bind tF):=by
 cases R with
 |out=>exact trivial
 |err p e=>
  have ij:p=en∨jt= .err p e:=h
  show p=en∨jt.bind tF= .err p e
  rcases ij with ij|ij
  ·exact .inl ij
  ·rw[ij]; exact .inr rfl
 |ok a r=>
  have ij:r=[]∨jt= .ok a (r++q):=h
  show kp en q (F a r) (jt.bind tF)
  rcases ij with ij|ij
  ·rw[ij]; exact (eC a).2.iD
  ·rw[ij]; exact (eC a).1 r
theorem ju.bind {α β:Type}{R:dL α}{F:α→List ba→dL β}(h:ju en R) (eC: ∀a,ju en (F a [])):ju en (R.bind F):=by
 cases R with
 |out=>exact trivial
 |err p e=>exact h
 |ok a r=>
  have ij:r=[]:=h
  show ju en (F a r)
  rw[ij]; exact eC a
theorem G.bind {α β:Type}{f f':List ba→dL α}{F tF:α→List ba→dL β}(h:G en q f f') (eC: ∀a,G en q (F a) (tF a)):G en q (fun l=>(f l).bind (F)) (fun l=>(f' l).bind (tF)):=
 ⟨fun l=>(h.1 l).bind eC,h.2.bind fun a=>(eC a).2⟩
theorem G.cond {α:Type}{b:List ba→Bool}(hb: ∀t l b8,b (t::l)=b (t::b8)) (aw:b []=false){f f' g g':List ba→dL α}(aW:lr en q f f') (aY:G en q g g'):G en q (fun l=>if b l=true then f l else g l) (fun l=>if b l=true then f' l else g' l):=by
 refine G.mr (fun t l=> ?_) ?_
 ·simp only[hb t (l++q) l]
  cases b (t::l)
  ·exact aY.one t l
  ·exact aW t l
 ·simp only[aw]
  exact aY.2
theorem G.eQ {α:Type}(s:a7){f f' g g':List ba→dL α}(aW:lr en q f f') (aY:G en q g g'):G en q (fun l=>if eQ s l=true then f l else g l) (fun l=>if bc.eQ s l=true then f' l else g' l):=G.cond (b:=bc.eQ s) (fun _ _ _=>rfl) rfl aW aY
theorem aT (s:a7):G en q (gm en s) (gm en' s):=G.of (fun l=>rfl) (fun l=>rfl) (G.eQ s (G.ret ()).tail (G.fail 3))
theorem ka (k:Int):G en q (jN en k) (jN en' k):=G.mr (fun t l=>by
 simp only[jN]
 split
 ·exact .inr rfl
 ·exact .inr rfl) rfl
theorem iH:G en q (jO en) (jO en'):=G.of (fun l=>rfl) (fun l=>rfl) (G.cond (b:=nP) (fun _ _ _=>rfl) rfl (G.bind (ka 1) fun t=>G.ret _).one (G.fail 3))
theorem ra: ∀(n:Nat) (s:a7),G en q (l6 en n s) (l6 en' n s)
 |0,s=>G.of (fun l=>rfl) (fun l=>rfl) G.out
 |n+1,s=>G.of (fun l=>rfl) (fun l=>rfl) (G.eQ [46] (G.bind iH fun w=>ra n _).tail (G.ret s))
theorem rb (n:Nat):G en q (nU en n) (nU en' n):=G.of (fun l=>rfl) (fun l=>rfl) (G.bind iH fun w=>ra n w)
theorem om:G en q (mD en) (mD en'):=G.of (fun l=>rfl) (fun l=>rfl) (G.eQ [45] (G.bind (ka 2) fun t=>G.ret _).tail (G.bind (ka 2) fun t=>G.ret _))
theorem mv: ∀n,G en q (ht en n) (ht en' n)∧(∀k,G en q (gY en n k) (gY en' n k))∧(∀k x,G en q (jw en n k x) (jw en' n k x))
 |0=>⟨G.of (fun l=>by rw[ht]) (fun l=>by rw[ht]) G.out,fun k=>G.of (fun l=>by rw[gY]) (fun l=>by rw[gY]) G.out,fun k x=>G.of (fun l=>by rw[jw]) (fun l=>by rw[jw]) G.out⟩
 |n+1=>by
  obtain⟨J,aa,au⟩:=mv n
  refine⟨?_,fun k=> ?_,fun k x=> ?_⟩
  ·refine G.of (fun l=>by rw[ht]) (fun l=>by rw[ht]) ?_
   refine G.eQ [40] (G.bind (aa 1) fun x=>G.bind (aT [41]) fun _=>G.ret _).tail ?_
   refine G.eQ [108,101,110] (G.bind (aT [40]) fun _=>G.bind (aa 1) fun x=>G.bind (aT [41]) fun _=>G.ret _).tail ?_
   refine G.eQ [45] (G.bind J fun x=>G.ret _).tail ?_
   refine G.eQ [33] (G.bind J fun x=>G.ret _).tail ?_
   refine G.cond (b:=nP) (fun _ _ _=>rfl) rfl (G.bind iH fun w=>G.ret _).one ?_
   refine G.cond (b:=qN 3) (fun _ _ _=>rfl) rfl (G.bind (ka 3) fun w=>G.ret _).one ?_
   refine G.cond (b:=u7) (fun _ _ _=>rfl) rfl (G.fail 2).one ?_
   exact G.bind (ka 2) fun w=>G.ret _
  ·exact G.of (fun l=>by rw[gY]) (fun l=>by rw[gY]) (G.bind J fun x=>au k x)
  ·refine G.mr (fun t l=> ?_) ?_
   ·rw[jw,jw]
    try simp only
    by_cases c1:t.kind=4
    ·rw[if_pos c1,if_pos c1]
     by_cases c2:cV t.text<k
     ·rw[if_pos c2,if_pos c2]
      exact .inr rfl
     ·rw[if_neg c2,if_neg c2]
      exact (G.bind (aa _) fun y=>au k _).1 l
    ·rw[if_neg c1,if_neg c1]
     exact .inr rfl
   ·rw[jw]
    rfl
theorem rf: ∀n,G en q (iP en n) (iP en' n)∧(∀acc,G en q (jK en n acc) (jK en' n acc))∧G en q (je en n) (je en' n)∧G en q (iQ en n) (iQ en' n)
 |0=>⟨G.of (fun l=>by rw[iP]) (fun l=>by rw[iP]) G.out,fun k=>G.of (fun l=>by rw[jK]) (fun l=>by rw[jK]) G.out,G.of (fun l=>by rw[je]) (fun l=>by rw[je]) G.out,G.of (fun l=>by rw[iQ]) (fun l=>by rw[iQ]) G.out⟩
 |n+1=>by
  obtain⟨J,aa,au,bn⟩:=rf n
  have dc:=fun k=>(mv (en:=en) (en':=en') (q:=q) n).2.1 k
  refine⟨?_,fun acc=> ?_,?_,?_⟩
  ·exact G.of (fun l=>by rw[iP]) (fun l=>by rw[iP]) (G.bind (aT [123]) fun _=>aa [])
  ·exact G.of (fun l=>by rw[jK]) (fun l=>by rw[jK]) (G.eQ [125] (G.ret acc).tail (G.bind au fun x=>aa _))
  ·refine G.of (fun l=>by rw[je]) (fun l=>by rw[je]) ?_
   refine G.eQ [105,102] bn.tail ?_
   refine G.eQ [119,104,105,108,101] (G.bind (dc 1) fun x=>G.bind (aT [116,105,109,101,115]) fun _=>G.cond (b:=u6) (fun _ _ _=>rfl) rfl (G.fail 2).one (G.bind (ka 2) fun t=>G.bind J fun b=>G.ret _)).tail ?_
   exact G.bind iH fun w=>G.bind (aT [61]) fun _=>G.bind (dc 1) fun x=>G.bind (aT [59]) fun _=>G.ret _
  ·refine G.of (fun l=>by rw[iQ]) (fun l=>by rw[iQ]) ?_
   refine G.bind (dc 1) fun x=>G.bind J fun b=>G.eQ [101,108,115,101] (f:=fun r=> _) (f':=fun r=> _) ?_ (G.ret _)
   intro t l
   exact (G.eQ [105,102] (G.bind bn fun y=>G.ret _).tail (G.bind J fun c=>G.ret _)).1 l
theorem vY:G en q (r8 en) (r8 en'):=by
 refine G.of (fun l=>rfl) (fun l=>rfl) (G.eQ [116,101,120,116] (G.bind (ka 2) fun a=>G.bind (aT [46,46]) fun _=>G.bind (ka 2) fun b=>G.ret _).tail ?_)
 exact G.bind (aT [105,110,116]) fun _=>G.bind om fun a=>G.bind (aT [46,46]) fun _=>G.bind om fun b=>G.ret _
theorem vP:G en q (r7 en) (r7 en'):=G.of (fun l=>rfl) (fun l=>rfl) (G.cond (b:=qN 3) (fun _ _ _=>rfl) rfl (G.bind (ka 3) fun w=>G.ret _).one (G.bind om fun a=>G.ret _))
theorem v7:G en q (qW en) (qW en'):=G.of (fun l=>rfl) (fun l=>rfl) (G.bind iH fun w=>G.bind (aT [58]) fun _=>G.bind vY fun s=>G.bind (aT [61]) fun _=>G.bind vP fun i=>G.bind (aT [59]) fun _=>G.ret _)
theorem q0: ∀(n:Nat) (acc:List a7),G en q (lm en n acc) (lm en' n acc)
 |0,s=>G.of (fun l=>rfl) (fun l=>rfl) G.out
 |n+1,s=>G.of (fun l=>rfl) (fun l=>rfl) (G.eQ [44] (G.bind iH fun w=>q0 n _).tail (G.ret s))
theorem vW (n:Nat):G en q (nn en n) (nn en' n):=G.of (fun l=>rfl) (fun l=>rfl) (G.eQ [41] (G.ret []).tail (G.bind iH fun w=>G.bind (q0 n _) fun ps=>G.bind (aT [41]) fun _=>G.ret _))
theorem vg (n:Nat):G en q (nk en n) (nk en' n):=G.of (fun l=>rfl) (fun l=>rfl) (G.bind (rb n) fun m=>G.bind (aT [40]) fun _=>G.bind (vW n) fun ps=>G.bind (aT [102,114,111,109]) fun _=>G.bind iH fun p=>G.bind (rf n).1 fun b=>G.ret _)
theorem qR: ∀(n:Nat) (acc:List ad),G en q (ll en n acc) (ll en' n acc)
 |0,s=>G.of (fun l=>rfl) (fun l=>rfl) G.out
 |n+1,s=>G.of (fun l=>rfl) (fun l=>rfl) (G.eQ [44] (G.bind ((mv n).2.1 1) fun w=>qR n _).tail (G.ret s))
theorem vf (n:Nat):G en q (nj en n) (nj en' n):=G.of (fun l=>rfl) (fun l=>rfl) (G.eQ [41] (G.ret []).tail (G.bind ((mv n).2.1 1) fun w=>G.bind (qR n _) fun ps=>G.bind (aT [41]) fun _=>G.ret _))
theorem wj (n:Nat):G en q (ox en n) (ox en' n):=G.of (fun l=>rfl) (fun l=>rfl) (G.eQ [119,104,101,114,101] (G.bind ((mv n).2.1 1) fun w=>G.ret _).tail (G.ret []))
theorem vV (n:Nat):G en q (nl en n) (nl en' n):=G.of (fun l=>rfl) (fun l=>rfl) (G.bind (rb n) fun m=>G.bind (aT [40]) fun _=>G.bind (vf n) fun ps=>G.bind (aT [116,111]) fun _=>G.bind iH fun p=>G.bind (wj n) fun b=>G.bind (aT [59]) fun _=>G.ret _)
theorem rE (n:Nat): ∀(m:Nat) (acc:List cb),G en q (lp en n m acc) (lp en' n m acc)
 |0,s=>G.of (fun l=>rfl) (fun l=>rfl) G.out
 |m+1,s=>G.of (fun l=>rfl) (fun l=>rfl) (G.eQ [118,97,114] (G.bind v7 fun w=>rE n m _).tail (G.ret s))
theorem oh (n:Nat): ∀(m:Nat) (ap:List cd) (os:List ca),G en q (ln en n m ap os) (ln en' n m ap os)
 |0,ap,os=>G.of (fun l=>rfl) (fun l=>rfl) G.out
 |m+1,ap,os=>G.of (fun l=>rfl) (fun l=>rfl) (G.eQ [125] (G.ret (ap,os)).tail (G.eQ [111,110] (G.bind (vg n) fun h=>oh n m _ _).tail (G.bind (aT [111,102,102,101,114]) fun _=>G.bind (vV n) fun o=>oh n m _ _)))
theorem vZ (n:Nat):G en q (lo en n) (lo en' n):=by
 refine G.of (fun l=>rfl) (fun l=>rfl) ?_
 refine G.bind (aT _) fun _=>G.bind iH fun a=>G.bind (aT _) fun _=>G.bind iH fun b=>G.bind (aT _) fun _=>G.bind iH fun c=>G.bind (aT _) fun _=>G.bind (rE n n []) fun ay=>G.bind (oh n n [] []) fun p=> ?_
 exact G.mr (fun t l=> .inr rfl) rfl
end
theorem s9 {s m:a7}{l dZ:List ba}(J:pV s= .ok l) (aa:pV (s++10::m)= .ok dZ){x:e9}{p e:Int}(hp:tb s=(x,p,e)) (he:e=3∨e=2) (cK:p<(s.length:Int)): ∃y,tb (s++10::m)=(y,p,e):=by
 obtain⟨b8,rfl⟩:=uQ J aa
 unfold tb at hp ⊢
 rw[J]at hp
 rw[aa]
 simp only[BX]at hp ⊢
 cases mo:lo (s.length:Int) (3*l.length+2) l with
 |out=>rw[mo]at hp; cases hp; rcases he with h|h<;>cases h
 |ok a r=>
  rw[mo]at hp
  simp only at hp
  split at hp
  ·cases hp; rcases he with h|h<;>cases h
  ·cases hp; rcases he with h|h<;>cases h
 |err fR ar=>
  rw[mo]at hp
  cases hp
  have hG:=(vZ (en:=(s.length:Int)) (en':=((s++10::m).length:Int)) (q:=b8) (3*l.length+2)).1 l
  rw[mo]at hG
  rcases hG with hG|hG
  ·omega
  ·have hm:=J1 (n:=3*l.length+2) (l:=l++b8) (by rw[hG]; exact vh) (m:=3*(l++b8).length+2) (by rw[List.length_append]; omega)
   rw[hm,hG]
   exact⟨_,rfl⟩
end Go.bc
namespace Go.bc.T.N
open Go Go.bc Go.Proofs Go.RowKit
set_option maxRecDepth 100000
attribute [local irreducible] Go.bc.aj Go.bc.ae Go.bc.bz
section
attribute [local go_sem] ad.ct ac.ct ad.b9 ac.b9 cj eN fZ gJ dp of_flat
attribute [local go_sem] cb.row dG fG mV oC
theorem qP (s:a7): ∃l p f,BH (pV s)= .di [.ay 4 (l.map ba.row),.int .i64 p,.int .i64 f]∧(f=0→pV s= .ok l):=by
 cases uj:pV s with
 |ok l=>exact⟨l,0,0,rfl,fun _=>rfl⟩
 |err p e=>exact⟨[],p,e,rfl,fun h=>absurd h (ah0 uj)⟩
theorem wk (ui:Pure Tryz.prog 11 [] (.bool true)) (s m:a7):Pure Tryz.prog 10 [.str s,.str m] (.bool true):=by
 by_cases J:1000<s.length
 ·have d1:(1000:Int)<(s.length:Int):=by omega
  refine cF bN Tryz.func10 sH rfl rfl ?_
  unfold kb km
  simp(disch:=omega)only[go_sem,simprocAttr]
  refine ao ?_
  refine D.P (ui) ?_
  (have al:=d1;refine bQ ?_;clear al)
  exact D.rx
 have d1: ¬(1000:Int)<(s.length:Int):=by omega
 by_cases aa:1000<m.length
 ·have d2:(1000:Int)<(m.length:Int):=by omega
  refine cF bN Tryz.func10 sH rfl rfl ?_
  unfold kb km
  simp(disch:=omega)only[go_sem,simprocAttr]
  refine ao ?_
  refine D.P (ui) ?_
  (have al:=d1;have z2:=d2;refine e8 ?_;clear al z2)
  exact D.rx
 have d2: ¬(1000:Int)<(m.length:Int):=by omega
 have hlen:(s++[10]++m).length≤900000:=by simp only[List.length_append,List.length_cons,List.length_nil]; omega
 have pI:=Fo s (by omega)
 have n1:=Fo (s++[10]++m) (by omega)
 have jL:=rF s (by omega)
 have k0:=rF (s++[10]++m) hlen
 obtain⟨aM,fR,f1,yZ,pY⟩:=qP s
 obtain⟨dZ,il,f2,oX,Y9⟩:=qP (s++[10]++m)
 rw[yZ]at jL
 rw[oX]at k0
 have ub: ∀x p e,tb s=(x,p,e)→(e=3∨e=2)→f1=0→f2=0→p<(s.length:Int)→∃y,tb (s++[10]++m)=(y,p,e):=fun x p e J aa au bn bL=>by
  have:=s9 (m:=m) (pY au) (by have:=Y9 bn; rw[List.append_assoc]at this; exact this) J aa bL
  rw[List.append_assoc]
  exact this
 clear yZ oX pY Y9
 obtain⟨⟨x,p,e⟩,bG⟩: ∃q,q=tb s:=⟨_,rfl⟩
 rw[←bG]at pI
 simp only[xA,lq]at pI
 have hC: ∀n:Int,n=(s.length:Int)→((s.length:Int)≤p∨¬(s.length:Int)≤p):=fun _ _=>by omega
 by_cases he:e=3∨e=2
 rotate_left
 ·have cO: ¬e=3:=fun h=>he (.inl h)
  have bA: ¬e=2:=fun h=>he (.inr h)
  refine cF bN Tryz.func10 sH rfl rfl ?_
  unfold kb km
  simp(disch:=omega)only[go_sem,simprocAttr]
  refine ao ?_
  refine D.P (ui) ?_
  (have al:=d1;have z2:=d2;refine e8 ?_;clear al z2)
  refine D.P (pI) ?_
  refine ao ?_
  refine D.P (jL) ?_
  refine ao ?_
  refine D.bR ?_
  refine ao ?_
  refine D.bR ?_
  refine ao ?_
  refine D.P (k0) ?_
  (have al:=cO;have z2:=bA;refine e8 ?_;clear al z2)
  exact D.rx
 by_cases bC:f1=0
 rotate_left
 ·rcases he with rfl|rfl
  all_goals
   refine cF bN Tryz.func10 sH rfl rfl ?_
   unfold kb km
   simp(disch:=omega)only[go_sem,simprocAttr]
   refine ao ?_
   refine D.P (ui) ?_
   (have al:=d1;have z2:=d2;refine e8 ?_;clear al z2)
   refine D.P (pI) ?_
   refine ao ?_
   refine D.P (jL) ?_
   refine ao ?_
   refine D.bR ?_
   refine ao ?_
   refine D.bR ?_
   refine ao ?_
   refine D.P (k0) ?_
   (have al:=bC;refine bQ ?_;clear al)
   exact D.rx
 subst bC
 by_cases bA:f2=0
 rotate_left
 ·rcases he with rfl|rfl
  all_goals
   refine cF bN Tryz.func10 sH rfl rfl ?_
   unfold kb km
   simp(disch:=omega)only[go_sem,simprocAttr]
   refine ao ?_
   refine D.P (ui) ?_
   (have al:=d1;have z2:=d2;refine e8 ?_;clear al z2)
   refine D.P (pI) ?_
   refine ao ?_
   refine D.P (jL) ?_
   refine ao ?_
   refine D.bR ?_
   refine ao ?_
   refine D.bR ?_
   refine ao ?_
   refine D.P (k0) ?_
   (have al:=bA;refine bQ ?_;clear al)
   exact D.rx
 subst bA
 by_cases cO:(s.length:Int)≤p
 ·rcases he with rfl|rfl
  all_goals
   refine cF bN Tryz.func10 sH rfl rfl ?_
   unfold kb km
   simp(disch:=omega)only[go_sem,simprocAttr]
   refine ao ?_
   refine D.P (ui) ?_
   (have al:=d1;have z2:=d2;refine e8 ?_;clear al z2)
   refine D.P (pI) ?_
   refine ao ?_
   refine D.P (jL) ?_
   refine ao ?_
   refine D.bR ?_
   refine ao ?_
   refine D.bR ?_
   refine ao ?_
   refine D.P (k0) ?_
   (have al:=cO;refine bQ ?_;clear al)
   exact D.rx
 obtain⟨y,aZ⟩:=ub x p e bG.symm he rfl rfl (by omega)
 rw[aZ]at n1
 simp only[xA,lq]at n1
 rcases he with rfl|rfl
 all_goals
  refine cF bN Tryz.func10 sH rfl rfl ?_
  unfold kb km
  simp(disch:=omega)only[go_sem,simprocAttr]
  refine ao ?_
  refine D.P (ui) ?_
  (have al:=d1;have z2:=d2;refine e8 ?_;clear al z2)
  refine D.P (pI) ?_
  refine ao ?_
  refine D.P (jL) ?_
  refine ao ?_
  refine D.bR ?_
  refine ao ?_
  refine D.bR ?_
  refine ao ?_
  refine D.P (k0) ?_
  (have al:=cO;refine bQ ?_;clear al)
  refine D.bR ?_
  refine ao ?_
  refine D.bR ?_
  refine ao ?_
  refine D.P (n1) ?_
  refine ao ?_
  exact D.rx
theorem wv (a b:ByteArray):Pure Tryz.prog 10 [.str a.data.toList,.str b.data.toList] (.bool true):=wk as6 _ _
end
end Go.bc.T.N
