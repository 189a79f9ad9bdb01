/- Part of a proof; own work. -/
import Derived.Test.YtlemhelnmidpfaaGreatDoorVS17
set_option linter.unusedVariables false
set_option linter.unusedSimpArgs false
set_option maxHeartbeats 8000000
open Bool renaming and_eq_true→aT0,and_self→aT7,true_and→aU7,false_and→ba2,and_false→bc4,false_or→ba8
open Int renaming natCast_add→aT5
open List renaming length_cons→aT3,map_cons→aU5,length_map→aT1,mem_cons→aV8,not_mem_nil→aY4,drop_eq_nil_of_le→aT9,length_drop→bd3,length_take→aX3,length_append→aT2,length_nil→aU1
open Nat renaming zero_le→aT8,reduceBEq→bd1,le_of_ble_eq_true→aZ3,reduceAdd→bd2
open Go.Proofs.Tryz renaming prog→aS9
namespace Go.aX
open Go Go.aX.T.N
theorem vN {a:Int}(aW: -9223372036854775808≤a) (h1:a<9223372036854775808):IntKind.i64.wrap a=a:=by
 simp only[IntKind.wrap,IntKind.bits,IntKind.signed]
 simp
 omega
mutual
theorem au.zX: ∀x:au,x.cJ≤100000000→x.am=(x.cJ:Int)-1
 | .mk _ _ _ _ _ l,h=>by
  simp only[au.cJ]at h
  have aE:=au.iE l
  simp only[au.am,au.cJ]
  rw[au.r6 l (l.length:Int) (by omega) (by omega) (by omega)]
  omega
theorem au.r6: ∀(l:List au) (n:Int),au.cf l≤100000000→0≤n→n+(au.cf l:Int)≤1000000000000→au.h8 l n=n+((au.cf l:Int)-l.length)
 |[],n,_,_,_=>by simp [au.h8,au.cf]
 |x::l,n,h,aW,h1=>by
  simp only[au.cf]at h h1
  have hp:1≤x.cJ:=by cases x; simp only[au.cJ]; omega
  rw[au.h8,au.zX x (by omega),vN (by omega) (by omega),au.r6 l _ (by omega) (by omega) (by omega)]
  simp only[au.cf,aT3]
  omega
end
mutual
theorem ao.zX: ∀x:ao,x.cJ≤100000000→x.am=(x.cJ:Int)-1
 | .mk _ _ x _ a b,h=>by
  simp only[ao.cJ]at h
  have hp:1≤x.cJ:=by cases x; simp only[au.cJ]; omega
  have aL:=ao.iE a
  have hb:=ao.iE b
  simp only[ao.am,ao.cJ]
  rw[au.zX x (by omega),ao.r6 a (a.length:Int) (by omega) (by omega) (by omega),ao.r6 b (b.length:Int) (by omega) (by omega) (by omega),vN (a:=1+ _) (by omega) (by omega),vN (a:=1+ _+ _) (by omega) (by omega),vN (by omega) (by omega)]
  omega
theorem ao.r6: ∀(l:List ao) (n:Int),ao.cf l≤100000000→0≤n→n+(ao.cf l:Int)≤1000000000000→ao.h8 l n=n+((ao.cf l:Int)-l.length)
 |[],n,_,_,_=>by simp [ao.h8,ao.cf]
 |x::l,n,h,aW,h1=>by
  simp only[ao.cf]at h h1
  have hp:1≤x.cJ:=by cases x; simp only[ao.cJ]; omega
  rw[ao.h8,ao.zX x (by omega),vN (by omega) (by omega),ao.r6 l _ (by omega) (by omega) (by omega)]
  simp only[ao.cf,aT3]
  omega
end
def oZ:List bK→Nat
 |[]=>0
 |h::l=>ao.cf h.body+oZ l
def o0:List cC→Nat
 |[]=>0
 |o::l=>au.cf o.args+au.cf o.eF+o0 l
theorem Ks: ∀(l:List bK) (n:Int) (z:Int),oZ l≤100000000→0≤n→n+(oZ l:Int)≤1000000000000→ql l n=some z→z=n+oZ l∧∀h∈l,h.ps.length≤60∧ao.cf h.body≤oZ l
 |[],n,z,_,_,_,h=>by
  simp only[ql,Option.some.injEq]at h
  simp [oZ,h]
 |h::l,n,z,an,aW,h1,aO=>by
  simp only[oZ]at an h1
  simp only[ql]at aO
  by_cases hp:60<h.ps.length
  ·rw[if_pos hp]at aO; cases aO
  rw[if_neg hp]at aO
  have aE:=ao.iE h.body
  rw[ao.r6 h.body (h.body.length:Int) (by omega) (by omega) (by omega),vN (by omega) (by omega)]at aO
  obtain⟨e,k⟩:=Ks l _ z (by omega) (by omega) (by omega) aO
  refine⟨by simp only[oZ]; omega,fun g bm=> ?_⟩
  simp only[oZ]
  rcases List.mem_cons.1 bm with rfl|bm
  ·exact⟨by omega,by omega⟩
  ·have:=k g bm
   exact⟨this.1,by omega⟩
theorem Kt: ∀(l:List cC) (n:Int),o0 l≤100000000→0≤n→n+(o0 l:Int)≤1000000000000→rp l n=n+o0 l
 |[],n,_,_,_=>by simp [rp,o0]
 |o::l,n,an,aW,h1=>by
  simp only[o0]at an h1
  have aL:=au.iE o.args
  have hb:=au.iE o.eF
  rw[rp,au.r6 o.args (o.args.length:Int) (by omega) (by omega) (by omega),au.r6 o.eF (o.eF.length:Int) (by omega) (by omega) (by omega)]
  simp (disch:=omega) only[vN]
  rw[Kt l _ (by omega) (by omega) (by omega)]
  simp only[o0]
  omega
theorem Qz: ∀ {l:List cC}{o:cC},o∈l→au.cf o.args+au.cf o.eF≤o0 l
 |p::l,o,h=>by
  simp only[o0]
  rcases List.mem_cons.1 h with rfl|h
  ·omega
  ·have:=Qz h; omega
theorem V3 {x:c9}(h1:oZ x.an≤100000000) (J:o0 x.os≤100000000) (aO:pt x=true):pV x:=by
 unfold pt at aO
 cases a8:ql x.an 0 with
 |none=>rw[a8]at aO; cases aO
 |some n=>
  rw[a8]at aO
  obtain⟨e,k⟩:=Ks x.an 0 n h1 (by omega) (by omega) a8
  simp only[aT0,decide_eq_true_eq]at aO
  rw[Kt x.os n J (by omega) (by omega)]at aO
  obtain⟨f1,f2,f3,f4⟩:=aO
  exact⟨fun h hm=>by have:=(k h hm).2; omega,fun h hm=>by have:=(k h hm).1; omega,fun o hm=>by have:=Qz hm; omega,by omega,by omega,by omega⟩
theorem Qx: ∀l:List bK,oZ l≤kk (l.map bK.row)
 |[]=>by simp [oZ]
 |h::l=>by
  have:=Qx l
  have:=ao.r7 h.body
  simp only[oZ,aU5,kk,bK.row,e6,I.jX]
  omega
theorem Qy: ∀l:List cC,o0 l≤kk (l.map cC.row)
 |[]=>by simp [o0]
 |o::l=>by
  have:=Qy l
  have:=au.r7 o.args
  have:=au.r7 o.eF
  simp only[o0,aU5,kk,cC.row,e6,I.jX]
  omega
theorem Sl {x:c9}(h:e6 x.cells≤100000000) (aO:pt x=true):pV x:=by
 have h1:=Qx x.an
 have J:=Qy x.os
 simp only[c9.cells,e6,I.jX]at h
 exact V3 (by omega) (by omega) aO
end Go.aX
namespace Go.aX.T.N
open Go Go.aX Go.Proofs Go.RowKit
set_option maxRecDepth 100000
attribute [local irreducible] Go.aX.ay Go.aX.ai Go.aX.aY
section
attribute [local go_sem] au.di ao.di au.cQ ao.cQ ca dB gz ht eb of_flat bQ.row dZ k7 hQ
attribute [local go_sem] fS fz fy fR e8 fa eI dv Fd.row ep eN cG.row et.row bS.row
def k6:List bS→Nat
 |[]=>0
 |d::l=>d.fields.length+d.eM.length+d.eqs.length+k6 l
def AI (l:List bS):Bool:=decide (l.length≤60)&&decide (k6 l≤100)
def tv (g:cI):Bool:=decide (g.hX≤40)&&(decide (g.bY.length≤80)&&(decide (g.hM.length≤40)&&(decide (g.cD.length≤10)&&AI g.decls)))
theorem aw2 {l:List bS}{i:Nat}{d:bS}(h:l[i]? =some d):k6 (l.take (i+1))=k6 (l.take i)+(d.fields.length+d.eM.length+d.eqs.length):=by
 rw[List.take_add_one,h]
 generalize l.take i=m
 induction m with
 |nil=>simp [k6]
 |cons x m b8=>simp only[List.cons_append,k6,b8]; omega
theorem aw3 (l:List bS) (i:Nat):k6 (l.take i)≤k6 l:=by
 induction l generalizing i with
 |nil=>simp [k6]
 |cons x l b8=>
  cases i with
  |zero=>simp [k6]
  |succ i=>
   have:=b8 i
   simp only[List.take_succ_cons,k6]
   omega
theorem aH2 (l:List bS) (aE:l.length≤1000000000) (an:k6 l≤1000000000):Pure aS9 120 [.ak 5 (l.map bS.row)] (.bool (AI l)):=by
 refine dt bk Tryz.func120 SA (by simp only[b9,I.flat,eI,aT7]) rfl ?_
 unfold IH Of
 have jv:((l.map bS.row).length:Int)=(l.length:Int):=by rw[aT1]
 simp(disch:=omega)only[go_sem,simprocAttr]
 refine ap ?_
 refine ay.dq (X:=Nat) 0 (fun i=>[(0,.ak 5 (l.map bS.row)),(3,.int .i64 (k6 (l.take i):Int)),(4,.int .i64 (i:Int))]) (fun _=>[]) (fun _=>[]) (fun i=>i≤l.length) (fun i=>l.length-i) (aT8 _) ⟨rfl,rfl,rfl,trivial⟩ trivial trivial ?_
 intro i ae
 try simp only at ae ⊢
 cases ad:l[i]? with
 |some d=>
  have cL:=(List.getElem?_eq_some_iff.1 ad).1
  have d1:(i:Int)<(l.length:Int):=by omega
  have s1:=aw2 ad
  have s2:=aw3 l (i+1)
  have rZ:((d.fields.map Fd.row).length:Int)=(d.fields.length:Int):=by rw[aT1]
  have mz:((d.eM.map ep).length:Int)=(d.eM.length:Int):=by rw[aT1]
  have cZ:((d.eqs.map eN).length:Int)=(d.eqs.length:Int):=by rw[aT1]
  generalize kP:k6 (l.take (i+1))=S at s1 s2
  (have ax:=jv;have z2:=d1;have z3:=And.intro rZ (And.intro mz cZ);refine fY ?_;clear ax z2 z3)
  refine ay.fH (i+1) (by omega) ⟨rfl,by simp only[Env.get,kP]; rw[s1]; simp only[aT5,Int.add_assoc]<;>rfl,by simp only[aT5]; rfl,trivial⟩ trivial trivial rfl rfl (by show l.length-(i+1)<l.length-i; omega)
 |none=>
  have ck:=List.getElem?_eq_none_iff.1 ad
  have e:i=l.length:=by omega
  subst e
  have d1: ¬(l.length:Int)<(l.length:Int):=by omega
  simp only[List.take_length]
  by_cases h1:l.length≤60
  ·have d2:(l.length:Int)≤60:=by omega
   (have ax:=jv;have z2:=d1;have z3:=d2;refine fY ?_;clear ax z2 z3)
   refine D.r ?_
   refine⟨_,rfl,.aQ ?_ rfl,trivial,trivial⟩
   simp only[AI,decide_eq_true h1,aU7,I.aQ]
   congr 1
   exact decide_eq_decide.2 (by omega)
  ·have d2: ¬(l.length:Int)≤60:=by omega
   (have ax:=jv;have z2:=d1;have z3:=d2;refine fY ?_;clear ax z2 z3)
   refine D.r ?_
   refine⟨_,rfl,.aQ ?_ rfl,trivial,trivial⟩
   simp only[AI,decide_eq_false h1,ba2,I.aQ]
theorem G8: ∀(l:List (List I)),(∀r∈l,1≤e6 r)→l.length≤kk l
 |[],_=>aT8 _
 |r::l,h=>by
  have h1:=h r (by simp)
  have J:=G8 l fun x U=>h x (by simp [U])
  simp only[aT3,kk]
  omega
theorem uz {α:Type}(f:α→List I) (aO: ∀a,1≤e6 (f a)) (l:List α):l.length≤kk (l.map f):=by
 have:=G8 (l.map f) (by intro r ab; obtain⟨a,_,rfl⟩:=List.mem_map.1 ab; exact aO a)
 simpa using this
theorem G9: ∀ {l:List (List I)}{r:List I},r∈l→e6 r≤kk l
 |x::l,r,h=>by
  simp only[kk]
  rcases List.mem_cons.1 h with rfl|h
  ·omega
  ·have:=G9 h; omega
theorem Ih (d:bS):d.fields.length+d.eM.length+d.eqs.length≤e6 d.row:=by
 have h1:=uz Fd.row (fun f=>by simp only[Fd.row,e6,I.jX]; omega) d.fields
 have J:=uz ep (fun f=>by simp only[ep,e6,I.jX]; omega) d.eM
 have aA:=uz eN (fun f=>by simp only[eN,e6,I.jX]; omega) d.eqs
 simp only[bS.row,e6,I.jX]
 omega
theorem Qw: ∀l:List bS,k6 l≤kk (l.map bS.row)
 |[]=>by simp [k6]
 |d::l=>by
  have h1:=Ih d
  have J:=Qw l
  simp only[k6,aU5,kk]
  omega
theorem Wm {g:cI}(h:e6 g.cells≤100000000):pc g∧k6 g.decls≤100000000:=by
 have h1:=uz ca (fun f=>by simp only[ca,e6,I.jX]; omega) g.cD
 have J:=uz bS.row (fun f=>by simp only[bS.row,e6,I.jX]; omega) g.decls
 have aA:=uz cG.row (fun f=>by simp only[cG.row,e6,I.jX]; omega) g.bY
 have bz:=uz et.row (fun f=>by simp only[et.row,e6,I.jX]; omega) g.hM
 have bZ:=Qw g.decls
 simp only[cI.cells,e6,I.jX]at h
 refine⟨⟨by omega,by omega,by omega,by omega,fun d bw=> ?_⟩,by omega⟩
 have br:=G9 (List.mem_map_of_mem (f:=bS.row) bw)
 have bA:=Ih d
 omega
theorem aH9 (g:cI) (hb:pc g) (an:k6 g.decls≤1000000000):Pure aS9 45 [g.eU] (.bool (tv g)):=by
 have aj:=aH2 g.decls hb.EC an
 rw[pu]
 have cZ:((g.bY.map cG.row).length:Int)=(g.bY.length:Int):=by rw[aT1]
 have pa:((g.hM.map et.row).length:Int)=(g.hM.length:Int):=by rw[aT1]
 have qU:((g.cD.map ca).length:Int)=(g.cD.length:Int):=by rw[aT1]
 refine dt bk Tryz.func45 T8 (by simp only[b9,I.flat,dB,eI,e8,fa,aT7]) rfl ?_
 unfold J7 PN
 by_cases h1:g.hX≤40
 rotate_left
 ·simp(disch:=omega)only[go_sem,simprocAttr]
  (have ax:=h1;refine bI ?_;clear ax)
  refine D.r ?_
  exact⟨_,rfl,.aQ (by simp only[tv,decide_eq_false h1,ba2,I.aQ]) rfl,trivial,trivial⟩
 by_cases J:g.bY.length≤80
 rotate_left
 ·have d2: ¬(g.bY.length:Int)≤80:=by omega
  simp(disch:=omega)only[go_sem,simprocAttr]
  (have ax:=h1;have z2:=cZ;have z3:=d2;refine fY ?_;clear ax z2 z3)
  refine D.r ?_
  exact⟨_,rfl,.aQ (by simp only[tv,decide_eq_false J,ba2,bc4,I.aQ]) rfl,trivial,trivial⟩
 have d2:(g.bY.length:Int)≤80:=by omega
 by_cases aA:g.hM.length≤40
 rotate_left
 ·have d3: ¬(g.hM.length:Int)≤40:=by omega
  simp(disch:=omega)only[go_sem,simprocAttr]
  (have ax:=h1;have z2:=cZ;have z3:=And.intro d2 (And.intro pa d3);refine fY ?_;clear ax z2 z3)
  refine D.r ?_
  exact⟨_,rfl,.aQ (by simp only[tv,decide_eq_false aA,ba2,bc4,I.aQ]) rfl,trivial,trivial⟩
 have d3:(g.hM.length:Int)≤40:=by omega
 by_cases bz:g.cD.length≤10
 rotate_left
 ·have d4: ¬(g.cD.length:Int)≤10:=by omega
  simp(disch:=omega)only[go_sem,simprocAttr]
  (have ax:=h1;have z2:=cZ;have z3:=And.intro d2 (And.intro pa (And.intro d3 (And.intro qU d4)));refine fY ?_;clear ax z2 z3)
  refine D.r ?_
  exact⟨_,rfl,.aQ (by simp only[tv,decide_eq_false bz,ba2,bc4,I.aQ]) rfl,trivial,trivial⟩
 have d4:(g.cD.length:Int)≤10:=by omega
 simp(disch:=omega)only[go_sem,simprocAttr]
 (have ax:=h1;have z2:=cZ;have z3:=And.intro d2 (And.intro pa (And.intro d3 (And.intro qU d4)));refine fY ?_;clear ax z2 z3)
 refine D.P (aj) ?_
 refine ap ?_
 refine D.r ?_
 exact⟨_,rfl,.aQ (by simp only[tv,decide_eq_true h1,decide_eq_true J,decide_eq_true aA,decide_eq_true bz,aU7,I.aQ]) rfl,trivial,trivial⟩
theorem aH6 {R:Nat}(ac:R≤140737488355328) (x:c9) (g:cI) (U:x.ok R) (hb:pc g) (an:k6 g.decls≤1000000000):Pure aS9 30 [x.eU,g.eU] (.bool (pt x&&tv g)):=by
 have aj:=aj5 ac x U
 have aq:=aH9 g hb an
 rw[nO]at*
 simp only[pu]at*
 refine dt bk Tryz.func30 Tz (by simp only[b9,I.flat,dZ,eb,of_flat,dB,eI,e8,fa,aT7]) rfl ?_
 unfold JD Pg
 simp(disch:=omega)only[go_sem,simprocAttr]
 refine ap ?_
 refine D.P (aj) ?_
 generalize pt x=b at*
 cases b
 ·refine ap ?_
  exact D.rx
 ·refine ap ?_
  refine D.P (aq) ?_
  refine ap ?_
  exact D.rx
end
section
set_option maxRecDepth 1000000
attribute [local go_sem] au.di ao.di au.cQ ao.cQ ca dB gz ht eb of_flat bQ.row dZ k7 hQ
attribute [local go_sem] fS fz fy fR e8 fa eI dv Fd.row ep eN cG.row et.row bS.row uR w0 px vq tb gw.row
def l7:cI:=⟨[80],[[97],[98]],[⟨[109],[],0,[],[]⟩],2,0,1,[⟨0,0,1,0,1,false⟩],[]⟩
end
section
def Rv (p q:Nat) (l:List gw):Prop:=∀i∈l,i.op≠24∧(i.op=19∨i.op=20∨i.op=22→(p:Int)≤i.n∧i.n≤(q:Int))
inductive Cj:Nat→List Int→List gw→Prop
 |nil {p:Nat}:Cj p [] []
 |cons {p:Nat}{body:List gw}{E:List Int}{c:List gw}(h:Rv p (p+body.length) body) (t:Cj (p+(body.length+1)) E c):Cj p ((p:Int)::E) (body++ins 24 0::c)
end
section
attribute [local go_sem] au.di ao.di au.cQ ao.cQ ca dB gz ht eb of_flat bQ.row dZ k7 hQ
attribute [local go_sem] fS fz fy fR e8 fa eI dv Fd.row ep eN cG.row et.row bS.row uR w0 px vq tb gw.row
theorem V4 {x:c9}(h:pt x=true):x.vars.length≤60∧x.an.length≤60∧x.os.length≤60:=by
 unfold pt at h
 cases a8:ql x.an 0 with
 |none=>rw[a8]at h; cases h
 |some n=>
  rw[a8]at h
  simp only[aT0,decide_eq_true_eq]at h
  exact h.2
def aK0:bQ:=⟨[122,122,122,122,122,122,122,122,122,122,122,122,122,122,122,122],1,0,1,1,0,[]⟩
theorem Rr (l:List bQ):eD (l.map bQ.row++[[.str [122,122,122,122,122,122,122,122,122,122,122,122,122,122,122,122],.int .i64 1,.int .i64 0,.int .i64 1,.int .i64 1,.int .i64 0,.str []]])=true:=by
 have h:=dZ (l++[aK0])
 rw[List.map_append]at h
 exact h
attribute [local go_sem] Rr
end
section
theorem Zs {x y:c9}{g:cI}{r:Int}{ps:Option (List (bT×Int))}(ad:x.vars=y.vars) (k:Int) (o m:bT) (bx:List Int):rF ⟨x,g,r,ps⟩ k o m bx=rF ⟨y,g,r,ps⟩ k o m bx:=by
 unfold rF rI dT.look
 simp only[ad]
mutual
theorem yJ {x y:c9}{g:cI}{r:Int}{ps:Option (List (bT×Int))}(ad:x.vars=y.vars): ∀e:au,kT ⟨x,g,r,ps⟩ e=kT ⟨y,g,r,ps⟩ e
 | .mk k o m t n l=>by
  simp only[kT,L3 ad l,Zs ad]
theorem L3 {x y:c9}{g:cI}{r:Int}{ps:Option (List (bT×Int))}(ad:x.vars=y.vars): ∀l:List au,mf ⟨x,g,r,ps⟩ l=mf ⟨y,g,r,ps⟩ l
 |[]=>by simp only[mf]
 |e::l=>by simp only[mf,yJ ad e,L3 ad l]
end
theorem RR {x y:c9}{g:cI}{r:Int}{ps:Option (List (bT×Int))}(ad:x.vars=y.vars) (n:bT) (e:au):s5 ⟨x,g,r,ps⟩ n e=s5 ⟨y,g,r,ps⟩ n e:=by
 simp only[s5,yJ ad e,dT.look,ad]
mutual
theorem av7 {x y:c9}{g:cI}{r:Int}{ps:Option (List (bT×Int))}(ad:x.vars=y.vars): ∀s:ao,sQ ⟨x,g,r,ps⟩ s=sQ ⟨y,g,r,ps⟩ s
 | .mk k m e t a b=>by
  simp only[sQ,RR ad,yJ ad e,BX ad a,BX ad b]
theorem BX {x y:c9}{g:cI}{r:Int}{ps:Option (List (bT×Int))}(ad:x.vars=y.vars): ∀l:List ao,kH ⟨x,g,r,ps⟩ l=kH ⟨y,g,r,ps⟩ l
 |[]=>by simp only[kH]
 |s::l=>by simp only[kH,av7 ad s,BX ad l]
end
theorem WY {x y:c9}{g:cI}{r:Int}{ps:Option (List (bT×Int))}(ad:x.vars=y.vars) (a:List bK) (h:bK):ma ⟨x,g,r,ps⟩ a h=ma ⟨y,g,r,ps⟩ a h:=by
 simp only[ma,sD,BX ad h.body,ad]
theorem GY {x y:c9}{g:cI}{r:Int}{ps:Option (List (bT×Int))}(ad:x.vars=y.vars) (m:bT): ∀(l:List au) (b6:List Fd),nk ⟨x,g,r,ps⟩ m l b6=nk ⟨y,g,r,ps⟩ m l b6
 |[],_=>by simp only[nk]
 | _:: _,[]=>by simp only[nk]
 |e::l,f::b6=>by simp only[nk,yJ ad e,GY ad m l b6]
theorem Q8 {x y:c9}{g:cI}{r:Int}{ps:Option (List (bT×Int))}(ad:x.vars=y.vars): ∀(l:List au),o9 ⟨x,g,r,ps⟩ l=o9 ⟨y,g,r,ps⟩ l
 |[]=>by simp only[o9]
 |e::l=>by simp only[o9,yJ ad e,Q8 ad l]
theorem ab5 {x y:c9}{g:cI}{r:Int}{ps:Option (List (bT×Int))}(ad:x.vars=y.vars) (o:cC):pG ⟨x,g,r,ps⟩ o=pG ⟨y,g,r,ps⟩ o:=by
 simp only[pG,sD,GY ad,Q8 ad]
theorem q8 {α β:Type}{r:c7 α}{f:α→c7 β}{b:β}:r.bind f= .ok b↔ ∃a,r= .ok a∧f a= .ok b:=
 ⟨c7.xR,fun⟨a,h1,J⟩=>by rw[h1]; exact J⟩
theorem EB {b:Bool}{n:bT}{e:Int}{u:Unit}:e5 b n e= .ok u↔b=true:=
 ⟨Bj,fun h=>by unfold e5; rw[if_pos h]⟩
def wh (o h:bK):Prop:=o.dw=h.dw∧o.peer=h.peer
theorem WW (aS:dT) (a:List bK) (h:bK):ma aS a h= .ok ()↔ma aS [] h= .ok ()∧∀o∈a,¬wh o h:=by
 have eE:(!a.any fun o=>decide (o.dw=h.dw)&&decide (o.peer=h.peer))=true↔ ∀o∈a,¬wh o h:=by
  rw[Bool.not_eq_true',Bool.eq_false_iff,ne_eq,List.any_eq_true]
  simp only[aT0,decide_eq_true_eq,wh]
  constructor
  ·intro k o af ah; exact k ⟨o,af,ah⟩
  ·rintro k ⟨o,af,ah⟩; exact k o af ah
 unfold ma
 constructor
 ·intro k
  obtain⟨d,br,k⟩:=q8.1 k
  obtain⟨_,bA,k⟩:=q8.1 k
  exact⟨q8.2 ⟨d,br,q8.2 ⟨(),EB.2 rfl,k⟩⟩,eE.1 (EB.1 bA)⟩
 ·rintro⟨k,cy⟩
  obtain⟨d,br,k⟩:=q8.1 k
  obtain⟨_,bA,k⟩:=q8.1 k
  exact q8.2 ⟨d,br,q8.2 ⟨(),EB.2 (eE.2 cy),k⟩⟩
theorem DS (aS:dT): ∀(l a:List bK),n5 aS a l= .ok ()↔(∀h∈l,ma aS [] h= .ok ())∧(∀h∈l,∀o∈a,¬wh o h)∧l.Pairwise (fun o h=> ¬wh o h)
 |[],a=>by simp [n5]
 |x::l,a=>by
  have b8:=DS aS l (a++[x])
  have U:=WW aS a x
  simp only[n5,q8]
  constructor
  ·rintro⟨_,br,bA⟩
   obtain⟨cy,eR⟩:=U.1 br
   obtain⟨gT,sA,yH⟩:=b8.1 bA
   refine⟨fun h hm=> ?_,fun h hm o af=> ?_,List.pairwise_cons.2 ⟨fun h hm=>sA h hm x (by simp),yH⟩⟩
   ·rcases List.mem_cons.1 hm with rfl|hm
    ·exact cy
    ·exact gT h hm
   ·rcases List.mem_cons.1 hm with rfl|hm
    ·exact eR o af
    ·exact sA h hm o (by simp [af])
  ·rintro⟨br,bA,cy⟩
   obtain⟨eR,gT⟩:=List.pairwise_cons.1 cy
   refine⟨(),U.2 ⟨br x (by simp),bA x (by simp)⟩,b8.2 ⟨fun h hm=>br h (by simp [hm]),fun h hm o af=> ?_,gT⟩⟩
   rcases List.mem_append.1 af with af|af
   ·exact bA h (by simp [hm]) o af
   ·rw[List.mem_singleton.1 af]
    exact eR h hm
theorem EQ (aS:dT): ∀(l:List cC),oo aS l= .ok ()↔ ∀o∈l,pG aS o= .ok ()
 |[]=>by simp [oo]
 |x::l=>by
  have b8:=EQ aS l
  simp only[oo,q8]
  constructor
  ·rintro⟨_,br,bA⟩ o af
   rcases List.mem_cons.1 af with rfl|af
   ·exact br
   ·exact b8.1 bA o af
  ·intro k
   exact⟨(),k x (by simp),b8.2 fun o af=>k o (by simp [af])⟩
def _root_.Go.aX.c9.sub (x:c9) (an:List bK) (os:List cC):c9:=⟨x.name,x.role,x.gh,x.vars,an,os⟩
end
section
set_option maxRecDepth 1000000
attribute [local go_sem] au.di ao.di au.cQ ao.cQ ca dB gz ht eb of_flat bQ.row dZ k7 hQ
attribute [local go_sem] fS fz fy fR e8 fa eI dv Fd.row ep eN cG.row et.row bS.row uR w0 px vq tb gw.row
theorem aH7 (l:List (Int×Int×Int)) (aE:l.length≤1000000000):Pure aS9 35 [.ak 3 (l.map px),.ak 3 (l.map px)] (.bool true):=by
 refine dt bk Tryz.func35 TR (by simp only[b9,I.flat,uR,aT7]) rfl ?_
 unfold wo Pz
 have jv:((l.map px).length:Int)=(l.length:Int):=by rw[aT1]
 simp(disch:=omega)only[go_sem,simprocAttr]
 (have ax:=jv;refine bI ?_;clear ax)
 refine ay.dq (X:=Nat) 0 (fun i=>[(0,.ak 3 (l.map px)),(1,.ak 3 (l.map px)),(5,.int .i64 (i:Int))]) (fun _=>[]) (fun _=>[]) (fun i=>i≤l.length) (fun i=>l.length-i) (aT8 _) ⟨rfl,rfl,rfl,trivial⟩ trivial trivial ?_
 intro i ae
 try simp only at ae ⊢
 cases ad:l[i]? with
 |some v=>
  have cL:=(List.getElem?_eq_some_iff.1 ad).1
  have d1:(i:Int)<(l.length:Int):=by omega
  (have ax:=jv;have z2:=d1;refine fX ?_;clear ax z2)
  refine ay.fH (i+1) (by omega) ⟨rfl,rfl,by simp only[aT5]; rfl,trivial⟩ trivial trivial rfl rfl (by show l.length-(i+1)<l.length-i; omega)
 |none=>
  have ck:=List.getElem?_eq_none_iff.1 ad
  have d1: ¬(i:Int)<(l.length:Int):=by omega
  (have ax:=jv;have z2:=d1;refine fX ?_;clear ax z2)
  exact D.rx
end
section
set_option maxRecDepth 1000000
attribute [local go_sem] au.di ao.di au.cQ ao.cQ ca dB gz ht eb of_flat bQ.row dZ k7 hQ
attribute [local go_sem] fS fz fy fR e8 fa eI dv Fd.row ep eN cG.row et.row bS.row uR w0 px vq tb gw.row
def uc:c9:=⟨[83],[98],[80],[],[⟨[109],[97],[[120]],[.mk 1 [120] (.mk 1 [] [] [] 1 []) 0 [] []]⟩],[]⟩
def pR:c9:=⟨[83],[98],[80],[],[],[]⟩
def gR:cI:=⟨[80],[[97],[98]],[⟨[109],[⟨[120],1,0,9⟩],0,[],[]⟩],2,0,1,[⟨0,0,1,0,1,false⟩],[]⟩
theorem aw4:pV uc:=by
 refine⟨fun h hm=> ?_,fun h hm=> ?_,(fun o hm=>by cases hm),by decide,by decide,by decide⟩
 all_goals
  simp only[uc,aV8,aY4,or_false]at hm
  subst hm
  decide
theorem QB:pV pR:=⟨(fun h hm=>by cases hm),(fun h hm=>by cases hm),(fun o hm=>by cases hm),by decide,by decide,by decide⟩
theorem DF:pc gR:=by
 refine⟨by decide,by decide,by decide,by decide,fun d hm=> ?_⟩
 simp only[gR,aV8,aY4,or_false]at hm
 subst hm
 decide
theorem ac0:uc.ok 1000:=by
 refine⟨by decide,by decide,by decide,by decide,(fun v ad=>by cases ad),by decide,?_,by decide,(fun v ad=>by cases ad)⟩
 intro v ad
 rw[List.mem_singleton.1 ad]
 exact⟨by decide,by decide,by decide,by decide,by decide,⟨rfl,by decide,⟨rfl,by decide,by decide,by decide,rfl,by decide,trivial⟩,rfl,by decide,by decide,trivial,trivial⟩,trivial⟩
theorem UC:iz uc gR=([120],11):=by kernel_rfl
theorem HK:iz pR gR=([],0):=by kernel_rfl
theorem af9:fF gR.cD [98]=1:=by kernel_rfl
abbrev KD:I:= .agg [.str [80],.ak 1 [[.str [97]],[.str [98]]],.ak 5 [[.str [109],.ak 4 [[.str [120],.int .i64 1,.int .i64 0,.int .i64 9]],.int .i64 0,.bn,.bn]],.int .i64 2,.int .i64 0,.int .i64 1,.ak 6 [[.int .i64 0,.int .i64 0,.int .i64 1,.int .i64 0,.int .i64 1,.bool false]],.bn]
theorem AN:cR KD gR.eU:=
 xO (fc (cR.refl _) (fc (cR.refl _) (fc (Cr (.cons (fc (cR.refl _) (fc (cR.refl _) (fc (cR.refl _) (fc cR.nil (fc cR.nil pZ))))) .nil)) (fc (cR.refl _) (fc (cR.refl _) (fc (cR.refl _) (fc (cR.refl _) (fc cR.nil pZ))))))))
theorem aI8:cR (.agg [.str [83],.str [98],.str [80],.bn,.ak 4 [[.str [109],.str [97],.ak 1 [[.str [120]]],.ak 11 [[.int .i64 1,.str [120],.int .i64 1,.str [],.str [],.str [],.int .i64 1,.bn,.int .i64 0,.bn,.bn]]]],.bn]) uc.eU:=
 xO (fc (cR.refl _) (fc (cR.refl _) (fc (cR.refl _) (fc cR.nil (fc (Cr (.cons (fc (cR.refl _) (fc (cR.refl _) (fc (cR.refl _) (fc (Cr (.cons (fc (cR.refl _) (fc (cR.refl _) (fc (cR.refl _) (fc (cR.refl _) (fc (cR.refl _) (fc (cR.refl _) (fc (cR.refl _) (fc cR.nil (fc (cR.refl _) (fc cR.nil (fc cR.nil pZ))))))))))) .nil)) pZ)))) .nil)) (fc cR.nil pZ))))))
end
section
def o7 (x:c9) (n:bT):Bool:=x.vars.any (fun w=>decide (w.name=n))||x.an.any (fun h=>h.ps.any fun p=>decide (p=n))
end
section
attribute [local go_sem] au.di ao.di au.cQ ao.cQ ca dB gz ht eb of_flat bQ.row dZ k7 hQ
attribute [local go_sem] fS fz fy fR e8 fa eI dv Fd.row ep eN cG.row et.row bS.row Rr
theorem Cq {α:Type}(f:α→Bool){l:List α}{i:Nat}{v:α}(h:l[i]? =some v):(l.drop i).any f=(f v||(l.drop (i+1)).any f):=by
 rw[fe h,List.any_cons]
theorem aH8 (x:c9) (n:bT) (ad:x.vars.length≤1000000) (a8:x.an.length≤1000000) (hp: ∀h∈x.an,h.ps.length≤1000000):Pure aS9 38 [x.eU,.str n] (.bool (o7 x n)):=by
 obtain⟨R,ac⟩: ∃R,R=o7 x n:=⟨_,rfl⟩
 rw[←ac]
 unfold o7 at ac
 rw[nO]
 have je:((x.vars.map bQ.row).length:Int)=(x.vars.length:Int):=by rw[aT1]
 have xB:((x.an.map bK.row).length:Int)=(x.an.length:Int):=by rw[aT1]
 refine dt bk Tryz.func38 T3 (by simp only[b9,I.flat,dZ,eb,of_flat,aT7]) rfl ?_
 unfold J2 PJ
 simp(disch:=omega)only[go_sem,simprocAttr]
 refine ap ?_
 refine ay.dq (X:=Nat) 0 (fun i=>[(1,.str n),(2,.ptr 0 0),(5,.int .i64 (i:Int))]) (fun _=>[(0,26,[.str x.name,.str x.role,.str x.gh,.ak 7 (x.vars.map bQ.row),.ak 4 (x.an.map bK.row),.ak 4 (x.os.map cC.row)])]) (fun _=>[]) (fun i=>i≤x.vars.length∧R=((x.vars.drop i).any (fun w=>decide (w.name=n))||x.an.any (fun h=>h.ps.any fun p=>decide (p=n)))) (fun i=>x.vars.length-i) ⟨aT8 _,ac⟩ ⟨rfl,rfl,rfl,trivial⟩ ⟨rfl,trivial⟩ trivial ?_
 clear ac
 rintro i ⟨ae,ac⟩
 try simp only at ae ac ⊢
 cases aD:x.vars[i]? with
 |some v=>
  have cL:=(List.getElem?_eq_some_iff.1 aD).1
  have d1:(i:Int)<(x.vars.length:Int):=by omega
  rw[Cq _ aD]at ac
  by_cases bb:v.name=n
  ·rw[decide_eq_true bb]at ac
   (have ax:=je;have z2:=d1;have z3:=bb;refine fY ?_;clear ax z2 z3)
   refine D.r ?_
   exact⟨_,rfl,.aQ (by rw[ac]; rfl) rfl,trivial,trivial⟩
  ·rw[decide_eq_false bb,ba8]at ac
   (have ax:=je;have z2:=d1;have z3:=bb;refine fY ?_;clear ax z2 z3)
   refine ay.fH (i+1) ⟨by omega,ac⟩ ⟨rfl,rfl,by simp only[aT5]; rfl,trivial⟩ ⟨rfl,trivial⟩ trivial rfl rfl (by show x.vars.length-(i+1)<x.vars.length-i; omega)
 |none=>
 have ck:=List.getElem?_eq_none_iff.1 aD
 have d1: ¬(i:Int)<(x.vars.length:Int):=by omega
 rw[aT9 ck,List.any_nil,ba8]at ac
 (have ax:=je;have z2:=d1;refine fX ?_;clear ax z2)
 refine ay.dq (X:=Nat) 0 (fun i=>[(1,.str n),(2,.ptr 0 0),(6,.int .i64 (i:Int))]) (fun _=>[(0,26,[.str x.name,.str x.role,.str x.gh,.ak 7 (x.vars.map bQ.row),.ak 4 (x.an.map bK.row),.ak 4 (x.os.map cC.row)])]) (fun _=>[]) (fun i=>i≤x.an.length∧R=(x.an.drop i).any (fun h=>h.ps.any fun p=>decide (p=n))) (fun i=>x.an.length-i) ⟨aT8 _,ac⟩ ⟨rfl,rfl,rfl,trivial⟩ ⟨rfl,trivial⟩ trivial ?_
 clear ac ck aD d1 ae
 rintro i ⟨ae,ac⟩
 try simp only at ae ac ⊢
 cases aD:x.an[i]? with
 |some h=>
  have cL:=(List.getElem?_eq_some_iff.1 aD).1
  have aN5:=hp h (List.mem_of_getElem? aD)
  have d1:(i:Int)<(x.an.length:Int):=by omega
  have r0:((h.ps.map ca).length:Int)=(h.ps.length:Int):=by rw[aT1]
  rw[Cq _ aD]at ac
  (have ax:=xB;have z2:=d1;refine fX ?_;clear ax z2)
  refine ay.dq (X:=Nat) 0 (fun k=>[(1,.str n),(2,.ptr 0 0),(6,.int .i64 (i:Int)),(7,.int .i64 (k:Int))]) (fun _=>[(0,26,[.str x.name,.str x.role,.str x.gh,.ak 7 (x.vars.map bQ.row),.ak 4 (x.an.map bK.row),.ak 4 (x.os.map cC.row)])]) (fun _=>[]) (fun k=>k≤h.ps.length∧R=((h.ps.drop k).any (fun p=>decide (p=n))||(x.an.drop (i+1)).any (fun h=>h.ps.any fun p=>decide (p=n)))) (fun k=>h.ps.length-k) ⟨aT8 _,ac⟩ ⟨rfl,rfl,rfl,rfl,trivial⟩ ⟨rfl,trivial⟩ trivial ?_
  clear ac
  rintro k ⟨hk,ac⟩
  try simp only at hk ac ⊢
  cases hw:h.ps[k]? with
  |some p=>
   have XG:=(List.getElem?_eq_some_iff.1 hw).1
   have d2:(k:Int)<(h.ps.length:Int):=by omega
   rw[Cq _ hw]at ac
   by_cases bb:p=n
   ·rw[decide_eq_true bb]at ac
    (have ax:=r0;have z2:=d2;have z3:=bb;refine fY ?_;clear ax z2 z3)
    refine D.r ?_
    exact⟨_,rfl,.aQ (by rw[ac]; rfl) rfl,trivial,trivial⟩
   ·rw[decide_eq_false bb,ba8]at ac
    (have ax:=r0;have z2:=d2;have z3:=bb;refine fY ?_;clear ax z2 z3)
    refine ay.fH (k+1) ⟨by omega,ac⟩ ⟨rfl,rfl,rfl,by simp only[aT5]; rfl,trivial⟩ ⟨rfl,trivial⟩ trivial rfl rfl (by show h.ps.length-(k+1)<h.ps.length-k; omega)
  |none=>
   have Xp:=List.getElem?_eq_none_iff.1 hw
   have d2: ¬(k:Int)<(h.ps.length:Int):=by omega
   rw[aT9 Xp,List.any_nil,ba8]at ac
   (have ax:=r0;have z2:=d2;refine fX ?_;clear ax z2)
   refine ay.fH (i+1) ⟨by omega,ac⟩ ⟨rfl,rfl,by simp only[aT5]; rfl,trivial⟩ ⟨rfl,trivial⟩ trivial rfl rfl (by show x.an.length-(i+1)<x.an.length-i; omega)
 |none=>
 have ck:=List.getElem?_eq_none_iff.1 aD
 have d1: ¬(i:Int)<(x.an.length:Int):=by omega
 rw[aT9 ck,List.any_nil]at ac
 (have ax:=xB;have z2:=d1;refine fX ?_;clear ax z2)
 refine D.r ?_
 exact⟨_,rfl,.aQ (by rw[ac]; rfl) rfl,trivial,trivial⟩
end
end Go.aX.T.N
