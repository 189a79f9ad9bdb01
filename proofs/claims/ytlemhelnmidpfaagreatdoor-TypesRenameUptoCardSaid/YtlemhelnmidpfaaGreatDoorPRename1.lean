/- Part of a proof; own work. -/
import Derived.Test.YtlemhelnmidpfaaGreatDoorPRename
set_option linter.unusedVariables false
set_option linter.unusedSimpArgs false
set_option maxHeartbeats 16000000
open List renaming length_append→bb7,length_drop→bl7,length_take→be9,length_nil→bc4,length_map→bb5,length_cons→bb9
open Nat renaming le_of_ble_eq_true→bh6,reduceBEq→bl3,reduceAdd→bl4
namespace Go.ba
open Go Go.ba.T.N
theorem wm {a:Int}(aW: -9223372036854775808≤a) (U:a<9223372036854775808):IntKind.i64.wrap a=a:=by
 simp only[IntKind.wrap,IntKind.bits,IntKind.signed]
 simp
 omega
mutual
theorem au.AJ: ∀x:au,x.cv≤100000000→x.am=(x.cv:Int)-1
 | .mk _ _ _ _ _ l,h=>by
  simp only[au.cv]at h
  have aG:=au.ic l
  simp only[au.am,au.cv]
  rw[au.sj l (l.length:Int) (by omega) (by omega) (by omega)]
  omega
theorem au.sj: ∀(l:List au) (n:Int),au.ch l≤100000000→0≤n→n+(au.ch l:Int)≤1000000000000→au.iQ l n=n+((au.ch l:Int)-l.length)
 |[],n,_,_,_=>by simp [au.iQ,au.ch]
 |x::l,n,h,aW,U=>by
  simp only[au.ch]at h U
  have hp:1≤x.cv:=by cases x; simp only[au.cv]; omega
  rw[au.iQ,au.AJ x (by omega),wm (by omega) (by omega),au.sj l _ (by omega) (by omega) (by omega)]
  simp only[au.ch,List.length_cons]
  omega
end
mutual
theorem ai.AJ: ∀x:ai,x.cv≤100000000→x.am=(x.cv:Int)-1
 | .mk _ _ x _ a b,h=>by
  simp only[ai.cv]at h
  have hp:1≤x.cv:=by cases x; simp only[au.cv]; omega
  have aS:=ai.ic a
  have hb:=ai.ic b
  simp only[ai.am,ai.cv]
  rw[au.AJ x (by omega),ai.sj a (a.length:Int) (by omega) (by omega) (by omega),ai.sj b (b.length:Int) (by omega) (by omega) (by omega),wm (a:=1+ _) (by omega) (by omega),wm (a:=1+ _+ _) (by omega) (by omega),wm (by omega) (by omega)]
  omega
theorem ai.sj: ∀(l:List ai) (n:Int),ai.ch l≤100000000→0≤n→n+(ai.ch l:Int)≤1000000000000→ai.iQ l n=n+((ai.ch l:Int)-l.length)
 |[],n,_,_,_=>by simp [ai.iQ,ai.ch]
 |x::l,n,h,aW,U=>by
  simp only[ai.ch]at h U
  have hp:1≤x.cv:=by cases x; simp only[ai.cv]; omega
  rw[ai.iQ,ai.AJ x (by omega),wm (by omega) (by omega),ai.sj l _ (by omega) (by omega) (by omega)]
  simp only[ai.ch,List.length_cons]
  omega
end
def pv:List bS→Nat
 |[]=>0
 |h::l=>ai.ch h.body+pv l
def pw:List cn→Nat
 |[]=>0
 |o::l=>au.ch o.args+au.ch o.eb+pw l
theorem Mi: ∀(l:List bS) (n:Int) (z:Int),pv l≤100000000→0≤n→n+(pv l:Int)≤1000000000000→qB l n=some z→z=n+pv l∧∀h∈l,h.ps.length≤60∧ai.ch h.body≤pv l
 |[],n,z,_,_,_,h=>by
  simp only[qB,Option.some.injEq]at h
  simp [pv,h]
 |h::l,n,z,ao,aW,U,aT=>by
  simp only[pv]at ao U
  simp only[qB]at aT
  by_cases hp:60<h.ps.length
  ·rw[if_pos hp]at aT; cases aT
  rw[if_neg hp]at aT
  have aG:=ai.ic h.body
  rw[ai.sj h.body (h.body.length:Int) (by omega) (by omega) (by omega),wm (by omega) (by omega)]at aT
  obtain⟨e,k⟩:=Mi l _ z (by omega) (by omega) (by omega) aT
  refine⟨by simp only[pv]; omega,fun g bo=> ?_⟩
  simp only[pv]
  rcases List.mem_cons.1 bo with rfl|bo
  ·exact⟨by omega,by omega⟩
  ·have:=k g bo
   exact⟨this.1,by omega⟩
theorem Mj: ∀(l:List cn) (n:Int),pw l≤100000000→0≤n→n+(pw l:Int)≤1000000000000→rC l n=n+pw l
 |[],n,_,_,_=>by simp [rC,pw]
 |o::l,n,ao,aW,U=>by
  simp only[pw]at ao U
  have aS:=au.ic o.args
  have hb:=au.ic o.eb
  rw[rC,au.sj o.args (o.args.length:Int) (by omega) (by omega) (by omega),au.sj o.eb (o.eb.length:Int) (by omega) (by omega) (by omega)]
  simp (disch:=omega) only[wm]
  rw[Mj l _ (by omega) (by omega) (by omega)]
  simp only[pw]
  omega
theorem SY: ∀ {l:List cn}{o:cn},o∈l→au.ch o.args+au.ch o.eb≤pw l
 |p::l,o,h=>by
  simp only[pw]
  rcases List.mem_cons.1 h with rfl|h
  ·omega
  ·have:=SY h; omega
theorem YX {x:cQ}(U:pv x.ao≤100000000) (aa:pw x.os≤100000000) (aT:pU x=true):oX x:=by
 unfold pU at aT
 cases a6:qB x.ao 0 with
 |none=>rw[a6]at aT; cases aT
 |some n=>
  rw[a6]at aT
  obtain⟨e,k⟩:=Mi x.ao 0 n U (by omega) (by omega) a6
  simp only[Bool.and_eq_true,decide_eq_true_eq]at aT
  rw[Mj x.os n aa (by omega) (by omega)]at aT
  obtain⟨f1,f2,f3,f4⟩:=aT
  exact⟨fun h hm=>by have:=(k h hm).2; omega,fun h hm=>by have:=(k h hm).1; omega,fun o hm=>by have:=SY hm; omega,by omega,by omega,by omega⟩
theorem SW: ∀l:List bS,pv l≤kQ (l.map bS.row)
 |[]=>by simp [pv]
 |h::l=>by
  have:=SW l
  have:=ai.sk h.body
  simp only[pv,List.map_cons,kQ,bS.row,fk,I.ks]
  omega
theorem SX: ∀l:List cn,pw l≤kQ (l.map cn.row)
 |[]=>by simp [pw]
 |o::l=>by
  have:=SX l
  have:=au.sk o.args
  have:=au.sk o.eb
  simp only[pw,List.map_cons,kQ,cn.row,fk,I.ks]
  omega
theorem UQ {x:cQ}(h:fk x.cells≤100000000) (aT:pU x=true):oX x:=by
 have U:=SW x.ao
 have aa:=SX x.os
 simp only[cQ.cells,fk,I.ks]at h
 exact YX (by omega) (by omega) aT
end Go.ba
namespace Go.ba.T.N
open Go Go.ba Go.Proofs Go.RowKit
set_option maxRecDepth 100000
attribute [local irreducible] Go.ba.ar Go.ba.al Go.ba.bg
section
attribute [local go_sem] au.cO ai.cO au.cx ai.cx cf dn fo gv dF of_flat bJ.row dW fX io
attribute [local go_sem] hE gz gy hB fK fZ e9 dM Fd.row eX fi df.row fc.row cj.row
def lM:List cj→Nat
 |[]=>0
 |d::l=>d.fields.length+d.fa.length+d.eqs.length+lM l
def Br (l:List cj):Bool:=decide (l.length≤60)&&decide (lM l≤100)
def tH (g:di):Bool:=decide (g.jA≤40)&&(decide (g.cD.length≤80)&&(decide (g.jm.length≤40)&&(decide (g.dl.length≤10)&&Br g.decls)))
theorem aO5 {l:List cj}{i:Nat}{d:cj}(h:l[i]? =some d):lM (l.take (i+1))=lM (l.take i)+(d.fields.length+d.fa.length+d.eqs.length):=by
 rw[List.take_add_one,h]
 generalize l.take i=m
 induction m with
 |nil=>simp [lM]
 |cons x m b7=>simp only[List.cons_append,lM,b7]; omega
theorem aO6 (l:List cj) (i:Nat):lM (l.take i)≤lM l:=by
 induction l generalizing i with
 |nil=>simp [lM]
 |cons x l b7=>
  cases i with
  |zero=>simp [lM]
  |succ i=>
   have:=b7 i
   simp only[List.take_succ_cons,lM]
   omega
theorem aX2 (l:List cj) (aG:l.length≤1000000000) (ao:lM l≤1000000000):Pure Tryz.prog 120 [.aq 5 (l.map cj.row)] (.bool (Br l)):=by
 refine cw be Tryz.func120 Vc (by simp only[b2,I.flat,e9,Bool.and_self]) rfl ?_
 unfold Kc Qh
 have iD:((l.map cj.row).length:Int)=(l.length:Int):=by rw[List.length_map]
 simp(disch:=omega)only[go_sem,simprocAttr]
 refine ak ?_
 refine ar.cU (X:=Nat) 0 (fun i=>[(0,.aq 5 (l.map cj.row)),(3,.int .i64 (lM (l.take i):Int)),(4,.int .i64 (i:Int))]) (fun _=>[]) (fun _=>[]) (fun i=>i≤l.length) (fun i=>l.length-i) (Nat.zero_le _) ⟨rfl,rfl,rfl,trivial⟩ trivial trivial ?_
 intro i af
 try simp only at af ⊢
 cases ad:l[i]? with
 |some d=>
  have cz:=(List.getElem?_eq_some_iff.1 ad).1
  have d1:(i:Int)<(l.length:Int):=by omega
  have s1:=aO5 ad
  have s2:=aO6 l (i+1)
  have se:((d.fields.map Fd.row).length:Int)=(d.fields.length:Int):=by rw[List.length_map]
  have nk:((d.fa.map eX).length:Int)=(d.fa.length:Int):=by rw[List.length_map]
  have de:((d.eqs.map fi).length:Int)=(d.eqs.length:Int):=by rw[List.length_map]
  generalize j1:lM (l.take (i+1))=S at s1 s2
  (have ae:=iD;have z2:=d1;have z3:=And.intro se (And.intro nk de);refine ep ?_;clear ae z2 z3)
  refine ar.eC (i+1) (by omega) ⟨rfl,by simp only[Env.get,j1]; rw[s1]; simp only[Int.natCast_add,Int.add_assoc]<;>rfl,by simp only[Int.natCast_add]; rfl,trivial⟩ trivial trivial rfl rfl (by show l.length-(i+1)<l.length-i; omega)
 |none=>
  have b4:=List.getElem?_eq_none_iff.1 ad
  have e:i=l.length:=by omega
  subst e
  have d1: ¬(l.length:Int)<(l.length:Int):=by omega
  simp only[List.take_length]
  by_cases U:l.length≤60
  ·have d2:(l.length:Int)≤60:=by omega
   (have ae:=iD;have z2:=d1;have z3:=d2;refine ep ?_;clear ae z2 z3)
   refine D.r ?_
   refine⟨_,rfl,.aF ?_ rfl,trivial,trivial⟩
   simp only[Br,decide_eq_true U,Bool.true_and,I.aF]
   congr 1
   exact decide_eq_decide.2 (by omega)
  ·have d2: ¬(l.length:Int)≤60:=by omega
   (have ae:=iD;have z2:=d1;have z3:=d2;refine ep ?_;clear ae z2 z3)
   refine D.r ?_
   refine⟨_,rfl,.aF ?_ rfl,trivial,trivial⟩
   simp only[Br,decide_eq_false U,Bool.false_and,I.aF]
theorem Iz: ∀(l:List (List I)),(∀r∈l,1≤fk r)→l.length≤kQ l
 |[],_=>Nat.zero_le _
 |r::l,h=>by
  have U:=h r (by simp)
  have aa:=Iz l fun x ab=>h x (by simp [ab])
  simp only[List.length_cons,kQ]
  omega
theorem uY {α:Type}(f:α→List I) (aT: ∀a,1≤fk (f a)) (l:List α):l.length≤kQ (l.map f):=by
 have:=Iz (l.map f) (by intro r ac; obtain⟨a,_,rfl⟩:=List.mem_map.1 ac; exact aT a)
 simpa using this
theorem IA: ∀ {l:List (List I)}{r:List I},r∈l→fk r≤kQ l
 |x::l,r,h=>by
  simp only[kQ]
  rcases List.mem_cons.1 h with rfl|h
  ·omega
  ·have:=IA h; omega
theorem JI (d:cj):d.fields.length+d.fa.length+d.eqs.length≤fk d.row:=by
 have U:=uY Fd.row (fun f=>by simp only[Fd.row,fk,I.ks]; omega) d.fields
 have aa:=uY eX (fun f=>by simp only[eX,fk,I.ks]; omega) d.fa
 have aD:=uY fi (fun f=>by simp only[fi,fk,I.ks]; omega) d.eqs
 simp only[cj.row,fk,I.ks]
 omega
theorem SV: ∀l:List cj,lM l≤kQ (l.map cj.row)
 |[]=>by simp [lM]
 |d::l=>by
  have U:=JI d
  have aa:=SV l
  simp only[lM,List.map_cons,kQ]
  omega
theorem Zh {g:di}(h:fk g.cells≤100000000):qi g∧lM g.decls≤100000000:=by
 have U:=uY cf (fun f=>by simp only[cf,fk,I.ks]; omega) g.dl
 have aa:=uY cj.row (fun f=>by simp only[cj.row,fk,I.ks]; omega) g.decls
 have aD:=uY df.row (fun f=>by simp only[df.row,fk,I.ks]; omega) g.cD
 have bA:=uY fc.row (fun f=>by simp only[fc.row,fk,I.ks]; omega) g.jm
 have b6:=SV g.decls
 simp only[di.cells,fk,I.ks]at h
 refine⟨⟨by omega,by omega,by omega,by omega,fun d bG=> ?_⟩,by omega⟩
 have br:=IA (List.mem_map_of_mem (f:=cj.row) bG)
 have bB:=JI d
 omega
theorem aY7 (g:di) (hb:qi g) (ao:lM g.decls≤1000000000):Pure Tryz.prog 45 [g.eL] (.bool (tH g)):=by
 have ap:=aX2 g.decls hb.FJ ao
 rw[rI]
 have de:((g.cD.map df.row).length:Int)=(g.cD.length:Int):=by rw[List.length_map]
 have nM:((g.jm.map fc.row).length:Int)=(g.jm.length:Int):=by rw[List.length_map]
 have q7:((g.dl.map cf).length:Int)=(g.dl.length:Int):=by rw[List.length_map]
 refine cw be Tryz.func45 W3 (by simp only[b2,I.flat,dn,e9,fK,fZ,Bool.and_self]) rfl ?_
 unfold LX R8
 by_cases U:g.jA≤40
 rotate_left
 ·simp(disch:=omega)only[go_sem,simprocAttr]
  (have ae:=U;refine bt ?_;clear ae)
  refine D.r ?_
  exact⟨_,rfl,.aF (by simp only[tH,decide_eq_false U,Bool.false_and,I.aF]) rfl,trivial,trivial⟩
 by_cases aa:g.cD.length≤80
 rotate_left
 ·have d2: ¬(g.cD.length:Int)≤80:=by omega
  simp(disch:=omega)only[go_sem,simprocAttr]
  (have ae:=U;have z2:=de;have z3:=d2;refine ep ?_;clear ae z2 z3)
  refine D.r ?_
  exact⟨_,rfl,.aF (by simp only[tH,decide_eq_false aa,Bool.false_and,Bool.and_false,I.aF]) rfl,trivial,trivial⟩
 have d2:(g.cD.length:Int)≤80:=by omega
 by_cases aD:g.jm.length≤40
 rotate_left
 ·have d3: ¬(g.jm.length:Int)≤40:=by omega
  simp(disch:=omega)only[go_sem,simprocAttr]
  (have ae:=U;have z2:=de;have z3:=And.intro d2 (And.intro nM d3);refine ep ?_;clear ae z2 z3)
  refine D.r ?_
  exact⟨_,rfl,.aF (by simp only[tH,decide_eq_false aD,Bool.false_and,Bool.and_false,I.aF]) rfl,trivial,trivial⟩
 have d3:(g.jm.length:Int)≤40:=by omega
 by_cases bA:g.dl.length≤10
 rotate_left
 ·have d4: ¬(g.dl.length:Int)≤10:=by omega
  simp(disch:=omega)only[go_sem,simprocAttr]
  (have ae:=U;have z2:=de;have z3:=And.intro d2 (And.intro nM (And.intro d3 (And.intro q7 d4)));refine ep ?_;clear ae z2 z3)
  refine D.r ?_
  exact⟨_,rfl,.aF (by simp only[tH,decide_eq_false bA,Bool.false_and,Bool.and_false,I.aF]) rfl,trivial,trivial⟩
 have d4:(g.dl.length:Int)≤10:=by omega
 simp(disch:=omega)only[go_sem,simprocAttr]
 (have ae:=U;have z2:=de;have z3:=And.intro d2 (And.intro nM (And.intro d3 (And.intro q7 d4)));refine ep ?_;clear ae z2 z3)
 refine D.P (ap) ?_
 refine ak ?_
 refine D.r ?_
 exact⟨_,rfl,.aF (by simp only[tH,decide_eq_true U,decide_eq_true aa,decide_eq_true aD,decide_eq_true bA,Bool.true_and,I.aF]) rfl,trivial,trivial⟩
theorem aY2 {R:Nat}(ag:R≤140737488355328) (x:cQ) (g:di) (ab:x.ok R) (hb:qi g) (ao:lM g.decls≤1000000000):Pure Tryz.prog 30 [x.eL,g.eL] (.bool (pU x&&tH g)):=by
 have ap:=aB7 ag x ab
 have ay:=aY7 g hb ao
 rw[oa]at*
 simp only[rI]at*
 refine cw be Tryz.func30 Ws (by simp only[b2,I.flat,dW,dF,of_flat,dn,e9,fK,fZ,Bool.and_self]) rfl ?_
 unfold Lq Rz
 simp(disch:=omega)only[go_sem,simprocAttr]
 refine ak ?_
 refine D.P (ap) ?_
 generalize pU x=b at*
 cases b
 ·refine ak ?_
  exact D.rx
 ·refine ak ?_
  refine D.P (ay) ?_
  refine ak ?_
  exact D.rx
end
section
set_option maxRecDepth 1000000
attribute [local go_sem] au.cO ai.cO au.cx ai.cx cf dn fo gv dF of_flat bJ.row dW fX io
attribute [local go_sem] hE gz gy hB fK fZ e9 dM Fd.row eX fi df.row fc.row cj.row sC xB k7 vQ tt hM.row
def mN:di:=⟨[80],[[97],[98]],[⟨[109],[],0,[],[]⟩],2,0,1,[⟨0,0,1,0,1,false⟩],[]⟩
end
section
def TZ (p q:Nat) (l:List hM):Prop:=∀i∈l,i.op≠24∧(i.op=19∨i.op=20∨i.op=22→(p:Int)≤i.n∧i.n≤(q:Int))
inductive Dd:Nat→List Int→List hM→Prop
 |nil {p:Nat}:Dd p [] []
 |cons {p:Nat}{body:List hM}{E:List Int}{c:List hM}(h:TZ p (p+body.length) body) (t:Dd (p+(body.length+1)) E c):Dd p ((p:Int)::E) (body++ins 24 0::c)
end
section
attribute [local go_sem] au.cO ai.cO au.cx ai.cx cf dn fo gv dF of_flat bJ.row dW fX io
attribute [local go_sem] hE gz gy hB fK fZ e9 dM Fd.row eX fi df.row fc.row cj.row sC xB k7 vQ tt hM.row
theorem YY {x:cQ}(h:pU x=true):x.vars.length≤60∧x.ao.length≤60∧x.os.length≤60:=by
 unfold pU at h
 cases a6:qB x.ao 0 with
 |none=>rw[a6]at h; cases h
 |some n=>
  rw[a6]at h
  simp only[Bool.and_eq_true,decide_eq_true_eq]at h
  exact h.2
def mE:bJ:=⟨[122,122,122,122,122,122,122,122,122,122,122,122,122,122,122,122],1,0,1,1,0,[]⟩
theorem Aw (l:List bJ):eY (l.map bJ.row++[[.str [122,122,122,122,122,122,122,122,122,122,122,122,122,122,122,122],.int .i64 1,.int .i64 0,.int .i64 1,.int .i64 1,.int .i64 0,.str []]])=true:=by
 have h:=dW (l++[mE])
 rw[List.map_append]at h
 exact h
attribute [local go_sem] Aw
end
section
theorem ek {α β:Type}{r:dz α}{f:α→dz β}{b:β}:r.bind f= .ok b↔ ∃a,r= .ok a∧f a= .ok b:=
 ⟨dz.yn,fun⟨a,U,aa⟩=>by rw[U]; exact aa⟩
theorem sQ {b:Bool}{n:bw}{e:Int}{u:Unit}:fS b n e= .ok u↔b=true:=
 ⟨Ca,fun h=>by unfold fS; rw[if_pos h]⟩
def wO (o h:bS):Prop:=o.da=h.da∧o.peer=h.peer
theorem ZU (aV:ef) (a:List bS) (h:bS):mo aV a h= .ok ()↔mo aV [] h= .ok ()∧∀o∈a,¬wO o h:=by
 have dJ:(!a.any fun o=>decide (o.da=h.da)&&decide (o.peer=h.peer))=true↔ ∀o∈a,¬wO o h:=by
  rw[Bool.not_eq_true',Bool.eq_false_iff,ne_eq,List.any_eq_true]
  simp only[Bool.and_eq_true,decide_eq_true_eq,wO]
  constructor
  ·intro k o aj an; exact k ⟨o,aj,an⟩
  ·rintro k ⟨o,aj,an⟩; exact k o aj an
 unfold mo
 constructor
 ·intro k
  obtain⟨d,br,k⟩:=ek.1 k
  obtain⟨_,bB,k⟩:=ek.1 k
  exact⟨ek.2 ⟨d,br,ek.2 ⟨(),sQ.2 rfl,k⟩⟩,dJ.1 (sQ.1 bB)⟩
 ·rintro⟨k,cu⟩
  obtain⟨d,br,k⟩:=ek.1 k
  obtain⟨_,bB,k⟩:=ek.1 k
  exact ek.2 ⟨d,br,ek.2 ⟨(),sQ.2 (dJ.2 cu),k⟩⟩
theorem xd (aV:ef): ∀(l a:List bS),oE aV a l= .ok ()↔(∀h∈l,mo aV [] h= .ok ())∧(∀h∈l,∀o∈a,¬wO o h)∧l.Pairwise (fun o h=> ¬wO o h)
 |[],a=>by simp [oE]
 |x::l,a=>by
  have b7:=xd aV l (a++[x])
  have ab:=ZU aV a x
  simp only[oE,ek]
  constructor
  ·rintro⟨_,br,bB⟩
   obtain⟨cu,eO⟩:=ab.1 br
   obtain⟨hs,pe,vH⟩:=b7.1 bB
   refine⟨fun h hm=> ?_,fun h hm o aj=> ?_,List.pairwise_cons.2 ⟨fun h hm=>pe h hm x (by simp),vH⟩⟩
   ·rcases List.mem_cons.1 hm with rfl|hm
    ·exact cu
    ·exact hs h hm
   ·rcases List.mem_cons.1 hm with rfl|hm
    ·exact eO o aj
    ·exact pe h hm o (by simp [aj])
  ·rintro⟨br,bB,cu⟩
   obtain⟨eO,hs⟩:=List.pairwise_cons.1 cu
   refine⟨(),ab.2 ⟨br x (by simp),bB x (by simp)⟩,b7.2 ⟨fun h hm=>br h (by simp [hm]),fun h hm o aj=> ?_,hs⟩⟩
   rcases List.mem_append.1 aj with aj|aj
   ·exact bB h (by simp [hm]) o aj
   ·rw[List.mem_singleton.1 aj]
    exact eO h hm
theorem zG (aV:ef): ∀(l:List cn),oK aV l= .ok ()↔ ∀o∈l,n7 aV o= .ok ()
 |[]=>by simp [oK]
 |x::l=>by
  have b7:=zG aV l
  simp only[oK,ek]
  constructor
  ·rintro⟨_,br,bB⟩ o aj
   rcases List.mem_cons.1 aj with rfl|aj
   ·exact br
   ·exact b7.1 bB o aj
  ·intro k
   exact⟨(),k x (by simp),b7.2 fun o aj=>k o (by simp [aj])⟩
end
section
set_option maxRecDepth 1000000
attribute [local go_sem] au.cO ai.cO au.cx ai.cx cf dn fo gv dF of_flat bJ.row dW fX io
attribute [local go_sem] hE gz gy hB fK fZ e9 dM Fd.row eX fi df.row fc.row cj.row sC xB k7 vQ tt hM.row
theorem aX3 (l:List (Int×Int×Int)) (a:Int×Int×Int) (aG:l.length≤1000000000):Pure Tryz.prog 182 [.aq 3 (l.map k7),.agg (k7 a)] (.int .i64 (dj (fun v=> !decide (a=v)) l 0)):=by
 obtain⟨er,a2,a3⟩:=a
 have iD:((l.map k7).length:Int)=(l.length:Int):=by rw[List.length_map]
 simp only[k7]
 refine cw be Tryz.func182 Vv (by simp only[b2,I.flat,sC,Bool.and_self]) rfl ?_
 unfold Kv QB
 simp(disch:=omega)only[go_sem,simprocAttr]
 refine ak ?_
 refine ar.cU (X:=Nat) 0 (fun i=>[(0,.aq 3 (l.map k7)),(3,.ptr 0 0),(7,.int .i64 ((l.map k7).length:Int)),(8,.int .i64 (i:Int))]) (fun _=>[(0,74,[.int .i64 er,.int .i64 a2,.int .i64 a3])]) (fun _=>[]) (fun i=>i≤l.length∧dj (fun v=> !decide ((er,a2,a3)=v)) (l.drop i) i=dj (fun v=> !decide ((er,a2,a3)=v)) l 0) (fun i=>l.length-i) ⟨Nat.zero_le _,rfl⟩ ⟨rfl,rfl,rfl,rfl,trivial⟩ ⟨rfl,trivial⟩ trivial ?_
 rintro i ⟨af,aw⟩
 try simp only at af aw ⊢
 cases ad:l[i]? with
 |some v=>
  obtain⟨v1,v2,v3⟩:=v
  have cz:=(List.getElem?_eq_some_iff.1 ad).1
  have d1:(i:Int)<(l.length:Int):=by omega
  rw[eN ad]at aw
  simp only[dj]at aw
  by_cases h:(er,a2,a3)=(v1,v2,v3)
  ·simp only[Prod.mk.injEq]at h
   obtain⟨rfl,rfl,rfl⟩:=h
   (have ae:=iD;have z2:=d1;refine dQ ?_;clear ae z2)
   refine D.r ?_
   refine⟨_,rfl,.aF ?_ rfl,trivial,trivial⟩
   rw[←aw]
   simp [I.aF]
  ·have bG:(decide (er=v1)&&(decide (a2=v2)&&decide (a3=v3)))=false:=by
    rw[Bool.eq_false_iff]
    intro k
    simp only[Bool.and_eq_true,decide_eq_true_eq]at k
    exact h (by rw[k.1,k.2.1,k.2.2])
   rw[decide_eq_false h]at aw
   (have ae:=iD;have z2:=d1;have z3:=bG;refine ep ?_;clear ae z2 z3)
   refine ar.eC (i+1) ⟨by omega,aw⟩ ⟨rfl,rfl,rfl,by simp only[Int.natCast_add]; rfl,trivial⟩ ⟨rfl,trivial⟩ trivial rfl rfl (by show l.length-(i+1)<l.length-i; omega)
 |none=>
  have b4:=List.getElem?_eq_none_iff.1 ad
  have d1: ¬(i:Int)<(l.length:Int):=by omega
  rw[List.drop_eq_nil_of_le b4]at aw
  (have ae:=iD;have z2:=d1;refine dQ ?_;clear ae z2)
  refine D.r ?_
  exact⟨_,rfl,.aF (by rw[←aw]; rfl) rfl,trivial,trivial⟩
theorem aY9 (l:List (Int×Int×Int)) (a:Int×Int×Int) (aG:l.length≤1000000000):Pure Tryz.prog 95 [.aq 3 (l.map k7),.agg (k7 a)] (.bool (l.any fun v=>decide (a=v))):=by
 have e:=aX3 l a aG
 rw[←uq]
 generalize dj (fun v=> !decide (a=v)) l 0=z at e ⊢
 obtain⟨er,a2,a3⟩:=a
 simp only[k7]at e ⊢
 refine cw be Tryz.func95 Xc (by simp only[b2,I.flat,sC,Bool.and_self]) rfl ?_
 unfold vb Sg
 simp(disch:=omega)only[go_sem,simprocAttr]
 refine ak ?_
 refine D.P (e) ?_
 refine ak ?_
 exact D.rx
theorem aY0:Pure Tryz.prog 287 [.int .u64 1] (.int .i64 1):=by
 refine cw be Tryz.func287 Wj rfl rfl ?_
 unfold Lh Rq
 simp(disch:=omega)only[go_sem,simprocAttr]
 refine ak ?_
 exact D.rx
theorem aX6:Pure Tryz.prog 185 [.int .u64 1] (.int .i64 1):=by
 have e:=aY0
 refine cw be Tryz.func185 Vx rfl rfl ?_
 unfold Kx QD
 simp(disch:=omega)only[go_sem,simprocAttr]
 refine ak ?_
 refine D.P (e) ?_
 refine ak ?_
 exact D.rx
theorem aX9 (a b c:Int) (f:FuncId):Pure Tryz.prog 278 [.aq 3 [[.int .i64 a,.int .i64 b,.int .i64 c]],.int .i64 0,.int .i64 1,.fn f []] (.c3 []):=by
 refine cw be Tryz.func278 Wi rfl rfl ?_
 unfold Lg Ro
 simp(disch:=omega)only[go_sem,simprocAttr]
 refine ak ?_
 refine ar.cU (X:=Nat) 0 (fun _=>[(2,.int .i64 1),(8,.int .i64 1)]) (fun _=>[]) (fun _=>[]) (fun i=>i=0) (fun i=>0) rfl ⟨rfl,rfl,trivial⟩ trivial trivial ?_
 intro i af
 refine ak ?_
 exact D.rx
theorem aX5 (a b c:Int) (f:FuncId):Pure Tryz.prog 184 [.aq 3 [[.int .i64 a,.int .i64 b,.int .i64 c]],.int .i64 0,.int .i64 1,.int .i64 1,.fn f []] (.c3 []):=by
 have e:=aX9 a b c f
 refine cw be Tryz.func184 Vw rfl rfl ?_
 unfold Kw QC
 simp(disch:=omega)only[go_sem,simprocAttr]
 refine ak ?_
 refine ar.cU (X:=Nat) 0 (fun _=>[(0,.aq 3 [[.int .i64 a,.int .i64 b,.int .i64 c]]),(1,.int .i64 0),(2,.int .i64 1),(3,.int .i64 1),(4,.fn f [])]) (fun _=>[]) (fun _=>[]) (fun i=>i=0) (fun i=>0) rfl ⟨rfl,rfl,rfl,rfl,rfl,trivial⟩ trivial trivial ?_
 intro i af
 refine ak ?_
 refine D.P (e) ?_
 refine ak ?_
 exact D.rx
theorem aZ1 (a b c:Int) (f:FuncId):Pure Tryz.prog 97 [.aq 3 [[.int .i64 a,.int .i64 b,.int .i64 c]],.fn f []] (.c3 []):=by
 have ap:=aX6
 have e:=aX5 a b c f
 refine cw be Tryz.func97 Xd rfl rfl ?_
 unfold Bk Sh
 simp(disch:=omega)only[go_sem,simprocAttr]
 refine ak ?_
 refine D.P (ap) ?_
 refine ak ?_
 refine D.P (e) ?_
 refine ak ?_
 exact D.rx
theorem aY4 (l:List (Int×Int×Int)) (aG:l.length≤1000000000):Pure Tryz.prog 35 [.aq 3 (l.map k7),.aq 3 (l.map k7)] (.bool true):=by
 refine cw be Tryz.func35 WL (by simp only[b2,I.flat,sC,Bool.and_self]) rfl ?_
 unfold wU RS
 have iD:((l.map k7).length:Int)=(l.length:Int):=by rw[List.length_map]
 simp(disch:=omega)only[go_sem,simprocAttr]
 (have ae:=iD;refine bt ?_;clear ae)
 refine ar.cU (X:=Nat) 0 (fun i=>[(0,.aq 3 (l.map k7)),(1,.aq 3 (l.map k7)),(5,.int .i64 (i:Int))]) (fun _=>[]) (fun _=>[]) (fun i=>i≤l.length) (fun i=>l.length-i) (Nat.zero_le _) ⟨rfl,rfl,rfl,trivial⟩ trivial trivial ?_
 intro i af
 try simp only at af ⊢
 cases ad:l[i]? with
 |some v=>
  have cz:=(List.getElem?_eq_some_iff.1 ad).1
  have d1:(i:Int)<(l.length:Int):=by omega
  (have ae:=iD;have z2:=d1;refine dQ ?_;clear ae z2)
  refine ar.eC (i+1) (by omega) ⟨rfl,rfl,by simp only[Int.natCast_add]; rfl,trivial⟩ trivial trivial rfl rfl (by show l.length-(i+1)<l.length-i; omega)
 |none=>
  have b4:=List.getElem?_eq_none_iff.1 ad
  have d1: ¬(i:Int)<(l.length:Int):=by omega
  (have ae:=iD;have z2:=d1;refine dQ ?_;clear ae z2)
  exact D.rx
end
section
set_option maxRecDepth 1000000
attribute [local go_sem] au.cO ai.cO au.cx ai.cx cf dn fo gv dF of_flat bJ.row dW fX io
attribute [local go_sem] hE gz gy hB fK fZ e9 dM Fd.row eX fi df.row fc.row cj.row sC xB k7 vQ tt hM.row
def uJ:cQ:=⟨[83],[98],[80],[],[⟨[109],[97],[[120]],[.mk 1 [120] (.mk 1 [] [] [] 1 []) 0 [] []]⟩],[]⟩
def sb:cQ:=⟨[83],[98],[80],[],[],[]⟩
def jf:di:=⟨[80],[[97],[98]],[⟨[109],[⟨[120],1,0,9⟩],0,[],[]⟩],2,0,1,[⟨0,0,1,0,1,false⟩],[]⟩
theorem aO7:oX uJ:=by
 refine⟨fun h hm=> ?_,fun h hm=> ?_,(fun o hm=>by cases hm),by decide,by decide,by decide⟩
 all_goals
  simp only[uJ,List.mem_cons,List.not_mem_nil,or_false]at hm
  subst hm
  decide
theorem SZ:oX sb:=⟨(fun h hm=>by cases hm),(fun h hm=>by cases hm),(fun o hm=>by cases hm),by decide,by decide,by decide⟩
theorem EC:qi jf:=by
 refine⟨by decide,by decide,by decide,by decide,fun d hm=> ?_⟩
 simp only[jf,List.mem_cons,List.not_mem_nil,or_false]at hm
 subst hm
 decide
theorem au4:uJ.ok 1000:=by
 refine⟨by decide,by decide,by decide,by decide,(fun v ad=>by cases ad),by decide,?_,by decide,(fun v ad=>by cases ad)⟩
 intro v ad
 rw[List.mem_singleton.1 ad]
 exact⟨by decide,by decide,by decide,by decide,by decide,⟨rfl,by decide,⟨rfl,by decide,by decide,by decide,rfl,by decide,trivial⟩,rfl,by decide,by decide,trivial,trivial⟩,trivial⟩
theorem Xz:j9 uJ jf=([120],11):=by kernel_rfl
theorem Jg:j9 sb jf=([],0):=by kernel_rfl
theorem PC:ht jf.dl [98]=1:=by kernel_rfl
abbrev Bx:I:= .agg [.str [80],.aq 1 [[.str [97]],[.str [98]]],.aq 5 [[.str [109],.aq 4 [[.str [120],.int .i64 1,.int .i64 0,.int .i64 9]],.int .i64 0,.bi,.bi]],.int .i64 2,.int .i64 0,.int .i64 1,.aq 6 [[.int .i64 0,.int .i64 0,.int .i64 1,.int .i64 0,.int .i64 1,.bool false]],.bi]
theorem yK:c5 Bx jf.eL:=
 AO (fm (c5.refl _) (fm (c5.refl _) (fm (Dl (.cons (fm (c5.refl _) (fm (c5.refl _) (fm (c5.refl _) (fm c5.nil (fm c5.nil pN))))) .nil)) (fm (c5.refl _) (fm (c5.refl _) (fm (c5.refl _) (fm (c5.refl _) (fm c5.nil pN))))))))
theorem aZ8:c5 (.agg [.str [83],.str [98],.str [80],.bi,.aq 4 [[.str [109],.str [97],.aq 1 [[.str [120]]],.aq 11 [[.int .i64 1,.str [120],.int .i64 1,.str [],.str [],.str [],.int .i64 1,.bi,.int .i64 0,.bi,.bi]]]],.bi]) uJ.eL:=
 AO (fm (c5.refl _) (fm (c5.refl _) (fm (c5.refl _) (fm c5.nil (fm (Dl (.cons (fm (c5.refl _) (fm (c5.refl _) (fm (c5.refl _) (fm (Dl (.cons (fm (c5.refl _) (fm (c5.refl _) (fm (c5.refl _) (fm (c5.refl _) (fm (c5.refl _) (fm (c5.refl _) (fm (c5.refl _) (fm c5.nil (fm (c5.refl _) (fm c5.nil (fm c5.nil pN))))))))))) .nil)) pN)))) .nil)) (fm c5.nil pN))))))
theorem aX4:bg Tryz.prog 183 [.aq 4 [],.fn 94 [.ptr 0 0,.ptr 1 0]] (aN.of 2 0 [(0,32,[.str [80],.aq 1 [[.str [97]],[.str [98]]],.aq 5 [[.str [109],.aq 4 [[.str [120],.int .i64 1,.int .i64 0,.int .i64 9]],.int .i64 0,.bi,.bi]],.int .i64 2,.int .i64 0,.int .i64 1,.aq 6 [[.int .i64 0,.int .i64 0,.int .i64 1,.int .i64 0,.int .i64 1,.bool false]],.bi]),(1,74,[.int .i64 0,.int .i64 1,.int .i64 0])] []) (dA (.int .i64 (-1)) [(0,32,[.str [80],.aq 1 [[.str [97]],[.str [98]]],.aq 5 [[.str [109],.aq 4 [[.str [120],.int .i64 1,.int .i64 0,.int .i64 9]],.int .i64 0,.bi,.bi]],.int .i64 2,.int .i64 0,.int .i64 1,.aq 6 [[.int .i64 0,.int .i64 0,.int .i64 1,.int .i64 0,.int .i64 1,.bool false]],.bi]),(1,74,[.int .i64 0,.int .i64 1,.int .i64 0])] []):=by
 refine bg.intro be Tryz.func183 Dy ?_
 unfold Be Cu
 simp(disch:=omega)only[go_sem,simprocAttr]
 refine ak ?_
 refine ar.cU (X:=Nat) 0 (fun i=>[(0,.aq 4 []),(1,.fn 94 [.ptr 0 0,.ptr 1 0]),(7,.int .i64 0),(8,.int .i64 (i:Int))]) (fun _=>[(0,32,[.str [80],.aq 1 [[.str [97]],[.str [98]]],.aq 5 [[.str [109],.aq 4 [[.str [120],.int .i64 1,.int .i64 0,.int .i64 9]],.int .i64 0,.bi,.bi]],.int .i64 2,.int .i64 0,.int .i64 1,.aq 6 [[.int .i64 0,.int .i64 0,.int .i64 1,.int .i64 0,.int .i64 1,.bool false]],.bi]),(1,74,[.int .i64 0,.int .i64 1,.int .i64 0])]) (fun _=>[]) (fun i=>i=0) (fun i=>0) rfl ⟨rfl,rfl,rfl,rfl,trivial⟩ ⟨rfl,rfl,trivial⟩ trivial ?_
 intro i af
 subst af
 refine ak ?_
 refine D.r ?_
 exact⟨rfl,⟨rfl,rfl,trivial⟩,trivial⟩
theorem aZ0:bg Tryz.prog 96 [.aq 4 [],.fn 94 [.ptr 0 0,.ptr 1 0]] (aN.of 2 0 [(0,32,[.str [80],.aq 1 [[.str [97]],[.str [98]]],.aq 5 [[.str [109],.aq 4 [[.str [120],.int .i64 1,.int .i64 0,.int .i64 9]],.int .i64 0,.bi,.bi]],.int .i64 2,.int .i64 0,.int .i64 1,.aq 6 [[.int .i64 0,.int .i64 0,.int .i64 1,.int .i64 0,.int .i64 1,.bool false]],.bi]),(1,74,[.int .i64 0,.int .i64 1,.int .i64 0])] []) (dA (.bool false) [(0,32,[.str [80],.aq 1 [[.str [97]],[.str [98]]],.aq 5 [[.str [109],.aq 4 [[.str [120],.int .i64 1,.int .i64 0,.int .i64 9]],.int .i64 0,.bi,.bi]],.int .i64 2,.int .i64 0,.int .i64 1,.aq 6 [[.int .i64 0,.int .i64 0,.int .i64 1,.int .i64 0,.int .i64 1,.bool false]],.bi]),(1,74,[.int .i64 0,.int .i64 1,.int .i64 0])] []):=by
 have e:=aX4
 refine bg.intro be Tryz.func96 DE ?_
 unfold wW CB
 simp(disch:=omega)only[go_sem,simprocAttr]
 refine ak ?_
 refine D.F ⟨[0,1],[]⟩ (e) ?_
 refine ak ?_
 refine D.r ?_
 exact⟨rfl,⟨rfl,rfl,trivial⟩,trivial⟩
theorem aY5:Pure Tryz.prog 36 [.agg [.str [83],.str [98],.str [80],.aq 7 [],.aq 4 [],.aq 4 []],Bx] (.aq 3 [[.int .i64 0,.int .i64 1,.int .i64 0]]):=by
 have kX:=(xL sb jf SZ EC).le (fm (c5.refl _) (fm yK pN))
 have kY:=(Hw sb jf (by decide)).le (fm (c5.refl _) (fm yK pN))
 have vb:=aY9 [] (0,1,0) (by decide)
 rw[List.any_nil]at vb
 have wW:=aZ0
 have Bk:=aZ1 0 1 0 98
 rw[Jg]at kX
 rw[show sb.bO=[98] by rfl,PC,show max (1:Int) 0=1 by decide]at kY
 simp only[tr]at kX
 rw[oa]at kX kY
 simp only[sb,List.map_nil,Bx]at kX kY vb ⊢
 try (simp (disch:=omega) only[go_sem,simprocAttr]at kX)
 try (simp (disch:=omega) only[go_sem,simprocAttr]at kY)
 try (simp (disch:=omega) only[go_sem,simprocAttr]at vb)
 refine cw be Tryz.func36 WQ rfl rfl ?_
 unfold yE RW
 simp(disch:=omega)only[go_sem,simprocAttr]
 refine ak ?_
 refine D.P (kX) ?_
 refine ak ?_
 refine D.P (kY) ?_
 refine ak ?_
 refine ar.tK 9 3 74 rfl (by decide) ?_
 simp(disch:=omega)only[go_sem,simprocAttr]
 refine ar.cU (X:=Nat) 0 (fun i=>[(2,.ptr 0 0),(3,.ptr 1 0),(7,.int .i64 1),(9,.own 0 3 (if i=0 then[] else[[.int .i64 0,.int .i64 1,.int .i64 0]])),(29,.aq 6 [[.int .i64 0,.int .i64 0,.int .i64 1,.int .i64 0,.int .i64 1,.bool false]]),(30,.int .i64 1),(31,.int .i64 (i:Int))]) (fun _=>[(0,48,[.str [83],.str [98],.str [80],.aq 7 [],.aq 4 [],.aq 4 []]),(1,32,[.str [80],.aq 1 [[.str [97]],[.str [98]]],.aq 5 [[.str [109],.aq 4 [[.str [120],.int .i64 1,.int .i64 0,.int .i64 9]],.int .i64 0,.bi,.bi]],.int .i64 2,.int .i64 0,.int .i64 1,.aq 6 [[.int .i64 0,.int .i64 0,.int .i64 1,.int .i64 0,.int .i64 1,.bool false]],.bi])]) (fun i=>[(0,.bY 74 3 (if i=0 then 0 else 1))]) (fun i=>i≤1) (fun i=>1-i) (Nat.zero_le _) ⟨rfl,rfl,rfl,rfl,rfl,rfl,rfl,trivial⟩ ⟨rfl,rfl,trivial⟩ ⟨rfl,trivial⟩ ?_
 intro i af
 match i,af with
 |0,_=>
  simp only[if_true]
  refine ak ?_
  refine D.P (vb) ?_
  refine ak ?_
  refine D.F ⟨[1,3],[]⟩ (wW) ?_
  refine ak ?_
  refine D.iE ?_
  refine ak ?_
  refine ar.jS 1 (by decide) ⟨rfl,rfl,rfl,rfl,rfl,rfl,rfl,trivial⟩ ⟨rfl,rfl,trivial⟩ ⟨rfl,trivial⟩ rfl (by simp only[im,dw,eA,eB,ia,I.du,bM.bY,go_sem]<;>rfl) (by decide)
 |1,_=>
  simp only[show ¬(1:Nat)=0 by decide,if_false]
  refine ak ?_
  refine D.P (Bk) ?_
  refine ak ?_
  exact D.rx
 |n+2,h=>omega
theorem aY1:Pure Tryz.prog 29 [] (.bool true):=by
 have u6:=(Cq (R:=1000) (by decide) uJ au4).le (fm aZ8 pN)
 have kX:=(xL uJ jf aO7 EC).le (fm (c5.refl _) (fm yK pN))
 have wT:=(xL sb jf SZ EC).le (fm (c5.refl _) (fm yK pN))
 have kY:=(Hw sb jf (by decide)).le (fm (c5.refl _) (fm yK pN))
 have yE:=aY5
 have wU:=aY4 [(0,1,0)] (by decide)
 rw[Xz]at kX
 rw[Jg]at wT
 rw[show sb.bO=[98] by rfl,PC,show max (1:Int) 0=1 by decide]at kY
 simp only[tr]at kX wT
 rw[oa]at u6 kX wT kY
 simp only[uJ,sb,List.map_cons,List.map_nil,Bx]at u6 kX wT kY yE wU
 try (simp (disch:=omega) only[go_sem,simprocAttr]at u6)
 try (simp (disch:=omega) only[go_sem,simprocAttr]at kX)
 try (simp (disch:=omega) only[go_sem,simprocAttr]at wT)
 try (simp (disch:=omega) only[go_sem,simprocAttr]at kY)
 try (simp (disch:=omega) only[go_sem,simprocAttr]at wU)
 refine cw be Tryz.func29 Wm rfl rfl ?_
 unfold Lk Rt
 simp(disch:=omega)only[go_sem,simprocAttr]
 refine ak ?_
 refine D.P (u6) ?_
 refine ak ?_
 refine D.P (kX) ?_
 refine b0 ?_
 (repeat (apply ar.s true true;(·simp(disch:=omega)only[go_sem,simprocAttr,]<;>with_reducible rfl)))
 refine ar.c9 ?_
 refine b0 ?_
 refine ar.aZ6 1 4 4 rfl rfl ?_
 simp(disch:=omega)only[go_sem,simprocAttr]
 refine ak ?_
 refine D.P (wT) ?_
 refine ak ?_
 refine D.P (yE) ?_
 refine ak ?_
 refine D.P (kY) ?_
 refine ak ?_
 refine D.P (wU) ?_
 refine ak ?_
 exact D.rx
end
section
attribute [local go_sem] au.cO ai.cO au.cx ai.cx cf dn fo gv dF of_flat
attribute [local go_sem] bJ.row dW fX io
mutual
def xQ0 (f t:List UInt8):au→au
 | .mk k o m s n a=> .mk k o (if k=3∧m=f then t else m) s n (bb4 f t a)
def bb4 (f t:List UInt8):List au→List au
 |[]=>[]
 |x::l=>(xQ0 f t x)::bb4 f t l
end
mutual
def bc2 (f t:List UInt8):ai→ai
 | .mk k m x n a b=> .mk k (if k=1∧m=f then t else m) ((xQ0 f t x)) n (xQ1 f t a) (xQ1 f t b)
def xQ1 (f t:List UInt8):List ai→List ai
 |[]=>[]
 |x::l=>bc2 f t x::xQ1 f t l
end
theorem bc7 (f t:List UInt8): ∀l:List au,bb4 f t l=l.map (xQ0 f t)
 |[]=>rfl
 |x::l=>by simp only[bb4,List.map_cons,bc7 f t l]
theorem bd7 (f t:List UInt8): ∀l:List ai,xQ1 f t l=l.map (bc2 f t)
 |[]=>rfl
 |x::l=>by simp only[xQ1,List.map_cons,bd7 f t l]
def bb6 (f t:List UInt8) (v:au):List I:=(xQ0 f t v).row
theorem bd2 (f t:List UInt8) (l:List au):(l.map (xQ0 f t)).map au.row=l.map (bb6 f t):=by rw[List.map_map]; rfl
theorem bd5 (f t:List UInt8) (l:List au):eY (l.map (bb6 f t))=true:=by rw[←bd2]; exact au.cx _
attribute [local go_sem] bd5
set_option maxHeartbeats 4000000 in
theorem xQ4 {R:Nat}(ag:R≤140737488355328) (f t:List UInt8): ∀(N:Nat) (x:au),x.cv≤N→x.ok R→Pure Tryz.prog 42 [.agg x.row,.str f,.str t] (.agg (xQ0 f t x).row)
 |N,.mk k o m s n a,cP,av=>by
  have ec:a.length*88≤140737488355328:=Nat.le_trans av.2.2.2.2.2.1 ag
  have bk4:=av.2.2.2.2.2.2
  simp only[xQ0,au.cO,bc7,bd2]
  match N,cP with
  |0,cP=>simp only[au.cv]at cP; omega
  |N+1,cP=>
  simp only[au.cv]at cP
  have b7: ∀v∈a,Pure Tryz.prog 42 [.agg v.row,.str f,.str t] (.agg (xQ0 f t v).row):=fun v ad=>by
   obtain⟨i,af⟩:=List.getElem?_of_mem ad
   have U:=au.lI af
   exact xQ4 ag f t N v (by omega) (au.vT bk4 af)
  refine cw be Tryz.func42 bj1 (by simp only[b2,I.flat,au.cx,Bool.and_self]) (by simp only[b2,I.flat,bd5,Bool.and_self]) ?_
  unfold bc9 bi1
  have an:(k=3∧m=f)∨(k=3∧m≠f)∨k≠3:=by
   by_cases aD:k=3
   ·by_cases bA:m=f
    ·exact .inl ⟨aD,bA⟩
    ·exact .inr (.inl ⟨aD,bA⟩)
   ·exact .inr (.inr aD)
  rcases an with ⟨aD,bA⟩|⟨aD,bA⟩|aD
  rw[if_pos (And.intro aD bA)]
  have d3:decide (k=3)=true:=decide_eq_true aD
  have d4:decide (m=f)=true:=decide_eq_true bA
  simp(disch:=omega)only[go_sem,simprocAttr]
  (repeat' first|(apply al.s rfl;(·simp(disch:=omega)only[go_sem,simprocAttr,d3,d4]<;>with_reducible rfl))|(apply ar.s true true;(·simp(disch:=omega)only[go_sem,simprocAttr,d3,d4]<;>with_reducible rfl))|apply al.nil|(refine ar.c9 ?_)|(apply al.ft;(·simp(disch:=omega)only[go_sem,simprocAttr,d3,d4]<;>with_reducible rfl))|(apply al.fu;(·rfl);(·simp(disch:=omega)only[go_sem,simprocAttr,d3,d4]<;>with_reducible rfl))|(apply al.gs;(·simp(disch:=omega)only[go_sem,simprocAttr,d3,d4]<;>with_reducible rfl))|((first|apply al.fw|apply al.fx|apply al.fy);(·simp(disch:=omega)only[go_sem,simprocAttr,d3,d4]<;>with_reducible rfl);(·simp(disch:=omega)only[go_sem,simprocAttr,d3,d4]<;>with_reducible rfl);(·assumption);(·omega))|intro h)
  rotate_left
  rw[if_neg (fun h=>bA h.2)]
  have d3:decide (k=3)=true:=decide_eq_true aD
  have d4:decide (m=f)=false:=decide_eq_false bA
  simp(disch:=omega)only[go_sem,simprocAttr]
  (repeat' first|(apply al.s rfl;(·simp(disch:=omega)only[go_sem,simprocAttr,d3,d4]<;>with_reducible rfl))|(apply ar.s true true;(·simp(disch:=omega)only[go_sem,simprocAttr,d3,d4]<;>with_reducible rfl))|apply al.nil|(refine ar.c9 ?_)|(apply al.ft;(·simp(disch:=omega)only[go_sem,simprocAttr,d3,d4]<;>with_reducible rfl))|(apply al.fu;(·rfl);(·simp(disch:=omega)only[go_sem,simprocAttr,d3,d4]<;>with_reducible rfl))|(apply al.gs;(·simp(disch:=omega)only[go_sem,simprocAttr,d3,d4]<;>with_reducible rfl))|((first|apply al.fw|apply al.fx|apply al.fy);(·simp(disch:=omega)only[go_sem,simprocAttr,d3,d4]<;>with_reducible rfl);(·simp(disch:=omega)only[go_sem,simprocAttr,d3,d4]<;>with_reducible rfl);(·assumption);(·omega))|intro h)
  rotate_left
  rw[if_neg (fun h=>aD h.1)]
  have d3:decide (k=3)=false:=decide_eq_false aD
  simp(disch:=omega)only[go_sem,simprocAttr]
  (repeat' first|(apply al.s rfl;(·simp(disch:=omega)only[go_sem,simprocAttr,d3]<;>with_reducible rfl))|(apply ar.s true true;(·simp(disch:=omega)only[go_sem,simprocAttr,d3]<;>with_reducible rfl))|apply al.nil|(refine ar.c9 ?_)|(apply al.ft;(·simp(disch:=omega)only[go_sem,simprocAttr,d3]<;>with_reducible rfl))|(apply al.fu;(·rfl);(·simp(disch:=omega)only[go_sem,simprocAttr,d3]<;>with_reducible rfl))|(apply al.gs;(·simp(disch:=omega)only[go_sem,simprocAttr,d3]<;>with_reducible rfl))|((first|apply al.fw|apply al.fx|apply al.fy);(·simp(disch:=omega)only[go_sem,simprocAttr,d3]<;>with_reducible rfl);(·simp(disch:=omega)only[go_sem,simprocAttr,d3]<;>with_reducible rfl);(·assumption);(·omega))|intro h)
  rotate_left
  all_goals
   refine ar.tK 7 6 120 rfl (by decide) ?_
   simp(disch:=omega)only[go_sem,simprocAttr]
   first|refine ar.cU (X:=Nat) 0 (fun i=>[(1,.str f),(2,.str t),(3,.ptr 0 0),(6,.ptr 1 0),(7,.own 0 6 ((a.take i).map (bb6 f t))),(8,.int .i64 (i:Int))]) (fun _=>[(0,120,[.int .i64 k,.str o,.str t,.str s,.int .i64 n,.aq 6 (a.map au.row)]),(1,120,[.int .i64 0,.str [],.str [],.str [],.int .i64 0,.bi])]) (fun i=>[(0,.bY 120 6 ((a.take i).map (bb6 f t)).length)]) (fun i=>i≤a.length) (fun i=>a.length-i) (Nat.zero_le _) ⟨rfl,rfl,rfl,rfl,rfl,rfl,trivial⟩ ⟨rfl,rfl,trivial⟩ ⟨rfl,trivial⟩ ?_|refine ar.cU (X:=Nat) 0 (fun i=>[(1,.str f),(2,.str t),(3,.ptr 0 0),(6,.ptr 1 0),(7,.own 0 6 ((a.take i).map (bb6 f t))),(8,.int .i64 (i:Int))]) (fun _=>[(0,120,[.int .i64 k,.str o,.str m,.str s,.int .i64 n,.aq 6 (a.map au.row)]),(1,120,[.int .i64 0,.str [],.str [],.str [],.int .i64 0,.bi])]) (fun i=>[(0,.bY 120 6 ((a.take i).map (bb6 f t)).length)]) (fun i=>i≤a.length) (fun i=>a.length-i) (Nat.zero_le _) ⟨rfl,rfl,rfl,rfl,rfl,rfl,trivial⟩ ⟨rfl,rfl,trivial⟩ ⟨rfl,trivial⟩ ?_
   intro i af
   try simp only at af ⊢
   cases ad:a[i]? with
   |some v=>
    have cz:=(List.getElem?_eq_some_iff.1 ad).1
    have gm:=z6 (bb6 f t) ad
    have hlen:(a.take i).length=i:=by simp; omega
    have ap:=b7 v (List.mem_of_getElem? ad)
    obtain⟨bB,fT,m2,s2,p4,a2⟩:=v
    simp only[bb6,xQ0,au.cO,bc7,bd2]at gm ap
    have d1:(i:Int)<((a.map au.row).length:Int):=by rw[List.length_map]; omega
    (have ae:=d1;refine bt ?_;clear ae)
    refine D.P (ap) ?_
    refine ak ?_
    refine D.iE ?_
    refine ak ?_
    refine ar.eC (i+1) (by omega) ⟨rfl,rfl,rfl,rfl,by simp only[gm]; rfl,rfl,trivial⟩ ⟨rfl,rfl,trivial⟩ ⟨by simp only[gm,List.length_append]; rfl,trivial⟩ rfl rfl (by show a.length-(i+1)<a.length-i; omega)
   |none=>
    have b4:=List.getElem?_eq_none_iff.1 ad
    have e:i=a.length:=by omega
    subst e
    have d1: ¬(a.length:Int)<((a.map au.row).length:Int):=by rw[List.length_map]; omega
    simp only[List.take_length]
    (have ae:=d1;refine bt ?_;clear ae)
    refine D.r ?_
    exact⟨_,rfl,.aF rfl (by simp only[I.flat,b2,bd5,Bool.and_self]),trivial,trivial⟩
def bc8 (f t:List UInt8) (v:ai):List I:=(bc2 f t v).row
theorem bg2 (f t:List UInt8) (l:List ai):(l.map (bc2 f t)).map ai.row=l.map (bc8 f t):=by rw[List.map_map]; rfl
theorem be4 (f t:List UInt8) (l:List ai):eY (l.map (bc8 f t))=true:=by rw[←bg2]; exact ai.cx _
attribute [local go_sem] be4
set_option maxHeartbeats 4000000 in
theorem bg4 {R:Nat}(ag:R≤140737488355328) (f t:List UInt8): ∀(N:Nat) (l:List ai),ai.ch l≤N→l.length*168≤140737488355328→ai.mW R l→Pure Tryz.prog 41 [.aq 11 (l.map ai.row),.str f,.str t] (.aq 11 (l.map (bc8 f t)))
 |N,l,cP,ec,av=>by
  refine cw be Tryz.func41 bj0 (by simp only[b2,I.flat,ai.cx,Bool.and_self]) (by simp only[b2,I.flat,be4,Bool.and_self]) ?_
  unfold bd8 bi0
  simp(disch:=omega)only[go_sem,simprocAttr]
  refine ar.seq ?_
  refine ar.c9 ?_
  refine b0 ?_
  refine ar.seq ?_
  refine ar.c9 ?_
  refine b0 ?_
  refine ar.tK 7 11 178 rfl (by decide) ?_
  simp(disch:=omega)only[go_sem,simprocAttr]
  refine ak ?_
  refine ar.cU (X:=Nat) 0 (fun i=>[(0,.aq 11 (l.map ai.row)),(1,.str f),(2,.str t),(7,.own 0 11 ((l.take i).map (bc8 f t))),(8,.int .i64 (i:Int))]) (fun _=>[]) (fun i=>[(0,.bY 178 11 ((l.take i).map (bc8 f t)).length)]) (fun i=>i≤l.length) (fun i=>l.length-i) (Nat.zero_le _) ⟨rfl,rfl,rfl,rfl,rfl,trivial⟩ trivial ⟨rfl,trivial⟩ ?_
  intro i af
  try simp only at af ⊢
  cases ad:l[i]? with
  |some v=>
   have cz:=(List.getElem?_eq_some_iff.1 ad).1
   have hm:=ai.lI ad
   have mQ:=ai.vT av ad
   have gm:=z6 (bc8 f t) ad
   have hlen:(l.take i).length=i:=by simp; omega
   obtain⟨k,m,x,n,a,b⟩:=v
   have bN:=xQ4 ag f t x.cv x (Nat.le_refl _) mQ.2.2.1
   obtain⟨bB,fT,m2,t2,p4,fR⟩:=x
   have d1:(i:Int)<((l.map ai.row).length:Int):=by rw[List.length_map]; omega
   match N,cP with
   |0,cP=>simp only[ai.cv]at hm; omega
   |N+1,cP=>
   simp only[ai.cv]at hm
   have ap:=bg4 ag f t N a (by omega) (Nat.le_trans mQ.2.2.2.2.1 ag) mQ.2.2.2.2.2.2.1
   have ay:=bg4 ag f t N b (by omega) (Nat.le_trans mQ.2.2.2.2.2.1 ag) mQ.2.2.2.2.2.2.2
   simp only[bc8,bc2,xQ0,ai.cO,au.cO,bc7,bd2,bd7,bg2,List.cons_append,List.nil_append]at gm bN
   generalize (if bB=3∧m2=f then t else m2)=m3 at gm bN
   have an:(k=1∧m=f)∨(k=1∧m≠f)∨k≠1:=by
    by_cases aD:k=1
    ·by_cases bA:m=f
     ·exact .inl ⟨aD,bA⟩
     ·exact .inr (.inl ⟨aD,bA⟩)
    ·exact .inr (.inr aD)
   (have ae:=d1;refine wz ?_;clear ae)
   refine ar.block ?_
   refine ar.seq ?_
   refine ar.c9 ?_
   refine b0 ?_
   (repeat (apply ar.s true true;(·simp(disch:=omega)only[go_sem,simprocAttr,]<;>with_reducible rfl)))
   refine ar.c9 ?_
   rcases an with ⟨aD,bA⟩|⟨aD,bA⟩|aD
   rw[if_pos (And.intro aD bA)]at gm
   have d3:decide (k=1)=true:=decide_eq_true aD
   have d4:decide (m=f)=true:=decide_eq_true bA
   (have ae:=d3;have z2:=d4;refine HO ?_;clear ae z2)
   (repeat (apply ar.s true true;(·simp(disch:=omega)only[go_sem,simprocAttr,]<;>with_reducible rfl)))
   refine ar.c9 ?_
   refine b0 ?_
   (repeat (apply ar.s true true;(·simp(disch:=omega)only[go_sem,simprocAttr,]<;>with_reducible rfl)))
   rotate_left
   rw[if_neg (fun h=>bA h.2)]at gm
   have d3:decide (k=1)=true:=decide_eq_true aD
   have d4:decide (m=f)=false:=decide_eq_false bA
   (have ae:=d3;have z2:=d4;refine HO ?_;clear ae z2)
   (repeat (apply ar.s true true;(·simp(disch:=omega)only[go_sem,simprocAttr,]<;>with_reducible rfl)))
   rotate_left
   rw[if_neg (fun h=>aD h.1)]at gm
   have d3:decide (k=1)=false:=decide_eq_false aD
   (have ae:=d3;refine th ?_;clear ae)
   (repeat (apply ar.s true true;(·simp(disch:=omega)only[go_sem,simprocAttr,]<;>with_reducible rfl)))
   rotate_left
   all_goals
    refine ar.gC (anns:=[.agg [.int .i64 bB,.str fT,.str m3,.str t2,.int .i64 p4,.aq 6 (fR.map (bb6 f t))],.aq 11 (a.map (bc8 f t)),.aq 11 (b.map (bc8 f t))]) ?_
    refine b0 ?_
    refine D.ei bN ?_
    refine b0 ?_
    refine D.ei ap ?_
    refine b0 ?_
    refine D.ei ay ?_
    refine b0 ?_
    refine ak ?_
    refine D.iE ?_
    refine ak ?_
    refine ar.jS (i+1) (by omega) ⟨rfl,rfl,rfl,by simp only[gm]; rfl,rfl,trivial⟩ trivial ⟨by simp only[gm,List.length_append]; rfl,trivial⟩ rfl (by simp only[im,dw,eA,eB,ia,I.du,bM.bY,go_sem]<;>rfl) (by show l.length-(i+1)<l.length-i; omega)
  |none=>
   have b4:=List.getElem?_eq_none_iff.1 ad
   have e:i=l.length:=by omega
   subst e
   have d1: ¬(l.length:Int)<((l.map ai.row).length:Int):=by rw[List.length_map]; omega
   simp only[List.take_length]
   (have ae:=d1;refine bt ?_;clear ae)
   refine D.r ?_
   exact⟨_,rfl,.aF rfl (by simp only[I.flat,be4]),trivial,trivial⟩
end
section
structure xQ3 (x y:cQ) (f t:bw):Prop where
 v: ∃v w,varOf x.vars f=some v∧varOf y.vars t=some w∧w.fB=v.fB
 bh:varOf x.vars t=none
 o: ∀m,m≠f→m≠t→varOf y.vars m=varOf x.vars m
section
variable {x y:cQ}{f t:bw}{g:di}{r:Int}{ps:Option (List (bw×Int))}
theorem xQ8 (H:xQ3 x y f t) (aT:(ef.mk x g r ps).look f=none) (aL:(ef.mk x g r ps).look t=none){m:bw}{k:Int}(h:pk ⟨x,g,r,ps⟩ m= .ok k):pk ⟨y,g,r,ps⟩ (if m=f then t else m)= .ok k:=by
 have aG: ∀n,(ef.mk y g r ps).look n=(ef.mk x g r ps).look n:=fun n=>rfl
 unfold pk at h ⊢
 rw[aG]
 by_cases hm:m=f
 ·subst hm
  rw[if_pos rfl,aL]
  rw[aT]at h
  obtain⟨v,w,U,aa,aD⟩:=H.v
  simp only[U]at h
  simp only[aa,aD]
  exact h
 ·rw[if_neg hm]
  split at h
  ·exact h
  ·split at h
   ·rename_i v ad
    have BQ:m≠t:=fun e=>by subst e; rw[H.bh]at ad; cases ad
    simp only[H.o m hm BQ,ad]
    exact h
   ·cases h
theorem xQ6 (H:xQ3 x y f t) (aT:(ef.mk x g r ps).look f=none) (aL:(ef.mk x g r ps).look t=none){k:Int}{o m:bw}{bH:List Int}{q:Int}(h:pf ⟨x,g,r,ps⟩ k o m bH= .ok q):pf ⟨y,g,r,ps⟩ k o (if k=3∧m=f then t else m) bH= .ok q:=by
 unfold pf at h ⊢
 by_cases aa:k=2
 ·simpa only[if_pos aa] using h
 by_cases aD:k=3
 ·simp only[if_neg aa,if_pos aD]at h ⊢
  simp only[aD,true_and]
  exact xQ8 H aT aL h
 ·simp only[if_neg aa,if_neg aD]at h ⊢
  exact h
mutual
theorem bd4 (H:xQ3 x y f t) (aT:(ef.mk x g r ps).look f=none) (aL:(ef.mk x g r ps).look t=none): ∀(e:au) (q:Int),kd ⟨x,g,r,ps⟩ e= .ok q→kd ⟨y,g,r,ps⟩ (xQ0 f t e)= .ok q
 | .mk k o m s n l,q,h=>by
  simp only[xQ0,kd]at h ⊢
  obtain⟨bH,U,aa⟩:=ek.1 h
  exact ek.2 ⟨bH,bh5 H aT aL l bH U,xQ6 H aT aL aa⟩
theorem bh5 (H:xQ3 x y f t) (aT:(ef.mk x g r ps).look f=none) (aL:(ef.mk x g r ps).look t=none): ∀(l:List au) (q:List Int),lf ⟨x,g,r,ps⟩ l= .ok q→lf ⟨y,g,r,ps⟩ (bb4 f t l)= .ok q
 |[],q,h=>by simpa only[bb4,lf] using h
 |e::l,q,h=>by
  simp only[bb4,lf]at h ⊢
  obtain⟨a,U,aa⟩:=ek.1 h
  obtain⟨b,aD,bA⟩:=ek.1 aa
  exact ek.2 ⟨a,bd4 H aT aL e a U,ek.2 ⟨b,bh5 H aT aL l b aD,bA⟩⟩
end
theorem bi9 (H:xQ3 x y f t) (aT:(ef.mk x g r ps).look f=none) (aL:(ef.mk x g r ps).look t=none){n:bw}{e:au}(h:qn ⟨x,g,r,ps⟩ n e= .ok ()):qn ⟨y,g,r,ps⟩ (if n=f then t else n) (xQ0 f t e)= .ok ():=by
 have aG: ∀n,(ef.mk y g r ps).look n=(ef.mk x g r ps).look n:=fun n=>rfl
 unfold qn at h ⊢
 simp only[aG]
 obtain⟨_,U,h⟩:=ek.1 h
 obtain⟨_,aa,h⟩:=ek.1 h
 obtain⟨k,aD,bA⟩:=ek.1 h
 have ap:=sQ.1 U
 have ay:=sQ.1 aa
 have dC:=sQ.1 bA
 have ao:(varOf x.vars n).isSome=true:=by
  rw[Bool.or_eq_true]at ap
  rcases ap with ap|ap
  ·rw[ap]at ay; cases ay
  ·exact ap
 by_cases a1:n=f
 ·subst a1
  obtain⟨v,w,ci,cM,dE⟩:=H.v
  rw[if_pos rfl]
  refine ek.2 ⟨(),sQ.2 (by rw[cM]; simp),ek.2 ⟨(),sQ.2 (by rw[aL]; rfl),ek.2 ⟨k,bd4 H aT aL e k aD,sQ.2 ?_⟩⟩⟩
  simp only[ci,Option.getD_some]at dC
  simp only[cM,Option.getD_some,dE]
  exact dC
 ·have bk6:n≠t:=fun e=>by subst e; rw[H.bh]at ao; cases ao
  rw[if_neg a1]
  simp only[H.o n a1 bk6]
  exact ek.2 ⟨(),sQ.2 ap,ek.2 ⟨(),sQ.2 ay,ek.2 ⟨k,bd4 H aT aL e k aD,sQ.2 dC⟩⟩⟩
mutual
theorem bm7 (H:xQ3 x y f t) (aT:(ef.mk x g r ps).look f=none) (aL:(ef.mk x g r ps).look t=none): ∀(s:ai),qc ⟨x,g,r,ps⟩ s= .ok ()→qc ⟨y,g,r,ps⟩ (bc2 f t s)= .ok ()
 | .mk k m e n a b,h=>by
  simp only[bc2,qc]at h ⊢
  by_cases U:k=1
  ·simp only[if_pos U]at h ⊢
   simp only[U,true_and]
   exact bi9 H aT aL h
  simp only[if_neg U]at h ⊢
  obtain⟨_,aa,h⟩:=ek.1 h
  obtain⟨_,aD,bA⟩:=ek.1 h
  refine ek.2 ⟨(),?_,ek.2 ⟨(),be7 H aT aL a aD,be7 H aT aL b bA⟩⟩
  split
  ·rename_i av
   rw[if_pos av]at aa
   obtain⟨q,b6,dx⟩:=ek.1 aa
   exact ek.2 ⟨q,bd4 H aT aL e q b6,dx⟩
  ·rename_i av
   rw[if_neg av]at aa
   split
   ·rename_i av
    rw[if_pos av]at aa
    obtain⟨q,b6,dx⟩:=ek.1 aa
    exact ek.2 ⟨q,bd4 H aT aL e q b6,dx⟩
   ·rfl
theorem be7 (H:xQ3 x y f t) (aT:(ef.mk x g r ps).look f=none) (aL:(ef.mk x g r ps).look t=none): ∀(l:List ai),j4 ⟨x,g,r,ps⟩ l= .ok ()→j4 ⟨y,g,r,ps⟩ (xQ1 f t l)= .ok ()
 |[],h=>by simp only[xQ1,j4]
 |s::l,h=>by
  simp only[xQ1,j4]at h ⊢
  obtain⟨_,U,aa⟩:=ek.1 h
  exact ek.2 ⟨(),bm7 H aT aL s U,be7 H aT aL l aa⟩
end
theorem bg5 (H:xQ3 x y f t) (aT:(ef.mk x g r ps).look f=none) (aL:(ef.mk x g r ps).look t=none){m:bw}: ∀(l:List au) (cg:List Fd),lq ⟨x,g,r,ps⟩ m l cg= .ok ()→lq ⟨y,g,r,ps⟩ m (bb4 f t l) cg= .ok ()
 |[],_,_=>by simp only[bb4,lq]
 | _:: _,[],_=>by simp only[bb4,lq]
 |e::l,d::cg,h=>by
  simp only[bb4,lq]at h ⊢
  obtain⟨k,U,h⟩:=ek.1 h
  obtain⟨_,aa,aD⟩:=ek.1 h
  exact ek.2 ⟨k,bd4 H aT aL e k U,ek.2 ⟨(),aa,bg5 H aT aL l cg aD⟩⟩
theorem bi8 (H:xQ3 x y f t) (aT:(ef.mk x g r ps).look f=none) (aL:(ef.mk x g r ps).look t=none): ∀(l:List au),ni ⟨x,g,r,ps⟩ l= .ok ()→ni ⟨y,g,r,ps⟩ (bb4 f t l)= .ok ()
 |[],_=>by simp only[bb4,ni]
 |e::l,h=>by
  simp only[bb4,ni]at h ⊢
  obtain⟨k,U,h⟩:=ek.1 h
  obtain⟨_,aa,aD⟩:=ek.1 h
  exact ek.2 ⟨k,bd4 H aT aL e k U,ek.2 ⟨(),aa,bi8 H aT aL l aD⟩⟩
end
theorem bd6 (f t:bw) (l:List au):(bb4 f t l).length=l.length:=by rw[bc7,List.length_map]
theorem bg3 (f t:bw) (l:List ai):(xQ1 f t l).length=l.length:=by rw[bd7,List.length_map]
def bc6 (f t:bw) (h:bS):bS:={h with body:=xQ1 f t h.body}
def bc3 (f t:bw) (o:cn):cn:={o with args:=bb4 f t o.args,eb:=bb4 f t o.eb}
section
variable {x y:cQ}{f t:bw}{g:di}{r:Int}
theorem bm0 (H:xQ3 x y f t){o:cn}(k:n7 ⟨x,g,r,none⟩ o= .ok ()):n7 ⟨y,g,r,none⟩ (bc3 f t o)= .ok ():=by
 unfold n7 at k ⊢
 obtain⟨d,U,k⟩:=ek.1 k
 obtain⟨_,aa,k⟩:=ek.1 k
 obtain⟨_,aD,bA⟩:=ek.1 k
 refine ek.2 ⟨d,U,ek.2 ⟨(),?_,ek.2 ⟨(),bg5 H rfl rfl _ _ aD,bi8 H rfl rfl _ bA⟩⟩⟩
 simp only[bc3,bd6]
 exact aa
theorem bf7 (n:bw): ∀(m:List (bw×Int)),(∀p∈m,p.1≠n)→mU n m=none
 |[],_=>rfl
 |p::m,h=>by
  simp only[mU]
  rw[if_neg (fun e=>h p (by simp) e.symm)]
  exact bf7 n m fun q bu=>h q (by simp [bu])
theorem bh8 (H:xQ3 x y f t): ∀(ps:List bw) (cg:List Fd) (acc m:List (bw×Int)),(∀p∈ps,p≠t)→ps.length=cg.length→(∀p∈acc,p.1≠f∧p.1≠t)→nF x.vars acc ps cg= .ok m→nF y.vars acc ps cg= .ok m∧∀p∈m,p.1≠f∧p.1≠t
 |[],cg,acc,m,_,_,aS,h=>by
  simp only[nF]at h ⊢
  cases h
  exact⟨rfl,aS⟩
 |p::ps,[],acc,m,_,aG,aS,h=>by cases aG
 |p::ps,d::cg,acc,m,a1,aG,aS,h=>by
  simp only[nF]at h ⊢
  obtain⟨_,U,aa⟩:=ek.1 h
  have ap:=sQ.1 U
  rw[Bool.and_eq_true,Bool.not_eq_true']at ap
  have ae6:=a1 p (by simp)
  have bh3:p≠f:=fun e=>by
   subst e
   obtain⟨v,w,ci,cM,dE⟩:=H.v
   rw[ci]at ap
   cases ap.1
  obtain⟨br,bB⟩:=bh8 H ps cg (acc++[(p,d.kind)]) m (fun q bu=>a1 q (by simp [bu])) (by simpa using aG) (fun q bu=>by
   rcases List.mem_append.1 bu with bu|bu
   ·exact aS q bu
   ·rw[List.mem_singleton.1 bu]; exact⟨bh3,ae6⟩) aa
  exact⟨ek.2 ⟨(),by rw[H.o p bh3 ae6]; exact U,br⟩,bB⟩
theorem bk1 (H:xQ3 x y f t){h:bS}(a1: ∀p∈h.ps,p≠t) (k:mo ⟨x,g,r,none⟩ [] h= .ok ()):mo ⟨y,g,r,none⟩ [] (bc6 f t h)= .ok ():=by
 unfold mo at k ⊢
 obtain⟨d,U,k⟩:=ek.1 k
 obtain⟨_,aa,k⟩:=ek.1 k
 obtain⟨_,aD,k⟩:=ek.1 k
 obtain⟨m,bA,b6⟩:=ek.1 k
 have aG:h.ps.length=d.fields.length:=by simpa using sQ.1 aD
 obtain⟨br,bB⟩:=bh8 H h.ps d.fields [] m a1 aG (fun p hp=>by cases hp) bA
 exact ek.2 ⟨d,U,ek.2 ⟨(),aa,ek.2 ⟨(),aD,ek.2 ⟨m,br,be7 (x:=x) (g:=g) (r:=r) (ps:=some m) H (bf7 f m fun p hp=>(bB p hp).1) (bf7 t m fun p hp=>(bB p hp).2) _ b6⟩⟩⟩⟩
end
end
section
def bb8 (n:Nat):bw:=List.replicate n 90
theorem bo8 {f:bw}(h:ev f=true):ev (bb8 f.length)=true:=by
 have U:f.length≤16∧f≠[]:=by
  unfold ev at h
  rw[Bool.and_eq_true]at h
  cases f with
  |nil=>exact absurd h.1 (by simp [ub])
  |cons c s=>
   have:=h.1
   simp only[ub,Bool.and_eq_true,decide_eq_true_eq]at this
   exact⟨this.1,by simp⟩
 have aa:0<f.length:=List.length_pos_iff.2 U.2
 have key: ∀n:Fin 17,0<n.val→ev (bb8 n.val)=true:=by decide+kernel
 exact key ⟨f.length,by omega⟩ aa
section
variable {f t:bw}
theorem bk2 (aL:ev t=true){k:Int}{o m s:bw}{n:Int}{lJ:Nat}(h:fp k o m s n lJ=true):fp k o (if k=3∧m=f then t else m) s n lJ=true:=by
 by_cases av:k=3∧m=f
 ·rw[if_pos av]
  obtain⟨rfl,rfl⟩:=av
  unfold fp at h ⊢
  simp only[if_neg (show ¬(3:Int)=1 by decide),if_neg (show ¬(3:Int)=2 by decide),if_true,Bool.and_eq_true]at h ⊢
  exact⟨aL,h.2⟩
 ·rw[if_neg av]
  exact h
mutual
theorem bh1 (aL:ev t=true): ∀e:au,fb e=true→fb (xQ0 f t e)=true
 | .mk k o m s n l,h=>by
  simp only[xQ0,fb,Bool.and_eq_true,bd6]at h ⊢
  exact⟨bk2 aL h.1,bf5 aL l h.2⟩
theorem bf5 (aL:ev t=true): ∀l:List au,mm l=true→mm (bb4 f t l)=true
 |[],_=>rfl
 |x::l,h=>by
  simp only[bb4,mm,Bool.and_eq_true]at h ⊢
  exact⟨bh1 aL x h.1,bf5 aL l h.2⟩
end
mutual
theorem bf0: ∀e:au,iR (xQ0 f t e)=iR e
 | .mk k o m s n l=>by simp only[xQ0,iR,bg7 l]
theorem bg7: ∀l:List au,ow (bb4 f t l)=ow l
 |[]=>rfl
 |x::l=>by simp only[bb4,ow,bf0 x,bg7 l]
end
mutual
theorem bg8: ∀e:ai,kv (bc2 f t e)=kv e
 | .mk k m x n a b=>by simp only[bc2,kv,bf0 x,bf1 a,bf1 b]
theorem bf1: ∀l:List ai,iG (xQ1 f t l)=iG l
 |[]=>rfl
 |x::l=>by simp only[xQ1,iG,bg8 x,bf1 l]
end
theorem bk3 (aL:ev t=true){k:Int}{m:bw}{n:Int}{lJ bP:Nat}(h:en k m n lJ bP=true):en k (if k=1∧m=f then t else m) n lJ bP=true:=by
 by_cases av:k=1∧m=f
 ·rw[if_pos av]
  obtain⟨rfl,rfl⟩:=av
  unfold en at h ⊢
  simp only[if_true,Bool.and_eq_true]at h ⊢
  exact⟨aL,h.2⟩
 ·rw[if_neg av]
  exact h
mutual
theorem bj8 (aL:ev t=true): ∀e:ai,iH e=true→iH (bc2 f t e)=true
 | .mk k m x n a b,h=>by
  simp only[bc2,iH,Bool.and_eq_true,bg3]at h ⊢
  exact⟨bk3 aL h.1,bh1 aL x h.2.1,be0 aL a h.2.2.1,be0 aL b h.2.2.2⟩
theorem be0 (aL:ev t=true): ∀l:List ai,jt l=true→jt (xQ1 f t l)=true
 |[],_=>rfl
 |x::l,h=>by
  simp only[xQ1,jt,Bool.and_eq_true]at h ⊢
  exact⟨bj8 aL x h.1,be0 aL l h.2⟩
end
theorem bj6 (aL:ev t=true){h:bS}(k:lR h=true):lR (bc6 f t h)=true:=by
 simp only[lR,bc6,Bool.and_eq_true]at k ⊢
 obtain⟨br,bB,cu,eO,hs,pe⟩:=k
 refine⟨br,bB,cu,eO,?_,?_⟩
 ·rw[←w4]at hs ⊢
  exact be0 aL _ hs
 ·rw[bd7,List.all_map]
  rw[List.all_eq_true]at pe ⊢
  intro s ao
  simp only[Function.comp_apply,bg8]
  exact pe s ao
theorem bj7 (aL:ev t=true){o:cn}(k:mn o=true):mn (bc3 f t o)=true:=by
 simp only[mn,bc3,Bool.and_eq_true,bd6]at k ⊢
 obtain⟨br,bB,cu,eO,hs,pe⟩:=k
 have e:bb4 f t o.args++bb4 f t o.eb=bb4 f t (o.args++o.eb):=by simp only[bc7,List.map_append]
 rw[e]
 refine⟨br,bB,cu,eO,?_,?_⟩
 ·rw[←yN]at hs ⊢
  exact bf5 aL _ hs
 ·rw[bc7,List.all_map]
  rw[List.all_eq_true]at pe ⊢
  intro s ao
  simp only[Function.comp_apply,bf0]
  exact pe s ao
theorem FZ {x y:au}{s u:bw}{k:Int}(U:x.kind=y.kind) (aa:x.op=y.op) (h:s.length=u.length):(ie x s k).length=(ie y u k).length:=by
 unfold ie
 rw[U,aa]
 split
 ·simp only[List.length_append,h]
 ·exact h
theorem bf6 (e:au):(xQ0 f t e).kind=e.kind:=by cases e; rfl
theorem bf8 (e:au):(xQ0 f t e).op=e.op:=by cases e; rfl
mutual
theorem bg0 (aG:t.length=f.length): ∀e:au,(cy (xQ0 f t e)).length=(cy e).length
 | .mk k o m s n l=>by
  simp only[xQ0,cy]
  unfold Bw
  split
  ·rfl
  split
  ·rfl
  split
  ·rename_i av
   by_cases hm:m=f
   ·rw[if_pos ⟨av,hm⟩,aG,hm]
   ·rw[if_neg fun h=>hm h.2]
  have ao:=bg1 aG l
  split
  ·match l,ao with
   |[],_=>rfl
   |x::l,ao=>
    simp only[bb4,CI,List.map_cons,List.cons.injEq]at ao
    simp only[bb4,CI,NZ,List.length_append,ao.1]
  split
  ·match l,ao with
   |[],_=>rfl
   |x::l,ao=>
    simp only[bb4,CI,List.map_cons,List.cons.injEq]at ao
    simp only[bb4,CI,Tt,List.length_append,FZ (bf6 x) (bf8 x) ao.1]
  ·match l,ao with
   |[],_=>rfl
   |[x],_=>rfl
   |x::y::l,ao=>
    simp only[bb4,CI,List.map_cons,List.cons.injEq]at ao
    simp only[bb4,CI,Ix,List.length_append,FZ (bf6 x) (bf8 x) ao.1,FZ (bf6 y) (bf8 y) ao.2.1]
theorem bg1 (aG:t.length=f.length): ∀l:List au,(CI (bb4 f t l)).map List.length=(CI l).map List.length
 |[]=>rfl
 |x::l=>by simp only[bb4,CI,List.map_cons,bg0 aG x,bg1 aG l]
end
theorem bl0: ∀b:List ai,mw (xQ1 f t b)=mw b
 |[]=>rfl
 |[y]=>by cases y; rfl
 | _:: _:: _=>rfl
theorem bl1: ∀b:List ai,(xQ1 f t b).isEmpty=b.isEmpty
 |[]=>rfl
 | _:: _=>rfl
mutual
theorem bh9 (aG:t.length=f.length): ∀(e:ai) (d:Nat) (bG:bw),(ai.iL d bG (bc2 f t e)).length=(ai.iL d bG e).length
 | .mk k m x n a b,d,bG=>by
  have ap:=bg0 aG x
  have ay:=be3 aG a (d+1)
  have b1:=be3 aG b (d+1)
  have dC:=bj3 aG b d
  simp only[bc2,ai.iL]
  split
  ·rename_i av
   have gF:(if k=1∧m=f then t else m).length=m.length:=by
    split
    ·rename_i h; rw[aG,h.2]
    ·rfl
   simp only[sN,List.flatten_cons,List.flatten_nil,List.length_append,List.length_nil,ap,av,true_and]at gF ⊢
   rw[gF]
  split
  ·simp only[sN,List.flatten_cons,List.flatten_nil,List.length_append,List.length_nil,ap,ay]
  ·rw[bl0,bl1]
   split
   ·simp only[sN,List.flatten_cons,List.flatten_nil,List.length_append,List.length_nil,ap,ay,dC]
   ·split
    ·simp only[sN,List.flatten_cons,List.flatten_nil,List.length_append,List.length_nil,ap,ay]
    ·simp only[sN,List.flatten_cons,List.flatten_nil,List.length_append,List.length_nil,ap,ay,b1]
theorem be3 (aG:t.length=f.length): ∀(l:List ai) (d:Nat),(ai.fW d (xQ1 f t l)).length=(ai.fW d l).length
 |[],_=>rfl
 |x::l,d=>by simp only[xQ1,ai.fW,List.length_append,bh9 aG x,be3 aG l]
theorem bj3 (aG:t.length=f.length): ∀(l:List ai) (d:Nat),(ai.vc d (xQ1 f t l)).length=(ai.vc d l).length
 |[],_=>rfl
 |x::l,d=>by simp only[xQ1,ai.vc,bh9 aG x]
end
theorem MV (aG:t.length=f.length) (h:bS):(jg (bc6 f t h)).length=(jg h).length:=by
 simp only[jg,bc6,List.length_append,be3 aG]
theorem bh4 (sep:bw): ∀(a b:List bw),a.map List.length=b.map List.length→(Lib.joinTail sep a).length=(Lib.joinTail sep b).length
 |[],[],_=>rfl
 |[],_:: _,h=>by cases h
 | _:: _,[],h=>by cases h
 |x::a,y::b,h=>by
  simp only[List.map_cons,List.cons.injEq]at h
  have:=bh4 sep a b h.2
  simp only[Lib.joinTail,List.map_cons,List.flatten_cons,List.length_append,h.1]at this ⊢
  omega
theorem bl2 (sep:bw) (a b:List bw) (h:a.map List.length=b.map List.length):(Lib.join a sep).length=(Lib.join b sep).length:=by
 cases a with
 |nil=>cases b with
  |nil=>rfl
  |cons y b=>cases h
 |cons x a=>cases b with
  |nil=>cases h
  |cons y b=>
   simp only[List.map_cons,List.cons.injEq]at h
   rw[Lib.join_cons,Lib.join_cons,List.length_append,List.length_append,h.1,bh4 sep a b h.2]
theorem bo6 (aG:t.length=f.length): ∀l:List au,(r9 (bb4 f t l)).length=(r9 l).length
 |[]=>rfl
 |x::l=>by simp only[bb4,r9,List.length_append,bg0 aG x]
theorem at4 (aG:t.length=f.length) (o:cn):(jQ (bc3 f t o)).length=(jQ o).length:=by
 have ap:(Lib.join ((bb4 f t o.args).map cy) [44,32]).length=(Lib.join (o.args.map cy) [44,32]).length:=bl2 _ _ _ (by rw[←CJ,←CJ]; exact bg1 aG o.args)
 simp only[jQ,bc3,sN,List.flatten_cons,List.flatten_nil,List.length_append,List.length_nil,ap,bo6 aG]
theorem bf4 {α:Type}(F G:α→bw): ∀(l:List α),(∀x∈l,(F x).length=(G x).length)→(l.map F).flatten.length=(l.map G).flatten.length
 |[],_=>rfl
 |x::l,h=>by
  have:=bf4 F G l fun y a8=>h y (by simp [a8])
  simp only[List.map_cons,List.flatten_cons,List.length_append,h x (by simp),this]
end
def bc5 (t:bw) (v:bJ):bJ:={v with name:=t}
def xQ2 (x:cQ) (k:Nat) (v:bJ) (t:bw):cQ:={x with vars:=x.vars.set k (bc5 t v),ao:=x.ao.map (bc6 v.name t),os:=x.os.map (bc3 v.name t)}
theorem bi6 {t:bw}{v:bJ}(aG:t.length=v.name.length): ∀(l:List bJ) (k:Nat),l[k]? =some v→((l.set k (bc5 t v)).map kl).flatten.length=(l.map kl).flatten.length
 |[],_,h=>by simp at h
 |w::l,0,h=>by
  simp at h
  subst h
  simp only[List.set_cons_zero,List.map_cons,List.flatten_cons,List.length_append,kl,bc5,sN,List.flatten_nil,List.length_nil,aG]
 |w::l,k+1,h=>by
  simp at h
  simp only[List.set_cons_succ,List.map_cons,List.flatten_cons,List.length_append,bi6 aG l k h]
theorem bj9 {x:cQ}{k:Nat}{v:bJ}(ad:x.vars[k]? =some v) (h:n0 x=true):n0 (xQ2 x k v (bb8 v.name.length))=true:=by
 simp only[n0,Bool.and_eq_true,decide_eq_true_eq]at h ⊢
 obtain⟨U,aa,aD⟩:=h
 simp only[pL,Bool.and_eq_true]at aa
 obtain⟨g1,g2,g3⟩:=aa
 have bo:=List.all_eq_true.1 g1 v (List.mem_of_getElem? ad)
 have hw:ev v.name=true:=by
  simp only[k6,Bool.and_eq_true]at bo
  exact bo.1
 have aL:=bo8 hw
 have aG:(bb8 v.name.length).length=v.name.length:=by simp [bb8]
 refine⟨?_,?_,?_⟩
 ·simp only[sT,xQ2,List.length_set,List.length_map]at U ⊢
  exact U
 ·simp only[pL,xQ2,Bool.and_eq_true]
  refine⟨?_,?_,?_⟩
  ·rw[List.all_eq_true]
   intro w Fv
   rcases List.mem_or_eq_of_mem_set Fv with hm|rfl
   ·exact List.all_eq_true.1 g1 w hm
   ·simp only[k6,bc5,Bool.and_eq_true]at bo ⊢
    exact⟨aL,bo.2⟩
  ·rw[List.all_map,List.all_eq_true]
   intro a aS
   exact bj6 aL (List.all_eq_true.1 g2 a aS)
  ·rw[List.all_map,List.all_eq_true]
   intro a aS
   exact bj7 aL (List.all_eq_true.1 g3 a aS)
 ·have e:(nQ (xQ2 x k v (bb8 v.name.length))).length=(nQ x).length:=by
   have ap:=bi6 aG x.vars k ad
   have ay:((x.ao.map (bc6 v.name (bb8 v.name.length))).map jg).flatten.length=(x.ao.map jg).flatten.length:=by
    rw[List.map_map]
    exact bf4 _ _ x.ao fun y _=>MV aG y
   have b1:((x.os.map (bc3 v.name (bb8 v.name.length))).map jQ).flatten.length=(x.os.map jQ).flatten.length:=by
    rw[List.map_map]
    exact bf4 _ _ x.os fun y _=>at4 aG y
   simp only[nQ,xQ2,List.length_append,ap,ay,b1]
  rw[e]
  exact aD
theorem be8: ∀(l a:List bJ),nh a l= .ok ()↔(∀w∈l,(nI w.fB w.b3 w.af&&ve w)=true)∧(∀w∈l,∀u∈a,u.name≠w.name)∧l.Pairwise (fun u w=>u.name≠w.name)
 |[],a=>by simp [nh]
 |x::l,a=>by
  have dJ:(!a.any fun w=>decide (w.name=x.name))=true↔ ∀u∈a,u.name≠x.name:=by
   rw[Bool.not_eq_true',Bool.eq_false_iff,ne_eq,List.any_eq_true]
   simp only[decide_eq_true_eq]
   constructor
   ·intro k u hu an; exact k ⟨u,hu,an⟩
   ·rintro k ⟨u,hu,an⟩; exact k u hu an
  simp only[nh,List.pairwise_cons]
  constructor
  ·intro h
   obtain⟨_,U,h⟩:=ek.1 h
   obtain⟨_,aa,aD⟩:=ek.1 h
   obtain⟨br,bB,cu⟩:=(be8 l (a++[x])).1 aD
   refine⟨fun w hw=> ?_,fun w hw u hu=> ?_,fun w hw=>bB w hw x (by simp),cu⟩
   ·rcases List.mem_cons.1 hw with rfl|hw
    ·exact sQ.1 aa
    ·exact br w hw
   ·rcases List.mem_cons.1 hw with rfl|hw
    ·exact dJ.1 (sQ.1 U) u hu
    ·exact bB w hw u (by simp [hu])
  ·rintro⟨br,bB,cu,eO⟩
   refine ek.2 ⟨(),sQ.2 (dJ.2 fun u hu=>bB x (by simp) u hu),ek.2 ⟨(),sQ.2 (br x (by simp)),(be8 l (a++[x])).2 ⟨fun w hw=>br w (by simp [hw]),fun w hw u hu=> ?_,eO⟩⟩⟩
   rcases List.mem_append.1 hu with hu|hu
   ·exact bB w (by simp [hw]) u hu
   ·rw[List.mem_singleton.1 hu]; exact cu w hw
theorem bd1 (w:bJ) (l:List bJ) (n:bw):varOf (w::l) n=if w.name=n then some w else varOf l n:=by
 unfold varOf
 rw[List.find?_cons]
 by_cases h:w.name=n
 ·simp [h]
 ·simp [h]
theorem bi3 {v:bJ}: ∀(l:List bJ) (k:Nat),l[k]? =some v→l.Pairwise (fun u w=>u.name≠w.name)→varOf l v.name=some v
 |[],_,h,_=>by simp at h
 |w::l,0,h,_=>by
  simp at h
  subst h
  rw[bd1,if_pos rfl]
 |w::l,k+1,h,hp=>by
  simp at h
  rw[List.pairwise_cons]at hp
  rw[bd1,if_neg (hp.1 v (List.mem_of_getElem? h))]
  exact bi3 l k h hp.2
theorem bi4 {v:bJ}{t:bw}: ∀(l:List bJ) (k:Nat),l[k]? =some v→(∀w∈l,w.name≠t)→varOf (l.set k (bc5 t v)) t=some (bc5 t v)
 |[],_,h,_=>by simp at h
 |w::l,0,h,_=>by
  rw[List.set_cons_zero,bd1]
  exact if_pos rfl
 |w::l,k+1,h,aL=>by
  simp at h
  rw[List.set_cons_succ,bd1,if_neg (aL w (by simp))]
  exact bi4 l k h fun u hu=>aL u (by simp [hu])
theorem bi5 {v:bJ}{t m:bw}(U:m≠v.name) (aa:m≠t): ∀(l:List bJ) (k:Nat),l[k]? =some v→varOf (l.set k (bc5 t v)) m=varOf l m
 |[],_,h=>by simp at h
 |w::l,0,h=>by
  simp at h
  subst h
  rw[List.set_cons_zero,bd1,bd1,if_neg (show ¬(bc5 t w).name=m from Ne.symm aa),if_neg (Ne.symm U)]
 |w::l,k+1,h=>by
  simp at h
  rw[List.set_cons_succ,bd1,bd1,bi5 U aa l k h]
theorem bo3 {t:bw}{l:List bJ}(h: ∀w∈l,w.name≠t):varOf l t=none:=by
 unfold varOf
 rw[List.find?_eq_none]
 intro w hw
 simpa using h w hw
theorem bh7 {v:bJ}{t:bw}: ∀(l:List bJ) (k:Nat),(∀w∈l,w.name≠t)→l.Pairwise (fun u w=>u.name≠w.name)→(l.set k (bc5 t v)).Pairwise (fun u w=>u.name≠w.name)
 |[],_,_,h=>by simp
 |w::l,0,aL,hp=>by
  rw[List.pairwise_cons]at hp
  rw[List.set_cons_zero,List.pairwise_cons]
  exact⟨fun u hu=>(aL u (by simp [hu])).symm,hp.2⟩
 |w::l,k+1,aL,hp=>by
  rw[List.pairwise_cons]at hp
  rw[List.set_cons_succ,List.pairwise_cons]
  refine⟨fun u hu=> ?_,bh7 l k (fun u hu=>aL u (by simp [hu])) hp.2⟩
  rcases List.mem_or_eq_of_mem_set hu with hu|rfl
  ·exact hp.1 u hu
  ·exact aL w (by simp)
theorem bj2 {x:cQ}{g:di}{k:Nat}{v:bJ}(ad:x.vars[k]? =some v) (h:(j9 x g).2=0) (U: ∀w∈x.vars,w.name≠bb8 v.name.length) (aa: ∀a∈x.ao,∀p∈a.ps,p≠bb8 v.name.length):(j9 (xQ2 x k v (bb8 v.name.length)) g).2=0:=by
 obtain⟨a0,a,b⟩:=A2.1 h
 obtain⟨br,bB,cu,eO,hs⟩:=F2 b
 obtain⟨pe,_,zn⟩:=(xd _ _ _).1 eO
 have am8:=(zG _ _).1 hs
 obtain⟨v1,_,v3⟩:=(be8 _ _).1 cu
 have H:xQ3 x (xQ2 x k v (bb8 v.name.length)) v.name (bb8 v.name.length):=⟨⟨v,bc5 (bb8 v.name.length) v,bi3 x.vars k ad v3,bi4 x.vars k ad U,rfl⟩,bo3 U,fun m ap ay=>bi5 ap ay x.vars k ad⟩
 refine A2.2 ⟨bj9 ad a0,a,Pw br bB ((be8 _ _).2 ⟨?_,(fun _ _ u hu=>by cases hu),bh7 x.vars k U v3⟩) ((xd _ _ _).2 ⟨?_,(fun _ _ o aj=>by cases aj),?_⟩) ((zG _ _).2 ?_)⟩
 ·intro w hw
  rcases List.mem_or_eq_of_mem_set hw with hw|rfl
  ·exact v1 w hw
  ·exact v1 v (List.mem_of_getElem? ad)
 ·intro y a8
  obtain⟨z,aw,rfl⟩:=List.mem_map.1 a8
  exact bk1 H (aa z aw) (pe z aw)
 ·refine List.pairwise_map.2 ?_
  exact zn
 ·intro o aj
  obtain⟨z,aw,rfl⟩:=List.mem_map.1 aj
  exact bm0 H (am8 z aw)
end
section
attribute [local go_sem] au.cO ai.cO au.cx ai.cx cf dn fo gv dF of_flat bJ.row dW fX io bd5 be4
attribute [local go_sem] hE gz gy hB fK fZ e9 dM Fd.row eX fi df.row fc.row cj.row
theorem xQ7 {a:Int}{n:Nat}(aW:0≤a) (a1:0<n): ∃k:Nat,a.tmod (n:Int)=(k:Int)∧k<n:=by
 rw[Int.tmod_eq_emod_of_nonneg aW]
 have U:=Int.emod_nonneg a (show (n:Int)≠0 by omega)
 have aa:=Int.emod_lt_of_pos a (show (0:Int)<(n:Int) by omega)
 exact⟨(a%(n:Int)).toNat,by omega,by omega⟩
theorem bo7 (i:Nat):bb8 i++[90]=bb8 (i+1):=by unfold bb8; rw[List.replicate_succ']
theorem bl6 {f:bw}(h:ev f=true):f.length≤16:=by
 unfold ev at h
 rw[Bool.and_eq_true]at h
 cases f with
 |nil=>simp
 |cons c s=>
  have:=h.1
  simp only[ub,Bool.and_eq_true,decide_eq_true_eq]at this
  exact this.1
theorem bi7 (l:List bJ) (k:Nat) (v:bJ) (t:bw):(l.map bJ.row).set k ((bJ.row v).set 0 (.str t))=(l.set k (bc5 t v)).map bJ.row:=by
 rw[List.map_set]; rfl
def bc0 (f t:bw) (h:bS):List I:=bS.row (bc6 f t h)
theorem bk0 (f t:bw) (h:bS):bc0 f t h=[.str h.da,.str h.peer,.aq 1 (h.ps.map cf),.aq 11 (h.body.map (bc8 f t))]:=by
 simp only[bc0,bc6,fo,bd7,bg2]
theorem bh2 (f t:bw) (l:List bS):l.map (bc0 f t)=(l.map (bc6 f t)).map bS.row:=by rw[List.map_map]; rfl
theorem be1 (f t:bw) (l:List bS):eY (l.map (bc0 f t))=true:=by rw[bh2]; exact dF _
def bc1 (f t:bw) (o:cn):List I:=cn.row (bc3 f t o)
theorem bl8 (f t:bw) (o:cn):bc1 f t o=[.str o.da,.str o.peer,.aq 6 (o.args.map (bb6 f t)),.aq 6 (o.eb.map (bb6 f t))]:=by
 simp only[bc1,bc3,gv,bc7,bd2]
theorem xQ5 (f t:bw) (l:List cn):l.map (bc1 f t)=(l.map (bc3 f t)).map cn.row:=by rw[List.map_map]; rfl
theorem be2 (f t:bw) (l:List cn):eY (l.map (bc1 f t))=true:=by rw[xQ5]; exact of_flat _
attribute [local go_sem] be1 be2
mutual
theorem bh0 {R:Nat}{f t:bw}(aL:t.length≤R): ∀e:au,e.ok R→(xQ0 f t e).ok R
 | .mk k o m s n l,h=>by
  simp only[xQ0,au.ok,bd6]at h ⊢
  refine⟨h.1,h.2.1,?_,h.2.2.2.1,h.2.2.2.2.1,h.2.2.2.2.2.1,bd9 aL l h.2.2.2.2.2.2⟩
  split
  ·exact aL
  ·exact h.2.2.1
theorem bd9 {R:Nat}{f t:bw}(aL:t.length≤R): ∀l:List au,au.mW R l→au.mW R (bb4 f t l)
 |[],_=>trivial
 |x::l,h=>⟨bh0 aL x h.1,bd9 aL l h.2⟩
end
mutual
theorem bm6 {R:Nat}{f t:bw}(aL:t.length≤R): ∀e:ai,e.ok R→(bc2 f t e).ok R
 | .mk k m x n a b,h=>by
  simp only[bc2,ai.ok,bg3]at h ⊢
  refine⟨h.1,?_,bh0 aL x h.2.2.1,h.2.2.2.1,h.2.2.2.2.1,h.2.2.2.2.2.1,be6 aL a h.2.2.2.2.2.2.1,be6 aL b h.2.2.2.2.2.2.2⟩
  split
  ·exact aL
  ·exact h.2.1
theorem be6 {R:Nat}{f t:bw}(aL:t.length≤R): ∀l:List ai,ai.mW R l→ai.mW R (xQ1 f t l)
 |[],_=>trivial
 |x::l,h=>⟨bm6 aL x h.1,be6 aL l h.2⟩
end
mutual
theorem bg9 {f t:bw}: ∀e:au,(xQ0 f t e).cv=e.cv
 | .mk k o m s n l=>by simp only[xQ0,au.cv,bf3 l]
theorem bf3 {f t:bw}: ∀l:List au,au.ch (bb4 f t l)=au.ch l
 |[]=>rfl
 |x::l=>by simp only[bb4,au.ch,bg9 x,bf3 l]
end
mutual
theorem bm5 {f t:bw}: ∀e:ai,(bc2 f t e).cv=e.cv
 | .mk k m x n a b=>by simp only[bc2,ai.cv,bg9 x,be5 a,be5 b]
theorem be5 {f t:bw}: ∀l:List ai,ai.ch (xQ1 f t l)=ai.ch l
 |[]=>rfl
 |x::l=>by simp only[xQ1,ai.ch,bm5 x,be5 l]
end
theorem bm3 {R:Nat}{x:cQ}{k:Nat}{v:bJ}{t:bw}(ad:x.vars[k]? =some v) (aL:t.length≤R) (ab:x.ok R):(xQ2 x k v t).ok R where
 name:=ab.name
 bO:=ab.bO
 fM:=ab.fM
 lZ:=by simp only[xQ2,List.length_set]; exact ab.lZ
 vars:=fun w hw=>by
  rcases List.mem_or_eq_of_mem_set hw with hw|rfl
  ·exact ab.vars w hw
  ·have h:=ab.vars v (List.mem_of_getElem? ad)
   exact⟨⟨aL,h.1.2⟩,h.2⟩
 lY:=by simp only[xQ2,List.length_map]; exact ab.lY
 ao:=fun w hw=>by
  obtain⟨z,aw,rfl⟩:=List.mem_map.1 hw
  have h:=ab.ao z aw
  exact⟨h.1,h.2.1,h.2.2.1,h.2.2.2.1,(by simp only[bc6,bg3]; exact h.2.2.2.2.1),be6 aL _ h.2.2.2.2.2⟩
 no:=by simp only[xQ2,List.length_map]; exact ab.no
 os:=fun w hw=>by
  obtain⟨z,aw,rfl⟩:=List.mem_map.1 hw
  have h:=ab.os z aw
  exact⟨h.1,h.2.1,(by simp only[bc3,bd6]; exact h.2.2.1),bd9 aL _ h.2.2.2.1,(by simp only[bc3,bd6]; exact h.2.2.2.2.1),bd9 aL _ h.2.2.2.2.2⟩
theorem bm1 {x:cQ}{k:Nat}{v:bJ}{t:bw}(hb:oX x):oX (xQ2 x k v t) where
 aS:=fun w hw=>by
  obtain⟨z,aw,rfl⟩:=List.mem_map.1 hw
  simp only[bc6,be5]
  exact hb.aS z aw
 hp:=fun w hw=>by
  obtain⟨z,aw,rfl⟩:=List.mem_map.1 hw
  exact hb.hp z aw
 qT:=fun w hw=>by
  obtain⟨z,aw,rfl⟩:=List.mem_map.1 hw
  simp only[bc3,bf3]
  exact hb.qT z aw
 lZ:=by simp only[xQ2,List.length_set]; exact hb.lZ
 lY:=by simp only[xQ2,List.length_map]; exact hb.lY
 no:=by simp only[xQ2,List.length_map]; exact hb.no
theorem bm2 (x:cQ) (k:Nat) (v:bJ) (t:bw):(xQ2 x k v t).eL= .agg [.str x.name,.str x.bO,.str x.fM,.aq 7 ((x.vars.set k (bc5 t v)).map bJ.row),.aq 4 (x.ao.map (bc0 v.name t)),.aq 4 (x.os.map (bc1 v.name t))]:=by
 rw[oa,bh2,xQ5]; rfl
theorem bo4 {R:Nat}(ag:R≤140737488355328) (rJ:10000≤R) (x:cQ) (g:di) (a:Int) (BE:0≤a) (MT:a<256) (ab:x.ok R) (EV:fk x.cells≤100000000) (ab6:fk g.cells≤100000000):Pure Tryz.prog 13 [x.eL,g.eL,.int .u8 a] (.bool true):=by
 obtain⟨BK,a62⟩:=Zh ab6
 have f1:=aY2 ag x g ab BK (by omega)
 have e4:=Cq ag x ab
 have MI:=aY1
 cases aT:(pU x&&tH g) with
 |false=>
  rw[aT]at f1
  rw[oa]at*
  simp only[rI]at*
  refine cw be Tryz.func13 bg6 (by simp only[b2,I.flat,dW,dF,of_flat,dn,e9,fK,fZ,Bool.and_self]) rfl ?_
  unfold bf2 bf9
  simp(disch:=omega)only[go_sem,simprocAttr]
  refine ak ?_
  refine D.P (MI) ?_
  refine ak ?_
  refine D.P (f1) ?_
  refine ak ?_
  exact D.rx
 |true=>
 rw[aT]at f1
 simp only[Bool.and_eq_true]at aT
 have hb:=UQ EV aT.1
 obtain⟨v1,v2,v3⟩:=YY aT.1
 have kX:=xL x g hb BK
 rcases hC:j9 x g with ⟨qS,ap⟩
 rw[hC]at kX
 simp only[tr]at kX
 have qQ:((x.vars.map bJ.row).length:Int)=(x.vars.length:Int):=by rw[List.length_map]
 have bp1:(x.vars.map bJ.row).length=x.vars.length:=List.length_map _
 rw[oa]at f1 e4 kX ⊢
 simp only[rI]at*
 refine cw be Tryz.func13 bg6 (by simp only[b2,I.flat,dW,dF,of_flat,dn,e9,fK,fZ,Bool.and_self]) rfl ?_
 unfold bf2 bf9
 simp(disch:=omega)only[go_sem,simprocAttr]
 refine ak ?_
 refine D.P (MI) ?_
 refine ak ?_
 refine D.P (f1) ?_
 (have ae:=qQ;refine th ?_;clear ae)
 by_cases a1:x.vars.length=0
 ·have d0:(x.vars.length:Int)=0:=by omega
  (have ae:=d0;have z2:=qQ;refine dQ ?_;clear ae z2)
  exact D.rx
 have d0: ¬(x.vars.length:Int)=0:=by omega
 (have ae:=d0;refine x9 ?_;clear ae)
 refine ar.gC (anns:=[(.agg [.str x.name,.str x.bO,.str x.fM,.aq 7 (x.vars.map bJ.row),.aq 4 (x.ao.map bS.row),.aq 4 (x.os.map cn.row)]),.c3 [.str qS,.int .i64 ap]]) ?_
 refine b0 ?_
 refine D.ei (e4) ?_
 refine b0 ?_
 refine D.ei (kX) ?_
 by_cases aW:ap=0
 rotate_left
 ·(have ae:=aW;refine bt ?_;clear ae)
  exact D.rx
 have ir:(j9 x g).2=0:=by rw[hC]; exact aW
 obtain⟨k,br,bB⟩:=xQ7 BE (show 0<x.vars.length by omega)
 obtain⟨v,ad⟩: ∃v,x.vars[k]? =some v:=⟨_,List.getElem?_eq_getElem bB⟩
 have Nc:=(A2.1 ir).1
 have hlen:v.name.length≤16:=by
  simp only[n0,pL,Bool.and_eq_true]at Nc
  have:=List.all_eq_true.1 Nc.2.1.1 v (List.mem_of_getElem? ad)
  simp only[k6,Bool.and_eq_true]at this
  exact bl6 this.1
 have bd0:=bj2 ad ir
 (have ae:=aW;have z2:=qQ;have z3:=And.intro d0 br;refine ep ?_;clear ae z2 z3)
 refine ar.cU (X:=Nat) 0 (fun i=>[(3,.ptr 0 0),(4,.ptr 1 0),(9,.int .i64 (k:Int)),(10,.str v.name),(11,.str (bb8 i)),(12,.int .i64 (i:Int))]) (fun _=>[(0,26,[.str x.name,.str x.bO,.str x.fM,.aq 7 (x.vars.map bJ.row),.aq 4 (x.ao.map bS.row),.aq 4 (x.os.map cn.row)]),(1,32,[.str g.name,.aq 1 (g.dl.map cf),.aq 5 (g.decls.map cj.row),.int .i64 g.jA,.int .i64 g.start,.int .i64 g.fin,.aq 6 (g.cD.map df.row),.aq 3 (g.jm.map fc.row)])]) (fun _=>[]) (fun i=>i≤v.name.length) (fun i=>v.name.length-i) (Nat.zero_le _) ⟨rfl,rfl,rfl,rfl,rfl,rfl,trivial⟩ ⟨rfl,rfl,trivial⟩ trivial ?_
 intro i af
 try simp only at af ⊢
 by_cases cz:i<v.name.length
 ·have d1:(i:Int)<(v.name.length:Int):=by omega
  (have ae:=d1;refine bt ?_;clear ae)
  refine D.bU ?_ (hb:=by simp only[bb8,List.length_replicate,List.length_cons,List.length_nil,maxLen]; omega)
  refine ak ?_
  refine ar.eC (i+1) (by omega) ⟨rfl,rfl,rfl,rfl,by rw[←bo7]; rfl,rfl,trivial⟩ ⟨rfl,rfl,trivial⟩ trivial rfl rfl (by show v.name.length-(i+1)<v.name.length-i; omega)
 have e:i=v.name.length:=by omega
 subst e
 have d1: ¬(v.name.length:Int)<(v.name.length:Int):=by omega
 obtain⟨t,aL⟩: ∃t,t=bb8 v.name.length:=⟨_,rfl⟩
 have cH:t.length=v.name.length:=by rw[aL]; simp [bb8]
 rw[←aL]at bd0 ⊢
 clear af cz
 (have ae:=d1;refine bt ?_;clear ae)
 refine ar.cU (X:=Nat) 0 (fun i=>[(3,.ptr 0 0),(4,.ptr 1 0),(9,.int .i64 (k:Int)),(10,.str v.name),(11,.str t),(13,.int .i64 (i:Int))]) (fun _=>[(0,26,[.str x.name,.str x.bO,.str x.fM,.aq 7 (x.vars.map bJ.row),.aq 4 (x.ao.map bS.row),.aq 4 (x.os.map cn.row)]),(1,32,[.str g.name,.aq 1 (g.dl.map cf),.aq 5 (g.decls.map cj.row),.int .i64 g.jA,.int .i64 g.start,.int .i64 g.fin,.aq 6 (g.cD.map df.row),.aq 3 (g.jm.map fc.row)])]) (fun _=>[]) (fun i=>i≤x.vars.length∧∀w∈x.vars.take i,w.name≠t) (fun i=>x.vars.length-i) ⟨Nat.zero_le _,by simp⟩ ⟨rfl,rfl,rfl,rfl,rfl,rfl,trivial⟩ ⟨rfl,rfl,trivial⟩ trivial ?_
 rintro i ⟨af,hw⟩
 try simp only at af hw ⊢
 cases hu:x.vars[i]? with
 |some u=>
  have cz:=(List.getElem?_eq_some_iff.1 hu).1
  have d1:(i:Int)<((x.vars.map bJ.row).length:Int):=by omega
  by_cases bu:u.name=t
  ·have d2:decide (u.name=t)=true:=decide_eq_true bu
   (have ae:=d1;have z2:=d2;refine dQ ?_;clear ae z2)
   exact D.rx
  ·have d2:decide (u.name=t)=false:=decide_eq_false bu
   (have ae:=d1;have z2:=d2;refine dQ ?_;clear ae z2)
   refine ar.eC (i+1) ⟨by omega,?_⟩ ⟨rfl,rfl,rfl,rfl,rfl,rfl,trivial⟩ ⟨rfl,rfl,trivial⟩ trivial rfl rfl (by show x.vars.length-(i+1)<x.vars.length-i; omega)
   intro w hm
   rw[List.take_add_one,hu]at hm
   rcases List.mem_append.1 hm with hm|hm
   ·exact hw w hm
   ·simp at hm
    rw[hm]; exact bu
 |none=>
 have b4:=List.getElem?_eq_none_iff.1 hu
 have e:i=x.vars.length:=by omega
 subst e
 have d1: ¬(x.vars.length:Int)<((x.vars.map bJ.row).length:Int):=by omega
 rw[List.take_length]at hw
 replace bd0:=bd0 hw
 clear hu b4 af
 have bk8:(x.vars.map bJ.row)[k]? =some (bJ.row v):=bl9 ad
 have Fq: ∀r∈x.vars.map bJ.row,r.length=7:=fun r ac=>by
  obtain⟨w,_,rfl⟩:=List.mem_map.1 ac
  rfl
 (have ae:=d1;refine bt ?_;clear ae)
 refine D.Ib ?_
 refine b0 ?_
 refine ak ?_
 refine D.sL (rows:=x.vars.map bJ.row) (size:=7) (T:=92) k (by omega) ?_
 refine b0 ?_
 refine D.YV ?_
 refine b0 ?_
 refine D.aN3 (rows:=x.vars.map bJ.row) (size:=7) (T:=92) (p:=k) (k:=0) (t:=0) bk8 Fq (by decide) ?_ rfl
 refine b0 ?_
 refine ar.bj5 2 3 7 0 92 1 rfl rfl rfl (by rw[bi7]; exact dW _) ?_
 rw[bi7]
 simp(disch:=omega)only[go_sem,simprocAttr]
 generalize bk9:x.vars.set k (bc5 t v)=eh
 refine ak ?_
 refine ar.vi 2 4 4 113 rfl rfl (by decide) ?_
 simp(disch:=omega)only[go_sem,simprocAttr]
 refine ar.vi 2 5 4 116 rfl rfl (by decide) ?_
 simp(disch:=omega)only[go_sem,simprocAttr]
 refine ar.cU (X:=Nat) 0 (fun i=>[(3,.ptr 0 0),(4,.ptr 1 0),(10,.str v.name),(11,.str t),(14,.ptr 2 0),(15,.int .i64 (i:Int))]) (fun i=>[(0,26,[.str x.name,.str x.bO,.str x.fM,.aq 7 (x.vars.map bJ.row),.aq 4 (x.ao.map bS.row),.aq 4 (x.os.map cn.row)]),(1,32,[.str g.name,.aq 1 (g.dl.map cf),.aq 5 (g.decls.map cj.row),.int .i64 g.jA,.int .i64 g.start,.int .i64 g.fin,.aq 6 (g.cD.map df.row),.aq 3 (g.jm.map fc.row)]),(2,26,[.str x.name,.str x.bO,.str x.fM,.aq 7 (eh.map bJ.row),.own 1 4 ((x.ao.take i).map (bc0 v.name t)),.own 2 4 (([]:List cn).map (bc1 v.name t))])]) (fun i=>[(1,.bY 113 4 ((x.ao.take i).map (bc0 v.name t)).length),(2,.bY 116 4 (([]:List cn).map (bc1 v.name t)).length)]) (fun i=>i≤x.ao.length∧∀a∈x.ao.take i,∀p∈a.ps,p≠t) (fun i=>x.ao.length-i) ⟨Nat.zero_le _,by simp⟩ ⟨rfl,rfl,rfl,rfl,rfl,rfl,trivial⟩ ⟨rfl,rfl,rfl,trivial⟩ ⟨rfl,rfl,trivial⟩ ?_
 rintro i ⟨af,hp⟩
 try simp only at af hp ⊢
 cases hu:x.ao[i]? with
 |some h=>
  have cz:=(List.getElem?_eq_some_iff.1 hu).1
  have sF:(x.ao.take i).length=i:=by simp; omega
  have gm:=z6 (bc0 v.name t) hu
  rw[bk0]at gm
  have d1:(i:Int)<((x.ao.map bS.row).length:Int):=by rw[List.length_map]; omega
  have bd3:=ab.ao h (List.mem_of_getElem? hu)
  have bd8:=bg4 ag v.name t (ai.ch h.body) h.body (Nat.le_refl _) (Nat.le_trans bd3.2.2.2.2.1 ag) bd3.2.2.2.2.2
  have bo9:=hb.hp h (List.mem_of_getElem? hu)
  have bp0:((h.ps.map cf).length:Int)=(h.ps.length:Int):=by rw[List.length_map]
  (have ae:=d1;refine bt ?_;clear ae)
  refine ar.cU (X:=Nat) 0 (fun j=>[(3,.ptr 0 0),(4,.ptr 1 0),(10,.str v.name),(11,.str t),(14,.ptr 2 0),(15,.int .i64 (i:Int)),(16,.ptr 3 0),(17,.int .i64 (j:Int))]) (fun j=>[(0,26,[.str x.name,.str x.bO,.str x.fM,.aq 7 (x.vars.map bJ.row),.aq 4 (x.ao.map bS.row),.aq 4 (x.os.map cn.row)]),(1,32,[.str g.name,.aq 1 (g.dl.map cf),.aq 5 (g.decls.map cj.row),.int .i64 g.jA,.int .i64 g.start,.int .i64 g.fin,.aq 6 (g.cD.map df.row),.aq 3 (g.jm.map fc.row)]),(2,26,[.str x.name,.str x.bO,.str x.fM,.aq 7 (eh.map bJ.row),.own 1 4 ((x.ao.take i).map (bc0 v.name t)),.own 2 4 (([]:List cn).map (bc1 v.name t))]),(3,113,[.str h.da,.str h.peer,.aq 1 (h.ps.map cf),.aq 11 (h.body.map ai.row)])]) (fun j=>[(1,.bY 113 4 ((x.ao.take i).map (bc0 v.name t)).length),(2,.bY 116 4 (([]:List cn).map (bc1 v.name t)).length)]) (fun j=>j≤h.ps.length∧∀p∈h.ps.take j,p≠t) (fun j=>h.ps.length-j) ⟨Nat.zero_le _,by simp⟩ ⟨rfl,rfl,rfl,rfl,rfl,rfl,rfl,rfl,trivial⟩ ⟨rfl,rfl,rfl,rfl,trivial⟩ ⟨rfl,rfl,trivial⟩ ?_
  rintro j ⟨bm,bu⟩
  try simp only at bm bu ⊢
  cases ag5:h.ps[j]? with
  |some p=>
   have Fb:=(List.getElem?_eq_some_iff.1 ag5).1
   have d2:(j:Int)<((h.ps.map cf).length:Int):=by omega
   by_cases he:p=t
   ·have d3:decide (p=t)=true:=decide_eq_true he
    (have ae:=d2;have z2:=d3;refine dQ ?_;clear ae z2)
    exact D.rx
   ·have d3:decide (p=t)=false:=decide_eq_false he
    (have ae:=d2;have z2:=d3;refine dQ ?_;clear ae z2)
    refine ar.eC (j+1) ⟨by omega,?_⟩ ⟨rfl,rfl,rfl,rfl,rfl,rfl,rfl,rfl,trivial⟩ ⟨rfl,rfl,rfl,rfl,trivial⟩ ⟨rfl,rfl,trivial⟩ rfl rfl (by show h.ps.length-(j+1)<h.ps.length-j; omega)
    intro w hm
    rw[List.take_add_one,ag5]at hm
    rcases List.mem_append.1 hm with hm|hm
    ·exact bu w hm
    ·simp at hm
     rw[hm]; exact he
  |none=>
  have b4:=List.getElem?_eq_none_iff.1 ag5
  have e:j=h.ps.length:=by omega
  subst e
  have d2: ¬(h.ps.length:Int)<((h.ps.map cf).length:Int):=by omega
  rw[List.take_length]at bu
  clear ag5 b4 bm
  (have ae:=d2;refine bt ?_;clear ae)
  refine D.P (bd8) ?_
  refine ak ?_
  refine D.iE ?_
  refine ak ?_
  refine ar.jS (i+1) ⟨by omega,?_⟩ ⟨rfl,rfl,rfl,rfl,rfl,rfl,trivial⟩ (by refine⟨rfl,rfl,?_,trivial⟩; simp only[gm]; rfl) (by refine⟨?_,rfl,trivial⟩; simp only[gm,List.length_append]; rfl) rfl (by simp only[im,dw,eA,eB,ia,I.du,bM.bY,dW,dF,of_flat,be1,be2,go_sem]<;>rfl) (by show x.ao.length-(i+1)<x.ao.length-i; omega)
  intro b hm
  rw[List.take_add_one,hu]at hm
  rcases List.mem_append.1 hm with hm|hm
  ·exact hp b hm
  ·simp at hm
   rw[hm]; exact bu
 |none=>
 have b4:=List.getElem?_eq_none_iff.1 hu
 have e:i=x.ao.length:=by omega
 subst e
 have d1: ¬(x.ao.length:Int)<((x.ao.map bS.row).length:Int):=by rw[List.length_map]; omega
 rw[List.take_length]at hp ⊢
 replace bd0:=bd0 hp
 clear hu b4 af
 (have ae:=d1;refine bt ?_;clear ae)
 refine ar.cU (X:=Nat) 0 (fun i=>[(3,.ptr 0 0),(4,.ptr 1 0),(10,.str v.name),(11,.str t),(14,.ptr 2 0),(18,.int .i64 (i:Int))]) (fun i=>[(0,26,[.str x.name,.str x.bO,.str x.fM,.aq 7 (x.vars.map bJ.row),.aq 4 (x.ao.map bS.row),.aq 4 (x.os.map cn.row)]),(1,32,[.str g.name,.aq 1 (g.dl.map cf),.aq 5 (g.decls.map cj.row),.int .i64 g.jA,.int .i64 g.start,.int .i64 g.fin,.aq 6 (g.cD.map df.row),.aq 3 (g.jm.map fc.row)]),(2,26,[.str x.name,.str x.bO,.str x.fM,.aq 7 (eh.map bJ.row),.own 1 4 (x.ao.map (bc0 v.name t)),.own 2 4 ((x.os.take i).map (bc1 v.name t))])]) (fun i=>[(1,.bY 113 4 (x.ao.map (bc0 v.name t)).length),(2,.bY 116 4 ((x.os.take i).map (bc1 v.name t)).length)]) (fun i=>i≤x.os.length) (fun i=>x.os.length-i) (Nat.zero_le _) ⟨rfl,rfl,rfl,rfl,rfl,rfl,trivial⟩ ⟨rfl,rfl,rfl,trivial⟩ ⟨rfl,rfl,trivial⟩ ?_
 intro i af
 try simp only at af ⊢
 cases hu:x.os[i]? with
 |some o=>
  have cz:=(List.getElem?_eq_some_iff.1 hu).1
  have sF:(x.os.take i).length=i:=by simp; omega
  have gm:=z6 (bc1 v.name t) hu
  rw[bl8]at gm
  have d1:(i:Int)<((x.os.map cn.row).length:Int):=by rw[List.length_map]; omega
  have bd3:=ab.os o (List.mem_of_getElem? hu)
  have rV:=bd3.2.2.1
  have lw:=bd3.2.2.2.2.1
  (have ae:=d1;refine bt ?_;clear ae)
  refine ar.tK 20 6 120 rfl (by decide) ?_
  simp(disch:=omega)only[go_sem,simprocAttr]
  refine ar.tK 21 6 120 rfl (by decide) ?_
  simp(disch:=omega)only[go_sem,simprocAttr]
  refine ak ?_
  refine ar.cU (X:=Nat) 0 (fun j=>[(3,.ptr 0 0),(4,.ptr 1 0),(10,.str v.name),(11,.str t),(14,.ptr 2 0),(18,.int .i64 (i:Int)),(19,.ptr 3 0),(20,.own 3 6 ((o.args.take j).map (bb6 v.name t))),(21,.own 4 6 (([]:List au).map (bb6 v.name t))),(22,.int .i64 (j:Int))]) (fun j=>[(0,26,[.str x.name,.str x.bO,.str x.fM,.aq 7 (x.vars.map bJ.row),.aq 4 (x.ao.map bS.row),.aq 4 (x.os.map cn.row)]),(1,32,[.str g.name,.aq 1 (g.dl.map cf),.aq 5 (g.decls.map cj.row),.int .i64 g.jA,.int .i64 g.start,.int .i64 g.fin,.aq 6 (g.cD.map df.row),.aq 3 (g.jm.map fc.row)]),(2,26,[.str x.name,.str x.bO,.str x.fM,.aq 7 (eh.map bJ.row),.own 1 4 (x.ao.map (bc0 v.name t)),.own 2 4 ((x.os.take i).map (bc1 v.name t))]),(3,116,[.str o.da,.str o.peer,.aq 6 (o.args.map au.row),.aq 6 (o.eb.map au.row)])]) (fun j=>[(1,.bY 113 4 (x.ao.map (bc0 v.name t)).length),(2,.bY 116 4 ((x.os.take i).map (bc1 v.name t)).length),(3,.bY 120 6 ((o.args.take j).map (bb6 v.name t)).length),(4,.bY 120 6 (([]:List au).map (bb6 v.name t)).length)]) (fun j=>j≤o.args.length) (fun j=>o.args.length-j) (Nat.zero_le _) ⟨rfl,rfl,rfl,rfl,rfl,rfl,rfl,rfl,rfl,rfl,trivial⟩ ⟨rfl,rfl,rfl,rfl,trivial⟩ ⟨rfl,rfl,rfl,rfl,trivial⟩ ?_
  intro j bm
  try simp only at bm ⊢
  cases ag5:o.args[j]? with
  |some e=>
   have Fb:=(List.getElem?_eq_some_iff.1 ag5).1
   have pc:=z6 (bb6 v.name t) ag5
   have bk5:(o.args.take j).length=j:=by simp; omega
   have bc9:=xQ4 ag v.name t e.cv e (Nat.le_refl _) (au.vT bd3.2.2.2.1 ag5)
   have d2:(j:Int)<((o.args.map au.row).length:Int):=by rw[List.length_map]; omega
   obtain⟨bB,fT,m2,s2,p4,a2⟩:=e
   simp only[bb6,xQ0,au.cO,bc7,bd2]at pc bc9
   (have ae:=d2;refine bt ?_;clear ae)
   refine D.P (bc9) ?_
   refine ak ?_
   refine D.iE ?_
   refine ak ?_
   refine ar.eC (j+1) (by omega) ⟨rfl,rfl,rfl,rfl,rfl,rfl,rfl,by simp only[pc]; rfl,rfl,rfl,trivial⟩ ⟨rfl,rfl,rfl,rfl,trivial⟩ ⟨rfl,rfl,by simp only[pc,List.length_append]; rfl,rfl,trivial⟩ rfl rfl (by show o.args.length-(j+1)<o.args.length-j; omega)
  |none=>
  have b4:=List.getElem?_eq_none_iff.1 ag5
  have e:j=o.args.length:=by omega
  subst e
  have d2: ¬(o.args.length:Int)<((o.args.map au.row).length:Int):=by rw[List.length_map]; omega
  rw[List.take_length]
  clear ag5 b4 bm
  (have ae:=d2;refine bt ?_;clear ae)
  refine ar.cU (X:=Nat) 0 (fun j=>[(3,.ptr 0 0),(4,.ptr 1 0),(10,.str v.name),(11,.str t),(14,.ptr 2 0),(18,.int .i64 (i:Int)),(19,.ptr 3 0),(20,.own 3 6 (o.args.map (bb6 v.name t))),(21,.own 4 6 ((o.eb.take j).map (bb6 v.name t))),(23,.int .i64 (j:Int))]) (fun j=>[(0,26,[.str x.name,.str x.bO,.str x.fM,.aq 7 (x.vars.map bJ.row),.aq 4 (x.ao.map bS.row),.aq 4 (x.os.map cn.row)]),(1,32,[.str g.name,.aq 1 (g.dl.map cf),.aq 5 (g.decls.map cj.row),.int .i64 g.jA,.int .i64 g.start,.int .i64 g.fin,.aq 6 (g.cD.map df.row),.aq 3 (g.jm.map fc.row)]),(2,26,[.str x.name,.str x.bO,.str x.fM,.aq 7 (eh.map bJ.row),.own 1 4 (x.ao.map (bc0 v.name t)),.own 2 4 ((x.os.take i).map (bc1 v.name t))]),(3,116,[.str o.da,.str o.peer,.aq 6 (o.args.map au.row),.aq 6 (o.eb.map au.row)])]) (fun j=>[(1,.bY 113 4 (x.ao.map (bc0 v.name t)).length),(2,.bY 116 4 ((x.os.take i).map (bc1 v.name t)).length),(3,.bY 120 6 (o.args.map (bb6 v.name t)).length),(4,.bY 120 6 ((o.eb.take j).map (bb6 v.name t)).length)]) (fun j=>j≤o.eb.length) (fun j=>o.eb.length-j) (Nat.zero_le _) ⟨rfl,rfl,rfl,rfl,rfl,rfl,rfl,rfl,rfl,rfl,trivial⟩ ⟨rfl,rfl,rfl,rfl,trivial⟩ ⟨rfl,rfl,rfl,rfl,trivial⟩ ?_
  intro j bm
  try simp only at bm ⊢
  cases ag5:o.eb[j]? with
  |some e=>
   have Fb:=(List.getElem?_eq_some_iff.1 ag5).1
   have pc:=z6 (bb6 v.name t) ag5
   have bk5:(o.eb.take j).length=j:=by simp; omega
   have bc9:=xQ4 ag v.name t e.cv e (Nat.le_refl _) (au.vT bd3.2.2.2.2.2 ag5)
   have d2:(j:Int)<((o.eb.map au.row).length:Int):=by rw[List.length_map]; omega
   obtain⟨bB,fT,m2,s2,p4,a2⟩:=e
   simp only[bb6,xQ0,au.cO,bc7,bd2]at pc bc9
   (have ae:=d2;refine bt ?_;clear ae)
   refine D.P (bc9) ?_
   refine ak ?_
   refine D.iE ?_
   refine ak ?_
   refine ar.eC (j+1) (by omega) ⟨rfl,rfl,rfl,rfl,rfl,rfl,rfl,rfl,by simp only[pc]; rfl,rfl,trivial⟩ ⟨rfl,rfl,rfl,rfl,trivial⟩ ⟨rfl,rfl,rfl,by simp only[pc,List.length_append]; rfl,trivial⟩ rfl rfl (by show o.eb.length-(j+1)<o.eb.length-j; omega)
  |none=>
  have b4:=List.getElem?_eq_none_iff.1 ag5
  have e:j=o.eb.length:=by omega
  subst e
  have d2: ¬(o.eb.length:Int)<((o.eb.map au.row).length:Int):=by rw[List.length_map]; omega
  rw[List.take_length]
  clear ag5 b4 bm
  (repeat (apply ar.s true true;(·simp(disch:=omega)only[go_sem,simprocAttr,]<;>with_reducible rfl)))
  refine ar.c9 ?_
  refine b0 ?_
  (have ae:=d2;refine x9 ?_;clear ae)
  refine ar.c9 ?_
  refine b0 ?_
  refine ar.x5 3 2 6 3 rfl rfl (bd5 _ _ _) ?_
  simp(disch:=omega)only[go_sem,simprocAttr]
  refine ar.x5 3 3 6 4 rfl rfl (bd5 _ _ _) ?_
  simp(disch:=omega)only[go_sem,simprocAttr]
  refine ak ?_
  refine D.iE ?_
  refine ak ?_
  refine ar.jS (i+1) (by omega) ⟨rfl,rfl,rfl,rfl,rfl,rfl,trivial⟩ (by refine⟨rfl,rfl,?_,trivial⟩; simp only[gm]; rfl) (by refine⟨rfl,?_,trivial⟩; simp only[gm,List.length_append]; rfl) rfl (by simp only[im,dw,eA,eB,ia,I.du,bM.bY,dW,dF,of_flat,be1,be2,go_sem]<;>rfl) (by show x.os.length-(i+1)<x.os.length-i; omega)
 |none=>
 have b4:=List.getElem?_eq_none_iff.1 hu
 have e:i=x.os.length:=by omega
 subst e
 have d1: ¬(x.os.length:Int)<((x.os.map cn.row).length:Int):=by rw[List.length_map]; omega
 rw[List.take_length]
 clear hu b4 af
 have fU:=Cq ag (xQ2 x k v t) (bm3 ad (by omega) ab)
 have hX:=xL (xQ2 x k v t) g (bm1 hb) BK
 rcases cb:j9 (xQ2 x k v t) g with ⟨p4,ay⟩
 rw[cb]at bd0 hX
 simp only at bd0
 subst bd0
 simp only[tr]at hX
 simp only[bm2,rI,bk9]at fU hX
 (repeat (apply ar.s true true;(·simp(disch:=omega)only[go_sem,simprocAttr,]<;>with_reducible rfl)))
 refine ar.c9 ?_
 refine b0 ?_
 (have ae:=d1;refine x9 ?_;clear ae)
 refine ar.x5 2 4 4 1 rfl rfl (be1 _ _ _) ?_
 simp(disch:=omega)only[go_sem,simprocAttr]
 refine ar.x5 2 5 4 2 rfl rfl (be2 _ _ _) ?_
 simp(disch:=omega)only[go_sem,simprocAttr]
 refine ar.gC (anns:=[.agg [.str x.name,.str x.bO,.str x.fM,.aq 7 (eh.map bJ.row),.aq 4 (x.ao.map (bc0 v.name t)),.aq 4 (x.os.map (bc1 v.name t))],.c3 [.str p4,.int .i64 0]]) ?_
 refine b0 ?_
 refine D.ei (fU) ?_
 refine b0 ?_
 refine D.ei (hX) ?_
 refine ak ?_
 exact D.rx
end
section
theorem Ts {a:Int}(h:(Lit.int .u8 a).wf=true):0≤a∧a<256:=by
 have aa:IntKind.u8.min≤a∧a≤IntKind.u8.max:=by simpa [Lit.wf] using h
 have ap:IntKind.u8.min=0:=by decide
 have ay:IntKind.u8.max=255:=by decide
 rw[ap,ay]at aa
 omega
theorem bo5 (x:cQ) (g:di) (ab:x.ok reachBytes) (U:fk x.cells≤1048576) (aa:fk g.cells≤1048576) (a:Int) (h:(Lit.int .u8 a).wf=true):Pure Tryz.prog 13 [x.eL,g.eL,.int .u8 a] (.bool true):=bo4 (R:=reachBytes) (by decide) (by decide) x g a (Ts h).1 (Ts h).2 ab (by omega) (by omega)
end
end Go.ba.T.N
