/- Part of a proof; own work. -/
import Derived.Test.YtlemhelnmidpfaaGreatDoorRS17
set_option linter.unusedVariables false
set_option linter.unusedSimpArgs false
set_option maxHeartbeats 16000000
open Bool renaming and_eq_true→bb6,and_self→bc0,true_and→bc7,false_and→bc5,and_false→bd7,not_eq_true'→bg6,eq_false_iff→bo5,false_eq_true→bd5,true_or→bk4,false_or→bh3,and_true→be0,decide_and→bt5
open Int renaming natCast_add→bb8,toNat_natCast→bi8,eq_ofNat_of_zero_le→bt2
open List renaming length_cons→bb9,map_cons→bd4,take_add_one→bf5,cons_append→bd2,take_succ_cons→bg0,length_map→bb5,take_length→bf1,map_append→be5,length_append→bb7,length_nil→bc4,mem_append→bf7,mem_cons→be4,not_mem_nil→bh8,any_eq_true→br0,flatten_cons→bd0,take_of_length_le→bg8,drop_eq_nil_of_le→bc6,mem_of_getElem?→bc2,contains_cons→bg3,drop_length→be6,all_cons→bd3,drop_append_of_le_length→bj4,length_take→be9,append_nil→bd8,all_nil→bk2,append_assoc→bc8,take_zero→bg2,nil_append→bd6,flatten_nil→be3,length→bj6,map_nil→bg5,any_nil→bt3,length_drop→bl7
open Nat renaming zero_le→bc3,le_refl→bc1,le_trans→bg1,le_of_ble_eq_true→bh6,reduceBEq→bl3,reduceAdd→bl4
open Go.Proofs.Tryz renaming prog→bb4,func291→bq1
namespace Go.ba
open Go Go.ba.T.N
theorem wm {a:Int}(aW: -9223372036854775808≤a) (U:a<9223372036854775808):IntKind.i64.wrap a=a:=by
 simp only[IntKind.wrap,IntKind.bits,IntKind.signed]
 simp
 omega
mutual
theorem au.AJ: ∀x:au,x.cv≤100000000→x.am=(x.cv:Int)-1
 | .mk _ _ _ _ _ l,h=>by
  simp only[au.cv]at h
  have aG:=au.ic l
  simp only[au.am,au.cv]
  rw[au.sj l (l.length:Int) (by omega) (by omega) (by omega)]
  omega
theorem au.sj: ∀(l:List au) (n:Int),au.ch l≤100000000→0≤n→n+(au.ch l:Int)≤1000000000000→au.iQ l n=n+((au.ch l:Int)-l.length)
 |[],n,_,_,_=>by simp [au.iQ,au.ch]
 |x::l,n,h,aW,U=>by
  simp only[au.ch]at h U
  have hp:1≤x.cv:=by cases x; simp only[au.cv]; omega
  rw[au.iQ,au.AJ x (by omega),wm (by omega) (by omega),au.sj l _ (by omega) (by omega) (by omega)]
  simp only[au.ch,bb9]
  omega
end
mutual
theorem ai.AJ: ∀x:ai,x.cv≤100000000→x.am=(x.cv:Int)-1
 | .mk _ _ x _ a b,h=>by
  simp only[ai.cv]at h
  have hp:1≤x.cv:=by cases x; simp only[au.cv]; omega
  have aS:=ai.ic a
  have hb:=ai.ic b
  simp only[ai.am,ai.cv]
  rw[au.AJ x (by omega),ai.sj a (a.length:Int) (by omega) (by omega) (by omega),ai.sj b (b.length:Int) (by omega) (by omega) (by omega),wm (a:=1+ _) (by omega) (by omega),wm (a:=1+ _+ _) (by omega) (by omega),wm (by omega) (by omega)]
  omega
theorem ai.sj: ∀(l:List ai) (n:Int),ai.ch l≤100000000→0≤n→n+(ai.ch l:Int)≤1000000000000→ai.iQ l n=n+((ai.ch l:Int)-l.length)
 |[],n,_,_,_=>by simp [ai.iQ,ai.ch]
 |x::l,n,h,aW,U=>by
  simp only[ai.ch]at h U
  have hp:1≤x.cv:=by cases x; simp only[ai.cv]; omega
  rw[ai.iQ,ai.AJ x (by omega),wm (by omega) (by omega),ai.sj l _ (by omega) (by omega) (by omega)]
  simp only[ai.ch,bb9]
  omega
end
def pv:List bS→Nat
 |[]=>0
 |h::l=>ai.ch h.body+pv l
def pw:List cn→Nat
 |[]=>0
 |o::l=>au.ch o.args+au.ch o.eb+pw l
theorem Mi: ∀(l:List bS) (n:Int) (z:Int),pv l≤100000000→0≤n→n+(pv l:Int)≤1000000000000→qB l n=some z→z=n+pv l∧∀h∈l,h.ps.length≤60∧ai.ch h.body≤pv l
 |[],n,z,_,_,_,h=>by
  simp only[qB,Option.some.injEq]at h
  simp [pv,h]
 |h::l,n,z,ao,aW,U,aT=>by
  simp only[pv]at ao U
  simp only[qB]at aT
  by_cases hp:60<h.ps.length
  ·rw[if_pos hp]at aT; cases aT
  rw[if_neg hp]at aT
  have aG:=ai.ic h.body
  rw[ai.sj h.body (h.body.length:Int) (by omega) (by omega) (by omega),wm (by omega) (by omega)]at aT
  obtain⟨e,k⟩:=Mi l _ z (by omega) (by omega) (by omega) aT
  refine⟨by simp only[pv]; omega,fun g bo=> ?_⟩
  simp only[pv]
  rcases List.mem_cons.1 bo with rfl|bo
  ·exact⟨by omega,by omega⟩
  ·have:=k g bo
   exact⟨this.1,by omega⟩
theorem Mj: ∀(l:List cn) (n:Int),pw l≤100000000→0≤n→n+(pw l:Int)≤1000000000000→rC l n=n+pw l
 |[],n,_,_,_=>by simp [rC,pw]
 |o::l,n,ao,aW,U=>by
  simp only[pw]at ao U
  have aS:=au.ic o.args
  have hb:=au.ic o.eb
  rw[rC,au.sj o.args (o.args.length:Int) (by omega) (by omega) (by omega),au.sj o.eb (o.eb.length:Int) (by omega) (by omega) (by omega)]
  simp (disch:=omega) only[wm]
  rw[Mj l _ (by omega) (by omega) (by omega)]
  simp only[pw]
  omega
theorem SY: ∀ {l:List cn}{o:cn},o∈l→au.ch o.args+au.ch o.eb≤pw l
 |p::l,o,h=>by
  simp only[pw]
  rcases List.mem_cons.1 h with rfl|h
  ·omega
  ·have:=SY h; omega
theorem YX {x:cQ}(U:pv x.ao≤100000000) (aa:pw x.os≤100000000) (aT:pU x=true):oX x:=by
 unfold pU at aT
 cases a6:qB x.ao 0 with
 |none=>rw[a6]at aT; cases aT
 |some n=>
  rw[a6]at aT
  obtain⟨e,k⟩:=Mi x.ao 0 n U (by omega) (by omega) a6
  simp only[bb6,decide_eq_true_eq]at aT
  rw[Mj x.os n aa (by omega) (by omega)]at aT
  obtain⟨f1,f2,f3,f4⟩:=aT
  exact⟨fun h hm=>by have:=(k h hm).2; omega,fun h hm=>by have:=(k h hm).1; omega,fun o hm=>by have:=SY hm; omega,by omega,by omega,by omega⟩
theorem SW: ∀l:List bS,pv l≤kQ (l.map bS.row)
 |[]=>by simp [pv]
 |h::l=>by
  have:=SW l
  have:=ai.sk h.body
  simp only[pv,bd4,kQ,bS.row,fk,I.ks]
  omega
theorem SX: ∀l:List cn,pw l≤kQ (l.map cn.row)
 |[]=>by simp [pw]
 |o::l=>by
  have:=SX l
  have:=au.sk o.args
  have:=au.sk o.eb
  simp only[pw,bd4,kQ,cn.row,fk,I.ks]
  omega
theorem UQ {x:cQ}(h:fk x.cells≤100000000) (aT:pU x=true):oX x:=by
 have U:=SW x.ao
 have aa:=SX x.os
 simp only[cQ.cells,fk,I.ks]at h
 exact YX (by omega) (by omega) aT
end Go.ba
namespace Go.ba.T.N
open Go Go.ba Go.Proofs Go.RowKit
set_option maxRecDepth 100000
attribute [local irreducible] Go.ba.ar Go.ba.al Go.ba.bg
section
attribute [local go_sem] au.cO ai.cO au.cx ai.cx cf dn fo gv dF of_flat bJ.row dW fX io
attribute [local go_sem] hE gz gy hB fK fZ e9 dM Fd.row eX fi df.row fc.row cj.row
def lM:List cj→Nat
 |[]=>0
 |d::l=>d.fields.length+d.fa.length+d.eqs.length+lM l
def Br (l:List cj):Bool:=decide (l.length≤60)&&decide (lM l≤100)
def tH (g:di):Bool:=decide (g.jA≤40)&&(decide (g.cD.length≤80)&&(decide (g.jm.length≤40)&&(decide (g.dl.length≤10)&&Br g.decls)))
theorem aO5 {l:List cj}{i:Nat}{d:cj}(h:l[i]? =some d):lM (l.take (i+1))=lM (l.take i)+(d.fields.length+d.fa.length+d.eqs.length):=by
 rw[bf5,h]
 generalize l.take i=m
 induction m with
 |nil=>simp [lM]
 |cons x m b7=>simp only[bd2,lM,b7]; omega
theorem aO6 (l:List cj) (i:Nat):lM (l.take i)≤lM l:=by
 induction l generalizing i with
 |nil=>simp [lM]
 |cons x l b7=>
  cases i with
  |zero=>simp [lM]
  |succ i=>
   have:=b7 i
   simp only[bg0,lM]
   omega
theorem aX2 (l:List cj) (aG:l.length≤1000000000) (ao:lM l≤1000000000):Pure bb4 120 [.aq 5 (l.map cj.row)] (.bool (Br l)):=by
 refine cw be Tryz.func120 Vc (by simp only[b2,I.flat,e9,bc0]) rfl ?_
 unfold Kc Qh
 have iD:((l.map cj.row).length:Int)=(l.length:Int):=by rw[bb5]
 simp(disch:=omega)only[go_sem,simprocAttr]
 refine ak ?_
 refine ar.cU (X:=Nat) 0 (fun i=>[(0,.aq 5 (l.map cj.row)),(3,.int .i64 (lM (l.take i):Int)),(4,.int .i64 (i:Int))]) (fun _=>[]) (fun _=>[]) (fun i=>i≤l.length) (fun i=>l.length-i) (bc3 _) ⟨rfl,rfl,rfl,trivial⟩ trivial trivial ?_
 intro i af
 try simp only at af ⊢
 cases ad:l[i]? with
 |some d=>
  have cz:=(List.getElem?_eq_some_iff.1 ad).1
  have d1:(i:Int)<(l.length:Int):=by omega
  have s1:=aO5 ad
  have s2:=aO6 l (i+1)
  have se:((d.fields.map Fd.row).length:Int)=(d.fields.length:Int):=by rw[bb5]
  have nk:((d.fa.map eX).length:Int)=(d.fa.length:Int):=by rw[bb5]
  have de:((d.eqs.map fi).length:Int)=(d.eqs.length:Int):=by rw[bb5]
  generalize j1:lM (l.take (i+1))=S at s1 s2
  (have ae:=iD;have z2:=d1;have z3:=And.intro se (And.intro nk de);refine ep ?_;clear ae z2 z3)
  refine ar.eC (i+1) (by omega) ⟨rfl,by simp only[Env.get,j1]; rw[s1]; simp only[bb8,Int.add_assoc]<;>rfl,by simp only[bb8]; rfl,trivial⟩ trivial trivial rfl rfl (by show l.length-(i+1)<l.length-i; omega)
 |none=>
  have b4:=List.getElem?_eq_none_iff.1 ad
  have e:i=l.length:=by omega
  subst e
  have d1: ¬(l.length:Int)<(l.length:Int):=by omega
  simp only[bf1]
  by_cases U:l.length≤60
  ·have d2:(l.length:Int)≤60:=by omega
   (have ae:=iD;have z2:=d1;have z3:=d2;refine ep ?_;clear ae z2 z3)
   refine D.r ?_
   refine⟨_,rfl,.aF ?_ rfl,trivial,trivial⟩
   simp only[Br,decide_eq_true U,bc7,I.aF]
   congr 1
   exact decide_eq_decide.2 (by omega)
  ·have d2: ¬(l.length:Int)≤60:=by omega
   (have ae:=iD;have z2:=d1;have z3:=d2;refine ep ?_;clear ae z2 z3)
   refine D.r ?_
   refine⟨_,rfl,.aF ?_ rfl,trivial,trivial⟩
   simp only[Br,decide_eq_false U,bc5,I.aF]
theorem Iz: ∀(l:List (List I)),(∀r∈l,1≤fk r)→l.length≤kQ l
 |[],_=>bc3 _
 |r::l,h=>by
  have U:=h r (by simp)
  have aa:=Iz l fun x ab=>h x (by simp [ab])
  simp only[bb9,kQ]
  omega
theorem uY {α:Type}(f:α→List I) (aT: ∀a,1≤fk (f a)) (l:List α):l.length≤kQ (l.map f):=by
 have:=Iz (l.map f) (by intro r ac; obtain⟨a,_,rfl⟩:=List.mem_map.1 ac; exact aT a)
 simpa using this
theorem IA: ∀ {l:List (List I)}{r:List I},r∈l→fk r≤kQ l
 |x::l,r,h=>by
  simp only[kQ]
  rcases List.mem_cons.1 h with rfl|h
  ·omega
  ·have:=IA h; omega
theorem JI (d:cj):d.fields.length+d.fa.length+d.eqs.length≤fk d.row:=by
 have U:=uY Fd.row (fun f=>by simp only[Fd.row,fk,I.ks]; omega) d.fields
 have aa:=uY eX (fun f=>by simp only[eX,fk,I.ks]; omega) d.fa
 have aD:=uY fi (fun f=>by simp only[fi,fk,I.ks]; omega) d.eqs
 simp only[cj.row,fk,I.ks]
 omega
theorem SV: ∀l:List cj,lM l≤kQ (l.map cj.row)
 |[]=>by simp [lM]
 |d::l=>by
  have U:=JI d
  have aa:=SV l
  simp only[lM,bd4,kQ]
  omega
theorem Zh {g:di}(h:fk g.cells≤100000000):qi g∧lM g.decls≤100000000:=by
 have U:=uY cf (fun f=>by simp only[cf,fk,I.ks]; omega) g.dl
 have aa:=uY cj.row (fun f=>by simp only[cj.row,fk,I.ks]; omega) g.decls
 have aD:=uY df.row (fun f=>by simp only[df.row,fk,I.ks]; omega) g.cD
 have bA:=uY fc.row (fun f=>by simp only[fc.row,fk,I.ks]; omega) g.jm
 have b6:=SV g.decls
 simp only[di.cells,fk,I.ks]at h
 refine⟨⟨by omega,by omega,by omega,by omega,fun d bG=> ?_⟩,by omega⟩
 have br:=IA (List.mem_map_of_mem (f:=cj.row) bG)
 have bB:=JI d
 omega
theorem aY7 (g:di) (hb:qi g) (ao:lM g.decls≤1000000000):Pure bb4 45 [g.eL] (.bool (tH g)):=by
 have ap:=aX2 g.decls hb.FJ ao
 rw[rI]
 have de:((g.cD.map df.row).length:Int)=(g.cD.length:Int):=by rw[bb5]
 have nM:((g.jm.map fc.row).length:Int)=(g.jm.length:Int):=by rw[bb5]
 have q7:((g.dl.map cf).length:Int)=(g.dl.length:Int):=by rw[bb5]
 refine cw be Tryz.func45 W3 (by simp only[b2,I.flat,dn,e9,fK,fZ,bc0]) rfl ?_
 unfold LX R8
 by_cases U:g.jA≤40
 rotate_left
 ·simp(disch:=omega)only[go_sem,simprocAttr]
  (have ae:=U;refine bt ?_;clear ae)
  refine D.r ?_
  exact⟨_,rfl,.aF (by simp only[tH,decide_eq_false U,bc5,I.aF]) rfl,trivial,trivial⟩
 by_cases aa:g.cD.length≤80
 rotate_left
 ·have d2: ¬(g.cD.length:Int)≤80:=by omega
  simp(disch:=omega)only[go_sem,simprocAttr]
  (have ae:=U;have z2:=de;have z3:=d2;refine ep ?_;clear ae z2 z3)
  refine D.r ?_
  exact⟨_,rfl,.aF (by simp only[tH,decide_eq_false aa,bc5,bd7,I.aF]) rfl,trivial,trivial⟩
 have d2:(g.cD.length:Int)≤80:=by omega
 by_cases aD:g.jm.length≤40
 rotate_left
 ·have d3: ¬(g.jm.length:Int)≤40:=by omega
  simp(disch:=omega)only[go_sem,simprocAttr]
  (have ae:=U;have z2:=de;have z3:=And.intro d2 (And.intro nM d3);refine ep ?_;clear ae z2 z3)
  refine D.r ?_
  exact⟨_,rfl,.aF (by simp only[tH,decide_eq_false aD,bc5,bd7,I.aF]) rfl,trivial,trivial⟩
 have d3:(g.jm.length:Int)≤40:=by omega
 by_cases bA:g.dl.length≤10
 rotate_left
 ·have d4: ¬(g.dl.length:Int)≤10:=by omega
  simp(disch:=omega)only[go_sem,simprocAttr]
  (have ae:=U;have z2:=de;have z3:=And.intro d2 (And.intro nM (And.intro d3 (And.intro q7 d4)));refine ep ?_;clear ae z2 z3)
  refine D.r ?_
  exact⟨_,rfl,.aF (by simp only[tH,decide_eq_false bA,bc5,bd7,I.aF]) rfl,trivial,trivial⟩
 have d4:(g.dl.length:Int)≤10:=by omega
 simp(disch:=omega)only[go_sem,simprocAttr]
 (have ae:=U;have z2:=de;have z3:=And.intro d2 (And.intro nM (And.intro d3 (And.intro q7 d4)));refine ep ?_;clear ae z2 z3)
 refine D.P (ap) ?_
 refine ak ?_
 refine D.r ?_
 exact⟨_,rfl,.aF (by simp only[tH,decide_eq_true U,decide_eq_true aa,decide_eq_true aD,decide_eq_true bA,bc7,I.aF]) rfl,trivial,trivial⟩
theorem aY2 {R:Nat}(ag:R≤140737488355328) (x:cQ) (g:di) (ab:x.ok R) (hb:qi g) (ao:lM g.decls≤1000000000):Pure bb4 30 [x.eL,g.eL] (.bool (pU x&&tH g)):=by
 have ap:=aB7 ag x ab
 have ay:=aY7 g hb ao
 rw[oa]at*
 simp only[rI]at*
 refine cw be Tryz.func30 Ws (by simp only[b2,I.flat,dW,dF,of_flat,dn,e9,fK,fZ,bc0]) rfl ?_
 unfold Lq Rz
 simp(disch:=omega)only[go_sem,simprocAttr]
 refine ak ?_
 refine D.P (ap) ?_
 generalize pU x=b at*
 cases b
 ·refine ak ?_
  exact D.rx
 ·refine ak ?_
  refine D.P (ay) ?_
  refine ak ?_
  exact D.rx
end
section
set_option maxRecDepth 1000000
attribute [local go_sem] au.cO ai.cO au.cx ai.cx cf dn fo gv dF of_flat bJ.row dW fX io
attribute [local go_sem] hE gz gy hB fK fZ e9 dM Fd.row eX fi df.row fc.row cj.row sC xB k7 vQ tt hM.row
def mN:di:=⟨[80],[[97],[98]],[⟨[109],[],0,[],[]⟩],2,0,1,[⟨0,0,1,0,1,false⟩],[]⟩
end
section
def TZ (p q:Nat) (l:List hM):Prop:=∀i∈l,i.op≠24∧(i.op=19∨i.op=20∨i.op=22→(p:Int)≤i.n∧i.n≤(q:Int))
inductive Dd:Nat→List Int→List hM→Prop
 |nil {p:Nat}:Dd p [] []
 |cons {p:Nat}{body:List hM}{E:List Int}{c:List hM}(h:TZ p (p+body.length) body) (t:Dd (p+(body.length+1)) E c):Dd p ((p:Int)::E) (body++ins 24 0::c)
end
section
def _root_.Go.ba.cQ.more (x:cQ) (v:bJ):cQ:=⟨x.name,x.bO,x.fM,x.vars++[v],x.ao,x.os⟩
end
section
attribute [local go_sem] au.cO ai.cO au.cx ai.cx cf dn fo gv dF of_flat bJ.row dW fX io
attribute [local go_sem] hE gz gy hB fK fZ e9 dM Fd.row eX fi df.row fc.row cj.row sC xB k7 vQ tt hM.row
theorem YY {x:cQ}(h:pU x=true):x.vars.length≤60∧x.ao.length≤60∧x.os.length≤60:=by
 unfold pU at h
 cases a6:qB x.ao 0 with
 |none=>rw[a6]at h; cases h
 |some n=>
  rw[a6]at h
  simp only[bb6,decide_eq_true_eq]at h
  exact h.2
def mE:bJ:=⟨[122,122,122,122,122,122,122,122,122,122,122,122,122,122,122,122],1,0,1,1,0,[]⟩
theorem Aw (l:List bJ):eY (l.map bJ.row++[[.str [122,122,122,122,122,122,122,122,122,122,122,122,122,122,122,122],.int .i64 1,.int .i64 0,.int .i64 1,.int .i64 1,.int .i64 0,.str []]])=true:=by
 have h:=dW (l++[mE])
 rw[be5]at h
 exact h
attribute [local go_sem] Aw
theorem ar0 {R:Nat}(h:10000≤R){x:cQ}(ab:x.ok R) (ad:x.vars.length≤60):(x.more mE).ok R:=by
 refine⟨ab.name,ab.bO,ab.fM,?_,?_,ab.lY,ab.ao,ab.no,ab.os⟩
 ·simp only[cQ.more,bb7,bb9,bc4]
  omega
 ·intro v hm
  simp only[cQ.more,bf7,be4,bh8,or_false]at hm
  rcases hm with hm|rfl
  ·exact ab.vars v hm
  ·exact⟨⟨by show 16≤R; omega,by show 0≤R; omega⟩,rfl,rfl,rfl,rfl,rfl⟩
theorem Oj {x:cQ}(hb:oX x) (ad:x.vars.length≤60):oX (x.more mE):=
 ⟨hb.aS,hb.hp,hb.qT,by simp only[cQ.more,bb7,bb9,bc4]; omega,hb.lY,hb.no⟩
end
section
theorem ao0 {x y:cQ}{g:di}{r:Int}{ps:Option (List (bw×Int))}(ad:x.vars=y.vars) (k:Int) (o m:bw) (bH:List Int):pf ⟨x,g,r,ps⟩ k o m bH=pf ⟨y,g,r,ps⟩ k o m bH:=by
 unfold pf pk ef.look
 simp only[ad]
mutual
theorem zo {x y:cQ}{g:di}{r:Int}{ps:Option (List (bw×Int))}(ad:x.vars=y.vars): ∀e:au,kd ⟨x,g,r,ps⟩ e=kd ⟨y,g,r,ps⟩ e
 | .mk k o m t n l=>by
  simp only[kd,NV ad l,ao0 ad]
theorem NV {x y:cQ}{g:di}{r:Int}{ps:Option (List (bw×Int))}(ad:x.vars=y.vars): ∀l:List au,lf ⟨x,g,r,ps⟩ l=lf ⟨y,g,r,ps⟩ l
 |[]=>by simp only[lf]
 |e::l=>by simp only[lf,zo ad e,NV ad l]
end
theorem Um {x y:cQ}{g:di}{r:Int}{ps:Option (List (bw×Int))}(ad:x.vars=y.vars) (n:bw) (e:au):qn ⟨x,g,r,ps⟩ n e=qn ⟨y,g,r,ps⟩ n e:=by
 simp only[qn,zo ad e,ef.look,ad]
mutual
theorem aN8 {x y:cQ}{g:di}{r:Int}{ps:Option (List (bw×Int))}(ad:x.vars=y.vars): ∀s:ai,qc ⟨x,g,r,ps⟩ s=qc ⟨y,g,r,ps⟩ s
 | .mk k m e t a b=>by
  simp only[qc,Um ad,zo ad e,CP ad a,CP ad b]
theorem CP {x y:cQ}{g:di}{r:Int}{ps:Option (List (bw×Int))}(ad:x.vars=y.vars): ∀l:List ai,j4 ⟨x,g,r,ps⟩ l=j4 ⟨y,g,r,ps⟩ l
 |[]=>by simp only[j4]
 |s::l=>by simp only[j4,aN8 ad s,CP ad l]
end
theorem ZX {x y:cQ}{g:di}{r:Int}{ps:Option (List (bw×Int))}(ad:x.vars=y.vars) (a:List bS) (h:bS):mo ⟨x,g,r,ps⟩ a h=mo ⟨y,g,r,ps⟩ a h:=by
 simp only[mo,uh,CP ad h.body,ad]
theorem Ip {x y:cQ}{g:di}{r:Int}{ps:Option (List (bw×Int))}(ad:x.vars=y.vars) (m:bw): ∀(l:List au) (cg:List Fd),lq ⟨x,g,r,ps⟩ m l cg=lq ⟨y,g,r,ps⟩ m l cg
 |[],_=>by simp only[lq]
 | _:: _,[]=>by simp only[lq]
 |e::l,f::cg=>by simp only[lq,zo ad e,Ip ad m l cg]
theorem TD {x y:cQ}{g:di}{r:Int}{ps:Option (List (bw×Int))}(ad:x.vars=y.vars): ∀(l:List au),ni ⟨x,g,r,ps⟩ l=ni ⟨y,g,r,ps⟩ l
 |[]=>by simp only[ni]
 |e::l=>by simp only[ni,zo ad e,TD ad l]
theorem at7 {x y:cQ}{g:di}{r:Int}{ps:Option (List (bw×Int))}(ad:x.vars=y.vars) (o:cn):n7 ⟨x,g,r,ps⟩ o=n7 ⟨y,g,r,ps⟩ o:=by
 simp only[n7,uh,Ip ad,TD ad]
theorem ek {α β:Type}{r:dz α}{f:α→dz β}{b:β}:r.bind f= .ok b↔ ∃a,r= .ok a∧f a= .ok b:=
 ⟨dz.yn,fun⟨a,U,aa⟩=>by rw[U]; exact aa⟩
theorem sQ {b:Bool}{n:bw}{e:Int}{u:Unit}:fS b n e= .ok u↔b=true:=
 ⟨Ca,fun h=>by unfold fS; rw[if_pos h]⟩
def wO (o h:bS):Prop:=o.da=h.da∧o.peer=h.peer
theorem ZU (aV:ef) (a:List bS) (h:bS):mo aV a h= .ok ()↔mo aV [] h= .ok ()∧∀o∈a,¬wO o h:=by
 have dJ:(!a.any fun o=>decide (o.da=h.da)&&decide (o.peer=h.peer))=true↔ ∀o∈a,¬wO o h:=by
  rw[bg6,bo5,ne_eq,br0]
  simp only[bb6,decide_eq_true_eq,wO]
  constructor
  ·intro k o aj an; exact k ⟨o,aj,an⟩
  ·rintro k ⟨o,aj,an⟩; exact k o aj an
 unfold mo
 constructor
 ·intro k
  obtain⟨d,br,k⟩:=ek.1 k
  obtain⟨_,bB,k⟩:=ek.1 k
  exact⟨ek.2 ⟨d,br,ek.2 ⟨(),sQ.2 rfl,k⟩⟩,dJ.1 (sQ.1 bB)⟩
 ·rintro⟨k,cu⟩
  obtain⟨d,br,k⟩:=ek.1 k
  obtain⟨_,bB,k⟩:=ek.1 k
  exact ek.2 ⟨d,br,ek.2 ⟨(),sQ.2 (dJ.2 cu),k⟩⟩
theorem xd (aV:ef): ∀(l a:List bS),oE aV a l= .ok ()↔(∀h∈l,mo aV [] h= .ok ())∧(∀h∈l,∀o∈a,¬wO o h)∧l.Pairwise (fun o h=> ¬wO o h)
 |[],a=>by simp [oE]
 |x::l,a=>by
  have b7:=xd aV l (a++[x])
  have ab:=ZU aV a x
  simp only[oE,ek]
  constructor
  ·rintro⟨_,br,bB⟩
   obtain⟨cu,eO⟩:=ab.1 br
   obtain⟨hs,pe,vH⟩:=b7.1 bB
   refine⟨fun h hm=> ?_,fun h hm o aj=> ?_,List.pairwise_cons.2 ⟨fun h hm=>pe h hm x (by simp),vH⟩⟩
   ·rcases List.mem_cons.1 hm with rfl|hm
    ·exact cu
    ·exact hs h hm
   ·rcases List.mem_cons.1 hm with rfl|hm
    ·exact eO o aj
    ·exact pe h hm o (by simp [aj])
  ·rintro⟨br,bB,cu⟩
   obtain⟨eO,hs⟩:=List.pairwise_cons.1 cu
   refine⟨(),ab.2 ⟨br x (by simp),bB x (by simp)⟩,b7.2 ⟨fun h hm=>br h (by simp [hm]),fun h hm o aj=> ?_,hs⟩⟩
   rcases List.mem_append.1 aj with aj|aj
   ·exact bB h (by simp [hm]) o aj
   ·rw[List.mem_singleton.1 aj]
    exact eO h hm
theorem zG (aV:ef): ∀(l:List cn),oK aV l= .ok ()↔ ∀o∈l,n7 aV o= .ok ()
 |[]=>by simp [oK]
 |x::l=>by
  have b7:=zG aV l
  simp only[oK,ek]
  constructor
  ·rintro⟨_,br,bB⟩ o aj
   rcases List.mem_cons.1 aj with rfl|aj
   ·exact br
   ·exact b7.1 bB o aj
  ·intro k
   exact⟨(),k x (by simp),b7.2 fun o aj=>k o (by simp [aj])⟩
def _root_.Go.ba.cQ.sub (x:cQ) (ao:List bS) (os:List cn):cQ:=⟨x.name,x.bO,x.fM,x.vars,ao,os⟩
theorem ax0 {x:cQ}{g:di}{ao:List bS}{os:List cn}(h:p6 x g= .ok ()) (U: ∀y∈ao,y∈x.ao) (aa: ∀o∈os,o∈x.os) (hp:ao.Pairwise (fun o h=> ¬wO o h)):p6 (x.sub ao os) g= .ok ():=by
 obtain⟨br,bB,cu,eO,hs⟩:=F2 h
 obtain⟨pe,_,_⟩:=(xd _ _ _).1 eO
 have vH:=(zG _ _).1 hs
 refine Pw br bB cu ((xd _ _ _).2 ⟨fun y a8=> ?_,(fun _ _ o aj=>by cases aj),hp⟩) ((zG _ _).2 fun o aj=> ?_)
 ·rw[←pe y (U y a8)]
  exact ZX (x:=x.sub ao os) (y:=x) rfl _ _
 ·rw[←vH o (aa o aj)]
  exact at7 (x:=x.sub ao os) (y:=x) rfl _
theorem Zm {x:cQ}{ao:List bS}{os:List cn}(h:n0 x=true) (U: ∀y∈ao,y∈x.ao) (aa: ∀o∈os,o∈x.os) (aK:ao.length≤x.ao.length) (fR:os.length≤x.os.length) (pg:(ao.map jg).flatten.length≤(x.ao.map jg).flatten.length) (zp:(os.map jQ).flatten.length≤(x.os.map jQ).flatten.length):n0 (x.sub ao os)=true:=by
 simp only[n0,sT,pL,nQ,bb6,decide_eq_true_eq,bb7]at h ⊢
 obtain⟨⟨er,a2,a3,a4,a5,yh⟩,⟨e5,il,jZ⟩,c1⟩:=h
 refine⟨⟨er,a2,a3,a4,?_,?_⟩,⟨e5,?_,?_⟩,?_⟩
 ·show ao.length≤40; omega
 ·show os.length≤40; omega
 ·exact List.all_eq_true.2 fun y a8=>List.all_eq_true.1 il y (U y a8)
 ·exact List.all_eq_true.2 fun y a8=>List.all_eq_true.1 jZ y (aa y a8)
 ·simp only[cQ.sub]
  omega
theorem Mq {α:Type}(f:α→bw){a b:List α}(h:a.Sublist b):(a.map f).flatten.length≤(b.map f).flatten.length:=by
 induction h with
 |slnil=>exact bc1 _
 |cons x _ b7=>simp only[bd4,bd0,bb7]; omega
 |cons_cons x _ b7=>simp only[bd4,bd0,bb7]; omega
theorem Jf {x:cQ}{g:di}{ao:List bS}{os:List cn}(h:(j9 x g).2=0) (U:ao.Sublist x.ao) (aa:os.Sublist x.os):(j9 (x.sub ao os) g).2=0:=by
 obtain⟨a,b,c⟩:=A2.1 h
 obtain⟨_,_,_,eO,_⟩:=F2 c
 obtain⟨_,_,zn⟩:=(xd _ _ _).1 eO
 exact A2.2 ⟨Zm a (fun y a8=>U.subset a8) (fun y a8=>aa.subset a8) U.length_le aa.length_le (Mq _ U) (Mq _ aa),b,ax0 c (fun y a8=>U.subset a8) (fun y a8=>aa.subset a8) (zn.sublist U)⟩
end
section
attribute [local go_sem] au.cO ai.cO au.cx ai.cx cf dn fo gv dF of_flat bJ.row dW fX io
attribute [local go_sem] hE gz gy hB fK fZ e9 dM Fd.row eX fi df.row fc.row cj.row sC xB k7 vQ tt hM.row
theorem aO4 {R:Nat}{x:cQ}(ab:x.ok R){ao:List bS}{os:List cn}(U: ∀y∈ao,y∈x.ao) (aa: ∀o∈os,o∈x.os) (aK:ao.length*80≤R) (fR:os.length*80≤R):(x.sub ao os).ok R:=
 ⟨ab.name,ab.bO,ab.fM,ab.lZ,ab.vars,aK,fun y a8=>ab.ao y (U y a8),fR,fun y a8=>ab.os y (aa y a8)⟩
theorem aO3 {x:cQ}(hb:oX x){ao:List bS}{os:List cn}(U: ∀y∈ao,y∈x.ao) (aa: ∀o∈os,o∈x.os) (aK:ao.length≤1000000) (fR:os.length≤1000000):oX (x.sub ao os):=
 ⟨fun y a8=>hb.aS y (U y a8),fun y a8=>hb.hp y (U y a8),fun o aj=>hb.qT o (aa o aj),hb.lZ,aK,fR⟩
end
end Go.ba.T.N
namespace Go.ba
open Go Go.ba.T.N
def l2:List UInt8→List (List UInt8)
 |[]=>[[]]
 |c::s=>if c=46 then[]::l2 s else match l2 s with
  |w::ws=>(c::w)::ws
  |[]=>[[c]]
theorem G4: ∀ {s:List UInt8},46∉s→l2 s=[s]
 |[],_=>rfl
 |c::s,h=>by
  simp only[be4,not_or]at h
  rw[l2,if_neg (fun e=>h.1 e.symm),G4 h.2]
theorem G3: ∀ {u:List UInt8}(v:List UInt8),46∉u→l2 (u++46::v)=u::l2 v
 |[],v,_=>rfl
 |c::u,v,h=>by
  simp only[be4,not_or]at h
  rw[bd2,l2,if_neg (fun e=>h.1 e.symm),G3 v h.2]
theorem NG: ∀ {u:List UInt8}(v:List UInt8),46∉u→Lib.indexByte (u++46::v) 46=(u.length:Int)
 |[],v,_=>by simp [Lib.indexByte]
 |c::u,v,h=>by
  simp only[be4,not_or]at h
  have af:=NG v h.2
  have an:(c==46)=false:=by simpa using fun e:c=46=>h.1 e.symm
  simp only[bd2,Lib.indexByte,af,an,bb9]
  have:((u.length:Int)== -1)=false:=by simp
  simp only[this,bd5,if_false,bb8]
  rfl
theorem SN: ∀(k:Nat) (s:List UInt8),s.count 46=k→(Lib.splitB pR 0 k ⟨⟨s⟩⟩).map (·.data.toList)=l2 s
 |0,s,h=>by
  rw[Lib.splitB_zero,G4 (List.count_eq_zero.1 h)]
  rfl
 |k+1,s,h=>by
  obtain⟨u,v,rfl,hu⟩:=List.eq_append_cons_of_mem (List.count_pos_iff.1 (by omega:0<s.count 46))
  rw[List.count_append,List.count_cons_self,List.count_eq_zero.2 hu]at h
  have ac2:Lib.indexB ⟨⟨u++46::v⟩⟩ pR=(u.length:Int):=by
   show Lib.index (u++46::v) [46]= _
   rw[Lib.index_one,NG v hu]
  rw[Lib.splitB_hit pR 0 k _ u.length ac2,bd4,G3 v hu]
  have ap:(ByteArray.extract ⟨⟨u++46::v⟩⟩ 0 (u.length+0)).data.toList=u:=by
   rw[ByteArray.data_extract,Array.toList_extract]
   simp [List.extract]
  have ay:ByteArray.extract ⟨⟨u++46::v⟩⟩ (u.length+pR.size) (ByteArray.size ⟨⟨u++46::v⟩⟩)=⟨⟨v⟩⟩:=by
   apply ByteArray.ext
   apply Array.ext'
   rw[ByteArray.data_extract,Array.toList_extract]
   show List.extract (u++46::v) (u.length+1) (u++46::v).length=v
   simp [List.extract,←List.drop_drop]
   exact bg8 (by omega)
  rw[ap,ay,SN k v (by omega)]
theorem aM5 (s:List UInt8):rZ s=l2 s:=by
 unfold rZ
 refine SN _ s ?_
 show s.count 46=Lib.count s [46]
 rw[Lib.count_one]
end Go.ba
namespace Go.ba.T.N
open Go Go.ba Go.Proofs Go.RowKit
set_option maxRecDepth 100000
attribute [local irreducible] Go.ba.ar Go.ba.al Go.ba.bg
section
attribute [local go_sem] au.cO ai.cO au.cx ai.cx cf dn fo gv dF of_flat
attribute [local go_sem] bJ.row dW fX io
theorem SP (s:bw):l2 s≠[]:=by
 cases s with
 |nil=>simp [l2]
 |cons c s=>
  simp only[l2]
  split
  ·simp
  ·split<;>simp
def qO:List (List bw):=[[[124,124]],[[38,38]],[[61,61],[33,61]],[[60],[60,61],[62],[62,61]],[[43],[45]],[[42],[47],[37]]]
def vK (l:List bw):List I:=[.aq 1 (l.map cf)]
theorem aq3 (l:List (List bw)):eY (l.map vK)=true:=ml (fun l=>by simp only[vK,b2,I.flat,dn,bc0]) l
def wY:List (List bw)→bw→Nat→Int
 |[],_,_=>0
 |l::T,s,i=>if l.contains s=true then (i:Int)+1 else wY T s (i+1)
theorem Y0 (s:bw):wY qO s 0=gd s:=by
 by_cases U:s=[124,124]
 ·subst U; decide
 by_cases aa:s=[38,38]
 ·subst aa; decide
 by_cases aD:s=[61,61]
 ·subst aD; decide
 by_cases bA:s=[33,61]
 ·subst bA; decide
 by_cases b6:s=[60]
 ·subst b6; decide
 by_cases dx:s=[60,61]
 ·subst dx; decide
 by_cases qE:s=[62]
 ·subst qE; decide
 by_cases rJ:s=[62,61]
 ·subst rJ; decide
 by_cases BB:s=[43]
 ·subst BB; decide
 by_cases tN:s=[45]
 ·subst tN; decide
 by_cases ME:s=[42]
 ·subst ME; decide
 by_cases MF:s=[47]
 ·subst MF; decide
 by_cases MG:s=[37]
 ·subst MG; decide
 simp [qO,wY,gd,U,aa,aD,bA,b6,dx,qE,rJ,BB,tN,ME,MF,MG]
attribute [local go_sem] vK aq3
theorem zu:qO.length=6:=rfl
theorem Gn (s:bw):Pure bb4 290 [.str s] (.int .i64 (gd s)):=by
 have FA:=Y0 s
 generalize gd s=R at FA ⊢
 refine cw be Tryz.func290 Wn rfl rfl ?_
 unfold Ll Ru
 simp(disch:=omega)only[go_sem,simprocAttr]
 refine ak ?_
 refine ar.cU (X:=Nat) 0 (fun i=>[(0,.str s),(3,.aq 1 (qO.map vK)),(4,.int .i64 (i:Int))]) (fun _=>[]) (fun _=>[]) (fun i=>i≤6∧wY (qO.drop i) s i=R) (fun i=>6-i) ⟨by decide,FA⟩ ⟨rfl,rfl,rfl,trivial⟩ trivial trivial ?_
 rintro i ⟨af,aw⟩
 try simp only at af aw ⊢
 cases ad:qO[i]? with
 |none=>
  have b4:=List.getElem?_eq_none_iff.1 ad
  rw[zu]at b4
  have d1: ¬(i:Int)<((qO.map vK).length:Int):=by rw[bb5,zu]; omega
  rw[bc6 (by rw[zu]; exact b4)]at aw
  (have ae:=d1;refine bt ?_;clear ae)
  refine D.r ?_
  refine⟨_,rfl,.aF ?_ rfl,trivial,trivial⟩
  rw[←aw]
  rfl
 |some l=>
 have cz:=(List.getElem?_eq_some_iff.1 ad).1
 rw[zu]at cz
 have d1:(i:Int)<((qO.map vK).length:Int):=by rw[bb5,zu]; omega
 have j2:l.length≤4:=by
  have:=bc2 ad
  simp [qO]at this
  rcases this with rfl|rfl|rfl|rfl|rfl|rfl<;>decide
 rw[eN ad]at aw
 simp only[wY]at aw
 (have ae:=d1;refine bt ?_;clear ae)
 refine ar.cU (X:=Nat) 0 (fun k=>[(0,.str s),(3,.aq 1 (qO.map vK)),(4,.int .i64 (i:Int)),(5,.int .i64 (k:Int))]) (fun _=>[]) (fun _=>[]) (fun k=>k≤l.length∧(if (l.drop k).contains s=true then (i:Int)+1 else wY (qO.drop (i+1)) s (i+1))=R) (fun k=>l.length-k) ⟨bc3 _,by simpa using aw⟩ ⟨rfl,rfl,rfl,rfl,trivial⟩ trivial trivial ?_
 clear aw FA
 rintro k ⟨av,aw⟩
 try simp only at av aw ⊢
 cases hw:l[k]? with
 |none=>
  have b4:=List.getElem?_eq_none_iff.1 hw
  have d2: ¬(k:Int)<((l.map cf).length:Int):=by rw[bb5]; omega
  rw[bc6 b4]at aw
  simp only[List.contains_nil,bd5,if_false]at aw
  (have ae:=d1;have z2:=d2;refine dQ ?_;clear ae z2)
  refine ar.eC (i+1) ⟨by omega,aw⟩ ⟨rfl,rfl,by simp only[bb8]; rfl,trivial⟩ trivial trivial rfl rfl (by show 6-(i+1)<6-i; omega)
 |some x=>
  have vv:=(List.getElem?_eq_some_iff.1 hw).1
  have d2:(k:Int)<((l.map cf).length:Int):=by rw[bb5]; omega
  rw[eN hw]at aw
  by_cases ab:x=s
  ·simp only[bg3,ab,beq_self_eq_true,bk4,if_true]at aw
   (have ae:=d1;have z2:=d2;have z3:=ab;refine ep ?_;clear ae z2 z3)
   refine D.r ?_
   refine⟨_,rfl,.aF ?_ rfl,trivial,trivial⟩
   rw[←aw]
   rfl
  ·have jv:(s==x)=false:=by simpa using fun e:s=x=>ab e.symm
   simp only[bg3,jv,bh3]at aw
   (have ae:=d1;have z2:=d2;have z3:=ab;refine ep ?_;clear ae z2 z3)
   refine ar.eC (k+1) ⟨by omega,aw⟩ ⟨rfl,rfl,rfl,by simp only[bb8]; rfl,trivial⟩ trivial trivial rfl rfl (by show l.length-(k+1)<l.length-k; omega)
end
section
attribute [local go_sem] au.cO ai.cO au.cx ai.cx cf dn
theorem PP (z:Int):Pure bb4 288 [.int .u8 z] (.bool (xy z)):=by
 refine cw be Tryz.func288 Wk rfl rfl ?_
 unfold Li Rr
 simp(disch:=omega)only[go_sem,simprocAttr]
 (repeat' first|refine D.S ?_|refine D.fg true true ?_|refine al.nil ?_|refine ar.c9 ?_|refine D.W ?_|refine D.Z ?_|refine D.G ?_ ?_|refine D.X ‹_› ?_|refine D.ja ‹_› ?_|refine D.jb ‹_› ?_|intro h|refine D.C ?_ ?_)
 all_goals (refine D.R ?_)
 all_goals (refine⟨_,rfl,.aF ?_ rfl,trivial,trivial⟩; simp_all [xy,I.aF]<;>(try omega))
theorem aA6 (z:Int):Pure bb4 353 [.int .u8 z] (.bool (yB z)):=by
 refine cw be Tryz.func353 WM rfl rfl ?_
 unfold LH RT
 simp(disch:=omega)only[go_sem,simprocAttr]
 (repeat' first|refine D.S ?_|refine D.fg true true ?_|refine al.nil ?_|refine ar.c9 ?_|refine D.W ?_|refine D.Z ?_|refine D.G ?_ ?_|refine D.X ‹_› ?_|refine D.ja ‹_› ?_|refine D.jb ‹_› ?_|intro h|refine D.C ?_ ?_)
 all_goals (refine D.R ?_)
 all_goals (refine⟨_,rfl,.aF ?_ rfl,trivial,trivial⟩; simp_all [yB,I.aF]<;>(try omega))
theorem aA5 (z:Int):Pure bb4 289 [.int .u8 z] (.bool (vC z)):=by
 refine cw be Tryz.func289 Wl rfl rfl ?_
 unfold Lj Rs
 simp(disch:=omega)only[go_sem,simprocAttr]
 refine ak ?_
 refine D.P (PP z) ?_
 (repeat' first|refine D.S ?_|refine D.fg true true ?_|refine al.nil ?_|refine ar.c9 ?_|refine D.W ?_|refine D.Z ?_|refine D.G ?_ ?_|refine D.X ‹_› ?_|refine D.ja ‹_› ?_|refine D.jb ‹_› ?_|intro h|refine D.C ?_ ?_)
 ·refine D.r ?_
  refine⟨_,rfl,.aF ?_ rfl,trivial,trivial⟩
  simp_all [vC,I.aF]
 refine D.P (aA6 z) ?_
 (repeat' first|refine D.S ?_|refine D.fg true true ?_|refine al.nil ?_|refine ar.c9 ?_|refine D.W ?_|refine D.Z ?_|refine D.G ?_ ?_|refine D.X ‹_› ?_|refine D.ja ‹_› ?_|refine D.jb ‹_› ?_|intro h|refine D.C ?_ ?_)
 all_goals (refine D.R ?_)
 all_goals (refine⟨_,rfl,.aF ?_ rfl,trivial,trivial⟩; simp_all [vC,I.aF]<;>(try omega))
theorem aA2 (l:List bw) (s:bw) (aG:l.length≤1000000000):Pure bb4 188 [.aq 1 (l.map cf),.str s] (.bool (l.contains s)):=by
 refine cw be Tryz.func188 Vy (by simp only[b2,I.flat,dn,bc0]) rfl ?_
 unfold Ky QE
 simp(disch:=omega)only[go_sem,simprocAttr]
 refine ak ?_
 refine ar.cU (X:=Nat) 0 (fun i=>[(0,.aq 1 (l.map cf)),(1,.str s),(5,.int .i64 (i:Int))]) (fun _=>[]) (fun _=>[]) (fun i=>i≤l.length∧(l.drop i).contains s=l.contains s) (fun i=>l.length-i) ⟨bc3 _,rfl⟩ ⟨rfl,rfl,rfl,trivial⟩ trivial trivial ?_
 rintro i ⟨af,aw⟩
 try simp only at af aw ⊢
 cases ad:l[i]? with
 |some v=>
  have cz:=(List.getElem?_eq_some_iff.1 ad).1
  have d1:(i:Int)<((l.map cf).length:Int):=by rw[bb5]; omega
  rw[eN ad]at aw
  by_cases ab:v=s
  ·simp only[bg3,ab,beq_self_eq_true,bk4]at aw
   (have ae:=d1;have z2:=ab;refine dQ ?_;clear ae z2)
   refine D.r ?_
   exact⟨_,rfl,.aF (by rw[←aw]; rfl) rfl,trivial,trivial⟩
  ·have jv:(s==v)=false:=by simpa using fun e:s=v=>ab e.symm
   simp only[bg3,jv,bh3]at aw
   (have ae:=d1;have z2:=ab;refine dQ ?_;clear ae z2)
   refine ar.eC (i+1) ⟨by omega,aw⟩ ⟨rfl,rfl,by simp only[bb8]; rfl,trivial⟩ trivial trivial rfl rfl (by show l.length-(i+1)<l.length-i; omega)
 |none=>
  have b4:=List.getElem?_eq_none_iff.1 ad
  have bN:i=l.length:=by omega
  subst bN
  have d1: ¬(l.length:Int)<((l.map cf).length:Int):=by rw[bb5]; omega
  rw[be6]at aw
  (have ae:=d1;refine bt ?_;clear ae)
  refine D.r ?_
  exact⟨_,rfl,.aF (by rw[←aw]; rfl) rfl,trivial,trivial⟩
theorem aA3:Pure bb4 189 [] (.aq 1 (rU.map cf)):=by
 refine cw be Tryz.func189 Vz rfl rfl ?_
 unfold Kz QF
 simp(disch:=omega)only[go_sem,simprocAttr]
 refine ak ?_
 exact D.rx
theorem aA1 (s:bw):Pure bb4 187 [.str s] (.bool (ub s)):=by
 cases s with
 |nil=>
  refine cw be Tryz.func187 IU rfl rfl ?_
  unfold Ea Gy
  simp(disch:=omega)only[go_sem,simprocAttr]
  refine ak ?_
  exact D.rx
 |cons c s=>
 have cP:ub (c::s)=(decide ((c::s).length≤16)&&(ug c&&(c::s).all qM)):=rfl
 have aW:(c::s)[0]? =some c:=rfl
 have eg: ¬(c::s)=[]:=by simp
 have Em:Pure bb4 288 [.int .u8 (c.toNat:Int)] (.bool (ug c)):=PP _
 generalize c::s=S at cP aW eg
 rw[cP]
 refine cw be Tryz.func187 IU rfl rfl ?_
 unfold Ea Gy
 simp(disch:=omega)only[go_sem,simprocAttr]
 (have ae:=eg;refine bt ?_;clear ae)
 refine D.P (Em) ?_
 cases ec:ug c
 ·refine ak ?_
  refine D.r ?_
  exact⟨_,rfl,.aF (by simp [I.aF]) rfl,trivial,trivial⟩
 by_cases aG:S.length≤16
 rotate_left
 ·have d1:(16:Int)<(S.length:Int):=by omega
  (have ae:=d1;refine bt ?_;clear ae)
  refine D.r ?_
  exact⟨_,rfl,.aF (by simp [I.aF,aG]) rfl,trivial,trivial⟩
 have d1: ¬(16:Int)<(S.length:Int):=by omega
 simp only[decide_eq_true aG,bc7]
 (have ae:=d1;refine bt ?_;clear ae)
 refine ar.cU (X:=Nat) 0 (fun i=>[(0,.str S),(3,.int .i64 (i:Int))]) (fun _=>[]) (fun _=>[]) (fun i=>i≤S.length∧(S.drop i).all qM=S.all qM) (fun i=>S.length-i) ⟨bc3 _,rfl⟩ ⟨rfl,rfl,trivial⟩ trivial trivial ?_
 rintro i ⟨af,aw⟩
 try simp only at af aw ⊢
 cases ad:S[i]? with
 |some v=>
  have cz:=(List.getElem?_eq_some_iff.1 ad).1
  have d2:(i:Int)<(S.length:Int):=by omega
  have Bl:Pure bb4 289 [.int .u8 (v.toNat:Int)] (.bool (qM v)):=aA5 _
  rw[eN ad]at aw
  simp only[bd3]at aw
  cases gQ:qM v
  ·rw[gQ]at aw Bl
   (have ae:=d2;refine bt ?_;clear ae)
   refine D.P (Bl) ?_
   refine ak ?_
   refine D.r ?_
   exact⟨_,rfl,.aF (by rw[←aw]; rfl) rfl,trivial,trivial⟩
  ·rw[gQ]at aw Bl
   (have ae:=d2;refine bt ?_;clear ae)
   refine D.P (Bl) ?_
   refine ak ?_
   refine ar.eC (i+1) ⟨by omega,by simpa using aw⟩ ⟨rfl,by simp only[bb8]; rfl,trivial⟩ trivial trivial rfl rfl (by show S.length-(i+1)<S.length-i; omega)
 |none=>
  have b4:=List.getElem?_eq_none_iff.1 ad
  have bN:i=S.length:=by omega
  subst bN
  have d2: ¬(S.length:Int)<(S.length:Int):=by omega
  rw[be6]at aw
  (have ae:=d2;refine bt ?_;clear ae)
  refine D.r ?_
  exact⟨_,rfl,.aF (by rw[←aw]; rfl) rfl,trivial,trivial⟩
theorem rY (s:bw):Pure bb4 103 [.str s] (.bool (ev s)):=by
 have ap:=aA1 s
 have ay:=aA2 rU s (by decide)
 have dC:=aA3
 unfold ev
 generalize ub s=e5 at*
 generalize rU.contains s=il at*
 refine cw be Tryz.func103 UT rfl rfl ?_
 unfold JW P1
 simp(disch:=omega)only[go_sem,simprocAttr]
 refine ak ?_
 refine D.P (ap) ?_
 cases e5
 ·refine ak ?_
  exact D.rx
 refine ak ?_
 refine D.P (dC) ?_
 refine ak ?_
 refine D.P (ay) ?_
 refine ak ?_
 exact D.rx
theorem aA4 (s:bw):Pure bb4 190 [.str s] (.bool (ev s)):=by
 refine cw be Tryz.func190 VA rfl rfl ?_
 unfold KA QG
 simp(disch:=omega)only[go_sem,simprocAttr]
 refine ak ?_
 refine D.P (rY s) ?_
 refine ak ?_
 exact D.rx
theorem aM4: ∀ {u:bw}(v:bw),46∉u→l2 (u++v)=(match l2 v with
  |w::ws=>(u++w)::ws
  |[]=>[])
 |[],v,_=>by
  have:=SP v
  cases ao:l2 v with
  |nil=>exact absurd ao this
  |cons w ws=>simp [ao]
 |c::u,v,h=>by
  simp only[be4,not_or]at h
  have b7:=aM4 (u:=u) v h.2
  rw[bd2,l2,if_neg (fun e=>h.1 e.symm),b7]
  have:=SP v
  cases ao:l2 v with
  |nil=>exact absurd ao this
  |cons w ws=>rfl
theorem PS (s:bw) (ao:s.length≤1000000000000000):Pure bb4 105 [.str s] (.bool (lK s)):=by
 obtain⟨R,ag⟩: ∃R,R=(l2 s).all ev:=⟨_,rfl⟩
 have w9:lK s=(decide (s.length≤50)&&R):=by rw[lK,aM5,ag]
 rw[w9]
 refine cw be Tryz.func105 UW rfl rfl ?_
 unfold JY P3
 simp(disch:=omega)only[go_sem,simprocAttr]
 refine ak ?_
 refine ar.cU (X:=Nat×Nat) (0,0) (fun x=>[(0,.str s),(4,.int .i64 (x.1:Int)),(3,.int .i64 (x.2:Int))]) (fun _=>[]) (fun _=>[]) (fun x=>(x.1≤s.length∧x.2≤x.1∧46∉(s.take x.1).drop x.2∧R=(l2 (s.drop x.2)).all ev)∨(x.1=s.length+1∧R=true)) (fun x=>s.length+1-x.1) (.inl ⟨bc3 _,bc1 _,by simp,by simpa using ag⟩) ⟨rfl,rfl,rfl,trivial⟩ trivial trivial ?_
 rintro⟨i,f⟩ h
 simp only at h ⊢
 rcases h with ⟨af,aT,a1,aw⟩|⟨rfl,aw⟩
 rotate_left
 ·have d1: ¬((s.length:Int)+1≤(s.length:Int)):=by omega
  (have ae:=@bb8;have z2:=d1;refine dQ ?_;clear ae z2)
  refine D.r ?_
  refine⟨_,rfl,.aF ?_ rfl,trivial,trivial⟩
  rw[aw]
  simp only[I.aF,be0,I.bool.injEq]
  exact decide_eq_decide.2 (by omega)
 have d1:(i:Int)≤(s.length:Int):=by omega
 have gA:s.drop f=(s.take i).drop f++s.drop i:=by
  conv=>lhs; rw[←List.take_append_drop i s]
  rw[bj4 (by rw[be9]; omega)]
 obtain⟨u,hu⟩: ∃u,u=(s.take i).drop f:=⟨_,rfl⟩
 rw[←hu]at a1 gA
 have Md:=aA4 u
 by_cases he:i=s.length
 ·subst he
  have d1:(s.length:Int)≤(s.length:Int):=by omega
  have Fg:s.drop s.length=[]:=bc6 (by omega)
  rw[Fg,bd8]at gA
  rw[gA,G4 a1]at aw
  simp only[bd3,bk2,be0]at aw
  (have ae:=d1;refine bt ?_;clear ae)
  (apply al.zY (f) (s.length);(·simp(disch:=omega)only[go_sem,simprocAttr]<;>with_reducible rfl);(·simp(disch:=omega)only[go_sem,simprocAttr]<;>with_reducible rfl);(·simp(disch:=omega)only[go_sem,simprocAttr]<;>with_reducible rfl);(·omega);(·omega);(·omega);(·(try simp only[bb5]);omega))
  rw[←hu]
  refine ak ?_
  refine D.P (Md) ?_
  rw[←aw]
  cases R
  ·refine ak ?_
   refine D.r ?_
   exact⟨_,rfl,.aF (by simp [I.aF]) rfl,trivial,trivial⟩
  ·refine ak ?_
   refine ar.eC (s.length+1,s.length+1) (by first|exact .inr ⟨rfl,rfl⟩|exact .inr rfl) ⟨rfl,by simp only[bb8]; rfl,by simp only[bb8]; rfl,trivial⟩ trivial trivial rfl rfl (by show s.length+1-(s.length+1)<s.length+1-s.length; omega)
 have cz:i<s.length:=by omega
 have d2: ¬(i:Int)=(s.length:Int):=by omega
 obtain⟨c,an⟩: ∃c,s[i]? =some c:=⟨_,List.getElem?_eq_getElem cz⟩
 have aa2:=eN an
 rw[aa2]at gA
 have ld:(s.take (i+1)).drop f=u++[c]:=by
  rw[bf5,an,bj4 (by rw[be9]; omega),←hu]
  rfl
 by_cases MJ:c.toNat=46
 ·have aa0:c=46:=UInt8.toNat_inj.1 MJ
  subst aa0
  rw[gA,G3 _ a1]at aw
  simp only[bd3]at aw
  (have ae:=d1;have z2:=d2;refine dQ ?_;clear ae z2)
  (apply al.zY (f) (i);(·simp(disch:=omega)only[go_sem,simprocAttr]<;>with_reducible rfl);(·simp(disch:=omega)only[go_sem,simprocAttr]<;>with_reducible rfl);(·simp(disch:=omega)only[go_sem,simprocAttr]<;>with_reducible rfl);(·omega);(·omega);(·omega);(·(try simp only[bb5]);omega))
  rw[←hu]
  refine ak ?_
  refine D.P (Md) ?_
  cases hw:ev u
  ·rw[hw]at aw
   refine ak ?_
   refine D.r ?_
   exact⟨_,rfl,.aF (by rw[aw]; simp [I.aF]) rfl,trivial,trivial⟩
  ·rw[hw]at aw
   refine ak ?_
   refine ar.eC (i+1,i+1) (.inl ⟨by omega,bc1 _,by simp,by simpa using aw⟩) ⟨rfl,by simp only[bb8]; rfl,by simp only[bb8]; rfl,trivial⟩ trivial trivial rfl rfl (by show s.length+1-(i+1)<s.length+1-i; omega)
 ·have d3: ¬(c.toNat:Int)=46:=by omega
  (have ae:=d1;have z2:=d2;have z3:=d3;refine ep ?_;clear ae z2 z3)
  refine ar.eC (i+1,f) (.inl ⟨by omega,by omega,?_,aw⟩) ⟨rfl,by simp only[bb8]; rfl,rfl,trivial⟩ trivial trivial rfl rfl (by show s.length+1-(i+1)<s.length+1-i; omega)
  simp only[ld,bf7,List.mem_singleton,not_or]
  exact⟨a1,fun e=>MJ (by rw[←e]; rfl)⟩
theorem aC2 (s:bw) (ao:s.length≤1000000000):Pure bb4 276 [.str s] (.bool (s.all ea)):=by
 refine cw be Tryz.func276 Wh rfl rfl ?_
 unfold Lf Rn
 simp(disch:=omega)only[go_sem,simprocAttr]
 refine ak ?_
 refine ar.cU (X:=Nat) 0 (fun i=>[(0,.str s),(3,.int .i64 (i:Int))]) (fun _=>[]) (fun _=>[]) (fun i=>i≤s.length∧(s.drop i).all ea=s.all ea) (fun i=>s.length-i) ⟨bc3 _,rfl⟩ ⟨rfl,rfl,trivial⟩ trivial trivial ?_
 rintro i ⟨af,aw⟩
 try simp only at af aw ⊢
 cases ad:s[i]? with
 |some v=>
  have cz:=(List.getElem?_eq_some_iff.1 ad).1
  have d1:(i:Int)<(s.length:Int):=by omega
  rw[eN ad]at aw
  simp only[bd3]at aw
  by_cases U:v.toNat<32
  ·have d2:(v.toNat:Int)<32:=by omega
   have aj:ea v=false:=by simp [ea]; omega
   rw[aj]at aw
   (have ae:=d1;have z2:=d2;refine dQ ?_;clear ae z2)
   refine D.r ?_
   exact⟨_,rfl,.aF (by rw[←aw]; rfl) rfl,trivial,trivial⟩
  have d2: ¬(v.toNat:Int)<32:=by omega
  by_cases aa:126<v.toNat
  ·have d3:(126:Int)<(v.toNat:Int):=by omega
   have aj:ea v=false:=by simp [ea]; omega
   rw[aj]at aw
   (have ae:=d1;have z2:=d2;have z3:=d3;refine ep ?_;clear ae z2 z3)
   refine D.r ?_
   exact⟨_,rfl,.aF (by rw[←aw]; rfl) rfl,trivial,trivial⟩
  ·have d3: ¬(126:Int)<(v.toNat:Int):=by omega
   have aj:ea v=true:=by simp [ea]; omega
   rw[aj,bc7]at aw
   (have ae:=d1;have z2:=d2;have z3:=d3;refine ep ?_;clear ae z2 z3)
   refine ar.eC (i+1) ⟨by omega,aw⟩ ⟨rfl,by simp only[bb8]; rfl,trivial⟩ trivial trivial rfl rfl (by show s.length-(i+1)<s.length-i; omega)
 |none=>
  have b4:=List.getElem?_eq_none_iff.1 ad
  have bN:i=s.length:=by omega
  subst bN
  have d1: ¬(s.length:Int)<(s.length:Int):=by omega
  rw[be6]at aw
  (have ae:=d1;refine bt ?_;clear ae)
  refine D.r ?_
  exact⟨_,rfl,.aF (by rw[←aw]; rfl) rfl,trivial,trivial⟩
def r7 (k n:Int) (s:bw):Bool:=if k=1 then decide (-1000≤n)&&(decide (n≤1000)&&decide (s=[])) else if k=2 then decide (n=0)&&oc s else false
theorem PO (k n:Int) (s:bw):Pure bb4 175 [.agg [.int .i64 k,.int .i64 n,.str s]] (.bool (r7 k n s)):=by
 have e:s.length≤40→Pure bb4 276 [.str s] (.bool (s.all ea)):=fun h=>aC2 s (by omega)
 unfold r7 oc
 generalize s.all ea=b at*
 refine cw be Tryz.func175 Vu rfl rfl ?_
 unfold Ku QA
 simp(disch:=omega)only[go_sem,simprocAttr]
 by_cases br:k=1
 ·subst br
  by_cases U: -1000≤n
  rotate_left
  ·(have ae:=U;refine bt ?_;clear ae)
   refine D.r ?_
   exact⟨_,rfl,.aF (by simp [I.aF,U]) rfl,trivial,trivial⟩
  by_cases aa:n≤1000
  rotate_left
  ·(have ae:=U;have z2:=aa;refine dQ ?_;clear ae z2)
   refine D.r ?_
   exact⟨_,rfl,.aF (by simp [I.aF,aa]) rfl,trivial,trivial⟩
  (have ae:=U;have z2:=aa;refine dQ ?_;clear ae z2)
  refine D.r ?_
  exact⟨_,rfl,.aF (by simp [I.aF,U,aa]) rfl,trivial,trivial⟩
 by_cases bB:k=2
 ·subst bB
  by_cases U:n=0
  rotate_left
  ·(have ae:=U;refine bt ?_;clear ae)
   refine D.r ?_
   exact⟨_,rfl,.aF (by simp [I.aF,U]) rfl,trivial,trivial⟩
  by_cases aa:s.length≤40
  rotate_left
  ·have d2: ¬(s.length:Int)≤40:=by omega
   (have ae:=U;have z2:=d2;refine dQ ?_;clear ae z2)
   refine D.r ?_
   exact⟨_,rfl,.aF (by simp [I.aF,aa]) rfl,trivial,trivial⟩
  have d2:(s.length:Int)≤40:=by omega
  (have ae:=U;have z2:=d2;refine dQ ?_;clear ae z2)
  refine D.P (e aa) ?_
  refine ak ?_
  refine D.r ?_
  exact⟨_,rfl,.aF (by simp [I.aF,U,aa]) rfl,trivial,trivial⟩
 (have ae:=br;have z2:=bB;refine dQ ?_;clear ae z2)
 refine D.r ?_
 exact⟨_,rfl,.aF (by simp [I.aF,br,bB]) rfl,trivial,trivial⟩
end
section
attribute [local go_sem] au.cO au.cx au.dd ai.cO ai.cx ai.dd cf dn fo gv dF of_flat
theorem YC:(List.range 10).all (fun d=>(Utf8.encode (48+(d:Int))).data.toList==[UInt8.ofNat (48+d)])=true:=by kernel_rfl
theorem YE {d:Nat}(h:d<10):(Utf8.encode (48+(d:Int))).data.toList=[UInt8.ofNat (48+d)]:=by
 have:=List.all_eq_true.1 YC d (List.mem_range.2 h)
 simpa only[beq_iff_eq] using this
theorem aj1 {n:Nat}(h:n<10):Lib.itoa (n:Int)=[UInt8.ofNat (48+n)]:=by
 unfold Lib.itoa
 rw[if_neg (by omega),bi8,DW h]
theorem aj0 {n:Nat}(h: ¬n<10):Lib.itoa (n:Int)=Lib.itoa ((n/10:Nat):Int)++[UInt8.ofNat (48+n%10)]:=by
 unfold Lib.itoa
 rw[if_neg (by omega),if_neg (by omega),bi8,bi8,DX h]
theorem NJ {n:Nat}(h:1≤n):Lib.itoa (-(n:Int))=45::Lib.decDigits n:=by
 unfold Lib.itoa
 rw[if_pos (by omega)]
 simp
theorem aQ4 (m:Nat):(-(m:Int)).tdiv 10= -((m/10:Nat):Int):=by rw[Int.neg_tdiv]; rfl
theorem mB (m:Nat):(-(m:Int)).tmod 10= -((m%10:Nat):Int):=by rw[Int.neg_tmod]; rfl
theorem aQ5 (m:Nat):(m:Int).tdiv 10=((m/10:Nat):Int):=rfl
theorem aQ6 (m:Nat):(m:Int).tmod 10=((m%10:Nat):Int):=rfl
theorem aY3 {d:Int}(aW:0≤d) (U:d<10):IntKind.i32.wrap (48+d)=48+d:=by
 simp only[IntKind.wrap,IntKind.bits,IntKind.signed]
 simp
 omega
attribute [local go_sem] aY3 YE Int.sub_neg aQ4 mB aQ5 aQ6
theorem aD8: ∀n:Nat,n≤1000000000→Pure bb4 193 [.int .i64 (n:Int)] (.str (Lib.itoa (n:Int))):=by
 intro n
 induction n using Nat.strongRecOn with
 |ind n b7=>
 intro a1
 have U: ¬(n:Int)< -9:=by omega
 have aa: ¬(n:Int)<0:=by omega
 refine cw be Tryz.func193 IV rfl rfl ?_
 unfold Eb Gz
 simp(disch:=omega)only[go_sem,simprocAttr]
 by_cases tN:n<10
 ·have aD:(n:Int)<10:=by omega
  rw[aj1 tN]
  (have ae:=U;have z2:=aa;have z3:=aD;refine ep ?_;clear ae z2 z3)
  exact D.rx
 ·have aD: ¬(n:Int)<10:=by omega
  have e:=b7 (n/10) (by omega) (by omega)
  have aG:=Lib.itoa_length_le ((n/10:Nat):Int) (by omega) (by omega)
  rw[aj0 tN]
  generalize Lib.itoa ((n/10:Nat):Int)=s at*
  (have ae:=U;have z2:=aa;have z3:=aD;refine ep ?_;clear ae z2 z3)
  refine D.P (e) ?_
  refine ak ?_
  refine D.bU ?_
  refine ak ?_
  exact D.rx
theorem aD7: ∀n:Nat,1≤n→n≤1000000000→Pure bb4 193 [.int .i64 (-(n:Int))] (.str (Lib.itoa (-(n:Int)))):=by
 intro n
 induction n using Nat.strongRecOn with
 |ind n b7=>
 intro hp a1
 rw[NJ hp]
 refine cw be Tryz.func193 IV rfl rfl ?_
 unfold Eb Gz
 simp(disch:=omega)only[go_sem,simprocAttr]
 by_cases tN:n<10
 ·have U: ¬ -(n:Int)< -9:=by omega
  have aa: -(n:Int)<0:=by omega
  rw[DW tN]
  (have ae:=U;have z2:=aa;refine dQ ?_;clear ae z2)
  refine D.bU ?_
  refine ak ?_
  exact D.rx
 ·have U: -(n:Int)< -9:=by omega
  have e:=b7 (n/10) (by omega) (by omega) (by omega)
  have aG:=Lib.itoa_length_le (-((n/10:Nat):Int)) (by omega) (by omega)
  rw[NJ (by omega)]at aG e
  rw[DX tN]
  generalize Lib.decDigits (n/10)=s at*
  (have ae:=U;refine bt ?_;clear ae)
  refine D.P (e) ?_
  refine ak ?_
  simp only[bb9]at aG
  refine D.bU ?_
  refine ak ?_
  exact D.rx
theorem zP (n:Int) (aW: -1000000000≤n) (U:n≤1000000000):Pure bb4 193 [.int .i64 n] (.str (Lib.itoa n)):=by
 by_cases h:0≤n
 ·obtain⟨m,rfl⟩:=bt2 h
  exact aD8 m (by omega)
 ·obtain⟨m,hm⟩:=bt2 (a:= -n) (by omega)
  have:n= -(m:Int):=by omega
  subst this
  exact aD7 m (by omega) (by omega)
theorem PU (s:bw) (ao:s.length≤100000000):Pure bb4 194 [.str s] (.str (vY s)):=by
 refine cw be Tryz.func194 VD rfl rfl ?_
 unfold KD QJ
 simp(disch:=omega)only[go_sem,simprocAttr]
 refine ak ?_
 refine ar.cU (X:=Nat×bw) (0,[34]) (fun x=>[(0,.str s),(3,.str x.2),(4,.int .i64 (x.1:Int))]) (fun _=>[]) (fun _=>[]) (fun x=>x.1≤s.length∧x.2=[34]++jR (s.take x.1)) (fun x=>s.length-x.1) ⟨bc3 _,rfl⟩ ⟨rfl,rfl,rfl,trivial⟩ trivial trivial ?_
 rintro⟨i,o⟩ ⟨af,aw⟩
 try simp only at af aw ⊢
 have aG:o.length≤300000000:=by
  have:=xM (s.take i)
  rw[aw,bb7,bb9,bc4]
  rw[be9]at this
  omega
 cases ad:s[i]? with
 |some v=>
  have cz:=(List.getElem?_eq_some_iff.1 ad).1
  have d1:(i:Int)<(s.length:Int):=by omega
  have ld:(s.take (i+1))=s.take i++[v]:=by rw[bf5,ad]; rfl
  have vA:(s.take (i+1)).drop i=[v]:=by
   rw[ld,bj4 (by rw[be9]; omega),bc6 (by rw[be9]; omega)]
   rfl
  have bu:jR [v]=if v.toNat=34∨v.toNat=92 then[92,v] else[v]:=by simp only[jR,bd8]
  have mu:[34]++jR (s.take (i+1))=o++jR [v]:=by rw[ld,Gt,←bc8,aw]
  rw[bu]at mu
  by_cases U:v.toNat=34
  ·have d2:(v.toNat:Int)=34:=by omega
   rw[if_pos (.inl U)]at mu
   (have ae:=d1;have z2:=d2;refine dQ ?_;clear ae z2)
   refine D.bU ?_
   refine ak ?_
   (apply al.zY (i) (i+1);(·simp(disch:=omega)only[go_sem,simprocAttr]<;>with_reducible rfl);(·simp(disch:=omega)only[go_sem,simprocAttr]<;>with_reducible rfl);(·simp(disch:=omega)only[go_sem,simprocAttr]<;>with_reducible rfl);(·omega);(·omega);(·omega);(·(try simp only[bb5]);omega))
   rw[vA]
   refine ak ?_
   refine D.bU ?_
   refine ak ?_
   refine ar.eC (i+1,o++[92]++[v]) ⟨by omega,by simpa using mu.symm⟩ ⟨rfl,rfl,by simp only[bb8]; rfl,trivial⟩ trivial trivial rfl rfl (by show s.length-(i+1)<s.length-i; omega)
  have d2: ¬(v.toNat:Int)=34:=by omega
  by_cases aa:v.toNat=92
  ·have d3:(v.toNat:Int)=92:=by omega
   rw[if_pos (.inr aa)]at mu
   (have ae:=d1;have z2:=d2;have z3:=d3;refine ep ?_;clear ae z2 z3)
   refine D.bU ?_
   refine ak ?_
   (apply al.zY (i) (i+1);(·simp(disch:=omega)only[go_sem,simprocAttr]<;>with_reducible rfl);(·simp(disch:=omega)only[go_sem,simprocAttr]<;>with_reducible rfl);(·simp(disch:=omega)only[go_sem,simprocAttr]<;>with_reducible rfl);(·omega);(·omega);(·omega);(·(try simp only[bb5]);omega))
   rw[vA]
   refine ak ?_
   refine D.bU ?_
   refine ak ?_
   refine ar.eC (i+1,o++[92]++[v]) ⟨by omega,by simpa using mu.symm⟩ ⟨rfl,rfl,by simp only[bb8]; rfl,trivial⟩ trivial trivial rfl rfl (by show s.length-(i+1)<s.length-i; omega)
  ·have d3: ¬(v.toNat:Int)=92:=by omega
   rw[if_neg (by omega)]at mu
   (have ae:=d1;have z2:=d2;have z3:=d3;refine ep ?_;clear ae z2 z3)
   (apply al.zY (i) (i+1);(·simp(disch:=omega)only[go_sem,simprocAttr]<;>with_reducible rfl);(·simp(disch:=omega)only[go_sem,simprocAttr]<;>with_reducible rfl);(·simp(disch:=omega)only[go_sem,simprocAttr]<;>with_reducible rfl);(·omega);(·omega);(·omega);(·(try simp only[bb5]);omega))
   rw[vA]
   refine ak ?_
   refine D.bU ?_
   refine ak ?_
   refine ar.eC (i+1,o++[v]) ⟨by omega,by simpa using mu.symm⟩ ⟨rfl,rfl,by simp only[bb8]; rfl,trivial⟩ trivial trivial rfl rfl (by show s.length-(i+1)<s.length-i; omega)
 |none=>
  have b4:=List.getElem?_eq_none_iff.1 ad
  have bN:i=s.length:=by omega
  subst bN
  have d1: ¬(s.length:Int)<(s.length:Int):=by omega
  rw[bf1]at aw
  (have ae:=d1;refine bt ?_;clear ae)
  refine D.bU ?_
  refine ak ?_
  refine D.r ?_
  exact⟨_,rfl,.aF (by rw[aw]; rfl) rfl,trivial,trivial⟩
end
section
attribute [local go_sem] au.cO au.cx au.dd ai.cO ai.cx ai.dd cf dn fo gv dF of_flat
theorem sX: ∀(N:Nat),(∀x:au,x.cv≤N→fb x=true→(cy x).length≤1000000000→Pure bb4 197 [.agg x.row] (.str (cy x)))∧(∀(x:au) (k:Int),x.cv≤N→fb x=true→(ie x (cy x) k).length≤1000000000→Pure bb4 292 [.agg x.row,.int .i64 k] (.str (ie x (cy x) k)))
 |0=>⟨fun x h=>by cases x; simp only[au.cv]at h; omega,fun x k h=>by cases x; simp only[au.cv]at h; omega⟩
 |N+1=>by
  have key: ∀x:au,x.cv≤N+1→fb x=true→(cy x).length≤1000000000→Pure bb4 197 [.agg x.row] (.str (cy x)):=by
   rintro⟨k,o,m,t,n,l⟩ cP bo ao
   simp only[au.cv]at cP
   simp only[fb,bb6]at bo
   obtain⟨a6,hq⟩:=bo
   simp only[cy,CJ]at ao ⊢
   have tY:=ao
   unfold Bw at ao ⊢
   refine cw be Tryz.func197 VG (by simp only[b2,I.flat,au.dd,bc0]) rfl ?_
   unfold KG QM
   simp(disch:=omega)only[go_sem,simprocAttr]
   rcases E3 a6 with ⟨rfl,aW,U,aa⟩|⟨rfl,aW,U⟩|⟨rfl,aW⟩|⟨rfl,aW⟩|⟨rfl,aW⟩|⟨rfl,aW⟩
   ·refine ak ?_
    refine D.P (zP n (by omega) (by omega)) ?_
    refine ak ?_
    exact D.rx
   ·refine ak ?_
    refine D.P (PU t (by omega)) ?_
    refine ak ?_
    exact D.rx
   ·refine ak ?_
    exact D.rx
   ·match l,aW with
    |[x],_=>
    simp only[mm,be0]at hq
    simp only[au.ch]at cP
    have iu:([108,101,110,40]++cy x++[41]).length≤1000000000:=ao
    simp only[bb7,bb9,bc4]at iu
    have e:=(sX N).1 x (by omega) hq (by omega)
    rcases x with ⟨fD,fH,fF,fI,fG,fE⟩
    simp(disch:=omega)only[go_sem,simprocAttr]at e
    refine ak ?_
    refine D.P (e) ?_
    refine D.bU ?_
    refine D.bU ?_
    refine ak ?_
    exact D.rx
   ·match l,aW with
    |[x],_=>
    simp only[mm,be0]at hq
    simp only[au.ch]at cP
    have iu:(o++ie x (cy x) 7).length≤1000000000:=ao
    simp only[bb7]at iu
    have e:=(sX N).2 x 7 (by omega) hq (by omega)
    show ar bb4 _ _ _ _ (uT (.str (o++ie x (cy x) 7)) [] []) _ _
    generalize ie x (cy x) 7=iM at e iu ⊢
    clear ao tY
    rcases x with ⟨fD,fH,fF,fI,fG,fE⟩
    simp(disch:=omega)only[go_sem,simprocAttr]at e
    iterate 6 refine iZ ?_
    repeat refine D.fg true true ?_
    refine ar.gC (anns:=[.str iM]) ?_
    refine b0 ?_
    refine D.ei (e) ?_
    refine D.bU ?_ (hb:=by simp only[maxLen]; omega)
    refine ak ?_
    exact D.rx
   ·match l,aW with
    |[x,y],_=>
    simp only[mm,be0,bb6]at hq
    simp only[au.ch]at cP
    have iu:(ie x (cy x) (gd o)++[32]++o++[32]++ie y (cy y) (gd o+1)).length≤1000000000:=ao
    simp only[bb7,bb9,bc4]at iu
    have e:=(sX N).2 x (gd o) (by omega) hq.1 (by omega)
    have ay:=(sX N).2 y (gd o+1) (by omega) hq.2 (by omega)
    show ar bb4 _ _ _ _ (uT (.str (ie x (cy x) (gd o)++[32]++o++[32]++ie y (cy y) (gd o+1))) [] []) _ _
    generalize ie x (cy x) (gd o)=iM at e iu ⊢
    generalize ie y (cy y) (gd o+1)=Ha at ay iu ⊢
    have hp:=F8 o
    have kx:=Gn o
    generalize gd o=iL at*
    clear ao tY
    rcases x with ⟨fD,fH,fF,fI,fG,fE⟩
    rcases y with ⟨q5,Au,wo,tb,wq,At⟩
    simp(disch:=omega)only[go_sem,simprocAttr]at e
    simp(disch:=omega)only[go_sem,simprocAttr]at ay
    iterate 7 refine iZ ?_
    repeat refine D.fg true true ?_
    refine ar.c9 ?_
    refine b0 ?_
    refine D.P (kx) ?_
    refine b0 ?_
    repeat refine D.fg true true ?_
    refine ar.gC (anns:=[.str iM,.str Ha]) ?_
    refine b0 ?_
    refine D.ei (e) ?_
    refine D.bU ?_
    refine b0 ?_
    refine D.bU ?_
    refine D.bU ?_
    refine b0 ?_
    refine D.ei (ay) ?_
    refine D.bU ?_
    refine ak ?_
    exact D.rx
  refine⟨key,fun x k cP bo ao=> ?_⟩
  have kx:=Gn x.op
  by_cases dx:x.kind=6
  ·by_cases av:gd x.op<k
   ·have k9:ie x (cy x) k=[40]++cy x++[41]:=if_pos ⟨dx,av⟩
    rw[k9]at ao ⊢
    simp only[bb7,bb9,bc4]at ao
    have e:=key x cP bo (by omega)
    generalize cy x=iM at*
    rcases x with ⟨fD,fH,fF,fI,fG,fE⟩
    simp only[au.kind,au.op]at dx av kx
    subst dx
    simp(disch:=omega)only[go_sem,simprocAttr]at e
    refine cw be Tryz.func292 DB (by simp only[b2,I.flat,au.dd,bc0]) rfl ?_
    unfold Bg Cx
    simp(disch:=omega)only[go_sem,simprocAttr]
    refine ak ?_
    refine D.P (kx) ?_
    (have ae:=av;refine bt ?_;clear ae)
    refine D.P (e) ?_
    refine D.bU ?_
    refine D.bU ?_
    refine ak ?_
    exact D.rx
   ·have k9:ie x (cy x) k=cy x:=if_neg fun h=>av h.2
    rw[k9]at ao ⊢
    have e:=key x cP bo (by omega)
    generalize cy x=iM at*
    rcases x with ⟨fD,fH,fF,fI,fG,fE⟩
    simp only[au.kind,au.op]at dx av kx
    subst dx
    simp(disch:=omega)only[go_sem,simprocAttr]at e
    refine cw be Tryz.func292 DB (by simp only[b2,I.flat,au.dd,bc0]) rfl ?_
    unfold Bg Cx
    simp(disch:=omega)only[go_sem,simprocAttr]
    refine ak ?_
    refine D.P (kx) ?_
    (have ae:=av;refine bt ?_;clear ae)
    refine D.P (e) ?_
    refine ak ?_
    exact D.rx
  ·have k9:ie x (cy x) k=cy x:=if_neg fun h=>dx h.1
   rw[k9]at ao ⊢
   have e:=key x cP bo (by omega)
   generalize cy x=iM at*
   rcases x with ⟨fD,fH,fF,fI,fG,fE⟩
   simp only[au.kind]at dx
   simp(disch:=omega)only[go_sem,simprocAttr]at e
   refine cw be Tryz.func292 DB (by simp only[b2,I.flat,au.dd,bc0]) rfl ?_
   unfold Bg Cx
   simp(disch:=omega)only[go_sem,simprocAttr]
   (have ae:=dx;refine bt ?_;clear ae)
   refine D.P (e) ?_
   refine ak ?_
   exact D.rx
end
section
attribute [local go_sem] au.cO au.cx au.dd ai.cO ai.cx ai.dd cf dn fo gv dF of_flat
theorem NN (sep:bw){l3:List bw}{i:Nat}{y:bw}(h:l3[i]? =some y):Lib.join (l3.take (i+1)) sep=(if i=0 then[] else Lib.join (l3.take i) sep++sep)++y:=by
 cases l3 with
 |nil=>simp at h
 |cons x r=>
  cases i with
  |zero=>
   simp only[List.getElem?_cons_zero,Option.some.injEq]at h
   subst h
   simp only[bg0,bg2,Lib.join_one,if_true,bd6]
  |succ i=>
   rw[List.getElem?_cons_succ]at h
   rw[bg0,Lib.join_cons,Lib.joinTail_take_succ _ _ _ _ h,if_neg (by omega),bg0,Lib.join_cons]
   simp only[bc8]
theorem NO (sep:bw) (l3:List bw) (i:Nat):(Lib.join (l3.take i) sep).length≤(Lib.join l3 sep).length:=by
 cases l3 with
 |nil=>simp
 |cons x r=>
  cases i with
  |zero=>simp only[bg2,Lib.join_nil,bc4]; omega
  |succ i=>
   rw[bg0,Lib.join_cons,Lib.join_cons,bb7,bb7]
   have:=Lib.joinTail_take_le sep r i
   omega
theorem aA0 (l:List au) (aS:au.ch l≤1000000) (bo:l.all fb=true) (ao:(Lib.join (l.map cy) [44,32]).length≤1000000000):Pure bb4 196 [.aq 6 (l.map au.row)] (.str (Lib.join (l.map cy) [44,32])):=by
 have j2:=au.ic l
 refine cw be Tryz.func196 VF (by simp only[b2,I.flat,au.cx,bc0]) rfl ?_
 unfold KF QL
 simp(disch:=omega)only[go_sem,simprocAttr]
 refine ak ?_
 refine ar.cU (X:=Nat×bw) (0,[]) (fun x=>[(0,.aq 6 (l.map au.row)),(3,.str x.2),(4,.int .i64 (x.1:Int))]) (fun _=>[]) (fun _=>[]) (fun x=>x.1≤l.length∧x.2=Lib.join ((l.map cy).take x.1) [44,32]) (fun x=>l.length-x.1) ⟨bc3 _,rfl⟩ ⟨rfl,rfl,rfl,trivial⟩ trivial trivial ?_
 rintro⟨i,o⟩ ⟨af,aw⟩
 try simp only at af aw ⊢
 have aG:o.length≤1000000000:=by
  rw[aw]
  exact bg1 (NO _ _ _) ao
 cases ad:l[i]? with
 |some v=>
  have cz:=(List.getElem?_eq_some_iff.1 ad).1
  have hD:=bc2 ad
  have d1:(i:Int)<((l.map au.row).length:Int):=by rw[bb5]; omega
  have ad4:=bg1 (NM (sep:=[44,32]) (List.mem_map_of_mem (f:=cy) hD)) ao
  have e:=(sX 1000000).1 v (by have:=au.p3 hD; omega) (by simpa using List.all_eq_true.1 bo v hD) ad4
  have mu:=NN [44,32] (show (l.map cy)[i]? =some (cy v) by rw[List.getElem?_map,ad]; rfl)
  rw[←aw]at mu
  generalize cy v=wc at*
  rcases v with ⟨fD,fH,fF,fI,fG,fE⟩
  simp(disch:=omega)only[go_sem,simprocAttr]at e
  by_cases aW:i=0
  ·have d2: ¬(0:Int)<(i:Int):=by omega
   rw[if_pos aW,bd6]at mu
   have aj:o=[]:=by rw[aw,aW]; rfl
   (have ae:=d1;have z2:=d2;refine dQ ?_;clear ae z2)
   refine D.P (e) ?_
   refine D.bU ?_ (hb:=by simp only[maxLen]; omega)
   refine ak ?_
   refine ar.eC (i+1,o++wc) ⟨by omega,by rw[mu,aj]; rfl⟩ ⟨rfl,rfl,by simp only[bb8]; rfl,trivial⟩ trivial trivial rfl rfl (by show l.length-(i+1)<l.length-i; omega)
  ·have d2:(0:Int)<(i:Int):=by omega
   rw[if_neg aW]at mu
   (have ae:=d1;have z2:=d2;refine dQ ?_;clear ae z2)
   refine D.bU ?_
   refine ak ?_
   refine D.P (e) ?_
   refine D.bU ?_
   refine ak ?_
   refine ar.eC (i+1,o++[44,32]++wc) ⟨by omega,mu.symm⟩ ⟨rfl,rfl,by simp only[bb8]; rfl,trivial⟩ trivial trivial rfl rfl (by show l.length-(i+1)<l.length-i; omega)
 |none=>
  have b4:=List.getElem?_eq_none_iff.1 ad
  have bN:i=l.length:=by omega
  subst bN
  have d1: ¬(l.length:Int)<((l.map au.row).length:Int):=by rw[bb5]; omega
  rw[bg8 (by rw[bb5]; omega)]at aw
  (have ae:=d1;refine bt ?_;clear ae)
  refine D.r ?_
  exact⟨_,rfl,.aF (by rw[aw]; rfl) rfl,trivial,trivial⟩
end
section
attribute [local go_sem] au.cO au.cx au.dd ai.cO ai.cx ai.dd cf dn fo gv dF of_flat
def l4 (d:Nat):bw:=List.replicate d 9
theorem S3 (d:Nat):l4 d++[9]=l4 (d+1):=by
 unfold l4
 rw[List.replicate_succ']
theorem S2 (d:Nat):(l4 d).length=d:=by simp [l4]
def ke (d:Nat) (l:List ai):bw:=[123,10]++ai.fW (d+1) l++l4 d++[125]
mutual
def ai.mx (d:Nat):ai→bw
 | .mk k m x t a b=>if k=1 then m++[32,61,32]++cy x++[59]
  else if k=3 then[119,104,105,108,101,32]++cy x++[32,116,105,109,101,115,32]++Lib.itoa t++[32]++ke d a
  else[105,102,32]++cy x++[32]++ke d a++(if b.isEmpty=true then[] else[32,101,108,115,101,32]++(if mw b=true then ai.zx d b else ke d b))
def ai.zx (d:Nat):List ai→bw
 |[]=>[]
 |y:: _=>ai.mx d y
end
mutual
theorem ai.F6 (d:Nat): ∀x:ai,((x.kind=1∨x.kind=3)→∀bG,ai.iL d bG x=l4 d++ai.mx d x++[10])∧(¬x.kind=1→¬x.kind=3→∃r,ai.mx d x=[105,102,32]++r∧∀bG,ai.iL d bG x=l4 d++bG++r++[10])
 | .mk k m x t a b=>by
  have dc:=ai.YA d b
  simp only[ai.kind]
  refine⟨fun h bG=> ?_,fun U aD=> ?_⟩
  ·by_cases U:k=1
   ·simp only[ai.iL,ai.mx,U,if_true,eZ,bd0,be3,bc8,bd8]
    rfl
   ·have aD:k=3:=h.resolve_left U
    simp only[ai.iL,ai.mx,aD,show ¬(3:Int)=1 by decide,if_false,if_true,eZ,bd0,be3,bc8,bd8,ke]
    rfl
  ·simp only[ai.iL,ai.mx,U,aD,if_false,bc8]
   refine⟨_,rfl,fun bG=> ?_⟩
   cases b with
   |nil=>
    simp only[mw,List.isEmpty_nil,if_true,bd5,if_false,eZ,ke,bd0,be3,bc8,bd8,bd6]
    rfl
   |cons y l=>
    simp only[List.isEmpty_cons,bd5,if_false]
    cases hb:mw (y::l) with
    |true=>
     obtain⟨r,ap,ay⟩:=dc hb
     simp only[if_true,ap,ay,eZ,ke,bd0,be3,bc8,bd8]
     simp [l4]
    |false=>
     simp only[bd5,if_false,eZ,ke,bd0,be3,bc8,bd8]
     simp [l4]
theorem ai.YA (d:Nat): ∀l:List ai,mw l=true→∃r,ai.zx d l=[105,102,32]++r∧ai.vc d l=l4 d++[125,32,101,108,115,101,32,105,102,32]++r++[10]
 |[],h=>by simp [mw]at h
 |y::l,h=>by
  have a8:=ai.F6 d y
  have av:y.kind=2:=by
   cases l with
   |nil=>simpa [mw] using h
   |cons z l=>simp [mw]at h
  obtain⟨r,ap,ay⟩:=a8.2 (by omega) (by omega)
  exact⟨r,by simp only[ai.zx,ap],by simp only[ai.vc,ay]⟩
end
theorem ai.PF (d:Nat) (x:ai):ai.iL d [105,102,32] x=l4 d++ai.mx d x++[10]:=by
 by_cases h:x.kind=1∨x.kind=3
 ·exact (ai.F6 d x).1 h _
 ·obtain⟨r,ap,ay⟩:=(ai.F6 d x).2 (fun e=>h (.inl e)) (fun e=>h (.inr e))
  rw[ap,ay]
  simp only[bc8]
def ye (N:Nat):Prop:=∀(x:ai) (d:Nat),x.cv≤N→iH x=true→d+x.cv≤1000000→(ai.mx d x).length≤1000000000→Pure bb4 291 [.agg x.row,.str (l4 d)] (.str (ai.mx d x))
def Da (N:Nat):Prop:=∀(l:List ai) (d:Nat),ai.ch l≤N→jt l=true→d+1+ai.ch l≤1000000→(ke d l).length≤1000000000→Pure bb4 195 [.aq 11 (l.map ai.row),.str (l4 d)] (.str (ke d l))
theorem PY {N:Nat}(j1:ye N):Da N:=by
 intro l d cP bo bG aG
 have j2:=ai.ic l
 have BY:=S2 d
 simp only[ke,bb7,bb9,bc4]at aG
 refine cw be Tryz.func195 VE (by simp only[b2,I.flat,ai.cx,bc0]) rfl ?_
 unfold KE QK
 simp(disch:=omega)only[go_sem,simprocAttr]
 refine ak ?_
 refine ar.cU (X:=Nat×bw) (0,[123,10]) (fun x=>[(0,.aq 11 (l.map ai.row)),(1,.str (l4 d)),(5,.str x.2),(6,.int .i64 (x.1:Int))]) (fun _=>[]) (fun _=>[]) (fun x=>x.1≤l.length∧x.2=[123,10]++ai.fW (d+1) (l.take x.1)) (fun x=>l.length-x.1) ⟨bc3 _,rfl⟩ ⟨rfl,rfl,rfl,rfl,trivial⟩ trivial trivial ?_
 rintro⟨i,o⟩ ⟨af,aw⟩
 try simp only at af aw ⊢
 have sH:o.length≤1000000010:=by
  have:=F9 (d+1) l i
  rw[aw,bb7,bb9,bb9,bc4]
  omega
 cases ad:l[i]? with
 |some v=>
  have cz:=(List.getElem?_eq_some_iff.1 ad).1
  have hD:=bc2 ad
  have Fu:=ai.p3 hD
  have d1:(i:Int)<((l.map ai.row).length:Int):=by rw[bb5]; omega
  have hle:=PH (d+1) ad
  rw[ai.PF]at hle
  simp only[bb7,bb9,bc4]at hle
  have e:=j1 v (d+1) (by omega) (by rw[w4]at bo; exact List.all_eq_true.1 bo v hD) (by omega) (by omega)
  have mu:[123,10]++ai.fW (d+1) (l.take (i+1))=o++(l4 (d+1)++ai.mx (d+1) v++[10]):=by rw[Ga _ ad,ai.PF,←bc8,aw]
  have a64:=S2 (d+1)
  have vA:(ai.mx (d+1) v).length≤1000000000:=by omega
  generalize ai.mx (d+1) v=wc at*
  rcases v with ⟨ba6,ba7,⟨fD,fH,fF,fI,fG,fE⟩,bb1,ba5,CY⟩
  simp(disch:=omega)only[go_sem,simprocAttr]at e
  (have ae:=d1;refine bt ?_;clear ae)
  refine D.bU ?_
  rw[S3]
  refine ak ?_
  refine D.bU ?_
  rw[S3]
  refine ak ?_
  refine D.P (e) ?_
  refine D.bU ?_ (hb:=by simp only[maxLen]; omega)
  refine D.bU ?_
  refine D.bU ?_
  refine ak ?_
  refine ar.eC (i+1,o++(l4 (d+1)++wc++[10])) ⟨by omega,mu.symm⟩ ⟨rfl,rfl,rfl,by simp only[bb8]; rfl,trivial⟩ trivial trivial rfl rfl (by show l.length-(i+1)<l.length-i; omega)
 |none=>
  have b4:=List.getElem?_eq_none_iff.1 ad
  have bN:i=l.length:=by omega
  subst bN
  have d1: ¬(l.length:Int)<((l.map ai.row).length:Int):=by rw[bb5]; omega
  rw[bf1]at aw
  (have ae:=d1;refine bt ?_;clear ae)
  refine D.bU ?_ (hb:=by simp only[maxLen]; omega)
  refine D.bU ?_
  refine ak ?_
  refine D.r ?_
  exact⟨_,rfl,.aF (by rw[aw]; rfl) rfl,trivial,trivial⟩
end
section
attribute [local go_sem] au.cO au.cx au.dd ai.cO ai.cx ai.dd cf dn fo gv dF of_flat
theorem ax5 {N:Nat}(dD:Da N) (j1:ye N):ye (N+1):=by
 rintro⟨k,gp,x,t,ig,gV⟩ d cP bo bG aG
 simp only[ai.cv]at cP bG
 simp only[iH,bb6]at bo
 obtain⟨a6,pX,pW,mq⟩:=bo
 have xf:x.cv≤1000000:=by omega
 rcases BH a6 with ⟨rfl,rfl,aa,aD⟩|⟨rfl,rfl,rfl⟩|⟨rfl,rfl,U,aa,aD⟩
 ·simp only[ai.mx,if_true,bb7,bb9,bc4]at aG ⊢
  have e:=(sX 1000000).1 x xf pX (by omega)
  generalize cy x=iM at*
  rcases x with ⟨fD,fH,fF,fI,fG,fE⟩
  simp(disch:=omega)only[go_sem,simprocAttr]at e
  refine cw be bq1 wI (by simp only[b2,I.flat,ai.dd,bc0]) rfl ?_
  unfold u7 vZ
  simp(disch:=omega)only[go_sem,simprocAttr]
  iterate 3 refine iZ ?_
  repeat refine D.fg true true ?_
  refine ar.gC (anns:=[.str iM]) ?_
  refine b0 ?_
  refine D.bU ?_
  refine b0 ?_
  refine D.ei (e) ?_
  refine D.bU ?_
  refine D.bU ?_
  refine ak ?_
  exact D.rx
 ·simp only[ai.mx,show ¬(2:Int)=1 by decide,show ¬(2:Int)=3 by decide,if_false]at aG ⊢
  obtain⟨T,c4⟩: ∃T,T=(if gV.isEmpty=true then[] else[32,101,108,115,101,32]++(if mw gV=true then ai.zx d gV else ke d gV)):=⟨_,rfl⟩
  rw[←c4]at aG ⊢
  simp only[bb7,bb9,bc4]at aG
  have e:=(sX 1000000).1 x xf pX (by omega)
  by_cases dc:mw gV=true
  ·match gV,dc with
   |[y],dc=>
   have zj:y.kind=2:=by simpa [mw] using dc
   simp only[List.isEmpty_cons,bd5,if_false,dc,if_true,ai.zx]at c4
   simp only[ai.ch]at cP bG
   simp only[jt,be0]at mq
   have kw:=dD ig d (by omega) pW (by omega) (by omega)
   have ky:=j1 y d (by omega) mq (by omega) (by have:=congrArg bj6 c4; simp only[bb7,bb9,bc4]at this; omega)
   generalize cy x=iM at*
   generalize ke d ig=rV at*
   generalize ai.mx d y=N1 at*
   subst c4
   simp only[bb7,bb9,bc4]at aG
   rcases x with ⟨fD,fH,fF,fI,fG,fE⟩
   rcases y with ⟨q5,wo,⟨TT,oh,TU,nM,TV,iD⟩,tb,jN,jD⟩
   simp only[ai.kind]at zj
   subst zj
   simp(disch:=omega)only[go_sem,simprocAttr]at e
   simp(disch:=omega)only[go_sem,simprocAttr]at ky
   refine cw be bq1 wI (by simp only[b2,I.flat,ai.dd,bc0]) rfl ?_
   unfold u7 vZ
   simp(disch:=omega)only[go_sem,simprocAttr]
   iterate 4 refine iZ ?_
   repeat refine D.fg true true ?_
   refine ar.gC (anns:=[.str iM,.str rV]) ?_
   refine b0 ?_
   refine D.ei (e) ?_
   refine D.bU ?_
   refine D.bU ?_
   refine b0 ?_
   refine D.ei (kw) ?_
   refine D.bU ?_
   refine ak ?_
   refine D.bU ?_
   refine ak ?_
   refine D.P (ky) ?_
   refine D.bU ?_
   refine ak ?_
   refine D.r ?_
   exact⟨_,rfl,.aF (by simp [I.aF]) rfl,trivial,trivial⟩
  cases EM:mw gV with
  |true=>exact absurd EM dc
  |false=>
  rw[EM]at c4
  simp only[bd5,if_false]at c4
  have kw:=dD ig d (by omega) pW (by omega) (by omega)
  cases y1:gV.isEmpty with
  |true=>
   rw[y1]at c4
   simp only[if_true]at c4
   subst c4
   have tW:gV=[]:=by simpa using y1
   subst tW
   generalize cy x=iM at*
   generalize ke d ig=rV at*
   rcases x with ⟨fD,fH,fF,fI,fG,fE⟩
   simp(disch:=omega)only[go_sem,simprocAttr]at e
   refine cw be bq1 wI (by simp only[b2,I.flat,ai.dd,bc0]) rfl ?_
   unfold u7 vZ
   simp(disch:=omega)only[go_sem,simprocAttr]
   iterate 4 refine iZ ?_
   repeat refine D.fg true true ?_
   refine ar.gC (anns:=[.str iM,.str rV]) ?_
   refine b0 ?_
   refine D.ei (e) ?_
   refine D.bU ?_
   refine D.bU ?_
   refine b0 ?_
   refine D.ei (kw) ?_
   refine D.bU ?_
   refine ak ?_
   refine D.r ?_
   exact⟨_,rfl,.aF (by simp [I.aF]) rfl,trivial,trivial⟩
  |false=>
  rw[y1]at c4
  simp only[bd5,if_false]at c4
  have ky:=dD gV d (by omega) mq (by omega) (by have:=congrArg bj6 c4; simp only[bb7,bb9,bc4]at this; omega)
  by_cases U:gV.length=1
  ·match gV,U with
   |[y],_=>
   have zj: ¬y.kind=2:=by simpa [mw] using EM
   generalize cy x=iM at*
   generalize ke d ig=rV at*
   generalize ke d [y]=N1 at*
   subst c4
   simp only[bb7,bb9,bc4]at aG
   rcases x with ⟨fD,fH,fF,fI,fG,fE⟩
   rcases y with ⟨q5,wo,⟨TT,oh,TU,nM,TV,iD⟩,tb,jN,jD⟩
   simp only[ai.kind]at zj
   simp only[bd4,bg5]at ky
   simp(disch:=omega)only[go_sem,simprocAttr]at e
   simp(disch:=omega)only[go_sem,simprocAttr]at ky
   refine cw be bq1 wI (by simp only[b2,I.flat,ai.dd,bc0]) rfl ?_
   unfold u7 vZ
   simp(disch:=omega)only[go_sem,simprocAttr]
   iterate 4 refine iZ ?_
   repeat refine D.fg true true ?_
   refine ar.gC (anns:=[.str iM,.str rV]) ?_
   refine b0 ?_
   refine D.ei (e) ?_
   refine D.bU ?_
   refine D.bU ?_
   refine b0 ?_
   refine D.ei (kw) ?_
   refine D.bU ?_
   (have ae:=zj;refine bt ?_;clear ae)
   refine D.bU ?_
   refine ak ?_
   refine D.P (ky) ?_
   refine D.bU ?_
   refine ak ?_
   refine D.r ?_
   exact⟨_,rfl,.aF (by simp [I.aF]) rfl,trivial,trivial⟩
  ·have aW:gV.length≠0:=by
    intro bN
    rw[List.length_eq_zero_iff.1 bN]at y1
    simp at y1
   have d0: ¬((gV.map ai.row).length:Int)=0:=by rw[bb5]; omega
   have d1: ¬((gV.map ai.row).length:Int)=1:=by rw[bb5]; omega
   generalize cy x=iM at*
   generalize ke d ig=rV at*
   generalize ke d gV=N1 at*
   subst c4
   simp only[bb7,bb9,bc4]at aG
   rcases x with ⟨fD,fH,fF,fI,fG,fE⟩
   simp(disch:=omega)only[go_sem,simprocAttr]at e
   refine cw be bq1 wI (by simp only[b2,I.flat,ai.dd,bc0]) rfl ?_
   unfold u7 vZ
   simp(disch:=omega)only[go_sem,simprocAttr]
   iterate 4 refine iZ ?_
   repeat refine D.fg true true ?_
   refine ar.gC (anns:=[.str iM,.str rV]) ?_
   refine b0 ?_
   refine D.ei (e) ?_
   refine D.bU ?_
   refine D.bU ?_
   refine b0 ?_
   refine D.ei (kw) ?_
   refine D.bU ?_
   (have ae:=d0;have z2:=d1;refine dQ ?_;clear ae z2)
   refine D.bU ?_
   refine ak ?_
   refine D.P (ky) ?_
   refine D.bU ?_
   refine ak ?_
   refine D.r ?_
   exact⟨_,rfl,.aF (by simp [I.aF]) rfl,trivial,trivial⟩
 ·simp only[ai.mx,show ¬(3:Int)=1 by decide,if_false,if_true,bb7,bb9,bc4]at aG ⊢
  have e:=(sX 1000000).1 x xf pX (by omega)
  have wX:=zP t (by omega) (by omega)
  have kw:=dD ig d (by omega) pW (by omega) (by omega)
  generalize cy x=iM at*
  generalize Lib.itoa t=iW at*
  generalize ke d ig=rV at*
  rcases x with ⟨fD,fH,fF,fI,fG,fE⟩
  simp(disch:=omega)only[go_sem,simprocAttr]at e
  refine cw be bq1 wI (by simp only[b2,I.flat,ai.dd,bc0]) rfl ?_
  unfold u7 vZ
  simp(disch:=omega)only[go_sem,simprocAttr]
  iterate 4 refine iZ ?_
  repeat refine D.fg true true ?_
  refine ar.gC (anns:=[.str iM,.str iW,.str rV]) ?_
  refine b0 ?_
  refine D.ei (e) ?_
  refine D.bU ?_
  refine D.bU ?_
  refine b0 ?_
  refine D.ei (wX) ?_
  refine D.bU ?_
  refine D.bU ?_
  refine b0 ?_
  refine D.ei (kw) ?_
  refine D.bU ?_
  refine ak ?_
  refine D.r ?_
  exact⟨_,rfl,.aF (by simp [I.aF]) rfl,trivial,trivial⟩
theorem F4: ∀N,ye N∧Da N
 |0=>by
  have h:ye 0:=by
   rintro⟨k,gp,x,t,ig,gV⟩ d cP
   simp only[ai.cv]at cP
   omega
  exact⟨h,PY h⟩
 |N+1=>by
  have h:=ax5 (F4 N).2 (F4 N).1
  exact⟨h,PY h⟩
end
section
attribute [local go_sem] au.cO au.cx au.dd ai.cO ai.cx ai.dd cf dn fo gv dF of_flat bJ.row dW
theorem aW4 (v:bJ):kl v=[9,118,97,114,32]++v.name++[58,32]++(if v.fB=2 then[116,101,120,116] else[105,110,116])++[32]++Lib.itoa v.b3++[32,46,46,32]++Lib.itoa v.af++[32,61,32]++ua v.dG v.n v.s++[59,10]:=by
 unfold kl eZ
 split<;>simp
theorem MV (h:bS):jg h=([9,111,110,32]++h.da++[40])++Lib.join h.ps [44,32]++([41,32,102,114,111,109,32]++h.peer++[32]++ke 1 h.body++[10]):=by
 unfold jg eZ ke
 simp [l4]
theorem at4 (o:cn):jQ o=([9,111,102,102,101,114,32]++o.da++[40]++Lib.join (o.args.map cy) [44,32]++[41,32,116,111,32]++o.peer)++r9 o.eb++[59,10]:=by
 unfold jQ eZ
 simp
theorem aD5 (x:cQ) (ab:De x):Pure bb4 108 [x.eL] (.str (nQ x)):=by
 have cR:=ab.len
 have Fi:=ab.lZ
 have Ff:=ab.lY
 have Fh:=ab.no
 obtain⟨F,o7⟩: ∃F,F=nQ x:=⟨_,rfl⟩
 rw[←o7]at cR ⊢
 unfold nQ at o7
 obtain⟨H0,w8⟩: ∃H0,H0=eZ 0 [[115,101,114,118,105,99,101,32],x.name,[32,112,108,97,121,115,32],x.bO,[32,111,102,32],x.fM,[32,123]]:=⟨_,rfl⟩
 obtain⟨E,dc⟩: ∃E,E=eZ 0 [[125]]:=⟨_,rfl⟩
 rw[←w8,←dc]at o7
 have BC:=congrArg bj6 o7
 simp only[bb7]at BC
 have EN:H0=[115,101,114,118,105,99,101,32]++x.name++[32,112,108,97,121,115,32]++x.bO++[32,111,102,32]++x.fM++[32,123,10]:=by rw[w8]; unfold eZ; simp
 have ZE:=congrArg bj6 EN
 simp only[bb7,bb9,bc4]at ZE
 rw[oa]
 refine cw be Tryz.func108 UZ (by simp only[b2,I.flat,dW,dF,of_flat,bc0]) rfl ?_
 unfold J1 P6
 simp(disch:=omega)only[go_sem,simprocAttr]
 iterate 2 refine iZ ?_
 refine D.bU ?_
 refine D.bU ?_
 refine b0 ?_
 refine D.bU ?_
 refine D.bU ?_
 refine b0 ?_
 refine D.bU ?_
 refine D.bU ?_
 refine ak ?_
 have a36: ∃hU,hU=H0∧hU=[115,101,114,118,105,99,101,32]++x.name++[32,112,108,97,121,115,32]++x.bO++[32,111,102,32]++x.fM++[32,123,10]:=⟨_,rfl,EN⟩
 refine ar.cU (X:=Nat×bw) (0,H0) (fun y=>[(1,.ptr 0 0),(3,.str y.2),(4,.int .i64 (y.1:Int))]) (fun _=>[(0,26,x.cells)]) (fun _=>[]) (fun y=>y.1≤x.vars.length∧y.2=H0++((x.vars.take y.1).map kl).flatten) (fun y=>x.vars.length-y.1) ⟨bc3 _,by simp⟩ ⟨rfl,by simp only[EN,bd2,bd6]; rfl,rfl,trivial⟩ ⟨by simp only[fX]; rfl,trivial⟩ trivial ?_
 rintro⟨i,o⟩ ⟨af,aw⟩
 try simp only at af aw ⊢
 have sH:=B8 kl x.vars i
 have tV:=congrArg bj6 aw
 rw[bb7]at tV
 have Nr:o.length≤900000000:=by omega
 clear sH tV
 simp only[fX]
 cases ad:x.vars[i]? with
 |some v=>
  have cz:=(List.getElem?_eq_some_iff.1 ad).1
  have hD:=bc2 ad
  have ny:k6 v=true:=by simpa using List.all_eq_true.1 ab.aq v hD
  have d1:(i:Int)<((x.vars.map bJ.row).length:Int):=by rw[bb5]; omega
  have fq:H0++((x.vars.take (i+1)).map kl).flatten=o++kl v:=by rw[vL kl ad,aw,bc8]
  obtain⟨g1,g2,g3,g4,g5,g6⟩:=EH ny
  have kA:=Tu ny
  rw[aW4]at fq kA
  have ED: -1000000000≤v.n∧v.n≤1000000000:=by
   by_cases h:v.dG=2
   ·simp only[k6,bb6,h,show ¬(2:Int)=1 by decide,if_true,if_false,decide_eq_true_eq]at ny
    omega
   ·exact g5 h
  have fU:=zP v.b3 g1 g2
  have hX:=zP v.af g3 g4
  have fV:=zP v.n ED.1 ED.2
  have kg:=PU v.s (by omega)
  simp only[ua]at fq kA
  rcases v with ⟨gp,fB,b3,gR,dG,n,s⟩
  simp only at fU hX fV kg fq kA
  generalize Lib.itoa b3=s1 at*
  generalize Lib.itoa gR=s2 at*
  generalize Lib.itoa n=qb at*
  generalize vY s=CH at*
  clear ED g1 g2 g3 g4 g5 g6 ny
  by_cases av:fB=2
  ·subst av
   rw[if_pos rfl]at fq kA
   by_cases aa:dG=2
   ·subst aa
    rw[if_pos rfl]at fq kA
    simp only[bb7,bb9,bc4]at kA
    (have ae:=d1;refine bt ?_;clear ae)
    refine D.P (fV) ?_
    refine b0 ?_
    iterate 3 refine iZ ?_
    (repeat (apply ar.s true true;(·simp(disch:=omega)only[go_sem,simprocAttr,]<;>with_reducible rfl)))
    refine ar.c9 ?_
    refine b0 ?_
    refine D.P (kg) ?_
    refine b0 ?_
    (repeat (apply ar.s true true;(·simp(disch:=omega)only[go_sem,simprocAttr,]<;>with_reducible rfl)))
    refine ar.gC (anns:=[.str s1,.str s2]) ?_
    refine b0 ?_
    refine D.bU ?_
    refine D.bU ?_
    refine b0 ?_
    refine D.bU ?_
    refine D.bU ?_
    refine b0 ?_
    refine D.ei (fU) ?_
    refine D.bU ?_
    refine D.bU ?_
    refine b0 ?_
    refine D.ei (hX) ?_
    refine D.bU ?_
    refine D.bU ?_
    refine b0 ?_
    refine D.bU ?_
    refine D.bU ?_
    refine D.bU ?_
    refine ak ?_
    refine ar.jS (i+1,o++([9,118,97,114,32]++gp++[58,32]++[116,101,120,116]++[32]++s1++[32,46,46,32]++s2++[32,61,32]++CH++[59,10])) ⟨by omega,fq.symm⟩ ⟨rfl,rfl,by simp only[bb8]; rfl,trivial⟩ ⟨rfl,trivial⟩ trivial rfl (by simp only[im,dw,eA,eB,ia,I.du,bM.bY,fX,mb,dW,dF,of_flat,go_sem]<;>rfl) (by show x.vars.length-(i+1)<x.vars.length-i; omega)
   ·rw[if_neg aa]at fq kA
    simp only[bb7,bb9,bc4]at kA
    (have ae:=d1;refine bt ?_;clear ae)
    refine D.P (fV) ?_
    refine b0 ?_
    (have ae:=aa;refine gN ?_;refine gN ?_;refine gN ?_;clear ae)
    (have ae:=aa;refine x9 ?_;clear ae)
    refine ar.gC (anns:=[.str s1,.str s2]) ?_
    refine b0 ?_
    refine D.bU ?_
    refine D.bU ?_
    refine b0 ?_
    refine D.bU ?_
    refine D.bU ?_
    refine b0 ?_
    refine D.ei (fU) ?_
    refine D.bU ?_
    refine D.bU ?_
    refine b0 ?_
    refine D.ei (hX) ?_
    refine D.bU ?_
    refine D.bU ?_
    refine b0 ?_
    refine D.bU ?_
    refine D.bU ?_
    refine D.bU ?_
    refine ak ?_
    refine ar.jS (i+1,o++([9,118,97,114,32]++gp++[58,32]++[116,101,120,116]++[32]++s1++[32,46,46,32]++s2++[32,61,32]++qb++[59,10])) ⟨by omega,fq.symm⟩ ⟨rfl,rfl,by simp only[bb8]; rfl,trivial⟩ ⟨rfl,trivial⟩ trivial rfl (by simp only[im,dw,eA,eB,ia,I.du,bM.bY,fX,mb,dW,dF,of_flat,go_sem]<;>rfl) (by show x.vars.length-(i+1)<x.vars.length-i; omega)
  ·rw[if_neg av]at fq kA
   by_cases aa:dG=2
   ·subst aa
    rw[if_pos rfl]at fq kA
    simp only[bb7,bb9,bc4]at kA
    (have ae:=d1;refine bt ?_;clear ae)
    refine D.P (fV) ?_
    refine b0 ?_
    (have ae:=av;refine gN ?_;refine gN ?_;clear ae)
    (have ae:=av;refine x9 ?_;clear ae)
    refine ar.c9 ?_
    refine b0 ?_
    refine D.P (kg) ?_
    refine b0 ?_
    (repeat (apply ar.s true true;(·simp(disch:=omega)only[go_sem,simprocAttr,]<;>with_reducible rfl)))
    refine ar.gC (anns:=[.str s1,.str s2]) ?_
    refine b0 ?_
    refine D.bU ?_
    refine D.bU ?_
    refine b0 ?_
    refine D.bU ?_
    refine D.bU ?_
    refine b0 ?_
    refine D.ei (fU) ?_
    refine D.bU ?_
    refine D.bU ?_
    refine b0 ?_
    refine D.ei (hX) ?_
    refine D.bU ?_
    refine D.bU ?_
    refine b0 ?_
    refine D.bU ?_
    refine D.bU ?_
    refine D.bU ?_
    refine ak ?_
    refine ar.jS (i+1,o++([9,118,97,114,32]++gp++[58,32]++[105,110,116]++[32]++s1++[32,46,46,32]++s2++[32,61,32]++CH++[59,10])) ⟨by omega,fq.symm⟩ ⟨rfl,rfl,by simp only[bb8]; rfl,trivial⟩ ⟨rfl,trivial⟩ trivial rfl (by simp only[im,dw,eA,eB,ia,I.du,bM.bY,fX,mb,dW,dF,of_flat,go_sem]<;>rfl) (by show x.vars.length-(i+1)<x.vars.length-i; omega)
   ·rw[if_neg aa]at fq kA
    simp only[bb7,bb9,bc4]at kA
    (have ae:=d1;refine bt ?_;clear ae)
    refine D.P (fV) ?_
    refine b0 ?_
    (have ae:=av;have z2:=aa;refine fj ?_;refine fj ?_;clear ae z2)
    (have ae:=av;have z2:=aa;refine ya ?_;clear ae z2)
    refine ar.gC (anns:=[.str s1,.str s2]) ?_
    refine b0 ?_
    refine D.bU ?_
    refine D.bU ?_
    refine b0 ?_
    refine D.bU ?_
    refine D.bU ?_
    refine b0 ?_
    refine D.ei (fU) ?_
    refine D.bU ?_
    refine D.bU ?_
    refine b0 ?_
    refine D.ei (hX) ?_
    refine D.bU ?_
    refine D.bU ?_
    refine b0 ?_
    refine D.bU ?_
    refine D.bU ?_
    refine D.bU ?_
    refine ak ?_
    refine ar.jS (i+1,o++([9,118,97,114,32]++gp++[58,32]++[105,110,116]++[32]++s1++[32,46,46,32]++s2++[32,61,32]++qb++[59,10])) ⟨by omega,fq.symm⟩ ⟨rfl,rfl,by simp only[bb8]; rfl,trivial⟩ ⟨rfl,trivial⟩ trivial rfl (by simp only[im,dw,eA,eB,ia,I.du,bM.bY,fX,mb,dW,dF,of_flat,go_sem]<;>rfl) (by show x.vars.length-(i+1)<x.vars.length-i; omega)
 |none=>
 have b4:=List.getElem?_eq_none_iff.1 ad
 have bN:i=x.vars.length:=by omega
 subst bN
 rw[bf1]at aw
 have d1: ¬(x.vars.length:Int)<((x.vars.map bJ.row).length:Int):=by rw[bb5]; omega
 (have ae:=d1;refine bt ?_;clear ae)
 clear ad b4 d1 af
 revert o
 intro V a41 tO
 refine ar.cU (X:=Nat×bw) (0,V) (fun y=>[(1,.ptr 0 0),(3,.str y.2),(8,.int .i64 (y.1:Int))]) (fun _=>[(0,26,x.cells)]) (fun _=>[]) (fun y=>y.1≤x.ao.length∧y.2=V++((x.ao.take y.1).map jg).flatten) (fun y=>x.ao.length-y.1) ⟨bc3 _,by simp⟩ ⟨rfl,rfl,rfl,trivial⟩ ⟨by simp only[fX]; rfl,trivial⟩ trivial ?_
 rintro⟨i,o⟩ ⟨af,aw⟩
 try simp only at af aw ⊢
 have sH:=B8 jg x.ao i
 have tV:=congrArg bj6 aw
 have MR:=congrArg bj6 tO
 rw[bb7]at tV MR
 have Nr:o.length≤900000000:=by omega
 clear sH tV
 simp only[fX]
 cases ad:x.ao[i]? with
 |some v=>
  have cz:=(List.getElem?_eq_some_iff.1 ad).1
  have hD:=bc2 ad
  have ny:lR v=true:=by simpa using List.all_eq_true.1 ab.ao v hD
  have d1:(i:Int)<((x.ao.map bS.row).length:Int):=by rw[bb5]; omega
  have fq:V++((x.ao.take (i+1)).map jg).flatten=o++jg v:=by rw[vL jg ad,aw,bc8]
  obtain⟨g1,g2⟩:=EE ny
  have kA:=zz jg ad
  rw[MV]at fq kA
  have hb:(jg v).length≤900000000:=by rw[MV]; omega
  have aS:=ab.aS v hD
  rcases v with ⟨da,peer,ps,body⟩
  simp only at g1 g2 fq kA aS
  have Ni:(Lib.join ps [44,32]).length≤900000000∧(ke 1 body).length≤900000000∧da.length≤900000000∧peer.length≤900000000:=by
   simp only[bb7,bb9,bc4]at kA
   omega
  have fU:=(F4 900000).2 body 1 aS g1 (by omega) (by omega)
  rw[show l4 1=[9] from rfl]at fU
  (have ae:=d1;refine bt ?_;clear ae)
  refine D.bU ?_
  refine D.bU ?_
  refine D.bU ?_
  refine ak ?_
  have Nj:=NO [44,32] ps
  obtain⟨wA,EO⟩: ∃wA,wA=o++([9,111,110,32]++da++[40]):=⟨_,rfl⟩
  have a38:wA.length≤1900000000:=by
   rw[EO]
   simp only[bb7,bb9,bc4]
   omega
  refine ar.cU (X:=Nat×bw) (0,wA) (fun y=>[(1,.ptr 0 0),(9,.ptr 1 0),(3,.str y.2),(8,.int .i64 (i:Int)),(10,.int .i64 (y.1:Int))]) (fun _=>[(1,113,(bS.mk da peer ps body).row),(0,26,x.cells)]) (fun _=>[]) (fun y=>y.1≤ps.length∧y.2=wA++Lib.join (ps.take y.1) [44,32]) (fun y=>ps.length-y.1) ⟨bc3 _,by simp [Lib.join_nil]⟩ ⟨rfl,rfl,by simp only[EO,bd2,bd6]; rfl,rfl,rfl,trivial⟩ ⟨by simp only[fo]; rfl,by simp only[fX]; rfl,trivial⟩ trivial ?_
  rintro⟨j,q⟩ ⟨bm,bu⟩
  try simp only at bm bu ⊢
  have Fm:q.length≤2800000000:=by
   have:=Nj j
   rw[bu,bb7]
   omega
  simp only[fX,fo]
  cases hw:ps[j]? with
  |some s=>
   have Fb:=(List.getElem?_eq_some_iff.1 hw).1
   have d2:(j:Int)<((ps.map cf).length:Int):=by rw[bb5]; omega
   have xm:=NN [44,32] hw
   have vA:s.length≤900000000:=by
    have:=congrArg bj6 xm
    have aa:=Nj (j+1)
    rw[bb7]at this
    omega
   by_cases aW:j=0
   ·have d3: ¬(0:Int)<(j:Int):=by omega
    rw[if_pos aW,bd6]at xm
    have aj:q=wA:=by rw[bu,aW]; simp [Lib.join_nil]
    (have ae:=d2;have z2:=d3;refine dQ ?_;clear ae z2)
    refine D.bU ?_ (hb:=by simp only[maxLen]; omega)
    refine ak ?_
    refine ar.eC (j+1,q++s) ⟨by omega,by rw[xm,aj]⟩ ⟨rfl,rfl,rfl,rfl,by simp only[bb8]; rfl,trivial⟩ ⟨rfl,rfl,trivial⟩ trivial rfl rfl (by show ps.length-(j+1)<ps.length-j; omega)
   ·have d3:(0:Int)<(j:Int):=by omega
    rw[if_neg aW]at xm
    (have ae:=d2;have z2:=d3;refine dQ ?_;clear ae z2)
    refine D.bU ?_
    refine ak ?_
    refine D.bU ?_
    refine ak ?_
    refine ar.eC (j+1,q++[44,32]++s) ⟨by omega,by rw[xm,bu]; simp only[bc8]⟩ ⟨rfl,rfl,rfl,rfl,by simp only[bb8]; rfl,trivial⟩ ⟨rfl,rfl,trivial⟩ trivial rfl rfl (by show ps.length-(j+1)<ps.length-j; omega)
  |none=>
  have b4:=List.getElem?_eq_none_iff.1 hw
  have bN:j=ps.length:=by omega
  subst bN
  rw[bf1]at bu
  have d2: ¬(ps.length:Int)<((ps.map cf).length:Int):=by rw[bb5]; omega
  have BX:V++((x.ao.take (i+1)).map jg).flatten=q++([41,32,102,114,111,109,32]++peer++[32]++ke 1 body++[10]):=by
   rw[fq,bu,EO]
   simp only[bc8]
  clear fq
  generalize ke 1 body=B at*
  (have ae:=d2;refine gN ?_;clear ae)
  (have ae:=d2;refine x9 ?_;clear ae)
  refine ar.gC (anns:=[.str B]) ?_
  refine b0 ?_
  refine D.bU ?_
  refine D.bU ?_
  refine b0 ?_
  refine D.ei (fU) ?_
  refine D.bU ?_
  refine D.bU ?_
  refine D.bU ?_
  refine ak ?_
  refine ar.jS (i+1,q++([41,32,102,114,111,109,32]++peer++[32]++B++[10])) ⟨by omega,BX.symm⟩ ⟨rfl,rfl,by simp only[bb8]; rfl,trivial⟩ ⟨rfl,trivial⟩ trivial rfl (by simp only[im,dw,eA,eB,ia,I.du,bM.bY,fX,mb,dW,dF,of_flat,go_sem]<;>rfl) (by show x.ao.length-(i+1)<x.ao.length-i; omega)
 |none=>
 have b4:=List.getElem?_eq_none_iff.1 ad
 have bN:i=x.ao.length:=by omega
 subst bN
 rw[bf1]at aw
 have d1: ¬(x.ao.length:Int)<((x.ao.map bS.row).length:Int):=by rw[bb5]; omega
 (have ae:=d1;refine bt ?_;clear ae)
 clear ad b4 d1 af
 revert o
 intro W a42 yT
 have ZI:=congrArg bj6 yT
 rw[bb7]at ZI
 refine ar.cU (X:=Nat×bw) (0,W) (fun y=>[(1,.ptr 0 0),(3,.str y.2),(11,.int .i64 (y.1:Int))]) (fun _=>[(0,26,x.cells)]) (fun _=>[]) (fun y=>y.1≤x.os.length∧y.2=W++((x.os.take y.1).map jQ).flatten) (fun y=>x.os.length-y.1) ⟨bc3 _,by simp⟩ ⟨rfl,rfl,rfl,trivial⟩ ⟨by simp only[fX]; rfl,trivial⟩ trivial ?_
 rintro⟨i,o⟩ ⟨af,aw⟩
 try simp only at af aw ⊢
 have sH:=B8 jQ x.os i
 have tV:=congrArg bj6 aw
 rw[bb7]at tV
 have Nr:o.length≤900000000:=by omega
 clear sH tV
 simp only[fX]
 cases ad:x.os[i]? with
 |some v=>
  have cz:=(List.getElem?_eq_some_iff.1 ad).1
  have hD:=bc2 ad
  have ny:mn v=true:=by simpa using List.all_eq_true.1 ab.os v hD
  have d1:(i:Int)<((x.os.map cn.row).length:Int):=by rw[bb5]; omega
  have fq:W++((x.os.take (i+1)).map jQ).flatten=o++jQ v:=by rw[vL jQ ad,aw,bc8]
  obtain⟨g1,g2,g3⟩:=EF ny
  have kA:=zz jQ ad
  rw[at4]at fq kA
  have aS:=ab.qT v hD
  rcases v with ⟨da,peer,args,eb⟩
  simp only at g1 g2 g3 fq kA aS
  simp only[bb7,bb9,bc4]at kA
  have hX:=aA0 args (by omega) g1 (by omega)
  generalize Lib.join (args.map cy) [44,32]=A at*
  match eb,g2,g3 with
  |[],_,_=>
   simp only[r9,bd8]at fq
   (have ae:=d1;refine gN ?_;refine gN ?_;clear ae)
   (repeat (apply ar.s true true;(·simp(disch:=omega)only[go_sem,simprocAttr,]<;>with_reducible rfl)))
   refine ar.gC (anns:=[.str A]) ?_
   refine b0 ?_
   refine D.bU ?_
   refine D.bU ?_
   refine b0 ?_
   refine D.ei (hX) ?_
   refine D.bU ?_
   refine D.bU ?_
   refine b0 ?_
   refine D.bU ?_
   refine D.bU ?_
   refine ak ?_
   refine D.bU ?_
   refine ak ?_
   refine ar.jS (i+1,o++([9,111,102,102,101,114,32]++da++[40]++A++[41,32,116,111,32]++peer)++[59,10]) ⟨by omega,by rw[fq]; simp only[bc8]⟩ ⟨rfl,rfl,by simp only[bb8]; rfl,trivial⟩ ⟨rfl,trivial⟩ trivial rfl (by simp only[im,dw,eA,eB,ia,I.du,bM.bY,fX,mb,dW,dF,of_flat,go_sem]<;>rfl) (by show x.os.length-(i+1)<x.os.length-i; omega)
  |[z],g2,_=>
   simp only[bd3,bk2,be0]at g2
   simp only[au.ch]at aS
   simp only[r9,bb7,bb9,bc4]at fq kA
   have fV:=(sX 1000000).1 z (by omega) g2 (by omega)
   generalize cy z=oM at*
   rcases z with ⟨TT,oh,TU,nM,TV,iD⟩
   simp(disch:=omega)only[go_sem,simprocAttr]at fV
   (have ae:=d1;refine gN ?_;refine gN ?_;clear ae)
   (repeat (apply ar.s true true;(·simp(disch:=omega)only[go_sem,simprocAttr,]<;>with_reducible rfl)))
   refine ar.gC (anns:=[.str A]) ?_
   refine b0 ?_
   refine D.bU ?_
   refine D.bU ?_
   refine b0 ?_
   refine D.ei (hX) ?_
   refine D.bU ?_
   refine D.bU ?_
   refine b0 ?_
   refine D.bU ?_
   refine D.bU ?_
   refine ak ?_
   refine D.P (fV) ?_
   refine D.bU ?_
   refine D.bU ?_
   refine ak ?_
   refine D.bU ?_
   refine ak ?_
   refine ar.jS (i+1,o++([9,111,102,102,101,114,32]++da++[40]++A++[41,32,116,111,32]++peer)++([32,119,104,101,114,101,32]++oM)++[59,10]) ⟨by omega,by rw[fq]; simp only[bc8]⟩ ⟨rfl,rfl,by simp only[bb8]; rfl,trivial⟩ ⟨rfl,trivial⟩ trivial rfl (by simp only[im,dw,eA,eB,ia,I.du,bM.bY,fX,mb,dW,dF,of_flat,go_sem]<;>rfl) (by show x.os.length-(i+1)<x.os.length-i; omega)
 |none=>
 have b4:=List.getElem?_eq_none_iff.1 ad
 have bN:i=x.os.length:=by omega
 subst bN
 rw[bf1]at aw
 have d1: ¬(x.os.length:Int)<((x.os.map cn.row).length:Int):=by rw[bb5]; omega
 (have ae:=d1;refine bt ?_;clear ae)
 refine D.bU ?_
 refine ak ?_
 refine D.r ?_
 refine⟨_,rfl,.aF ?_ rfl,trivial,trivial⟩
 rw[o7,aw,yT,tO,dc]
 simp [I.aF,eZ]
end
section
attribute [local go_sem] au.cO au.cx au.dd ai.cO ai.cx ai.dd cf dn fo gv dF of_flat
theorem Gk: ∀(N:Nat) (x:au),x.cv≤N→N≤1000000000→Pure bb4 192 [.agg x.row] (.int .i64 (iR x:Int))
 |0,.mk k o m t n l,h,_=>by simp only[au.cv]at h; omega
 |N+1,.mk k o m t n l,cP,lC=>by
  simp only[au.cv]at cP
  have j2:l.length≤1000000000:=by have:=au.ic l; omega
  have EZ:=A8 l
  simp only[iR]
  refine cw be Tryz.func192 VC (by simp only[b2,I.flat,au.dd,bc0]) rfl ?_
  unfold KC QI
  simp(disch:=omega)only[go_sem,simprocAttr]
  refine ak ?_
  refine ar.cU (X:=Nat×Nat) (0,0) (fun y=>[(1,.ptr 0 0),(4,.int .i64 (y.1:Int)),(3,.int .i64 (y.2:Int))]) (fun _=>[(0,120,(au.mk k o m t n l).row)]) (fun _=>[]) (fun y=>y.1≤l.length∧y.2≤ow l∧max y.2 (ow (l.drop y.1))=ow l) (fun y=>l.length-y.1) ⟨bc3 _,bc3 _,by simp⟩ ⟨rfl,rfl,rfl,trivial⟩ ⟨by simp only[au.cO]; rfl,trivial⟩ trivial ?_
  rintro⟨i,a⟩ ⟨af,aS,aw⟩
  simp only at af aS aw ⊢
  simp only[au.cO]
  cases ad:l[i]? with
  |some v=>
   have cz:=(List.getElem?_eq_some_iff.1 ad).1
   rw[eN ad]at aw
   simp only[ow]at aw
   have d1:(i:Int)<((l.map au.row).length:Int):=by rw[bb5]; omega
   have e:=Gk N v (by have:=au.lI ad; omega) (by omega)
   obtain⟨q,bu⟩: ∃q,q=iR v:=⟨_,rfl⟩
   rw[←bu]at e aw
   rcases v with ⟨fD,fH,fF,fI,fG,fE⟩
   simp(disch:=omega)only[go_sem,simprocAttr]at e
   (have ae:=d1;refine bt ?_;clear ae)
   refine D.P (e) ?_
   refine ak ?_
   refine ar.jS (i+1,max a q) ⟨by simp only; omega,by simp only; omega,by simp only; omega⟩ ⟨rfl,by simp only[bb8]; rfl,by rw[show ((max a q:Nat):Int)=max (a:Int) (q:Int) by omega]; rfl,trivial⟩ ⟨rfl,trivial⟩ trivial rfl (by simp only[im,dw,eA,eB,ia,I.du,bM.bY,go_sem]<;>rfl) (by show l.length-(i+1)<l.length-i; omega)
  |none=>
   have b4:=List.getElem?_eq_none_iff.1 ad
   have bN:i=l.length:=by omega
   subst bN
   have d1: ¬(l.length:Int)<((l.map au.row).length:Int):=by rw[bb5]; omega
   rw[be6]at aw
   simp only[ow]at aw
   (have ae:=d1;refine bt ?_;clear ae)
   refine D.r ?_
   refine⟨_,rfl,.aF ?_ rfl,trivial,trivial⟩
   simp only[I.aF,I.int.injEq,true_and]
   omega
theorem aE0 (s:bw):Pure bb4 132 [.str s] (.agg [.int .i64 2,.int .i64 0,.str s]):=by
 refine cw be Tryz.func132 Ve rfl rfl ?_
 unfold Ke Qj
 simp(disch:=omega)only[go_sem,simprocAttr]
 refine ak ?_
 exact D.rx
theorem Gj: ∀(N:Nat) (x:au),x.cv≤N→N≤1000000000→Pure bb4 191 [.agg x.row] (.bool (fb x))
 |0,.mk k o m t n l,h,_=>by simp only[au.cv]at h; omega
 |N+1,.mk k o m t n l,cP,lC=>by
  simp only[au.cv]at cP
  have j2:l.length≤1000000000:=by have:=au.ic l; omega
  have b7: ∀(i:Nat) (v:au),l[i]? =some v→Pure bb4 191 [.agg v.row] (.bool (fb v)):=fun i v ad=>Gj N v (by have:=au.lI ad; omega) (by omega)
  simp only[fb,yN]
  have z0:((l.map au.row).length:Int)=(l.length:Int):=by rw[bb5]
  refine cw be Tryz.func191 VB (by simp only[b2,I.flat,au.dd,bc0]) rfl ?_
  unfold KB QH
  simp(disch:=omega)only[go_sem,simprocAttr]
  iterate 4 refine iZ ?_
  repeat refine D.fg true false ?_
  refine ar.IB (X:=Nat×Bool×bw×bw×bw×Int) (fun y=>[(1,.ptr 0 0),(3,.ptr 1 0),(4,.int .i64 (y.1:Int)),(5,.bool y.2.1)]) (fun y=>[(0,120,[.int .i64 k,.str o,.str m,.str t,.int .i64 n,.aq 6 (l.map au.row)]),(1,120,[.int .i64 k,.str y.2.2.1,.str y.2.2.2.1,.str y.2.2.2.2.1,.int .i64 y.2.2.2.2.2,.bi])]) (fun _=>[]) (fun y=>fp k o m t n l.length=(y.2.1&&(decide (l.length=y.1)&&(decide (y.2.2.1=o)&&(decide (y.2.2.2.1=m)&&(decide (y.2.2.2.2.1=t)&&decide (y.2.2.2.2.2=n))))))) ?_ ?_
  ·rintro⟨c,ok,TH,TG,wt,wn⟩ gQ
   simp only at gQ ⊢
   rw[gQ]
   clear gQ
   cases ok
   ·refine ak ?_
    refine D.r ?_
    exact⟨_,rfl,.aF (by simp [I.aF, *]) rfl,trivial,trivial⟩
   by_cases aG:l.length=c
   rotate_left
   ·have d0: ¬((l.map au.row).length:Int)=(c:Int):=by rw[bb5]; omega
    (have ae:=d0;refine bt ?_;clear ae)
    refine D.r ?_
    exact⟨_,rfl,.aF (by simp [I.aF, *]) rfl,trivial,trivial⟩
   have d0:((l.map au.row).length:Int)=(c:Int):=by rw[bb5]; omega
   by_cases aj:TH=o
   rotate_left
   ·(have ae:=d0;have z2:=aj;refine dQ ?_;clear ae z2)
    refine D.r ?_
    exact⟨_,rfl,.aF (by simp [I.aF, *]) rfl,trivial,trivial⟩
   subst aj
   by_cases hm:TG=m
   rotate_left
   ·(have ae:=d0;have z2:=hm;refine dQ ?_;clear ae z2)
    refine D.r ?_
    exact⟨_,rfl,.aF (by simp [I.aF, *]) rfl,trivial,trivial⟩
   subst hm
   by_cases aL:wt=t
   rotate_left
   ·(have ae:=d0;have z2:=aL;refine dQ ?_;clear ae z2)
    refine D.r ?_
    exact⟨_,rfl,.aF (by simp [I.aF, *]) rfl,trivial,trivial⟩
   subst aL
   by_cases a1:wn=n
   rotate_left
   ·(have ae:=d0;have z2:=a1;refine dQ ?_;clear ae z2)
    refine D.r ?_
    exact⟨_,rfl,.aF (by simp [I.aF, *]) rfl,trivial,trivial⟩
   subst a1
   subst aG
   simp only[decide_true,bc7]
   (have ae:=d0;refine bt ?_;clear ae)
   refine ar.cU (X:=Nat) 0 (fun i=>[(1,.ptr 0 0),(4,.int .i64 (l.length:Int)),(6,.int .i64 (i:Int))]) (fun _=>[(0,120,(au.mk k TH TG wt wn l).row)]) (fun _=>[]) (fun i=>i≤l.length∧(l.drop i).all fb=l.all fb) (fun i=>l.length-i) ⟨bc3 _,rfl⟩ ⟨rfl,rfl,rfl,trivial⟩ ⟨by simp only[au.cO]; rfl,trivial⟩ trivial ?_
   rintro i ⟨af,aw⟩
   try simp only at af aw ⊢
   simp only[au.cO]
   cases ad:l[i]? with
   |some v=>
    have cz:=(List.getElem?_eq_some_iff.1 ad).1
    have d1:(i:Int)<(l.length:Int):=by omega
    have d2:(i:Int)<((l.map au.row).length:Int):=by rw[bb5]; omega
    have e:=b7 i v ad
    rw[eN ad]at aw
    simp only[bd3]at aw
    generalize fb v=oB at*
    rcases v with ⟨fD,fH,fF,fI,fG,fE⟩
    simp(disch:=omega)only[go_sem,simprocAttr]at e
    (have ae:=d1;refine bt ?_;clear ae)
    refine D.P (e) ?_
    cases oB
    ·refine ak ?_
     refine D.r ?_
     exact⟨_,rfl,.aF (by rw[←aw]; rfl) rfl,trivial,trivial⟩
    ·refine ak ?_
     refine ar.eC (i+1) ⟨by omega,by simpa using aw⟩ ⟨rfl,rfl,by simp only[bb8]; rfl,trivial⟩ ⟨rfl,trivial⟩ trivial rfl rfl (by show l.length-(i+1)<l.length-i; omega)
   |none=>
    have b4:=List.getElem?_eq_none_iff.1 ad
    have bN:i=l.length:=by omega
    subst bN
    have d1: ¬(l.length:Int)<(l.length:Int):=by omega
    rw[be6]at aw
    (have ae:=d1;refine bt ?_;clear ae)
    refine D.r ?_
    exact⟨_,rfl,.aF (by rw[←aw]; rfl) rfl,trivial,trivial⟩
  ·intro bm
   by_cases U:k=1
   ·subst U
    by_cases aW:0≤n
    ·by_cases aa:n≤1000
     ·(have ae:=aW;have z2:=aa;refine fj ?_;refine fj ?_;refine fj ?_;clear ae z2)
      refine ar.iy ?_
      refine bm _ _ (0,true,[],[],[],n) (by simp [fp,aW,aa,eq_comm]) ?_ ?_ ?_ rfl rfl
      all_goals first|exact⟨rfl,rfl,rfl,rfl,trivial⟩|exact⟨rfl,rfl,trivial⟩|exact trivial
     ·(have ae:=aW;have z2:=aa;refine fj ?_;refine fj ?_;refine fj ?_;clear ae z2)
      refine ar.iy ?_
      refine bm _ _ (0,false,[],[],[],n) (by simp [fp,aW,aa]) ?_ ?_ ?_ rfl rfl
      all_goals first|exact⟨rfl,rfl,rfl,rfl,trivial⟩|exact⟨rfl,rfl,trivial⟩|exact trivial
    ·(have ae:=aW;refine gN ?_;refine gN ?_;refine gN ?_;clear ae)
     refine ar.iy ?_
     refine bm _ _ (0,false,[],[],[],n) (by simp [fp,aW]) ?_ ?_ ?_ rfl rfl
     all_goals first|exact⟨rfl,rfl,rfl,rfl,trivial⟩|exact⟨rfl,rfl,trivial⟩|exact trivial
   by_cases aa:k=2
   ·subst aa
    have ap:=aE0 t
    have ay:=PO 2 0 t
    have aI:r7 2 0 t=oc t:=by simp [r7]
    rw[aI]at ay
    iterate 3 refine iZ ?_
    repeat refine D.fg true true ?_
    refine ar.c9 ?_
    refine b0 ?_
    refine D.P (ap) ?_
    refine b0 ?_
    refine D.P (ay) ?_
    refine b0 ?_
    refine ar.iy ?_
    refine bm _ _ (0,oc t,[],[],t,0) (by simp [fp,eq_comm]) ?_ ?_ ?_ rfl rfl
    all_goals first|exact⟨rfl,rfl,rfl,rfl,trivial⟩|exact⟨rfl,rfl,trivial⟩|exact trivial
   by_cases aD:k=3
   ·subst aD
    have ap:=rY m
    (have ae:=U;have z2:=aa;refine fj ?_;refine fj ?_;refine fj ?_;refine fj ?_;clear ae z2)
    repeat refine D.fg true true ?_
    refine ar.c9 ?_
    refine b0 ?_
    refine D.P (ap) ?_
    refine b0 ?_
    refine ar.iy ?_
    refine bm _ _ (0,ev m,[],m,[],0) (by simp [fp,eq_comm]) ?_ ?_ ?_ rfl rfl
    all_goals first|exact⟨rfl,rfl,rfl,rfl,trivial⟩|exact⟨rfl,rfl,trivial⟩|exact trivial
   by_cases bA:k=4
   ·subst bA
    iterate 5 refine iZ ?_
    refine ar.iy ?_
    refine bm _ _ (1,true,[],[],[],0) (by simp [fp,eq_comm]) ?_ ?_ ?_ rfl rfl
    all_goals first|exact⟨rfl,rfl,rfl,rfl,trivial⟩|exact⟨rfl,rfl,trivial⟩|exact trivial
   by_cases b6:k=5
   ·subst b6
    by_cases dx:o=[45]
    ·subst dx
     iterate 7 refine iZ ?_
     refine ar.iy ?_
     refine bm _ _ (1,true,[45],[],[],0) (by simp [fp,eq_comm]) ?_ ?_ ?_ rfl rfl
     all_goals first|exact⟨rfl,rfl,rfl,rfl,trivial⟩|exact⟨rfl,rfl,trivial⟩|exact trivial
    by_cases qE:o=[33]
    ·subst qE
     have d6: ¬([33]:bw)=[45]:=by decide
     (have ae:=d6;refine gN ?_;refine gN ?_;refine gN ?_;refine gN ?_;refine gN ?_;refine gN ?_;refine gN ?_;clear ae)
     refine ar.iy ?_
     refine bm _ _ (1,true,[33],[],[],0) (by simp [fp,eq_comm]) ?_ ?_ ?_ rfl rfl
     all_goals first|exact⟨rfl,rfl,rfl,rfl,trivial⟩|exact⟨rfl,rfl,trivial⟩|exact trivial
    ·(have ae:=dx;have z2:=qE;refine fj ?_;refine fj ?_;refine fj ?_;refine fj ?_;refine fj ?_;refine fj ?_;refine fj ?_;clear ae z2)
     refine ar.iy ?_
     refine bm _ _ (1,false,o,[],[],0) (by simp [fp,dx,qE]) ?_ ?_ ?_ rfl rfl
     all_goals first|exact⟨rfl,rfl,rfl,rfl,trivial⟩|exact⟨rfl,rfl,trivial⟩|exact trivial
   by_cases dx:k=6
   ·subst dx
    have ap:=Gn o
    have hp:=(F8 o).1
    have Fj:(!(decide (gd o=0)))=decide (0<gd o):=by
     by_cases h:gd o=0
     ·simp [h]
     ·have aa:0<gd o:=by omega
      simp [h,aa]
    iterate 7 refine iZ ?_
    repeat refine D.fg true true ?_
    refine ar.c9 ?_
    refine b0 ?_
    refine D.P (ap) ?_
    refine b0 ?_
    refine ar.iy ?_
    refine bm _ _ (2,decide (0<gd o),o,[],[],0) (by simp only[fp,show ¬(6:Int)=1 by decide,show ¬(6:Int)=2 by decide,show ¬(6:Int)=3 by decide,show ¬(6:Int)=4 by decide,show ¬(6:Int)=5 by decide,if_false,if_true,Fj]; generalize decide (0<gd o)=b; cases b<;>simp [eq_comm]) ?_ ?_ ?_ rfl rfl
    all_goals first|exact⟨rfl,rfl,rfl,rfl,trivial⟩|exact⟨rfl,rfl,trivial⟩|exact trivial
   (have ae:=U;have z2:=aa;have z3:=And.intro aD (And.intro bA (And.intro b6 dx));refine ep ?_;clear ae z2 z3)
   refine D.r ?_
   exact⟨_,rfl,.aF (by simp [I.aF,fp, *]) rfl,trivial,trivial⟩
end
section
attribute [local go_sem] au.cO au.cx au.dd ai.cO ai.cx ai.dd cf dn fo gv dF of_flat bJ.row dW io
def vd (l:List au) (k:Int):Bool:=l.all (fun x=>fb x&&decide (iR x≤10))&&decide ((l.length:Int)≤k)
theorem PT (l:List au) (k:Int) (aS:au.ch l≤1000000000):Pure bb4 107 [.aq 6 (l.map au.row),.int .i64 k] (.bool (vd l k)):=by
 have j2:=au.ic l
 have z0:((l.map au.row).length:Int)=(l.length:Int):=by rw[bb5]
 unfold vd
 obtain⟨yL,Nd⟩: ∃yL,yL=(fun x:au=>fb x&&decide (iR x≤10)):=⟨_,rfl⟩
 rw[←Nd]
 refine cw be Tryz.func107 UY (by simp only[b2,I.flat,au.cx,bc0]) rfl ?_
 unfold J0 P5
 simp(disch:=omega)only[go_sem,simprocAttr]
 refine ak ?_
 refine ar.cU (X:=Nat) 0 (fun i=>[(0,.aq 6 (l.map au.row)),(1,.int .i64 k),(5,.int .i64 (i:Int))]) (fun _=>[]) (fun _=>[]) (fun i=>i≤l.length∧(l.drop i).all yL=l.all yL) (fun i=>l.length-i) ⟨bc3 _,rfl⟩ ⟨rfl,rfl,rfl,trivial⟩ trivial trivial ?_
 rintro i ⟨af,aw⟩
 try simp only at af aw ⊢
 cases ad:l[i]? with
 |some v=>
  have cz:=(List.getElem?_eq_some_iff.1 ad).1
  have d1:(i:Int)<((l.map au.row).length:Int):=by rw[bb5]; omega
  have Fu:=au.p3 (bc2 ad)
  have e:=Gj 1000000000 v (by omega) (bc1 _)
  have ay:=Gk 1000000000 v (by omega) (bc1 _)
  rw[eN ad]at aw
  have bo:yL v=(fb v&&decide (iR v≤10)):=by rw[Nd]
  simp only[bd3,bo]at aw
  clear bo
  generalize fb v=oB at*
  generalize iR v=D4 at*
  rcases v with ⟨fD,fH,fF,fI,fG,fE⟩
  simp(disch:=omega)only[go_sem,simprocAttr]at e
  simp(disch:=omega)only[go_sem,simprocAttr]at ay
  (have ae:=d1;refine bt ?_;clear ae)
  refine D.P (e) ?_
  cases oB
  ·refine ak ?_
   refine D.r ?_
   exact⟨_,rfl,.aF (by rw[←aw]; rfl) rfl,trivial,trivial⟩
  ·refine ak ?_
   refine D.P (ay) ?_
   by_cases bG:D4≤10
   ·have d2: ¬(10:Int)<(D4:Int):=by omega
    (have ae:=d2;refine bt ?_;clear ae)
    refine ar.eC (i+1) ⟨by omega,by simpa [bG] using aw⟩ ⟨rfl,rfl,by simp only[bb8]; rfl,trivial⟩ trivial trivial rfl rfl (by show l.length-(i+1)<l.length-i; omega)
   ·have d2:(10:Int)<(D4:Int):=by omega
    (have ae:=d2;refine bt ?_;clear ae)
    refine D.r ?_
    exact⟨_,rfl,.aF (by rw[←aw]; simp [I.aF,bG]) rfl,trivial,trivial⟩
 |none=>
  have b4:=List.getElem?_eq_none_iff.1 ad
  have bN:i=l.length:=by omega
  subst bN
  have d1: ¬(l.length:Int)<(l.length:Int):=by omega
  rw[be6]at aw
  simp only[bk2]at aw
  (have ae:=d1;have z2:=z0;refine dQ ?_;clear ae z2)
  refine D.r ?_
  refine⟨_,rfl,.aF ?_ rfl,trivial,trivial⟩
  rw[←aw]
  simp [I.aF]
theorem aD6 (v:bJ):Pure bb4 104 [.agg v.row] (.bool (k6 v)):=by
 obtain⟨gp,fB,b3,af,dG,n,s⟩:=v
 have ap:=rY gp
 have ay:=PO dG n s
 obtain⟨G,hG⟩: ∃G,G=k6 ⟨gp,fB,b3,af,dG,n,s⟩:=⟨_,rfl⟩
 rw[←hG]
 simp only[k6]at hG
 refine cw be Tryz.func104 UU rfl rfl ?_
 unfold JX P2
 simp(disch:=omega)only[go_sem,simprocAttr]
 by_cases U:b3< -999999
 ·have an:jq b3=false:=by simp [jq]; omega
  rw[an,bc5,bd7]at hG
  (have ae:=U;refine bt ?_;clear ae)
  refine D.r ?_
  exact⟨_,rfl,.aF (by rw[hG]; rfl) rfl,trivial,trivial⟩
 by_cases aa:af< -999999
 ·have an:jq af=false:=by simp [jq]; omega
  rw[an,bc5,bd7,bd7]at hG
  (have ae:=U;have z2:=aa;refine dQ ?_;clear ae z2)
  refine D.r ?_
  exact⟨_,rfl,.aF (by rw[hG]; rfl) rfl,trivial,trivial⟩
 by_cases aD:999999<b3
 ·have an:jq b3=false:=by simp [jq]; omega
  rw[an,bc5,bd7]at hG
  (have ae:=U;have z2:=aa;have z3:=aD;refine ep ?_;clear ae z2 z3)
  refine D.r ?_
  exact⟨_,rfl,.aF (by rw[hG]; rfl) rfl,trivial,trivial⟩
 have dJ: ¬b3< -999999∧¬af< -999999∧¬ 999999<b3:=⟨U,aa,aD⟩
 by_cases bA:999999<af
 ·have an:jq af=false:=by simp [jq]; omega
  rw[an,bc5,bd7,bd7]at hG
  (have ae:=dJ;have z2:=bA;refine dQ ?_;clear ae z2)
  refine D.r ?_
  exact⟨_,rfl,.aF (by rw[hG]; rfl) rfl,trivial,trivial⟩
 have dJ: ¬b3< -999999∧¬af< -999999∧¬ 999999<b3∧¬ 999999<af:=⟨U,aa,aD,bA⟩
 have c1:jq b3=true:=by simp [jq]; omega
 have cb:jq af=true:=by simp [jq]; omega
 rw[c1,cb,bc7,bc7]at hG
 by_cases br:fB=1
 ·subst br
  simp only[decide_true,bk4,bc7]at hG
  by_cases i1:dG=1
  ·subst i1
   rw[if_pos rfl]at hG
   by_cases t1:s=[]
   rotate_left
   ·(have ae:=dJ;have z2:=t1;refine dQ ?_;clear ae z2)
    refine D.r ?_
    exact⟨_,rfl,.aF (by rw[hG]; simp [I.aF,t1]) rfl,trivial,trivial⟩
   subst t1
   by_cases t2: -999999≤n
   rotate_left
   ·(have ae:=dJ;have z2:=t2;refine dQ ?_;clear ae z2)
    refine D.r ?_
    exact⟨_,rfl,.aF (by rw[hG]; simp [I.aF,jq,t2]) rfl,trivial,trivial⟩
   by_cases t3:n≤999999
   rotate_left
   ·have t4: -999999≤n∧¬n≤999999:=⟨t2,t3⟩
    (have ae:=dJ;have z2:=t4;refine dQ ?_;clear ae z2)
    refine D.r ?_
    exact⟨_,rfl,.aF (by rw[hG]; simp [I.aF,jq,t3]) rfl,trivial,trivial⟩
   have t4: -999999≤n∧n≤999999:=⟨t2,t3⟩
   (have ae:=dJ;have z2:=t4;refine dQ ?_;clear ae z2)
   refine D.P (ap) ?_
   refine ak ?_
   refine D.r ?_
   exact⟨_,rfl,.aF (by rw[hG]; simp [I.aF,jq,t2,t3]) rfl,trivial,trivial⟩
  have ad:r7 dG n s=(if dG=2 then decide (n=0)&&oc s else false):=by simp only[r7,i1,if_false]
  rw[if_neg i1,←ad]at hG
  generalize r7 dG n s=CY at*
  (have ae:=dJ;have z2:=i1;refine dQ ?_;clear ae z2)
  refine D.P (ay) ?_
  cases CY
  ·refine ak ?_
   refine D.r ?_
   exact⟨_,rfl,.aF (by rw[hG]; simp [I.aF]) rfl,trivial,trivial⟩
  ·refine ak ?_
   refine D.P (ap) ?_
   refine ak ?_
   refine D.r ?_
   exact⟨_,rfl,.aF (by rw[hG]; simp [I.aF]) rfl,trivial,trivial⟩
 by_cases bB:fB=2
 rotate_left
 ·rw[decide_eq_false br,decide_eq_false bB,bc5,Bool.or_false,bc5,bd7]at hG
  (have ae:=dJ;have z2:=br;have z3:=bB;refine ep ?_;clear ae z2 z3)
  refine D.r ?_
  exact⟨_,rfl,.aF (by rw[hG]; rfl) rfl,trivial,trivial⟩
 subst bB
 simp only[show ¬(2:Int)=1 by decide,decide_false,decide_true,bh3,bc7]at hG
 by_cases aK:b3<0
 ·have:decide (0≤b3)=false:=by simp; omega
  rw[this,bc5,bc5,bd7]at hG
  (have ae:=dJ;have z2:=aK;refine dQ ?_;clear ae z2)
  refine D.r ?_
  exact⟨_,rfl,.aF (by rw[hG]; rfl) rfl,trivial,trivial⟩
 by_cases fR:af<0
 ·have:decide (0≤af)=false:=by simp; omega
  rw[this,bd7,bc5,bd7]at hG
  (have ae:=dJ;have z2:=aK;have z3:=fR;refine ep ?_;clear ae z2 z3)
  refine D.r ?_
  exact⟨_,rfl,.aF (by rw[hG]; rfl) rfl,trivial,trivial⟩
 have ci:decide (0≤b3)=true:=by simp; omega
 have cM:decide (0≤af)=true:=by simp; omega
 rw[ci,cM,bc7,bc7]at hG
 have dD: ¬b3<0∧¬af<0:=⟨aK,fR⟩
 by_cases i1:dG=1
 ·subst i1
  rw[if_pos rfl]at hG
  by_cases t1:s=[]
  rotate_left
  ·(have ae:=dJ;have z2:=dD;have z3:=t1;refine ep ?_;clear ae z2 z3)
   refine D.r ?_
   exact⟨_,rfl,.aF (by rw[hG]; simp [I.aF,t1]) rfl,trivial,trivial⟩
  subst t1
  by_cases t2: -999999≤n
  rotate_left
  ·(have ae:=dJ;have z2:=dD;have z3:=t2;refine ep ?_;clear ae z2 z3)
   refine D.r ?_
   exact⟨_,rfl,.aF (by rw[hG]; simp [I.aF,jq,t2]) rfl,trivial,trivial⟩
  by_cases t3:n≤999999
  rotate_left
  ·have t4: -999999≤n∧¬n≤999999:=⟨t2,t3⟩
   (have ae:=dJ;have z2:=dD;have z3:=t4;refine ep ?_;clear ae z2 z3)
   refine D.r ?_
   exact⟨_,rfl,.aF (by rw[hG]; simp [I.aF,jq,t3]) rfl,trivial,trivial⟩
  have t4: -999999≤n∧n≤999999:=⟨t2,t3⟩
  (have ae:=dJ;have z2:=dD;have z3:=t4;refine ep ?_;clear ae z2 z3)
  refine D.P (ap) ?_
  refine ak ?_
  refine D.r ?_
  exact⟨_,rfl,.aF (by rw[hG]; simp [I.aF,jq,t2,t3]) rfl,trivial,trivial⟩
 have ad:r7 dG n s=(if dG=2 then decide (n=0)&&oc s else false):=by simp only[r7,i1,if_false]
 rw[if_neg i1,←ad]at hG
 generalize r7 dG n s=CY at*
 (have ae:=dJ;have z2:=dD;have z3:=i1;refine ep ?_;clear ae z2 z3)
 refine D.P (ay) ?_
 cases CY
 ·refine ak ?_
  refine D.r ?_
  exact⟨_,rfl,.aF (by rw[hG]; simp [I.aF]) rfl,trivial,trivial⟩
 ·refine ak ?_
  refine D.P (ap) ?_
  refine ak ?_
  refine D.r ?_
  exact⟨_,rfl,.aF (by rw[hG]; simp [I.aF]) rfl,trivial,trivial⟩
end
section
attribute [local go_sem] au.cO au.cx au.dd ai.cO ai.cx ai.dd cf dn fo gv dF of_flat bJ.row dW io
def oy (l:List ai) (d:Nat):Bool:=jt l&&decide (iG l≤d)
def tI (d:Nat) (v:ai):Bool:=iH v&&decide (kv v≤d)
theorem Et (d:Nat): ∀l,oy l d=l.all (tI d)
 |[]=>by simp [oy,jt,iG]
 |x::l=>by
  rw[bd3,←Et d l]
  simp only[oy,tI,jt]
  have:decide (iG (x::l)≤d)=(decide (kv x≤d)&&decide (iG l≤d)):=by
   rw[←bt5]
   exact decide_eq_decide.2 (by simp only[iG]; omega)
  rw[this]
  cases iH x<;>cases jt l<;>simp
theorem Y2 (d:Nat) (k:Int) (m:bw) (x:au) (t:Int) (a b:List ai):tI (d+1) (.mk k m x t a b)=((fb x&&decide (iR x<d+1))&&en k m t a.length b.length&&(oy a d&&oy b d)):=by
 simp only[tI,iH,oy]
 have:decide (kv (.mk k m x t a b)≤d+1)=(decide (iR x<d+1)&&(decide (iG a≤d)&&decide (iG b≤d))):=by
  rw[←bt5,←bt5]
  exact decide_eq_decide.2 (by simp only[kv]; omega)
 rw[this]
 cases en k m t a.length b.length<;>cases fb x<;>cases jt a<;>cases jt b<;>simp
theorem Gr: ∀(N:Nat) (l:List ai) (d:Nat),ai.ch l≤N→N≤100000000→d≤1000→Pure bb4 106 [.aq 11 (l.map ai.row),.int .i64 (d:Int)] (.bool (oy l d))
 |N,l,d,cP,lC,bG=>by
  have j2:=ai.ic l
  refine cw be Tryz.func106 UX (by simp only[b2,I.flat,ai.cx,bc0]) rfl ?_
  unfold JZ P4
  simp(disch:=omega)only[go_sem,simprocAttr]
  by_cases aa6:0<l.length∧d=0
  ·obtain⟨U,rfl⟩:=aa6
   have d1:(0:Int)<((l.map ai.row).length:Int):=by rw[bb5]; omega
   have cR:oy l 0=false:=by
    cases l with
    |nil=>simp at U
    |cons x l=>
     rcases x with ⟨k,m,x,t,a,b⟩
     simp [oy,iG,kv]
   (have ae:=d1;refine bt ?_;clear ae)
   refine D.r ?_
   exact⟨_,rfl,.aF (by rw[cR]; rfl) rfl,trivial,trivial⟩
  have qF: ∃z:Bool,z=false∧((0:Int)<((l.map ai.row).length:Int)→¬(d:Int)=0):=⟨false,rfl,fun h=>by rw[bb5]at h; omega⟩
  rw[Et]
  cases tS:l with
  |nil=>
   refine ak ?_
   refine ar.cU (X:=Nat) 0 (fun i=>[(0,.aq 11 []),(1,.int .i64 (d:Int)),(5,.int .i64 (i:Int))]) (fun _=>[]) (fun _=>[]) (fun i=>i=0) (fun i=>0) rfl ⟨rfl,rfl,rfl,trivial⟩ trivial trivial ?_
   rintro i rfl
   refine ak ?_
   exact D.rx
  |cons C0 uf=>
  rw[←tS]
  have ae5:0<l.length:=by rw[tS]; simp
  obtain⟨kW,rfl⟩: ∃kW,d=kW+1:=⟨d-1,by omega⟩
  clear tS
  have d1:(0:Int)<((l.map ai.row).length:Int):=by rw[bb5]; omega
  have d2: ¬((kW+1:Nat):Int)=0:=by omega
  (have ae:=d1;have z2:=d2;refine dQ ?_;clear ae z2)
  refine ar.cU (X:=Nat) 0 (fun i=>[(0,.aq 11 (l.map ai.row)),(1,.int .i64 ((kW+1:Nat):Int)),(5,.int .i64 (i:Int))]) (fun _=>[]) (fun _=>[]) (fun i=>i≤l.length∧(l.drop i).all (tI (kW+1))=l.all (tI (kW+1))) (fun i=>l.length-i) ⟨bc3 _,rfl⟩ ⟨rfl,rfl,rfl,trivial⟩ trivial trivial ?_
  rintro i ⟨af,aw⟩
  try simp only at af aw ⊢
  cases ad:l[i]? with
  |some v=>
   have cz:=(List.getElem?_eq_some_iff.1 ad).1
   have d3:(i:Int)<((l.map ai.row).length:Int):=by rw[bb5]; omega
   have Fu:=ai.p3 (bc2 ad)
   rw[eN ad]at aw
   rcases v with ⟨k,m,x,t,a,b⟩
   simp only[ai.cv]at Fu
   have ap:=Gj 1000000000 x (by omega) (bc1 _)
   have ay:=Gk 1000000000 x (by omega) (bc1 _)
   have kw:=Gr (ai.ch a) a kW (bc1 _) (by omega) (by omega)
   have je:=Gr (ai.ch b) b kW (bc1 _) (by omega) (by omega)
   rw[bd3,Y2]at aw
   have E1:=A7 x
   generalize fb x=w5 at*
   generalize iR x=Bd at*
   generalize oy a kW=YT at*
   generalize oy b kW=YU at*
   rcases x with ⟨fD,fH,fF,fI,fG,fE⟩
   simp(disch:=omega)only[go_sem,simprocAttr]at ap
   simp(disch:=omega)only[go_sem,simprocAttr]at ay
   have ae:((kW+1:Nat):Int)-1=(kW:Int):=by omega
   (have ae:=d3;refine gN ?_;refine gN ?_;clear ae)
   refine ar.aK2 (X:=Bool) (fun y=>[(0,.aq 11 (l.map ai.row)),(1,.int .i64 ((kW+1:Nat):Int)),(5,.int .i64 (i:Int)),(6,.ptr 0 0),(7,.bool y)]) (fun _=>[(0,178,[.int .i64 k,.str m,.int .i64 fD,.str fH,.str fF,.str fI,.int .i64 fG,.aq 6 (fE.map au.row),.int .i64 t,.aq 11 (a.map ai.row),.aq 11 (b.map ai.row)])]) (fun _=>[]) (fun y=>y=(w5&&decide (Bd<kW+1))) ?_ ?_
   rotate_left
   ·intro bm
    repeat refine D.fg true true ?_
    refine ar.c9 ?_
    refine b0 ?_
    refine D.P (ap) ?_
    cases w5
    ·refine b0 ?_
     refine bm _ _ false (by simp) ?_ ?_ ?_ rfl rfl
     all_goals first|exact⟨rfl,rfl,rfl,rfl,rfl,trivial⟩|exact⟨rfl,trivial⟩|exact trivial
    ·refine b0 ?_
     refine D.P (ay) ?_
     by_cases ab:Bd<kW+1
     ·have z:(Bd:Int)<((kW+1:Nat):Int):=by omega
      (have ae:=z;refine th ?_;clear ae)
      refine bm _ _ true (by simp [ab]) ?_ ?_ ?_ rfl rfl
      all_goals first|exact⟨rfl,rfl,rfl,rfl,rfl,trivial⟩|exact⟨rfl,trivial⟩|exact trivial
     ·have z: ¬(Bd:Int)<((kW+1:Nat):Int):=by omega
      (have ae:=z;refine th ?_;clear ae)
      refine bm _ _ false (by simp [ab]) ?_ ?_ ?_ rfl rfl
      all_goals first|exact⟨rfl,rfl,rfl,rfl,rfl,trivial⟩|exact⟨rfl,trivial⟩|exact trivial
   ·rintro B dD
    try simp only at dD ⊢
    rw[←dD]at aw
    clear dD
    iterate 1 refine iZ ?_
    repeat refine D.fg true false ?_
    refine ar.IB (X:=Bool) (fun y=>[(0,.aq 11 (l.map ai.row)),(1,.int .i64 ((kW+1:Nat):Int)),(5,.int .i64 (i:Int)),(6,.ptr 0 0),(7,.bool y)]) (fun _=>[(0,178,[.int .i64 k,.str m,.int .i64 fD,.str fH,.str fF,.str fI,.int .i64 fG,.aq 6 (fE.map au.row),.int .i64 t,.aq 11 (a.map ai.row),.aq 11 (b.map ai.row)])]) (fun _=>[]) (fun y=>y=(B&&en k m t a.length b.length)) ?_ ?_
    ·rintro C hC
     try simp only at hC ⊢
     rw[←hC]at aw
     clear hC
     cases C
     ·refine ak ?_
      refine D.r ?_
      exact⟨_,rfl,.aF (by rw[←aw]; rfl) rfl,trivial,trivial⟩
     ·(have ae:=ae;refine bt ?_;clear ae)
      refine D.P (kw) ?_
      cases YT
      ·refine ak ?_
       refine D.r ?_
       exact⟨_,rfl,.aF (by rw[←aw]; rfl) rfl,trivial,trivial⟩
      ·(have ae:=ae;refine bt ?_;clear ae)
       refine D.P (je) ?_
       cases YU
       ·refine ak ?_
        refine D.r ?_
        exact⟨_,rfl,.aF (by rw[←aw]; rfl) rfl,trivial,trivial⟩
       ·refine ak ?_
        refine ar.jS (i+1) ⟨by omega,by simpa using aw⟩ ⟨rfl,rfl,by simp only[bb8]; rfl,trivial⟩ trivial trivial rfl (by simp only[im,dw,eA,eB,ia,I.du,bM.bY,ai.cx,go_sem]<;>rfl) (by show l.length-(i+1)<l.length-i; omega)
    ·intro bm
     by_cases br:k=1
     ·subst br
      cases B
      ·iterate 2 refine iZ ?_
       refine ar.iy ?_
       refine bm _ _ false (by simp) ?_ ?_ ?_ rfl rfl
       all_goals first|exact⟨rfl,rfl,rfl,rfl,rfl,trivial⟩|exact⟨rfl,trivial⟩|exact trivial
      ·iterate 1 refine iZ ?_
       repeat refine D.fg true true ?_
       refine ar.c9 ?_
       refine b0 ?_
       refine D.P (rY m) ?_
       cases hw:ev m
       ·refine b0 ?_
        refine ar.iy ?_
        refine bm _ _ false (by simp [en,hw]) ?_ ?_ ?_ rfl rfl
        all_goals first|exact⟨rfl,rfl,rfl,rfl,rfl,trivial⟩|exact⟨rfl,trivial⟩|exact trivial
       by_cases t0:t=0
       rotate_left
       ·(have ae:=t0;refine th ?_;clear ae)
        refine ar.iy ?_
        refine bm _ _ false (by simp [en,t0]) ?_ ?_ ?_ rfl rfl
        all_goals first|exact⟨rfl,rfl,rfl,rfl,rfl,trivial⟩|exact⟨rfl,trivial⟩|exact trivial
       subst t0
       by_cases a0:a.length=0
       rotate_left
       ·have z2: ¬((a.map ai.row).length:Int)=0:=by rw[bb5]; omega
        (have ae:=z2;refine th ?_;clear ae)
        refine ar.iy ?_
        refine bm _ _ false (by simp only[en,a0,if_true,decide_false,bc5,bd7]) ?_ ?_ ?_ rfl rfl
        all_goals first|exact⟨rfl,rfl,rfl,rfl,rfl,trivial⟩|exact⟨rfl,trivial⟩|exact trivial
       have z2:((a.map ai.row).length:Int)=0:=by rw[bb5]; omega
       by_cases h9:b.length=0
       rotate_left
       ·have z3: ¬((b.map ai.row).length:Int)=0:=by rw[bb5]; omega
        (have ae:=z2;have z2:=z3;refine HO ?_;clear ae z2)
        refine ar.iy ?_
        refine bm _ _ false (by simp only[en,h9,if_true,decide_false,bc5,bd7]) ?_ ?_ ?_ rfl rfl
        all_goals first|exact⟨rfl,rfl,rfl,rfl,rfl,trivial⟩|exact⟨rfl,trivial⟩|exact trivial
       have z3:((b.map ai.row).length:Int)=0:=by rw[bb5]; omega
       (have ae:=z2;have z2:=z3;refine HO ?_;clear ae z2)
       refine ar.iy ?_
       refine bm _ _ true (by simp [en,a0,h9,hw]) ?_ ?_ ?_ rfl rfl
       all_goals first|exact⟨rfl,rfl,rfl,rfl,rfl,trivial⟩|exact⟨rfl,trivial⟩|exact trivial
     by_cases bB:k=2
     ·subst bB
      cases B
      ·iterate 3 refine iZ ?_
       refine ar.iy ?_
       refine bm _ _ false (by simp) ?_ ?_ ?_ rfl rfl
       all_goals first|exact⟨rfl,rfl,rfl,rfl,rfl,trivial⟩|exact⟨rfl,trivial⟩|exact trivial
      by_cases m0:m=[]
      rotate_left
      ·(have ae:=m0;refine gN ?_;refine gN ?_;refine gN ?_;clear ae)
       refine ar.iy ?_
       refine bm _ _ false (by simp [en,m0]) ?_ ?_ ?_ rfl rfl
       all_goals first|exact⟨rfl,rfl,rfl,rfl,rfl,trivial⟩|exact⟨rfl,trivial⟩|exact trivial
      subst m0
      by_cases t0:t=0
      rotate_left
      ·(have ae:=t0;refine gN ?_;refine gN ?_;refine gN ?_;clear ae)
       refine ar.iy ?_
       refine bm _ _ false (by simp [en,t0]) ?_ ?_ ?_ rfl rfl
       all_goals first|exact⟨rfl,rfl,rfl,rfl,rfl,trivial⟩|exact⟨rfl,trivial⟩|exact trivial
      ·subst t0
       iterate 3 refine iZ ?_
       refine ar.iy ?_
       refine bm _ _ true (by simp [en]) ?_ ?_ ?_ rfl rfl
       all_goals first|exact⟨rfl,rfl,rfl,rfl,rfl,trivial⟩|exact⟨rfl,trivial⟩|exact trivial
     by_cases cu:k=3
     ·subst cu
      cases B
      ·iterate 4 refine iZ ?_
       refine ar.iy ?_
       refine bm _ _ false (by simp) ?_ ?_ ?_ rfl rfl
       all_goals first|exact⟨rfl,rfl,rfl,rfl,rfl,trivial⟩|exact⟨rfl,trivial⟩|exact trivial
      by_cases m0:m=[]
      rotate_left
      ·(have ae:=m0;refine gN ?_;refine gN ?_;refine gN ?_;refine gN ?_;clear ae)
       refine ar.iy ?_
       refine bm _ _ false (by simp [en,m0]) ?_ ?_ ?_ rfl rfl
       all_goals first|exact⟨rfl,rfl,rfl,rfl,rfl,trivial⟩|exact⟨rfl,trivial⟩|exact trivial
      subst m0
      by_cases t1:1≤t
      rotate_left
      ·(have ae:=t1;refine gN ?_;refine gN ?_;refine gN ?_;refine gN ?_;clear ae)
       refine ar.iy ?_
       refine bm _ _ false (by simp [en,t1]) ?_ ?_ ?_ rfl rfl
       all_goals first|exact⟨rfl,rfl,rfl,rfl,rfl,trivial⟩|exact⟨rfl,trivial⟩|exact trivial
      by_cases t2:t≤50
      rotate_left
      ·(have ae:=t1;have z2:=t2;refine fj ?_;refine fj ?_;refine fj ?_;refine fj ?_;clear ae z2)
       refine ar.iy ?_
       refine bm _ _ false (by simp [en,t2]) ?_ ?_ ?_ rfl rfl
       all_goals first|exact⟨rfl,rfl,rfl,rfl,rfl,trivial⟩|exact⟨rfl,trivial⟩|exact trivial
      have BQ:1≤t∧t≤50:=⟨t1,t2⟩
      by_cases h9:b.length=0
      rotate_left
      ·have z3: ¬((b.map ai.row).length:Int)=0:=by rw[bb5]; omega
       (have ae:=BQ;have z2:=z3;refine fj ?_;refine fj ?_;refine fj ?_;refine fj ?_;clear ae z2)
       refine ar.iy ?_
       refine bm _ _ false (by simp only[en,show ¬(3:Int)=1 by decide,show ¬(3:Int)=2 by decide,h9,if_true,if_false,decide_false,bc5,bd7]) ?_ ?_ ?_ rfl rfl
       all_goals first|exact⟨rfl,rfl,rfl,rfl,rfl,trivial⟩|exact⟨rfl,trivial⟩|exact trivial
      ·have z3:((b.map ai.row).length:Int)=0:=by rw[bb5]; omega
       (have ae:=BQ;have z2:=z3;refine fj ?_;refine fj ?_;refine fj ?_;refine fj ?_;clear ae z2)
       refine ar.iy ?_
       refine bm _ _ true (by simp only[en,show ¬(3:Int)=1 by decide,show ¬(3:Int)=2 by decide,h9,t1,t2,if_true,if_false,decide_true,bc7]) ?_ ?_ ?_ rfl rfl
       all_goals first|exact⟨rfl,rfl,rfl,rfl,rfl,trivial⟩|exact⟨rfl,trivial⟩|exact trivial
     have a6:en k m t a.length b.length=false:=by simp only[en,br,bB,cu,if_false]
     rw[a6,bd7,bc5,bc5]at aw
     (have ae:=br;have z2:=bB;have z3:=cu;refine ep ?_;clear ae z2 z3)
     refine D.r ?_
     exact⟨_,rfl,.aF (by rw[←aw]; rfl) rfl,trivial,trivial⟩
  |none=>
   have b4:=List.getElem?_eq_none_iff.1 ad
   have bN:i=l.length:=by omega
   subst bN
   have d3: ¬(l.length:Int)<((l.map ai.row).length:Int):=by rw[bb5]; omega
   rw[be6]at aw
   (have ae:=d3;refine bt ?_;clear ae)
   refine D.r ?_
   exact⟨_,rfl,.aF (by rw[←aw]; rfl) rfl,trivial,trivial⟩
 termination_by N l d=>ai.ch l
 decreasing_by all_goals (simp only[ai.cv]at*; omega)
end
section
attribute [local go_sem] au.cO au.cx au.dd ai.cO ai.cx ai.dd cf dn fo gv dF of_flat bJ.row dW io
theorem Zk (h:bS):lR h=((lK h.da&&(ev h.peer&&(decide (h.ps.length≤4)&&oy h.body 10)))&&h.ps.all ev):=by
 have:(h.body.all iH&&h.body.all (fun x=>decide (kv x≤10)))=oy h.body 10:=by
  rw[Et]
  have: ∀l:List ai,(l.all iH&&l.all (fun x=>decide (kv x≤10)))=l.all (tI 10):=by
   intro l
   induction l with
   |nil=>rfl
   |cons x l b7=>
    rw[bd3,bd3,bd3,←b7]
    simp only[tI]
    cases iH x<;>cases l.all iH<;>simp
  exact this _
 simp only[lR,this]
 cases lK h.da<;>cases ev h.peer<;>cases decide (h.ps.length≤4)<;>cases h.ps.all ev<;>simp
theorem Zl (o:cn):mn o=(lK o.da&&(ev o.peer&&(vd o.args 4&&vd o.eb 1))):=by
 have dJ: ∀l:List au,(l.all fb&&l.all (fun x=>decide (iR x≤10)))=l.all (fun x=>fb x&&decide (iR x≤10)):=by
  intro l
  induction l with
  |nil=>rfl
  |cons x l b7=>
   rw[bd3,bd3,bd3,←b7]
   cases fb x<;>cases l.all fb<;>simp
 have d1:decide ((o.args.length:Int)≤4)=decide (o.args.length≤4):=decide_eq_decide.2 (by omega)
 have d2:decide ((o.eb.length:Int)≤1)=decide (o.eb.length≤1):=decide_eq_decide.2 (by omega)
 simp only[mn,vd,d1,d2,←dJ,List.all_append]
 generalize (o.args.all fun x=>decide (iR x≤10))=g1
 generalize (o.eb.all fun x=>decide (iR x≤10))=g2
 cases lK o.da<;>cases ev o.peer<;>cases decide (o.args.length≤4)<;>cases decide (o.eb.length≤1)<;>cases o.args.all fb<;>cases o.eb.all fb<;>cases g1<;>simp
theorem aC7 (x:cQ) (hb:oX x) (zd: ∀h∈x.ao,h.da.length≤1000000000000000) (Fj: ∀o∈x.os,o.da.length≤1000000000000000):Pure bb4 39 [x.eL] (.bool (n0 x)):=by
 have ap:=rY x.name
 have ay:=rY x.bO
 have b1:=rY x.fM
 have Fi:=hb.lZ
 have Ff:=hb.lY
 have Fh:=hb.no
 obtain⟨G,hG⟩: ∃G,G=n0 x:=⟨_,rfl⟩
 have w9:n0 x=(sT x&&(pL x&&decide ((nQ x).length≤8000))):=rfl
 rw[←hG]
 rw[w9]at hG
 have Ej:sT x=true→pL x=true→Pure bb4 108 [x.eL] (.str (nQ x)):=fun U aa=>aD5 x (S0 hb U aa)
 have nz:sT x=(ev x.name&&(ev x.bO&&(ev x.fM&&(decide (x.vars.length≤12)&&(decide (x.ao.length≤40)&&decide (x.os.length≤40)))))):=rfl
 have oC:pL x=(x.vars.all k6&&(x.ao.all lR&&x.os.all mn)):=rfl
 rw[oa]at Ej ⊢
 obtain⟨C,hC⟩: ∃C,C=nQ x:=⟨_,rfl⟩
 rw[←hC]at hG Ej
 refine cw be Tryz.func39 WZ (by simp only[b2,I.flat,dW,dF,of_flat,bc0]) rfl ?_
 unfold LS R5
 simp(disch:=omega)only[go_sem,simprocAttr]
 refine ak ?_
 refine D.P (ap) ?_
 cases pC:ev x.name
 ·rw[pC,bc5]at nz
  rw[nz,bc5]at hG
  refine ak ?_
  refine D.r ?_
  exact⟨_,rfl,.aF (by rw[hG]; rfl) rfl,trivial,trivial⟩
 refine ak ?_
 refine D.P (ay) ?_
 cases km:ev x.bO
 ·rw[pC,km,bc5,bd7]at nz
  rw[nz,bc5]at hG
  refine ak ?_
  refine D.r ?_
  exact⟨_,rfl,.aF (by rw[hG]; rfl) rfl,trivial,trivial⟩
 refine ak ?_
 refine D.P (b1) ?_
 cases oU:ev x.fM
 ·rw[pC,km,oU,bc5,bd7,bd7]at nz
  rw[nz,bc5]at hG
  refine ak ?_
  refine D.r ?_
  exact⟨_,rfl,.aF (by rw[hG]; rfl) rfl,trivial,trivial⟩
 rw[pC,km,oU,bc7,bc7,bc7]at nz
 by_cases v1:x.vars.length≤12
 rotate_left
 ·have ae:(12:Int)<((x.vars.map bJ.row).length:Int):=by rw[bb5]; omega
  rw[decide_eq_false v1,bc5]at nz
  rw[nz,bc5]at hG
  (have ae:=ae;refine bt ?_;clear ae)
  refine D.r ?_
  exact⟨_,rfl,.aF (by rw[hG]; rfl) rfl,trivial,trivial⟩
 have ae: ¬(12:Int)<((x.vars.map bJ.row).length:Int):=by rw[bb5]; omega
 by_cases v2:x.ao.length≤40
 rotate_left
 ·have z2:(40:Int)<((x.ao.map bS.row).length:Int):=by rw[bb5]; omega
  rw[decide_eq_false v2,bc5,bd7]at nz
  rw[nz,bc5]at hG
  (have ae:=ae;have z2:=z2;refine dQ ?_;clear ae z2)
  refine D.r ?_
  exact⟨_,rfl,.aF (by rw[hG]; rfl) rfl,trivial,trivial⟩
 have z2: ¬(40:Int)<((x.ao.map bS.row).length:Int):=by rw[bb5]; omega
 by_cases v3:x.os.length≤40
 rotate_left
 ·have z3:(40:Int)<((x.os.map cn.row).length:Int):=by rw[bb5]; omega
  rw[decide_eq_false v3,bd7,bd7]at nz
  rw[nz,bc5]at hG
  (have ae:=ae;have z2:=z2;have z3:=z3;refine ep ?_;clear ae z2 z3)
  refine D.r ?_
  exact⟨_,rfl,.aF (by rw[hG]; rfl) rfl,trivial,trivial⟩
 have z3: ¬(40:Int)<((x.os.map cn.row).length:Int):=by rw[bb5]; omega
 rw[decide_eq_true v1,decide_eq_true v2,decide_eq_true v3,bc7,bc7]at nz
 rw[nz,bc7]at hG
 (have ae:=ae;have z2:=z2;have z3:=z3;refine ep ?_;clear ae z2 z3)
 refine ar.cU (X:=Nat) 0 (fun i=>[(1,.ptr 0 0),(3,.int .i64 (i:Int))]) (fun _=>[(0,26,x.cells)]) (fun _=>[]) (fun i=>i≤x.vars.length∧(x.vars.drop i).all k6=x.vars.all k6) (fun i=>x.vars.length-i) ⟨bc3 _,rfl⟩ ⟨rfl,rfl,trivial⟩ ⟨by simp only[fX]; rfl,trivial⟩ trivial ?_
 rintro i ⟨af,aw⟩
 try simp only at af aw ⊢
 simp only[fX]
 cases ad:x.vars[i]? with
 |some v=>
  have cz:=(List.getElem?_eq_some_iff.1 ad).1
  have d1:(i:Int)<((x.vars.map bJ.row).length:Int):=by rw[bb5]; omega
  have e:=aD6 v
  rw[eN ad]at aw
  simp only[bd3]at aw
  generalize k6 v=oB at*
  rcases v with ⟨gp,fB,b3,gR,dG,n,s⟩
  simp only[bJ.row]at e
  (have ae:=d1;refine bt ?_;clear ae)
  refine D.P (e) ?_
  cases oB
  ·rw[bc5]at aw
   rw[oC,←aw,bc5,bc5]at hG
   refine ak ?_
   refine D.r ?_
   exact⟨_,rfl,.aF (by rw[hG]; rfl) rfl,trivial,trivial⟩
  ·refine ak ?_
   refine ar.eC (i+1) ⟨by omega,by simpa using aw⟩ ⟨rfl,by simp only[bb8]; rfl,trivial⟩ ⟨rfl,trivial⟩ trivial rfl rfl (by show x.vars.length-(i+1)<x.vars.length-i; omega)
 |none=>
 have b4:=List.getElem?_eq_none_iff.1 ad
 have bN:i=x.vars.length:=by omega
 subst bN
 have d1: ¬(x.vars.length:Int)<((x.vars.map bJ.row).length:Int):=by rw[bb5]; omega
 rw[be6]at aw
 have ZP:x.vars.all k6=true:=aw.symm
 clear aw ad b4 af
 rw[ZP,bc7]at oC
 (have ae:=d1;refine bt ?_;clear ae)
 refine ar.cU (X:=Nat) 0 (fun i=>[(1,.ptr 0 0),(4,.int .i64 (i:Int))]) (fun _=>[(0,26,x.cells)]) (fun _=>[]) (fun i=>i≤x.ao.length∧(x.ao.drop i).all lR=x.ao.all lR) (fun i=>x.ao.length-i) ⟨bc3 _,rfl⟩ ⟨rfl,rfl,trivial⟩ ⟨by simp only[fX]; rfl,trivial⟩ trivial ?_
 rintro i ⟨af,aw⟩
 try simp only at af aw ⊢
 simp only[fX]
 cases ad:x.ao[i]? with
 |some v=>
  have cz:=(List.getElem?_eq_some_iff.1 ad).1
  have hD:=bc2 ad
  have d2:(i:Int)<((x.ao.map bS.row).length:Int):=by rw[bb5]; omega
  have MZ:=hb.aS v hD
  have BF:=hb.hp v hD
  have fU:=PS v.da (zd v hD)
  have hX:=rY v.peer
  have fV:=Gr 10000 v.body 10 MZ (by omega) (by omega)
  rw[eN ad]at aw
  rw[bd3,Zk]at aw
  rcases v with ⟨da,peer,ps,body⟩
  simp only at fU hX fV BF aw
  generalize lK da=e5 at*
  generalize ev peer=il at*
  generalize oy body 10=jZ at*
  (have ae:=d2;refine bt ?_;clear ae)
  refine D.P (fU) ?_
  cases e5
  ·rw[bc5,bc5]at aw
   rw[bc5]at aw
   rw[oC,←aw,bc5,bc5]at hG
   refine ak ?_
   refine D.r ?_
   exact⟨_,rfl,.aF (by rw[hG]; rfl) rfl,trivial,trivial⟩
  refine ak ?_
  refine D.P (hX) ?_
  cases il
  ·rw[bc5,bd7,bc5]at aw
   rw[bc5]at aw
   rw[oC,←aw,bc5,bc5]at hG
   refine ak ?_
   refine D.r ?_
   exact⟨_,rfl,.aF (by rw[hG]; rfl) rfl,trivial,trivial⟩
  by_cases zp:ps.length≤4
  rotate_left
  ·have qg:(4:Int)<((ps.map cf).length:Int):=by rw[bb5]; omega
   rw[decide_eq_false zp,bc5,bd7,bd7,bc5,bc5]at aw
   rw[oC,←aw,bc5,bc5]at hG
   (have ae:=qg;refine bt ?_;clear ae)
   refine D.r ?_
   exact⟨_,rfl,.aF (by rw[hG]; rfl) rfl,trivial,trivial⟩
  have qg: ¬(4:Int)<((ps.map cf).length:Int):=by rw[bb5]; omega
  (have ae:=qg;refine bt ?_;clear ae)
  refine D.P (fV) ?_
  cases jZ
  ·rw[bd7,bd7,bd7,bc5]at aw
   rw[bc5]at aw
   rw[oC,←aw,bc5,bc5]at hG
   refine ak ?_
   refine D.r ?_
   exact⟨_,rfl,.aF (by rw[hG]; rfl) rfl,trivial,trivial⟩
  rw[decide_eq_true zp,bc7,bc7,bc7,bc7]at aw
  refine ak ?_
  refine ar.cU (X:=Nat) 0 (fun j=>[(1,.ptr 0 0),(5,.ptr 1 0),(4,.int .i64 (i:Int)),(6,.int .i64 (j:Int))]) (fun _=>[(1,113,(bS.mk da peer ps body).row),(0,26,x.cells)]) (fun _=>[]) (fun j=>j≤ps.length∧(ps.drop j).all ev=ps.all ev) (fun j=>ps.length-j) ⟨bc3 _,rfl⟩ ⟨rfl,rfl,rfl,rfl,trivial⟩ ⟨by simp only[fo]; rfl,by simp only[fX]; rfl,trivial⟩ trivial ?_
  rintro j ⟨bm,hw⟩
  try simp only at bm hw ⊢
  simp only[fX,fo]
  cases ab:ps[j]? with
  |some s=>
   have Fb:=(List.getElem?_eq_some_iff.1 ab).1
   have d3:(j:Int)<((ps.map cf).length:Int):=by rw[bb5]; omega
   have kg:=rY s
   rw[eN ab,bd3]at hw
   generalize ev s=pO at*
   (have ae:=d3;refine bt ?_;clear ae)
   refine D.P (kg) ?_
   cases pO
   ·rw[bc5]at hw
    rw[←hw,bc5]at aw
    rw[oC,←aw,bc5,bc5]at hG
    refine ak ?_
    refine D.r ?_
    exact⟨_,rfl,.aF (by rw[hG]; rfl) rfl,trivial,trivial⟩
   ·refine ak ?_
    refine ar.eC (j+1) ⟨by omega,by simpa using hw⟩ ⟨rfl,rfl,rfl,by simp only[bb8]; rfl,trivial⟩ ⟨rfl,rfl,trivial⟩ trivial rfl rfl (by show ps.length-(j+1)<ps.length-j; omega)
  |none=>
   have b4:=List.getElem?_eq_none_iff.1 ab
   have bN:j=ps.length:=by omega
   subst bN
   have d3: ¬(ps.length:Int)<((ps.map cf).length:Int):=by rw[bb5]; omega
   rw[be6]at hw
   rw[←hw]at aw
   (have ae:=d3;refine bt ?_;clear ae)
   refine ar.jS (i+1) ⟨by omega,by simpa using aw⟩ ⟨rfl,by simp only[bb8]; rfl,trivial⟩ ⟨rfl,trivial⟩ trivial rfl (by simp only[im,dw,eA,eB,ia,I.du,bM.bY,fX,dW,dF,of_flat,go_sem]<;>rfl) (by show x.ao.length-(i+1)<x.ao.length-i; omega)
 |none=>
 have b4:=List.getElem?_eq_none_iff.1 ad
 have bN:i=x.ao.length:=by omega
 subst bN
 have d1: ¬(x.ao.length:Int)<((x.ao.map bS.row).length:Int):=by rw[bb5]; omega
 rw[be6]at aw
 have ZN:x.ao.all lR=true:=aw.symm
 clear aw ad b4 af
 rw[ZN,bc7]at oC
 (have ae:=d1;refine bt ?_;clear ae)
 refine ar.cU (X:=Nat) 0 (fun i=>[(1,.ptr 0 0),(7,.int .i64 (i:Int))]) (fun _=>[(0,26,x.cells)]) (fun _=>[]) (fun i=>i≤x.os.length∧(x.os.drop i).all mn=x.os.all mn) (fun i=>x.os.length-i) ⟨bc3 _,rfl⟩ ⟨rfl,rfl,trivial⟩ ⟨by simp only[fX]; rfl,trivial⟩ trivial ?_
 rintro i ⟨af,aw⟩
 try simp only at af aw ⊢
 simp only[fX]
 cases ad:x.os[i]? with
 |some v=>
  have cz:=(List.getElem?_eq_some_iff.1 ad).1
  have hD:=bc2 ad
  have d2:(i:Int)<((x.os.map cn.row).length:Int):=by rw[bb5]; omega
  have MZ:=hb.qT v hD
  have fU:=PS v.da (Fj v hD)
  have hX:=rY v.peer
  have fV:=PT v.args 4 (by omega)
  have kg:=PT v.eb 1 (by omega)
  rw[eN ad]at aw
  rw[bd3,Zl]at aw
  rcases v with ⟨da,peer,args,eb⟩
  simp only at fU hX fV kg aw
  generalize lK da=e5 at*
  generalize ev peer=il at*
  generalize vd args 4=jZ at*
  generalize vd eb 1=om at*
  (have ae:=d2;refine bt ?_;clear ae)
  refine D.P (fU) ?_
  cases e5
  ·rw[bc5,bc5]at aw
   rw[oC,←aw,bc5]at hG
   refine ak ?_
   refine D.r ?_
   exact⟨_,rfl,.aF (by rw[hG]; rfl) rfl,trivial,trivial⟩
  refine ak ?_
  refine D.P (hX) ?_
  cases il
  ·rw[bc5,bd7,bc5]at aw
   rw[oC,←aw,bc5]at hG
   refine ak ?_
   refine D.r ?_
   exact⟨_,rfl,.aF (by rw[hG]; rfl) rfl,trivial,trivial⟩
  refine ak ?_
  refine D.P (fV) ?_
  cases jZ
  ·rw[bc5,bd7,bd7,bc5]at aw
   rw[oC,←aw,bc5]at hG
   refine ak ?_
   refine D.r ?_
   exact⟨_,rfl,.aF (by rw[hG]; rfl) rfl,trivial,trivial⟩
  refine ak ?_
  refine D.P (kg) ?_
  cases om
  ·rw[bd7,bd7,bd7,bc5]at aw
   rw[oC,←aw,bc5]at hG
   refine ak ?_
   refine D.r ?_
   exact⟨_,rfl,.aF (by rw[hG]; rfl) rfl,trivial,trivial⟩
  rw[bc7,bc7,bc7,bc7]at aw
  refine ak ?_
  refine ar.jS (i+1) ⟨by omega,aw⟩ ⟨rfl,by simp only[bb8]; rfl,trivial⟩ ⟨rfl,trivial⟩ trivial rfl (by simp only[im,dw,eA,eB,ia,I.du,bM.bY,fX,dW,dF,of_flat,go_sem]<;>rfl) (by show x.os.length-(i+1)<x.os.length-i; omega)
 |none=>
 have b4:=List.getElem?_eq_none_iff.1 ad
 have bN:i=x.os.length:=by omega
 subst bN
 have d1: ¬(x.os.length:Int)<((x.os.map cn.row).length:Int):=by rw[bb5]; omega
 rw[be6]at aw
 rw[←aw]at oC
 have MU:pL x=true:=oC
 have ul:=Ej nz MU
 rw[MU,bc7]at hG
 (have ae:=d1;refine bt ?_;clear ae)
 refine D.P (ul) ?_
 refine ak ?_
 refine D.r ?_
 refine⟨_,rfl,.aF ?_ rfl,trivial,trivial⟩
 rw[hG]
 simp only[I.aF,I.bool.injEq]
 exact decide_eq_decide.2 (by omega)
end
section
set_option maxRecDepth 1000000
attribute [local go_sem] au.cO ai.cO au.cx ai.cx cf dn fo gv dF of_flat bJ.row dW fX io
attribute [local go_sem] hE gz gy hB fK fZ e9 dM Fd.row eX fi df.row fc.row cj.row sC xB k7 vQ tt hM.row
theorem aX3 (l:List (Int×Int×Int)) (a:Int×Int×Int) (aG:l.length≤1000000000):Pure bb4 182 [.aq 3 (l.map k7),.agg (k7 a)] (.int .i64 (dj (fun v=> !decide (a=v)) l 0)):=by
 obtain⟨er,a2,a3⟩:=a
 have iD:((l.map k7).length:Int)=(l.length:Int):=by rw[bb5]
 simp only[k7]
 refine cw be Tryz.func182 Vv (by simp only[b2,I.flat,sC,bc0]) rfl ?_
 unfold Kv QB
 simp(disch:=omega)only[go_sem,simprocAttr]
 refine ak ?_
 refine ar.cU (X:=Nat) 0 (fun i=>[(0,.aq 3 (l.map k7)),(3,.ptr 0 0),(7,.int .i64 ((l.map k7).length:Int)),(8,.int .i64 (i:Int))]) (fun _=>[(0,74,[.int .i64 er,.int .i64 a2,.int .i64 a3])]) (fun _=>[]) (fun i=>i≤l.length∧dj (fun v=> !decide ((er,a2,a3)=v)) (l.drop i) i=dj (fun v=> !decide ((er,a2,a3)=v)) l 0) (fun i=>l.length-i) ⟨bc3 _,rfl⟩ ⟨rfl,rfl,rfl,rfl,trivial⟩ ⟨rfl,trivial⟩ trivial ?_
 rintro i ⟨af,aw⟩
 try simp only at af aw ⊢
 cases ad:l[i]? with
 |some v=>
  obtain⟨v1,v2,v3⟩:=v
  have cz:=(List.getElem?_eq_some_iff.1 ad).1
  have d1:(i:Int)<(l.length:Int):=by omega
  rw[eN ad]at aw
  simp only[dj]at aw
  by_cases h:(er,a2,a3)=(v1,v2,v3)
  ·simp only[Prod.mk.injEq]at h
   obtain⟨rfl,rfl,rfl⟩:=h
   (have ae:=iD;have z2:=d1;refine dQ ?_;clear ae z2)
   refine D.r ?_
   refine⟨_,rfl,.aF ?_ rfl,trivial,trivial⟩
   rw[←aw]
   simp [I.aF]
  ·have bG:(decide (er=v1)&&(decide (a2=v2)&&decide (a3=v3)))=false:=by
    rw[bo5]
    intro k
    simp only[bb6,decide_eq_true_eq]at k
    exact h (by rw[k.1,k.2.1,k.2.2])
   rw[decide_eq_false h]at aw
   (have ae:=iD;have z2:=d1;have z3:=bG;refine ep ?_;clear ae z2 z3)
   refine ar.eC (i+1) ⟨by omega,aw⟩ ⟨rfl,rfl,rfl,by simp only[bb8]; rfl,trivial⟩ ⟨rfl,trivial⟩ trivial rfl rfl (by show l.length-(i+1)<l.length-i; omega)
 |none=>
  have b4:=List.getElem?_eq_none_iff.1 ad
  have d1: ¬(i:Int)<(l.length:Int):=by omega
  rw[bc6 b4]at aw
  (have ae:=iD;have z2:=d1;refine dQ ?_;clear ae z2)
  refine D.r ?_
  exact⟨_,rfl,.aF (by rw[←aw]; rfl) rfl,trivial,trivial⟩
theorem aY9 (l:List (Int×Int×Int)) (a:Int×Int×Int) (aG:l.length≤1000000000):Pure bb4 95 [.aq 3 (l.map k7),.agg (k7 a)] (.bool (l.any fun v=>decide (a=v))):=by
 have e:=aX3 l a aG
 rw[←uq]
 generalize dj (fun v=> !decide (a=v)) l 0=z at e ⊢
 obtain⟨er,a2,a3⟩:=a
 simp only[k7]at e ⊢
 refine cw be Tryz.func95 Xc (by simp only[b2,I.flat,sC,bc0]) rfl ?_
 unfold vb Sg
 simp(disch:=omega)only[go_sem,simprocAttr]
 refine ak ?_
 refine D.P (e) ?_
 refine ak ?_
 exact D.rx
theorem aY0:Pure bb4 287 [.int .u64 1] (.int .i64 1):=by
 refine cw be Tryz.func287 Wj rfl rfl ?_
 unfold Lh Rq
 simp(disch:=omega)only[go_sem,simprocAttr]
 refine ak ?_
 exact D.rx
theorem aX6:Pure bb4 185 [.int .u64 1] (.int .i64 1):=by
 have e:=aY0
 refine cw be Tryz.func185 Vx rfl rfl ?_
 unfold Kx QD
 simp(disch:=omega)only[go_sem,simprocAttr]
 refine ak ?_
 refine D.P (e) ?_
 refine ak ?_
 exact D.rx
theorem aX9 (a b c:Int) (f:FuncId):Pure bb4 278 [.aq 3 [[.int .i64 a,.int .i64 b,.int .i64 c]],.int .i64 0,.int .i64 1,.fn f []] (.c3 []):=by
 refine cw be Tryz.func278 Wi rfl rfl ?_
 unfold Lg Ro
 simp(disch:=omega)only[go_sem,simprocAttr]
 refine ak ?_
 refine ar.cU (X:=Nat) 0 (fun _=>[(2,.int .i64 1),(8,.int .i64 1)]) (fun _=>[]) (fun _=>[]) (fun i=>i=0) (fun i=>0) rfl ⟨rfl,rfl,trivial⟩ trivial trivial ?_
 intro i af
 refine ak ?_
 exact D.rx
theorem aX5 (a b c:Int) (f:FuncId):Pure bb4 184 [.aq 3 [[.int .i64 a,.int .i64 b,.int .i64 c]],.int .i64 0,.int .i64 1,.int .i64 1,.fn f []] (.c3 []):=by
 have e:=aX9 a b c f
 refine cw be Tryz.func184 Vw rfl rfl ?_
 unfold Kw QC
 simp(disch:=omega)only[go_sem,simprocAttr]
 refine ak ?_
 refine ar.cU (X:=Nat) 0 (fun _=>[(0,.aq 3 [[.int .i64 a,.int .i64 b,.int .i64 c]]),(1,.int .i64 0),(2,.int .i64 1),(3,.int .i64 1),(4,.fn f [])]) (fun _=>[]) (fun _=>[]) (fun i=>i=0) (fun i=>0) rfl ⟨rfl,rfl,rfl,rfl,rfl,trivial⟩ trivial trivial ?_
 intro i af
 refine ak ?_
 refine D.P (e) ?_
 refine ak ?_
 exact D.rx
theorem aZ1 (a b c:Int) (f:FuncId):Pure bb4 97 [.aq 3 [[.int .i64 a,.int .i64 b,.int .i64 c]],.fn f []] (.c3 []):=by
 have ap:=aX6
 have e:=aX5 a b c f
 refine cw be Tryz.func97 Xd rfl rfl ?_
 unfold Bk Sh
 simp(disch:=omega)only[go_sem,simprocAttr]
 refine ak ?_
 refine D.P (ap) ?_
 refine ak ?_
 refine D.P (e) ?_
 refine ak ?_
 exact D.rx
theorem aY4 (l:List (Int×Int×Int)) (aG:l.length≤1000000000):Pure bb4 35 [.aq 3 (l.map k7),.aq 3 (l.map k7)] (.bool true):=by
 refine cw be Tryz.func35 WL (by simp only[b2,I.flat,sC,bc0]) rfl ?_
 unfold wU RS
 have iD:((l.map k7).length:Int)=(l.length:Int):=by rw[bb5]
 simp(disch:=omega)only[go_sem,simprocAttr]
 (have ae:=iD;refine bt ?_;clear ae)
 refine ar.cU (X:=Nat) 0 (fun i=>[(0,.aq 3 (l.map k7)),(1,.aq 3 (l.map k7)),(5,.int .i64 (i:Int))]) (fun _=>[]) (fun _=>[]) (fun i=>i≤l.length) (fun i=>l.length-i) (bc3 _) ⟨rfl,rfl,rfl,trivial⟩ trivial trivial ?_
 intro i af
 try simp only at af ⊢
 cases ad:l[i]? with
 |some v=>
  have cz:=(List.getElem?_eq_some_iff.1 ad).1
  have d1:(i:Int)<(l.length:Int):=by omega
  (have ae:=iD;have z2:=d1;refine dQ ?_;clear ae z2)
  refine ar.eC (i+1) (by omega) ⟨rfl,rfl,by simp only[bb8]; rfl,trivial⟩ trivial trivial rfl rfl (by show l.length-(i+1)<l.length-i; omega)
 |none=>
  have b4:=List.getElem?_eq_none_iff.1 ad
  have d1: ¬(i:Int)<(l.length:Int):=by omega
  (have ae:=iD;have z2:=d1;refine dQ ?_;clear ae z2)
  exact D.rx
end
section
set_option maxRecDepth 1000000
attribute [local go_sem] au.cO ai.cO au.cx ai.cx cf dn fo gv dF of_flat bJ.row dW fX io
attribute [local go_sem] hE gz gy hB fK fZ e9 dM Fd.row eX fi df.row fc.row cj.row sC xB k7 vQ tt hM.row
def uJ:cQ:=⟨[83],[98],[80],[],[⟨[109],[97],[[120]],[.mk 1 [120] (.mk 1 [] [] [] 1 []) 0 [] []]⟩],[]⟩
def sb:cQ:=⟨[83],[98],[80],[],[],[]⟩
def jf:di:=⟨[80],[[97],[98]],[⟨[109],[⟨[120],1,0,9⟩],0,[],[]⟩],2,0,1,[⟨0,0,1,0,1,false⟩],[]⟩
theorem aO7:oX uJ:=by
 refine⟨fun h hm=> ?_,fun h hm=> ?_,(fun o hm=>by cases hm),by decide,by decide,by decide⟩
 all_goals
  simp only[uJ,be4,bh8,or_false]at hm
  subst hm
  decide
theorem SZ:oX sb:=⟨(fun h hm=>by cases hm),(fun h hm=>by cases hm),(fun o hm=>by cases hm),by decide,by decide,by decide⟩
theorem EC:qi jf:=by
 refine⟨by decide,by decide,by decide,by decide,fun d hm=> ?_⟩
 simp only[jf,be4,bh8,or_false]at hm
 subst hm
 decide
theorem au4:uJ.ok 1000:=by
 refine⟨by decide,by decide,by decide,by decide,(fun v ad=>by cases ad),by decide,?_,by decide,(fun v ad=>by cases ad)⟩
 intro v ad
 rw[List.mem_singleton.1 ad]
 exact⟨by decide,by decide,by decide,by decide,by decide,⟨rfl,by decide,⟨rfl,by decide,by decide,by decide,rfl,by decide,trivial⟩,rfl,by decide,by decide,trivial,trivial⟩,trivial⟩
theorem Xz:j9 uJ jf=([120],11):=by kernel_rfl
theorem Jg:j9 sb jf=([],0):=by kernel_rfl
theorem PC:ht jf.dl [98]=1:=by kernel_rfl
abbrev Bx:I:= .agg [.str [80],.aq 1 [[.str [97]],[.str [98]]],.aq 5 [[.str [109],.aq 4 [[.str [120],.int .i64 1,.int .i64 0,.int .i64 9]],.int .i64 0,.bi,.bi]],.int .i64 2,.int .i64 0,.int .i64 1,.aq 6 [[.int .i64 0,.int .i64 0,.int .i64 1,.int .i64 0,.int .i64 1,.bool false]],.bi]
theorem yK:c5 Bx jf.eL:=
 AO (fm (c5.refl _) (fm (c5.refl _) (fm (Dl (.cons (fm (c5.refl _) (fm (c5.refl _) (fm (c5.refl _) (fm c5.nil (fm c5.nil pN))))) .nil)) (fm (c5.refl _) (fm (c5.refl _) (fm (c5.refl _) (fm (c5.refl _) (fm c5.nil pN))))))))
theorem aZ8:c5 (.agg [.str [83],.str [98],.str [80],.bi,.aq 4 [[.str [109],.str [97],.aq 1 [[.str [120]]],.aq 11 [[.int .i64 1,.str [120],.int .i64 1,.str [],.str [],.str [],.int .i64 1,.bi,.int .i64 0,.bi,.bi]]]],.bi]) uJ.eL:=
 AO (fm (c5.refl _) (fm (c5.refl _) (fm (c5.refl _) (fm c5.nil (fm (Dl (.cons (fm (c5.refl _) (fm (c5.refl _) (fm (c5.refl _) (fm (Dl (.cons (fm (c5.refl _) (fm (c5.refl _) (fm (c5.refl _) (fm (c5.refl _) (fm (c5.refl _) (fm (c5.refl _) (fm (c5.refl _) (fm c5.nil (fm (c5.refl _) (fm c5.nil (fm c5.nil pN))))))))))) .nil)) pN)))) .nil)) (fm c5.nil pN))))))
theorem aX4:bg bb4 183 [.aq 4 [],.fn 94 [.ptr 0 0,.ptr 1 0]] (aN.of 2 0 [(0,32,[.str [80],.aq 1 [[.str [97]],[.str [98]]],.aq 5 [[.str [109],.aq 4 [[.str [120],.int .i64 1,.int .i64 0,.int .i64 9]],.int .i64 0,.bi,.bi]],.int .i64 2,.int .i64 0,.int .i64 1,.aq 6 [[.int .i64 0,.int .i64 0,.int .i64 1,.int .i64 0,.int .i64 1,.bool false]],.bi]),(1,74,[.int .i64 0,.int .i64 1,.int .i64 0])] []) (dA (.int .i64 (-1)) [(0,32,[.str [80],.aq 1 [[.str [97]],[.str [98]]],.aq 5 [[.str [109],.aq 4 [[.str [120],.int .i64 1,.int .i64 0,.int .i64 9]],.int .i64 0,.bi,.bi]],.int .i64 2,.int .i64 0,.int .i64 1,.aq 6 [[.int .i64 0,.int .i64 0,.int .i64 1,.int .i64 0,.int .i64 1,.bool false]],.bi]),(1,74,[.int .i64 0,.int .i64 1,.int .i64 0])] []):=by
 refine bg.intro be Tryz.func183 Dy ?_
 unfold Be Cu
 simp(disch:=omega)only[go_sem,simprocAttr]
 refine ak ?_
 refine ar.cU (X:=Nat) 0 (fun i=>[(0,.aq 4 []),(1,.fn 94 [.ptr 0 0,.ptr 1 0]),(7,.int .i64 0),(8,.int .i64 (i:Int))]) (fun _=>[(0,32,[.str [80],.aq 1 [[.str [97]],[.str [98]]],.aq 5 [[.str [109],.aq 4 [[.str [120],.int .i64 1,.int .i64 0,.int .i64 9]],.int .i64 0,.bi,.bi]],.int .i64 2,.int .i64 0,.int .i64 1,.aq 6 [[.int .i64 0,.int .i64 0,.int .i64 1,.int .i64 0,.int .i64 1,.bool false]],.bi]),(1,74,[.int .i64 0,.int .i64 1,.int .i64 0])]) (fun _=>[]) (fun i=>i=0) (fun i=>0) rfl ⟨rfl,rfl,rfl,rfl,trivial⟩ ⟨rfl,rfl,trivial⟩ trivial ?_
 intro i af
 subst af
 refine ak ?_
 refine D.r ?_
 exact⟨rfl,⟨rfl,rfl,trivial⟩,trivial⟩
theorem aZ0:bg bb4 96 [.aq 4 [],.fn 94 [.ptr 0 0,.ptr 1 0]] (aN.of 2 0 [(0,32,[.str [80],.aq 1 [[.str [97]],[.str [98]]],.aq 5 [[.str [109],.aq 4 [[.str [120],.int .i64 1,.int .i64 0,.int .i64 9]],.int .i64 0,.bi,.bi]],.int .i64 2,.int .i64 0,.int .i64 1,.aq 6 [[.int .i64 0,.int .i64 0,.int .i64 1,.int .i64 0,.int .i64 1,.bool false]],.bi]),(1,74,[.int .i64 0,.int .i64 1,.int .i64 0])] []) (dA (.bool false) [(0,32,[.str [80],.aq 1 [[.str [97]],[.str [98]]],.aq 5 [[.str [109],.aq 4 [[.str [120],.int .i64 1,.int .i64 0,.int .i64 9]],.int .i64 0,.bi,.bi]],.int .i64 2,.int .i64 0,.int .i64 1,.aq 6 [[.int .i64 0,.int .i64 0,.int .i64 1,.int .i64 0,.int .i64 1,.bool false]],.bi]),(1,74,[.int .i64 0,.int .i64 1,.int .i64 0])] []):=by
 have e:=aX4
 refine bg.intro be Tryz.func96 DE ?_
 unfold wW CB
 simp(disch:=omega)only[go_sem,simprocAttr]
 refine ak ?_
 refine D.F ⟨[0,1],[]⟩ (e) ?_
 refine ak ?_
 refine D.r ?_
 exact⟨rfl,⟨rfl,rfl,trivial⟩,trivial⟩
theorem aY5:Pure bb4 36 [.agg [.str [83],.str [98],.str [80],.aq 7 [],.aq 4 [],.aq 4 []],Bx] (.aq 3 [[.int .i64 0,.int .i64 1,.int .i64 0]]):=by
 have kX:=(xL sb jf SZ EC).le (fm (c5.refl _) (fm yK pN))
 have kY:=(Hw sb jf (by decide)).le (fm (c5.refl _) (fm yK pN))
 have vb:=aY9 [] (0,1,0) (by decide)
 rw[bt3]at vb
 have wW:=aZ0
 have Bk:=aZ1 0 1 0 98
 rw[Jg]at kX
 rw[show sb.bO=[98] by rfl,PC,show max (1:Int) 0=1 by decide]at kY
 simp only[tr]at kX
 rw[oa]at kX kY
 simp only[sb,bg5,Bx]at kX kY vb ⊢
 try (simp (disch:=omega) only[go_sem,simprocAttr]at kX)
 try (simp (disch:=omega) only[go_sem,simprocAttr]at kY)
 try (simp (disch:=omega) only[go_sem,simprocAttr]at vb)
 refine cw be Tryz.func36 WQ rfl rfl ?_
 unfold yE RW
 simp(disch:=omega)only[go_sem,simprocAttr]
 refine ak ?_
 refine D.P (kX) ?_
 refine ak ?_
 refine D.P (kY) ?_
 refine ak ?_
 refine ar.tK 9 3 74 rfl (by decide) ?_
 simp(disch:=omega)only[go_sem,simprocAttr]
 refine ar.cU (X:=Nat) 0 (fun i=>[(2,.ptr 0 0),(3,.ptr 1 0),(7,.int .i64 1),(9,.own 0 3 (if i=0 then[] else[[.int .i64 0,.int .i64 1,.int .i64 0]])),(29,.aq 6 [[.int .i64 0,.int .i64 0,.int .i64 1,.int .i64 0,.int .i64 1,.bool false]]),(30,.int .i64 1),(31,.int .i64 (i:Int))]) (fun _=>[(0,48,[.str [83],.str [98],.str [80],.aq 7 [],.aq 4 [],.aq 4 []]),(1,32,[.str [80],.aq 1 [[.str [97]],[.str [98]]],.aq 5 [[.str [109],.aq 4 [[.str [120],.int .i64 1,.int .i64 0,.int .i64 9]],.int .i64 0,.bi,.bi]],.int .i64 2,.int .i64 0,.int .i64 1,.aq 6 [[.int .i64 0,.int .i64 0,.int .i64 1,.int .i64 0,.int .i64 1,.bool false]],.bi])]) (fun i=>[(0,.bY 74 3 (if i=0 then 0 else 1))]) (fun i=>i≤1) (fun i=>1-i) (bc3 _) ⟨rfl,rfl,rfl,rfl,rfl,rfl,rfl,trivial⟩ ⟨rfl,rfl,trivial⟩ ⟨rfl,trivial⟩ ?_
 intro i af
 match i,af with
 |0,_=>
  simp only[if_true]
  refine ak ?_
  refine D.P (vb) ?_
  refine ak ?_
  refine D.F ⟨[1,3],[]⟩ (wW) ?_
  refine ak ?_
  refine D.iE ?_
  refine ak ?_
  refine ar.jS 1 (by decide) ⟨rfl,rfl,rfl,rfl,rfl,rfl,rfl,trivial⟩ ⟨rfl,rfl,trivial⟩ ⟨rfl,trivial⟩ rfl (by simp only[im,dw,eA,eB,ia,I.du,bM.bY,go_sem]<;>rfl) (by decide)
 |1,_=>
  simp only[show ¬(1:Nat)=0 by decide,if_false]
  refine ak ?_
  refine D.P (Bk) ?_
  refine ak ?_
  exact D.rx
 |n+2,h=>omega
theorem aY1:Pure bb4 29 [] (.bool true):=by
 have u6:=(Cq (R:=1000) (by decide) uJ au4).le (fm aZ8 pN)
 have kX:=(xL uJ jf aO7 EC).le (fm (c5.refl _) (fm yK pN))
 have wT:=(xL sb jf SZ EC).le (fm (c5.refl _) (fm yK pN))
 have kY:=(Hw sb jf (by decide)).le (fm (c5.refl _) (fm yK pN))
 have yE:=aY5
 have wU:=aY4 [(0,1,0)] (by decide)
 rw[Xz]at kX
 rw[Jg]at wT
 rw[show sb.bO=[98] by rfl,PC,show max (1:Int) 0=1 by decide]at kY
 simp only[tr]at kX wT
 rw[oa]at u6 kX wT kY
 simp only[uJ,sb,bd4,bg5,Bx]at u6 kX wT kY yE wU
 try (simp (disch:=omega) only[go_sem,simprocAttr]at u6)
 try (simp (disch:=omega) only[go_sem,simprocAttr]at kX)
 try (simp (disch:=omega) only[go_sem,simprocAttr]at wT)
 try (simp (disch:=omega) only[go_sem,simprocAttr]at kY)
 try (simp (disch:=omega) only[go_sem,simprocAttr]at wU)
 refine cw be Tryz.func29 Wm rfl rfl ?_
 unfold Lk Rt
 simp(disch:=omega)only[go_sem,simprocAttr]
 refine ak ?_
 refine D.P (u6) ?_
 refine ak ?_
 refine D.P (kX) ?_
 refine b0 ?_
 (repeat (apply ar.s true true;(·simp(disch:=omega)only[go_sem,simprocAttr,]<;>with_reducible rfl)))
 refine ar.c9 ?_
 refine b0 ?_
 refine ar.aZ6 1 4 4 rfl rfl ?_
 simp(disch:=omega)only[go_sem,simprocAttr]
 refine ak ?_
 refine D.P (wT) ?_
 refine ak ?_
 refine D.P (yE) ?_
 refine ak ?_
 refine D.P (kY) ?_
 refine ak ?_
 refine D.P (wU) ?_
 refine ak ?_
 exact D.rx
end
section
theorem Tv {l:List bJ}{v:bJ}{m:bw}(h:(varOf l m).isSome=true):varOf (l++[v]) m=varOf l m:=by
 unfold varOf at h ⊢
 rw[List.find?_append]
 cases bu:l.find? fun w=>decide (w.name=m) with
 |none=>rw[bu]at h; cases h
 |some w=>rfl
theorem aW5 {l:List bJ}{v:bJ}{m:bw}(h:v.name≠m):(varOf (l++[v]) m).isSome=(varOf l m).isSome:=by
 unfold varOf
 rw[List.find?_append]
 cases bu:l.find? fun w=>decide (w.name=m) with
 |none=>simp [h]
 |some w=>rfl
theorem ar9 {x:cQ}{v:bJ}{g:di}{r:Int}{ps:Option (List (bw×Int))}{m:bw}{k:Int}(h:pk ⟨x,g,r,ps⟩ m= .ok k):pk ⟨x.more v,g,r,ps⟩ m= .ok k:=by
 unfold pk at h ⊢
 simp only[ef.look]at h ⊢
 split at h
 ·exact h
 ·simp only[cQ.more]
  split at h
  ·rename_i w hw
   rw[Tv (by rw[hw]; rfl),hw]
   exact h
  ·cases h
theorem an8 {x:cQ}{v:bJ}{g:di}{r:Int}{ps:Option (List (bw×Int))}{k:Int}{o m:bw}{bH:List Int}{q:Int}(h:pf ⟨x,g,r,ps⟩ k o m bH= .ok q):pf ⟨x.more v,g,r,ps⟩ k o m bH= .ok q:=by
 unfold pf at h ⊢
 by_cases aa:k=2
 ·simpa only[if_pos aa] using h
 by_cases aD:k=3
 ·simp only[if_neg aa,if_pos aD]at h ⊢
  exact ar9 h
 ·simp only[if_neg aa,if_neg aD]at h ⊢
  exact h
mutual
theorem xv {x:cQ}{v:bJ}{g:di}{r:Int}{ps:Option (List (bw×Int))}: ∀(e:au) (q:Int),kd ⟨x,g,r,ps⟩ e= .ok q→kd ⟨x.more v,g,r,ps⟩ e= .ok q
 | .mk k o m t n l,q,h=>by
  simp only[kd]at h ⊢
  obtain⟨bH,U,aa⟩:=ek.1 h
  exact ek.2 ⟨bH,NT l bH U,an8 aa⟩
theorem NT {x:cQ}{v:bJ}{g:di}{r:Int}{ps:Option (List (bw×Int))}: ∀(l:List au) (q:List Int),lf ⟨x,g,r,ps⟩ l= .ok q→lf ⟨x.more v,g,r,ps⟩ l= .ok q
 |[],q,h=>by simpa only[lf] using h
 |e::l,q,h=>by
  simp only[lf]at h ⊢
  obtain⟨a,U,aa⟩:=ek.1 h
  obtain⟨b,aD,bA⟩:=ek.1 aa
  exact ek.2 ⟨a,xv e a U,ek.2 ⟨b,NT l b aD,bA⟩⟩
end
theorem Uk {x:cQ}{v:bJ}{g:di}{r:Int}{ps:Option (List (bw×Int))}{n:bw}{e:au}(h:qn ⟨x,g,r,ps⟩ n e= .ok ()):qn ⟨x.more v,g,r,ps⟩ n e= .ok ():=by
 unfold qn at h ⊢
 simp only[ef.look]at h ⊢
 obtain⟨_,U,h⟩:=ek.1 h
 obtain⟨_,aa,h⟩:=ek.1 h
 obtain⟨k,aD,bA⟩:=ek.1 h
 have ap:=sQ.1 U
 have ay:=sQ.1 aa
 have ao:(varOf x.vars n).isSome=true:=by
  rw[Bool.or_eq_true]at ap
  rcases ap with ap|ap
  ·rw[ap]at ay; cases ay
  ·exact ap
 have ad:=Tv (v:=v) ao
 refine ek.2 ⟨(),sQ.2 ?_,ek.2 ⟨(),sQ.2 ay,ek.2 ⟨k,xv e k aD,?_⟩⟩⟩
 ·simp only[cQ.more,ad,ao,Bool.or_true]
 ·simp only[cQ.more,ad]
  exact bA
mutual
theorem aN6 {x:cQ}{v:bJ}{g:di}{r:Int}{ps:Option (List (bw×Int))}: ∀(s:ai),qc ⟨x,g,r,ps⟩ s= .ok ()→qc ⟨x.more v,g,r,ps⟩ s= .ok ()
 | .mk k m e t a b,h=>by
  simp only[qc]at h ⊢
  by_cases U:k=1
  ·simp only[if_pos U]at h ⊢
   exact Uk h
  simp only[if_neg U]at h ⊢
  obtain⟨_,aa,h⟩:=ek.1 h
  obtain⟨_,aD,bA⟩:=ek.1 h
  refine ek.2 ⟨(),?_,ek.2 ⟨(),CN a aD,CN b bA⟩⟩
  split
  ·rename_i av
   rw[if_pos av]at aa
   obtain⟨q,b6,dx⟩:=ek.1 aa
   exact ek.2 ⟨q,xv e q b6,dx⟩
  ·rename_i av
   rw[if_neg av]at aa
   split
   ·rename_i av
    rw[if_pos av]at aa
    obtain⟨q,b6,dx⟩:=ek.1 aa
    exact ek.2 ⟨q,xv e q b6,dx⟩
   ·rfl
theorem CN {x:cQ}{v:bJ}{g:di}{r:Int}{ps:Option (List (bw×Int))}: ∀(l:List ai),j4 ⟨x,g,r,ps⟩ l= .ok ()→j4 ⟨x.more v,g,r,ps⟩ l= .ok ()
 |[],h=>by simp only[j4]
 |s::l,h=>by
  simp only[j4]at h ⊢
  obtain⟨_,U,aa⟩:=ek.1 h
  exact ek.2 ⟨(),aN6 s U,CN l aa⟩
end
theorem Pt {vars:List bJ}{v:bJ}: ∀(ps:List bw) (cg:List Fd) (acc m:List (bw×Int)),(∀p∈ps,v.name≠p)→nF vars acc ps cg= .ok m→nF (vars++[v]) acc ps cg= .ok m
 |[],cg,acc,m,_,h=>by simpa only[nF] using h
 |p::ps,[],acc,m,_,h=>by simpa only[nF] using h
 |p::ps,f::cg,acc,m,a1,h=>by
  simp only[nF]at h ⊢
  obtain⟨_,U,aa⟩:=ek.1 h
  exact ek.2 ⟨(),by rw[aW5 (a1 p (by simp))]; exact U,Pt ps cg _ m (fun q bu=>a1 q (by simp [bu])) aa⟩
theorem ZV {x:cQ}{v:bJ}{g:di}{r:Int}{ps:Option (List (bw×Int))}{a:List bS}{h:bS}(a1: ∀p∈h.ps,v.name≠p) (k:mo ⟨x,g,r,ps⟩ a h= .ok ()):mo ⟨x.more v,g,r,ps⟩ a h= .ok ():=by
 unfold mo at k ⊢
 obtain⟨d,U,k⟩:=ek.1 k
 obtain⟨_,aa,k⟩:=ek.1 k
 obtain⟨_,aD,k⟩:=ek.1 k
 obtain⟨m,bA,b6⟩:=ek.1 k
 exact ek.2 ⟨d,U,ek.2 ⟨(),aa,ek.2 ⟨(),aD,ek.2 ⟨m,Pt _ _ _ m a1 bA,CN _ b6⟩⟩⟩⟩
theorem Im {x:cQ}{v:bJ}{g:di}{r:Int}{ps:Option (List (bw×Int))}{m:bw}: ∀(l:List au) (cg:List Fd),lq ⟨x,g,r,ps⟩ m l cg= .ok ()→lq ⟨x.more v,g,r,ps⟩ m l cg= .ok ()
 |[],_,_=>by simp only[lq]
 | _:: _,[],_=>by simp only[lq]
 |e::l,f::cg,h=>by
  simp only[lq]at h ⊢
  obtain⟨k,U,h⟩:=ek.1 h
  obtain⟨_,aa,aD⟩:=ek.1 h
  exact ek.2 ⟨k,xv e k U,ek.2 ⟨(),aa,Im l cg aD⟩⟩
theorem TB {x:cQ}{v:bJ}{g:di}{r:Int}{ps:Option (List (bw×Int))}: ∀(l:List au),ni ⟨x,g,r,ps⟩ l= .ok ()→ni ⟨x.more v,g,r,ps⟩ l= .ok ()
 |[],_=>by simp only[ni]
 |e::l,h=>by
  simp only[ni]at h ⊢
  obtain⟨k,U,h⟩:=ek.1 h
  obtain⟨_,aa,aD⟩:=ek.1 h
  exact ek.2 ⟨k,xv e k U,ek.2 ⟨(),aa,TB l aD⟩⟩
theorem at5 {x:cQ}{v:bJ}{g:di}{r:Int}{ps:Option (List (bw×Int))}{o:cn}(k:n7 ⟨x,g,r,ps⟩ o= .ok ()):n7 ⟨x.more v,g,r,ps⟩ o= .ok ():=by
 unfold n7 at k ⊢
 obtain⟨d,U,k⟩:=ek.1 k
 obtain⟨_,aa,k⟩:=ek.1 k
 obtain⟨_,aD,bA⟩:=ek.1 k
 exact ek.2 ⟨d,U,ek.2 ⟨(),aa,ek.2 ⟨(),Im _ _ aD,TB _ bA⟩⟩⟩
theorem Tx {v:bJ}(ad:(nI v.fB v.b3 v.af&&ve v)=true): ∀(l a:List bJ),(∀w∈a,w.name≠v.name)→(∀w∈l,w.name≠v.name)→nh a l= .ok ()→nh a (l++[v])= .ok ()
 |[],a,aS,_,_=>by
  simp only[bd6,nh]
  refine ek.2 ⟨(),sQ.2 ?_,ek.2 ⟨(),sQ.2 ad,rfl⟩⟩
  rw[bg6,bo5,ne_eq,br0]
  rintro⟨w,hw,e⟩
  exact aS w hw (by simpa using e)
 |w::l,a,aS,aG,h=>by
  simp only[bd2,nh]at h ⊢
  obtain⟨_,U,h⟩:=ek.1 h
  obtain⟨_,aa,aD⟩:=ek.1 h
  refine ek.2 ⟨(),U,ek.2 ⟨(),aa,Tx ad l (a++[w]) (fun u hu=> ?_) (fun u hu=>aG u (by simp [hu])) aD⟩⟩
  rcases List.mem_append.1 hu with hu|hu
  ·exact aS u hu
  ·rw[List.mem_singleton.1 hu]
   exact aG w (by simp)
def uG (x:cQ) (n:bw):Bool:=x.vars.any (fun w=>decide (w.name=n))||x.ao.any (fun h=>h.ps.any fun p=>decide (p=n))
theorem Xx {x:cQ}{g:di}(h:(j9 x g).2=0) (hu:uG x mE.name=false) (bo:n0 (x.more mE)=true):(j9 (x.more mE) g).2=0:=by
 obtain⟨_,a,b⟩:=A2.1 h
 obtain⟨br,bB,cu,eO,hs⟩:=F2 b
 obtain⟨pe,_,zn⟩:=(xd _ _ _).1 eO
 have am8:=(zG _ _).1 hs
 unfold uG at hu
 rw[Bool.or_eq_false_iff,bo5,bo5,ne_eq,ne_eq,br0,br0]at hu
 obtain⟨s6,uF⟩:=hu
 refine A2.2 ⟨bo,a,Pw br bB (Tx (by kernel_rfl) x.vars [] (fun w hw=>by cases hw) (fun w hw e=>s6 ⟨w,hw,by simpa using e⟩) cu) ((xd _ _ _).2 ⟨fun y a8=>ZV (x:=x) (fun p hp e=>uF ⟨y,a8,List.any_eq_true.2 ⟨p,hp,by simpa using e.symm⟩⟩) (pe y a8),(fun _ _ o aj=>by cases aj),zn⟩) ((zG _ _).2 fun o aj=>at5 (x:=x) (am8 o aj))⟩
end
section
attribute [local go_sem] au.cO ai.cO au.cx ai.cx cf dn fo gv dF of_flat bJ.row dW fX io
attribute [local go_sem] hE gz gy hB fK fZ e9 dM Fd.row eX fi df.row fc.row cj.row Aw
theorem Dk {α:Type}(f:α→Bool){l:List α}{i:Nat}{v:α}(h:l[i]? =some v):(l.drop i).any f=(f v||(l.drop (i+1)).any f):=by
 rw[eN h,List.any_cons]
theorem aY6 (x:cQ) (n:bw) (ad:x.vars.length≤1000000) (a6:x.ao.length≤1000000) (hp: ∀h∈x.ao,h.ps.length≤1000000):Pure bb4 38 [x.eL,.str n] (.bool (uG x n)):=by
 obtain⟨R,ag⟩: ∃R,R=uG x n:=⟨_,rfl⟩
 rw[←ag]
 unfold uG at ag
 rw[oa]
 have jO:((x.vars.map bJ.row).length:Int)=(x.vars.length:Int):=by rw[bb5]
 have ko:((x.ao.map bS.row).length:Int)=(x.ao.length:Int):=by rw[bb5]
 refine cw be Tryz.func38 WX (by simp only[b2,I.flat,dW,dF,of_flat,bc0]) rfl ?_
 unfold LQ R3
 simp(disch:=omega)only[go_sem,simprocAttr]
 refine ak ?_
 refine ar.cU (X:=Nat) 0 (fun i=>[(1,.str n),(2,.ptr 0 0),(5,.int .i64 (i:Int))]) (fun _=>[(0,26,[.str x.name,.str x.bO,.str x.fM,.aq 7 (x.vars.map bJ.row),.aq 4 (x.ao.map bS.row),.aq 4 (x.os.map cn.row)])]) (fun _=>[]) (fun i=>i≤x.vars.length∧R=((x.vars.drop i).any (fun w=>decide (w.name=n))||x.ao.any (fun h=>h.ps.any fun p=>decide (p=n)))) (fun i=>x.vars.length-i) ⟨bc3 _,ag⟩ ⟨rfl,rfl,rfl,trivial⟩ ⟨rfl,trivial⟩ trivial ?_
 clear ag
 rintro i ⟨af,ag⟩
 try simp only at af ag ⊢
 cases aw:x.vars[i]? with
 |some v=>
  have cz:=(List.getElem?_eq_some_iff.1 aw).1
  have d1:(i:Int)<(x.vars.length:Int):=by omega
  rw[Dk _ aw]at ag
  by_cases a1:v.name=n
  ·rw[decide_eq_true a1]at ag
   (have ae:=jO;have z2:=d1;have z3:=a1;refine ep ?_;clear ae z2 z3)
   refine D.r ?_
   exact⟨_,rfl,.aF (by rw[ag]; rfl) rfl,trivial,trivial⟩
  ·rw[decide_eq_false a1,bh3]at ag
   (have ae:=jO;have z2:=d1;have z3:=a1;refine ep ?_;clear ae z2 z3)
   refine ar.eC (i+1) ⟨by omega,ag⟩ ⟨rfl,rfl,by simp only[bb8]; rfl,trivial⟩ ⟨rfl,trivial⟩ trivial rfl rfl (by show x.vars.length-(i+1)<x.vars.length-i; omega)
 |none=>
 have b4:=List.getElem?_eq_none_iff.1 aw
 have d1: ¬(i:Int)<(x.vars.length:Int):=by omega
 rw[bc6 b4,bt3,bh3]at ag
 (have ae:=jO;have z2:=d1;refine dQ ?_;clear ae z2)
 refine ar.cU (X:=Nat) 0 (fun i=>[(1,.str n),(2,.ptr 0 0),(6,.int .i64 (i:Int))]) (fun _=>[(0,26,[.str x.name,.str x.bO,.str x.fM,.aq 7 (x.vars.map bJ.row),.aq 4 (x.ao.map bS.row),.aq 4 (x.os.map cn.row)])]) (fun _=>[]) (fun i=>i≤x.ao.length∧R=(x.ao.drop i).any (fun h=>h.ps.any fun p=>decide (p=n))) (fun i=>x.ao.length-i) ⟨bc3 _,ag⟩ ⟨rfl,rfl,rfl,trivial⟩ ⟨rfl,trivial⟩ trivial ?_
 clear ag b4 aw d1 af
 rintro i ⟨af,ag⟩
 try simp only at af ag ⊢
 cases aw:x.ao[i]? with
 |some h=>
  have cz:=(List.getElem?_eq_some_iff.1 aw).1
  have a60:=hp h (bc2 aw)
  have d1:(i:Int)<(x.ao.length:Int):=by omega
  have sf:((h.ps.map cf).length:Int)=(h.ps.length:Int):=by rw[bb5]
  rw[Dk _ aw]at ag
  (have ae:=ko;have z2:=d1;refine dQ ?_;clear ae z2)
  refine ar.cU (X:=Nat) 0 (fun k=>[(1,.str n),(2,.ptr 0 0),(6,.int .i64 (i:Int)),(7,.int .i64 (k:Int))]) (fun _=>[(0,26,[.str x.name,.str x.bO,.str x.fM,.aq 7 (x.vars.map bJ.row),.aq 4 (x.ao.map bS.row),.aq 4 (x.os.map cn.row)])]) (fun _=>[]) (fun k=>k≤h.ps.length∧R=((h.ps.drop k).any (fun p=>decide (p=n))||(x.ao.drop (i+1)).any (fun h=>h.ps.any fun p=>decide (p=n)))) (fun k=>h.ps.length-k) ⟨bc3 _,ag⟩ ⟨rfl,rfl,rfl,rfl,trivial⟩ ⟨rfl,trivial⟩ trivial ?_
  clear ag
  rintro k ⟨av,ag⟩
  try simp only at av ag ⊢
  cases hw:h.ps[k]? with
  |some p=>
   have Fb:=(List.getElem?_eq_some_iff.1 hw).1
   have d2:(k:Int)<(h.ps.length:Int):=by omega
   rw[Dk _ hw]at ag
   by_cases a1:p=n
   ·rw[decide_eq_true a1]at ag
    (have ae:=sf;have z2:=d2;have z3:=a1;refine ep ?_;clear ae z2 z3)
    refine D.r ?_
    exact⟨_,rfl,.aF (by rw[ag]; rfl) rfl,trivial,trivial⟩
   ·rw[decide_eq_false a1,bh3]at ag
    (have ae:=sf;have z2:=d2;have z3:=a1;refine ep ?_;clear ae z2 z3)
    refine ar.eC (k+1) ⟨by omega,ag⟩ ⟨rfl,rfl,rfl,by simp only[bb8]; rfl,trivial⟩ ⟨rfl,trivial⟩ trivial rfl rfl (by show h.ps.length-(k+1)<h.ps.length-k; omega)
  |none=>
   have ab5:=List.getElem?_eq_none_iff.1 hw
   have d2: ¬(k:Int)<(h.ps.length:Int):=by omega
   rw[bc6 ab5,bt3,bh3]at ag
   (have ae:=sf;have z2:=d2;refine dQ ?_;clear ae z2)
   refine ar.eC (i+1) ⟨by omega,ag⟩ ⟨rfl,rfl,by simp only[bb8]; rfl,trivial⟩ ⟨rfl,trivial⟩ trivial rfl rfl (by show x.ao.length-(i+1)<x.ao.length-i; omega)
 |none=>
 have b4:=List.getElem?_eq_none_iff.1 aw
 have d1: ¬(i:Int)<(x.ao.length:Int):=by omega
 rw[bc6 b4,bt3]at ag
 (have ae:=ko;have z2:=d1;refine dQ ?_;clear ae z2)
 refine D.r ?_
 exact⟨_,rfl,.aF (by rw[ag]; rfl) rfl,trivial,trivial⟩
end
section
attribute [local go_sem] au.cO ai.cO au.cx ai.cx cf dn fo gv dF of_flat bJ.row dW fX io
attribute [local go_sem] hE gz gy hB fK fZ e9 dM Fd.row eX fi df.row fc.row cj.row Aw
theorem drop_one {α:Type}(l:List α) (k:Nat):(l.take k++l.drop (k+1)).Sublist l:=by
 rw[←List.eraseIdx_eq_take_drop_succ]
 exact List.eraseIdx_sublist _ _
theorem JU {α β:Type}(f:α→β) (l:List α) (k:Nat):(l.map f).take k++(l.map f).drop (k+1)=(l.take k++l.drop (k+1)).map f:=by
 rw[be5,List.map_take,List.map_drop]
theorem Oi {a:Int}{n:Nat}(aW:0≤a) (a1:0<n): ∃k:Nat,a.tmod (n:Int)=(k:Int)∧k<n:=by
 rw[Int.tmod_eq_emod_of_nonneg aW]
 have U:=Int.emod_nonneg a (show (n:Int)≠0 by omega)
 have aa:=Int.emod_lt_of_pos a (show (0:Int)<(n:Int) by omega)
 exact⟨(a%(n:Int)).toNat,by omega,by omega⟩
theorem aX0 {R:Nat}(ag:R≤140737488355328) (rJ:10000≤R) (x:cQ) (g:di) (a:Int) (BE:0≤a) (MT:a<256) (ab:x.ok R) (EV:fk x.cells≤100000000) (ab6:fk g.cells≤100000000):Pure bb4 10 [x.eL,g.eL,.int .u8 a] (.bool true):=by
 obtain⟨BK,a62⟩:=Zh ab6
 have f1:=aY2 ag x g ab BK (by omega)
 have e4:=Cq ag x ab
 have MI:=aY1
 cases aT:(pU x&&tH g) with
 |false=>
  rw[aT]at f1
  rw[oa]at*
  simp only[rI]at*
  refine cw be Tryz.func10 mc (by simp only[b2,I.flat,dW,dF,of_flat,dn,e9,fK,fZ,bc0]) rfl ?_
  unfold D5 Gu
  simp(disch:=omega)only[go_sem,simprocAttr]
  refine ak ?_
  refine D.P (MI) ?_
  refine ak ?_
  refine D.P (f1) ?_
  refine ak ?_
  exact D.rx
 |true=>
 rw[aT]at f1
 simp only[bb6]at aT
 have hb:=UQ EV aT.1
 obtain⟨v1,v2,v3⟩:=YY aT.1
 have kX:=xL x g hb BK
 have M2: ∀n e,j9 x g=(n,e)→e=0→(j9 x g).2=0:=fun n e h k=>by rw[h]; exact k
 rcases hC:j9 x g with ⟨qS,ap⟩
 rw[hC]at kX
 simp only[tr]at kX
 have ba4:uG x mE.name=uG x mE.name:=rfl
 have Ak:=aY6 x mE.name hb.lZ hb.lY hb.hp
 have zO:=aC7 (x.more mE) (Oj hb v1) (fun h hm=>by have:=(ab.ao h hm).1; omega) (fun o hm=>by have:=(ab.os o hm).1; omega)
 have l3: ∀(ao:List bS) (os:List cn),ao.Sublist x.ao→os.Sublist x.os→Pure bb4 21 [(x.sub ao os).eL] (x.sub ao os).eL∧Pure bb4 31 [(x.sub ao os).eL,g.eL] (tr (j9 (x.sub ao os) g)):=fun ao os s1 s2=>by
  have aK:=s1.length_le
  have fR:=s2.length_le
  exact⟨Cq ag _ (aO4 ab (fun y a8=>s1.subset a8) (fun y a8=>s2.subset a8) (by omega) (by omega)),xL _ g (aO3 hb (fun y a8=>s1.subset a8) (fun y a8=>s2.subset a8) (by omega) (by omega)) BK⟩
 have li:Pure bb4 21 [(x.more mE).eL] (x.more mE).eL∧Pure bb4 31 [(x.more mE).eL,g.eL] (tr (j9 (x.more mE) g)):=⟨Cq ag _ (ar0 rJ ab v1),xL _ g (Oj hb v1) BK⟩
 have ko:((x.ao.map bS.row).length:Int)=(x.ao.length:Int):=by rw[bb5]
 have oh:((x.os.map cn.row).length:Int)=(x.os.length:Int):=by rw[bb5]
 have qQ:(x.vars.map bJ.row).length=x.vars.length:=bb5 _
 rw[oa]at f1 e4 kX Ak ⊢
 simp only[rI]at*
 refine cw be Tryz.func10 mc (by simp only[b2,I.flat,dW,dF,of_flat,dn,e9,fK,fZ,bc0]) rfl ?_
 unfold D5 Gu
 simp(disch:=omega)only[go_sem,simprocAttr]
 refine ak ?_
 refine D.P (MI) ?_
 refine ak ?_
 refine D.P (f1) ?_
 refine b0 ?_
 (repeat (apply ar.s true true;(·simp(disch:=omega)only[go_sem,simprocAttr,]<;>with_reducible rfl)))
 refine ar.gC (anns:=[(.agg [.str x.name,.str x.bO,.str x.fM,.aq 7 (x.vars.map bJ.row),.aq 4 (x.ao.map bS.row),.aq 4 (x.os.map cn.row)]),.c3 [.str qS,.int .i64 ap]]) ?_
 refine b0 ?_
 refine D.ei (e4) ?_
 refine b0 ?_
 refine D.ei (kX) ?_
 by_cases aW:ap=0
 rotate_left
 ·(have ae:=aW;refine bt ?_;clear ae)
  exact D.rx
 have ir:=M2 qS ap hC aW
 clear M2 hC
 obtain⟨uk,SE,dJ⟩: ∃uk:List cn,uk.Sublist x.os∧((0<x.os.length∧∃k:Nat,a.tmod (x.os.length:Int)=(k:Int)∧k<x.os.length∧(x.os.map cn.row).take k++(x.os.map cn.row).drop (k+1)=uk.map cn.row)∨(¬ 0<x.os.length∧x.os.map cn.row=uk.map cn.row)):=by
  by_cases a1:0<x.os.length
  ·obtain⟨k,br,bB⟩:=Oi BE a1
   exact⟨_,drop_one x.os k,.inl ⟨a1,k,br,bB,JU _ _ _⟩⟩
  ·exact⟨x.os,List.Sublist.refl _,.inr ⟨a1,rfl⟩⟩
 obtain⟨dD,SF,w6⟩: ∃dD:List bS,dD.Sublist x.ao∧((0<x.ao.length∧∃k:Nat,a.tmod (x.ao.length:Int)=(k:Int)∧k<x.ao.length∧(x.ao.map bS.row).take k++(x.ao.map bS.row).drop (k+1)=dD.map bS.row)∨(¬ 0<x.ao.length∧x.ao.map bS.row=dD.map bS.row)):=by
  by_cases a1:0<x.ao.length
  ·obtain⟨k,br,bB⟩:=Oi BE a1
   exact⟨_,drop_one x.ao k,.inl ⟨a1,k,br,bB,JU _ _ _⟩⟩
  ·exact⟨x.ao,List.Sublist.refl _,.inr ⟨a1,rfl⟩⟩
 have yQ:=Jf ir (List.Sublist.refl x.ao) SE
 have yR:=Jf ir SF (List.Sublist.refl x.os)
 have yS:=Xx (x:=x) (g:=g) ir
 obtain⟨fU,hX⟩:=l3 x.ao uk (List.Sublist.refl _) SE
 obtain⟨fV,kg⟩:=l3 dD x.os SF (List.Sublist.refl _)
 obtain⟨ul,xG⟩:=li
 clear l3
 rcases cb:j9 (x.sub x.ao uk) g with ⟨p4,ay⟩
 rcases eW:j9 (x.sub dD x.os) g with ⟨Cb,b1⟩
 rcases gE:j9 (x.more mE) g with ⟨n4,dC⟩
 rw[cb]at yQ hX
 rw[eW]at yR kg
 rw[gE]at yS xG
 clear cb eW gE
 simp only at yQ yR yS
 subst yQ
 subst yR
 generalize uG x mE.name=us at Ak yS
 generalize n0 (x.more mE)=gs at zO yS
 simp only[tr]at hX kg xG
 rw[oa]at fU hX fV kg ul xG zO
 simp only[cQ.sub,cQ.more,be5,bd4,bg5,mE]at fU hX fV kg ul xG zO Ak
 try (simp (disch:=omega) only[go_sem,simprocAttr]at ul)
 try (simp (disch:=omega) only[go_sem,simprocAttr]at xG)
 try (simp (disch:=omega) only[go_sem,simprocAttr]at zO)
 rcases dJ with ⟨a1,k,br,bB,cu⟩|⟨a1,cu⟩
 have d1:(0:Int)<(x.os.length:Int):=by omega
 have d2: ¬(x.os.length:Int)=0:=by omega
 (have ae:=aW;have z2:=oh;have z3:=And.intro d1 (And.intro d2 br);refine ep ?_;clear ae z2 z3)
 (apply al.uw (k);(·simp(disch:=omega)only[go_sem,simprocAttr]<;>with_reducible rfl);(·simp(disch:=omega)only[go_sem,simprocAttr]<;>with_reducible rfl);(·omega);(·(try simp only[bb5]);omega))
 refine b0 ?_
 refine D.iE ?_
 refine b0 ?_
 (apply al.G2 (k+1);(·simp(disch:=omega)only[go_sem,simprocAttr]<;>with_reducible rfl);(·simp(disch:=omega)only[go_sem,simprocAttr]<;>with_reducible rfl);(·omega);(·(try simp only[bb5]);omega))
 refine b0 ?_
 refine D.iE ?_
 refine b0 ?_
 refine ar.x5 2 5 4 _ rfl rfl (by rw[cu]; exact of_flat _) ?_
 simp(disch:=omega)only[go_sem,simprocAttr,cu]
 rotate_left
 have d1: ¬(0:Int)<(x.os.length:Int):=by omega
 rotate_left
 all_goals rcases w6 with ⟨hm,j,rS,ue,vF⟩|⟨hm,vF⟩
 have m1:(0:Int)<(x.ao.length:Int):=by omega
 have m2: ¬(x.ao.length:Int)=0:=by omega
 (have ae:=ko;have z2:=m1;have z3:=And.intro m2 rS;refine ep ?_;clear ae z2 z3)
 (apply al.uw (j);(·simp(disch:=omega)only[go_sem,simprocAttr]<;>with_reducible rfl);(·simp(disch:=omega)only[go_sem,simprocAttr]<;>with_reducible rfl);(·omega);(·(try simp only[bb5]);omega))
 refine b0 ?_
 refine D.iE ?_
 refine b0 ?_
 (apply al.G2 (j+1);(·simp(disch:=omega)only[go_sem,simprocAttr]<;>with_reducible rfl);(·simp(disch:=omega)only[go_sem,simprocAttr]<;>with_reducible rfl);(·omega);(·(try simp only[bb5]);omega))
 refine b0 ?_
 refine D.iE ?_
 refine b0 ?_
 refine ar.x5 3 4 4 _ rfl rfl (by rw[vF]; exact dF _) ?_
 simp(disch:=omega)only[go_sem,simprocAttr,vF]
 (repeat' first|refine D.S ?_|refine D.fg true true ?_|refine al.nil ?_|refine ar.c9 ?_|refine D.W ?_|refine D.Z ?_|refine D.G ?_ ?_|refine D.X ‹_› ?_|refine D.ja ‹_› ?_|refine D.jb ‹_› ?_|intro h)
 rotate_left
 have m1: ¬(0:Int)<(x.ao.length:Int):=by omega
 (repeat' first|(apply al.s rfl;(·simp(disch:=omega)only[go_sem,simprocAttr,ko,m1]<;>with_reducible rfl))|(apply ar.s true true;(·simp(disch:=omega)only[go_sem,simprocAttr,ko,m1]<;>with_reducible rfl))|apply al.nil|(refine ar.c9 ?_)|(apply al.ft;(·simp(disch:=omega)only[go_sem,simprocAttr,ko,m1]<;>with_reducible rfl))|(apply al.fu;(·rfl);(·simp(disch:=omega)only[go_sem,simprocAttr,ko,m1]<;>with_reducible rfl))|(apply al.gs;(·simp(disch:=omega)only[go_sem,simprocAttr,ko,m1]<;>with_reducible rfl))|((first|apply al.fw|apply al.fx|apply al.fy);(·simp(disch:=omega)only[go_sem,simprocAttr,ko,m1]<;>with_reducible rfl);(·simp(disch:=omega)only[go_sem,simprocAttr,ko,m1]<;>with_reducible rfl);(·assumption);(·omega))|intro h)
 rotate_left
 have m1:(0:Int)<(x.ao.length:Int):=by omega
 have m2: ¬(x.ao.length:Int)=0:=by omega
 (have ae:=aW;have z2:=oh;have z3:=And.intro d1 (And.intro ko (And.intro m1 (And.intro m2 rS)));refine ep ?_;clear ae z2 z3)
 (apply al.uw (j);(·simp(disch:=omega)only[go_sem,simprocAttr]<;>with_reducible rfl);(·simp(disch:=omega)only[go_sem,simprocAttr]<;>with_reducible rfl);(·omega);(·(try simp only[bb5]);omega))
 refine b0 ?_
 refine D.iE ?_
 refine b0 ?_
 (apply al.G2 (j+1);(·simp(disch:=omega)only[go_sem,simprocAttr]<;>with_reducible rfl);(·simp(disch:=omega)only[go_sem,simprocAttr]<;>with_reducible rfl);(·omega);(·(try simp only[bb5]);omega))
 refine b0 ?_
 refine D.iE ?_
 refine b0 ?_
 refine ar.x5 3 4 4 _ rfl rfl (by rw[vF]; exact dF _) ?_
 simp(disch:=omega)only[go_sem,simprocAttr,vF]
 (repeat' first|refine D.S ?_|refine D.fg true true ?_|refine al.nil ?_|refine ar.c9 ?_|refine D.W ?_|refine D.Z ?_|refine D.G ?_ ?_|refine D.X ‹_› ?_|refine D.ja ‹_› ?_|refine D.jb ‹_› ?_|intro h)
 rotate_left
 have m1: ¬(0:Int)<(x.ao.length:Int):=by omega
 (repeat' first|(apply al.s rfl;(·simp(disch:=omega)only[go_sem,simprocAttr,aW,oh,d1,ko,m1]<;>with_reducible rfl))|(apply ar.s true true;(·simp(disch:=omega)only[go_sem,simprocAttr,aW,oh,d1,ko,m1]<;>with_reducible rfl))|apply al.nil|(refine ar.c9 ?_)|(apply al.ft;(·simp(disch:=omega)only[go_sem,simprocAttr,aW,oh,d1,ko,m1]<;>with_reducible rfl))|(apply al.fu;(·rfl);(·simp(disch:=omega)only[go_sem,simprocAttr,aW,oh,d1,ko,m1]<;>with_reducible rfl))|(apply al.gs;(·simp(disch:=omega)only[go_sem,simprocAttr,aW,oh,d1,ko,m1]<;>with_reducible rfl))|((first|apply al.fw|apply al.fx|apply al.fy);(·simp(disch:=omega)only[go_sem,simprocAttr,aW,oh,d1,ko,m1]<;>with_reducible rfl);(·simp(disch:=omega)only[go_sem,simprocAttr,aW,oh,d1,ko,m1]<;>with_reducible rfl);(·assumption);(·omega))|intro h)
 rotate_left
 all_goals
  refine D.iE ?_
  refine b0 ?_
  refine D.iE ?_
  refine b0 ?_
  refine ar.x5 4 3 7 _ rfl rfl (Aw _) ?_
  simp(disch:=omega)only[go_sem,simprocAttr]
  refine ar.cut 5 0 [(3,.ptr 0 0),(4,.ptr 1 0),(9,.ptr 2 0),(10,.ptr 3 0),(11,.ptr 4 0)] [(0,26,[.str x.name,.str x.bO,.str x.fM,.aq 7 (x.vars.map bJ.row),.aq 4 (x.ao.map bS.row),.aq 4 (x.os.map cn.row)]),(1,32,[.str g.name,.aq 1 (g.dl.map cf),.aq 5 (g.decls.map cj.row),.int .i64 g.jA,.int .i64 g.start,.int .i64 g.fin,.aq 6 (g.cD.map df.row),.aq 3 (g.jm.map fc.row)]),(2,26,[.str x.name,.str x.bO,.str x.fM,.aq 7 (x.vars.map bJ.row),.aq 4 (x.ao.map bS.row),.aq 4 (uk.map cn.row)]),(3,26,[.str x.name,.str x.bO,.str x.fM,.aq 7 (x.vars.map bJ.row),.aq 4 (dD.map bS.row),.aq 4 (x.os.map cn.row)]),(4,26,[.str x.name,.str x.bO,.str x.fM,.aq 7 (x.vars.map bJ.row++[[.str [122,122,122,122,122,122,122,122,122,122,122,122,122,122,122,122],.int .i64 1,.int .i64 0,.int .i64 1,.int .i64 1,.int .i64 0,.str []]]),.aq 4 (x.ao.map bS.row),.aq 4 (x.os.map cn.row)])] [] ⟨rfl,rfl,rfl,rfl,rfl,trivial⟩ (by first|exact⟨rfl,rfl,rfl,rfl,rfl,trivial⟩|(rw[←cu]; exact⟨rfl,rfl,rfl,rfl,rfl,trivial⟩)|(rw[←vF]; exact⟨rfl,rfl,rfl,rfl,rfl,trivial⟩)|(rw[←cu,←vF]; exact⟨rfl,rfl,rfl,rfl,rfl,trivial⟩)) trivial rfl (by simp only[im,dw,eA,eB,ia,I.du,dW,dF,of_flat,dn,e9,fK,fZ,Aw,go_sem]<;>rfl) ?_
  (repeat (apply ar.s true true;(·simp(disch:=omega)only[go_sem,simprocAttr,]<;>with_reducible rfl)))
  refine ar.gC (anns:=[.agg [.str x.name,.str x.bO,.str x.fM,.aq 7 (x.vars.map bJ.row),.aq 4 (x.ao.map bS.row),.aq 4 (uk.map cn.row)],.c3 [.str p4,.int .i64 0]]) ?_
  refine b0 ?_
  refine D.ei (fU) ?_
  refine b0 ?_
  refine D.ei (hX) ?_
  refine b0 ?_
  (repeat (apply ar.s true true;(·simp(disch:=omega)only[go_sem,simprocAttr,]<;>with_reducible rfl)))
  refine ar.gC (anns:=[.agg [.str x.name,.str x.bO,.str x.fM,.aq 7 (x.vars.map bJ.row),.aq 4 (dD.map bS.row),.aq 4 (x.os.map cn.row)],.c3 [.str Cb,.int .i64 0]]) ?_
  refine b0 ?_
  refine D.ei (fV) ?_
  refine b0 ?_
  refine D.ei (kg) ?_
  refine b0 ?_
  (repeat (apply ar.s true true;(·simp(disch:=omega)only[go_sem,simprocAttr,]<;>with_reducible rfl)))
  refine ar.gC (anns:=[.agg [.str x.name,.str x.bO,.str x.fM,.aq 7 (x.vars.map bJ.row++[[.str [122,122,122,122,122,122,122,122,122,122,122,122,122,122,122,122],.int .i64 1,.int .i64 0,.int .i64 1,.int .i64 1,.int .i64 0,.str []]]),.aq 4 (x.ao.map bS.row),.aq 4 (x.os.map cn.row)],.c3 [.str n4,.int .i64 dC]]) ?_
  refine b0 ?_
  refine D.ei (ul) ?_
  refine b0 ?_
  refine D.ei (xG) ?_
  by_cases bA:dC=0
  ·(have ae:=bA;refine bt ?_;clear ae)
   exact D.rx
  cases us with
  |true=>
   (have ae:=bA;refine bt ?_;clear ae)
   refine D.P (Ak) ?_
   refine ak ?_
   exact D.rx
  |false=>
   cases gs with
   |true=>exact absurd (yS rfl rfl) bA
   |false=>
    (have ae:=bA;refine bt ?_;clear ae)
    refine D.P (Ak) ?_
    refine ak ?_
    refine D.P (zO) ?_
    refine ak ?_
    exact D.rx
end
section
theorem Ts {a:Int}(h:(Lit.int .u8 a).wf=true):0≤a∧a<256:=by
 have aa:IntKind.u8.min≤a∧a≤IntKind.u8.max:=by simpa [Lit.wf] using h
 have ap:IntKind.u8.min=0:=by decide
 have ay:IntKind.u8.max=255:=by decide
 rw[ap,ay]at aa
 omega
theorem aX1 (x:cQ) (g:di) (ab:x.ok reachBytes) (U:fk x.cells≤1048576) (aa:fk g.cells≤1048576) (a:Int) (h:(Lit.int .u8 a).wf=true):Pure bb4 10 [x.eL,g.eL,.int .u8 a] (.bool true):=aX0 (R:=reachBytes) (by decide) (by decide) x g a (Ts h).1 (Ts h).2 ab (by omega) (by omega)
end
end Go.ba.T.N
