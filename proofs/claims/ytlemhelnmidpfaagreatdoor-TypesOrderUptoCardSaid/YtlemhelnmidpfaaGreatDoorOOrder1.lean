/- Part of a proof; own work. -/
import Derived.KernelRfl
import Derived.Test.YtlemhelnmidpfaaGreatDoorOOrder
set_option linter.unusedVariables false
set_option linter.unusedSimpArgs false
set_option maxHeartbeats 8000000
namespace Go.aO
open Go Go.aO.T.N
theorem jv {a:Int}(aU: -9223372036854775808≤a) (U:a<9223372036854775808):IntKind.i64.wrap a=a:=by
 simp only[IntKind.wrap,IntKind.bits,IntKind.signed]
 simp
 omega
mutual
theorem al.ni: ∀x:al,x.bJ≤100000000→x.am=(x.bJ:Int)-1
 | .mk _ _ _ _ _ l,h=>by
  simp only[al.bJ]at h
  have aC:=al.fT l
  simp only[al.am,al.bJ]
  rw[al.hL l (l.length:Int) (by omega) (by omega) (by omega)]
  omega
theorem al.hL: ∀(l:List al) (n:Int),al.bz l≤100000000→0≤n→n+(al.bz l:Int)≤1000000000000→al.gg l n=n+((al.bz l:Int)-l.length)
 |[],n,_,_,_=>by simp [al.gg,al.bz]
 |x::l,n,h,aU,U=>by
  simp only[al.bz]at h U
  have hp:1≤x.bJ:=by cases x; simp only[al.bJ]; omega
  rw[al.gg,al.ni x (by omega),jv (by omega) (by omega),al.hL l _ (by omega) (by omega) (by omega)]
  simp only[al.bz,List.length_cons]
  omega
end
mutual
theorem ai.ni: ∀x:ai,x.bJ≤100000000→x.am=(x.bJ:Int)-1
 | .mk _ _ x _ a b,h=>by
  simp only[ai.bJ]at h
  have hp:1≤x.bJ:=by cases x; simp only[al.bJ]; omega
  have aL:=ai.fT a
  have hb:=ai.fT b
  simp only[ai.am,ai.bJ]
  rw[al.ni x (by omega),ai.hL a (a.length:Int) (by omega) (by omega) (by omega),ai.hL b (b.length:Int) (by omega) (by omega) (by omega),jv (a:=1+ _) (by omega) (by omega),jv (a:=1+ _+ _) (by omega) (by omega),jv (by omega) (by omega)]
  omega
theorem ai.hL: ∀(l:List ai) (n:Int),ai.bz l≤100000000→0≤n→n+(ai.bz l:Int)≤1000000000000→ai.gg l n=n+((ai.bz l:Int)-l.length)
 |[],n,_,_,_=>by simp [ai.gg,ai.bz]
 |x::l,n,h,aU,U=>by
  simp only[ai.bz]at h U
  have hp:1≤x.bJ:=by cases x; simp only[ai.bJ]; omega
  rw[ai.gg,ai.ni x (by omega),jv (by omega) (by omega),ai.hL l _ (by omega) (by omega) (by omega)]
  simp only[ai.bz,List.length_cons]
  omega
end
def fp:List bL→Nat
 |[]=>0
 |h::l=>ai.bz h.body+fp l
def fq:List cf→Nat
 |[]=>0
 |o::l=>al.bz o.args+al.bz o.dk+fq l
theorem sj: ∀(l:List bL) (n:Int) (z:Int),fp l≤100000000→0≤n→n+(fp l:Int)≤1000000000000→kQ l n=some z→z=n+fp l∧∀h∈l,h.ps.length≤60∧ai.bz h.body≤fp l
 |[],n,z,_,_,_,h=>by
  simp only[kQ,Option.some.injEq]at h
  simp [fp,h]
 |h::l,n,z,hs,aU,U,hf=>by
  simp only[fp]at hs U
  simp only[kQ]at hf
  by_cases hp:60<h.ps.length
  ·rw[if_pos hp]at hf; cases hf
  rw[if_neg hp]at hf
  have aC:=ai.fT h.body
  rw[ai.hL h.body (h.body.length:Int) (by omega) (by omega) (by omega),jv (by omega) (by omega)]at hf
  obtain⟨e,k⟩:=sj l _ z (by omega) (by omega) (by omega) hf
  refine⟨by simp only[fp]; omega,fun g a7=> ?_⟩
  simp only[fp]
  rcases List.mem_cons.1 a7 with rfl|a7
  ·exact⟨by omega,by omega⟩
  ·have:=k g a7
   exact⟨this.1,by omega⟩
theorem sk: ∀(l:List cf) (n:Int),fq l≤100000000→0≤n→n+(fq l:Int)≤1000000000000→nq l n=n+fq l
 |[],n,_,_,_=>by simp [nq,fq]
 |o::l,n,hs,aU,U=>by
  simp only[fq]at hs U
  have aL:=al.fT o.args
  have hb:=al.fT o.dk
  rw[nq,al.hL o.args (o.args.length:Int) (by omega) (by omega) (by omega),al.hL o.dk (o.dk.length:Int) (by omega) (by omega) (by omega)]
  simp (disch:=omega) only[jv]
  rw[sk l _ (by omega) (by omega) (by omega)]
  simp only[fq]
  omega
theorem sX: ∀ {l:List cf}{o:cf},o∈l→al.bz o.args+al.bz o.dk≤fq l
 |p::l,o,h=>by
  simp only[fq]
  rcases List.mem_cons.1 h with rfl|h
  ·omega
  ·have:=sX h; omega
theorem xK {x:b3}(U:fp x.hs≤100000000) (aa:fq x.os≤100000000) (hf:iP x=true):jw x:=by
 unfold iP at hf
 cases a8:kQ x.hs 0 with
 |none=>rw[a8]at hf; cases hf
 |some n=>
  rw[a8]at hf
  obtain⟨e,k⟩:=sj x.hs 0 n U (by omega) (by omega) a8
  simp only[Bool.and_eq_true,decide_eq_true_eq]at hf
  rw[sk x.os n aa (by omega) (by omega)]at hf
  obtain⟨f1,f2,f3,f4⟩:=hf
  exact⟨fun h hm=>by have:=(k h hm).2; omega,fun h hm=>by have:=(k h hm).1; omega,fun o hm=>by have:=sX hm; omega,by omega,by omega,by omega⟩
theorem sV: ∀l:List bL,fp l≤fo (l.map bL.row)
 |[]=>by simp [fp]
 |h::l=>by
  have:=sV l
  have:=ai.nS h.body
  simp only[fp,List.map_cons,fo,bL.row,cG,I.eY]
  omega
theorem sW: ∀l:List cf,fq l≤fo (l.map cf.row)
 |[]=>by simp [fq]
 |o::l=>by
  have:=sW l
  have:=al.nS o.args
  have:=al.nS o.dk
  simp only[fq,List.map_cons,fo,cf.row,cG,I.eY]
  omega
theorem xv {x:b3}(h:cG x.cells≤100000000) (hf:iP x=true):jw x:=by
 have U:=sV x.hs
 have aa:=sW x.os
 simp only[b3.cells,cG,I.eY]at h
 exact xK (by omega) (by omega) hf
end Go.aO
namespace Go.aO.T.N
open Go Go.aO Go.Proofs Go.RowKit
set_option maxRecDepth 100000
attribute [local irreducible] Go.aO.av Go.aO.au Go.aO.aY
section
attribute [local go_sem] al.cr ai.cr al.ch ai.ch b6 cR eH eS dp of_flat ba.row db gQ eZ
attribute [local go_sem] eE et er eG ds dw df cH Fd.row dn dz cD.row dr.row bs.row
def dJ:List bs→Nat
 |[]=>0
 |d::l=>d.fields.length+d.ep.length+d.eqs.length+dJ l
def np (l:List bs):Bool:=decide (l.length≤60)&&decide (dJ l≤100)
def iC (g:cd):Bool:=decide (g.iI≤40)&&(decide (g.cy.length≤80)&&(decide (g.fH.length≤40)&&(decide (g.cC.length≤10)&&np g.decls)))
theorem yA {l:List bs}{i:Nat}{d:bs}(h:l[i]? =some d):dJ (l.take (i+1))=dJ (l.take i)+(d.fields.length+d.ep.length+d.eqs.length):=by
 rw[List.take_add_one,h]
 generalize l.take i=m
 induction m with
 |nil=>simp [dJ]
 |cons x m bB=>simp only[List.cons_append,dJ,bB]; omega
theorem yB (l:List bs) (i:Nat):dJ (l.take i)≤dJ l:=by
 induction l generalizing i with
 |nil=>simp [dJ]
 |cons x l bB=>
  cases i with
  |zero=>simp [dJ]
  |succ i=>
   have:=bB i
   simp only[List.take_succ_cons,dJ]
   omega
theorem yI (l:List bs) (aC:l.length≤1000000000) (hs:dJ l≤1000000000):Pure Tryz.prog 120 [.af 5 (l.map bs.row)] (.bool (np l)):=by
 refine cM bb Tryz.func120 xw (by simp only[b7,I.flat,df,Bool.and_self]) rfl ?_
 unfold r9 sK
 have eb:((l.map bs.row).length:Int)=(l.length:Int):=by rw[List.length_map]
 simp(disch:=omega)only[go_sem,simprocAttr]
 refine aj ?_
 refine av.c5 (X:=Nat) 0 (fun i=>[(0,.af 5 (l.map bs.row)),(3,.int .i64 (dJ (l.take i):Int)),(4,.int .i64 (i:Int))]) (fun _=>[]) (fun _=>[]) (fun i=>i≤l.length) (fun i=>l.length-i) (Nat.zero_le _) ⟨rfl,rfl,rfl,trivial⟩ trivial trivial ?_
 intro i ad
 try simp only at ad ⊢
 cases ae:l[i]? with
 |some d=>
  have cB:=(List.getElem?_eq_some_iff.1 ae).1
  have d1:(i:Int)<(l.length:Int):=by omega
  have s1:=yA ae
  have s2:=yB l (i+1)
  have nO:((d.fields.map Fd.row).length:Int)=(d.fields.length:Int):=by rw[List.length_map]
  have lP:((d.ep.map dn).length:Int)=(d.ep.length:Int):=by rw[List.length_map]
  have c4:((d.eqs.map dz).length:Int)=(d.eqs.length:Int):=by rw[List.length_map]
  generalize ea:dJ (l.take (i+1))=S at s1 s2
  (have ah:=eb;have z2:=d1;have z3:=And.intro nO (And.intro lP c4);refine dE ?_;clear ah z2 z3)
  refine av.dO (i+1) (by omega) ⟨rfl,by simp only[Env.get,ea]; rw[s1]; simp only[Int.natCast_add,Int.add_assoc]<;>rfl,by simp only[Int.natCast_add]; rfl,trivial⟩ trivial trivial rfl rfl (by show l.length-(i+1)<l.length-i; omega)
 |none=>
  have cg:=List.getElem?_eq_none_iff.1 ae
  have e:i=l.length:=by omega
  subst e
  have d1: ¬(l.length:Int)<(l.length:Int):=by omega
  simp only[List.take_length]
  by_cases U:l.length≤60
  ·have d2:(l.length:Int)≤60:=by omega
   (have ah:=eb;have z2:=d1;have z3:=d2;refine dE ?_;clear ah z2 z3)
   refine D.r ?_
   refine⟨_,rfl,.aM ?_ rfl,trivial,trivial⟩
   simp only[np,decide_eq_true U,Bool.true_and,I.aM]
   congr 1
   exact decide_eq_decide.2 (by omega)
  ·have d2: ¬(l.length:Int)≤60:=by omega
   (have ah:=eb;have z2:=d1;have z3:=d2;refine dE ?_;clear ah z2 z3)
   refine D.r ?_
   refine⟨_,rfl,.aM ?_ rfl,trivial,trivial⟩
   simp only[np,decide_eq_false U,Bool.false_and,I.aM]
theorem r2: ∀(l:List (List I)),(∀r∈l,1≤cG r)→l.length≤fo l
 |[],_=>Nat.zero_le _
 |r::l,h=>by
  have U:=h r (by simp)
  have aa:=r2 l fun x ab=>h x (by simp [ab])
  simp only[List.length_cons,fo]
  omega
theorem jm {α:Type}(f:α→List I) (hf: ∀a,1≤cG (f a)) (l:List α):l.length≤fo (l.map f):=by
 have:=r2 (l.map f) (by intro r ac; obtain⟨a,_,rfl⟩:=List.mem_map.1 ac; exact hf a)
 simpa using this
theorem r3: ∀ {l:List (List I)}{r:List I},r∈l→cG r≤fo l
 |x::l,r,h=>by
  simp only[fo]
  rcases List.mem_cons.1 h with rfl|h
  ·omega
  ·have:=r3 h; omega
theorem r8 (d:bs):d.fields.length+d.ep.length+d.eqs.length≤cG d.row:=by
 have U:=jm Fd.row (fun f=>by simp only[Fd.row,cG,I.eY]; omega) d.fields
 have aa:=jm dn (fun f=>by simp only[dn,cG,I.eY]; omega) d.ep
 have ay:=jm dz (fun f=>by simp only[dz,cG,I.eY]; omega) d.eqs
 simp only[bs.row,cG,I.eY]
 omega
theorem sU: ∀l:List bs,dJ l≤fo (l.map bs.row)
 |[]=>by simp [dJ]
 |d::l=>by
  have U:=r8 d
  have aa:=sU l
  simp only[dJ,List.map_cons,fo]
  omega
theorem xO {g:cd}(h:cG g.cells≤100000000):kp g∧dJ g.decls≤100000000:=by
 have U:=jm b6 (fun f=>by simp only[b6,cG,I.eY]; omega) g.cC
 have aa:=jm bs.row (fun f=>by simp only[bs.row,cG,I.eY]; omega) g.decls
 have ay:=jm cD.row (fun f=>by simp only[cD.row,cG,I.eY]; omega) g.cy
 have bl:=jm dr.row (fun f=>by simp only[dr.row,cG,I.eY]; omega) g.fH
 have bW:=sU g.decls
 simp only[cd.cells,cG,I.eY]at h
 refine⟨⟨by omega,by omega,by omega,by omega,fun d br=> ?_⟩,by omega⟩
 have bf:=r3 (List.mem_map_of_mem (f:=bs.row) br)
 have bi:=r8 d
 omega
theorem yK (g:cd) (hb:kp g) (hs:dJ g.decls≤1000000000):Pure Tryz.prog 45 [g.cQ] (.bool (iC g)):=by
 have ar:=yI g.decls hb.yi hs
 rw[lY]
 have c4:((g.cy.map cD.row).length:Int)=(g.cy.length:Int):=by rw[List.length_map]
 have kJ:((g.fH.map dr.row).length:Int)=(g.fH.length:Int):=by rw[List.length_map]
 have nc:((g.cC.map b6).length:Int)=(g.cC.length:Int):=by rw[List.length_map]
 refine cM bb Tryz.func45 xz (by simp only[b7,I.flat,cR,df,ds,dw,Bool.and_self]) rfl ?_
 unfold se sN
 by_cases U:g.iI≤40
 rotate_left
 ·simp(disch:=omega)only[go_sem,simprocAttr]
  (have ah:=U;refine bE ?_;clear ah)
  refine D.r ?_
  exact⟨_,rfl,.aM (by simp only[iC,decide_eq_false U,Bool.false_and,I.aM]) rfl,trivial,trivial⟩
 by_cases aa:g.cy.length≤80
 rotate_left
 ·have d2: ¬(g.cy.length:Int)≤80:=by omega
  simp(disch:=omega)only[go_sem,simprocAttr]
  (have ah:=U;have z2:=c4;have z3:=d2;refine dE ?_;clear ah z2 z3)
  refine D.r ?_
  exact⟨_,rfl,.aM (by simp only[iC,decide_eq_false aa,Bool.false_and,Bool.and_false,I.aM]) rfl,trivial,trivial⟩
 have d2:(g.cy.length:Int)≤80:=by omega
 by_cases ay:g.fH.length≤40
 rotate_left
 ·have d3: ¬(g.fH.length:Int)≤40:=by omega
  simp(disch:=omega)only[go_sem,simprocAttr]
  (have ah:=U;have z2:=c4;have z3:=And.intro d2 (And.intro kJ d3);refine dE ?_;clear ah z2 z3)
  refine D.r ?_
  exact⟨_,rfl,.aM (by simp only[iC,decide_eq_false ay,Bool.false_and,Bool.and_false,I.aM]) rfl,trivial,trivial⟩
 have d3:(g.fH.length:Int)≤40:=by omega
 by_cases bl:g.cC.length≤10
 rotate_left
 ·have d4: ¬(g.cC.length:Int)≤10:=by omega
  simp(disch:=omega)only[go_sem,simprocAttr]
  (have ah:=U;have z2:=c4;have z3:=And.intro d2 (And.intro kJ (And.intro d3 (And.intro nc d4)));refine dE ?_;clear ah z2 z3)
  refine D.r ?_
  exact⟨_,rfl,.aM (by simp only[iC,decide_eq_false bl,Bool.false_and,Bool.and_false,I.aM]) rfl,trivial,trivial⟩
 have d4:(g.cC.length:Int)≤10:=by omega
 simp(disch:=omega)only[go_sem,simprocAttr]
 (have ah:=U;have z2:=c4;have z3:=And.intro d2 (And.intro kJ (And.intro d3 (And.intro nc d4)));refine dE ?_;clear ah z2 z3)
 refine D.P (ar) ?_
 refine aj ?_
 refine D.r ?_
 exact⟨_,rfl,.aM (by simp only[iC,decide_eq_true U,decide_eq_true aa,decide_eq_true ay,decide_eq_true bl,Bool.true_and,I.aM]) rfl,trivial,trivial⟩
theorem bc4 {R:Nat}(ak:R≤140737488355328) (x:b3) (g:cd) (ab:x.ok R) (hb:kp g) (hs:dJ g.decls≤1000000000):Pure Tryz.prog 30 [x.cQ,g.cQ] (.bool (iP x&&iC g)):=by
 have ar:=ER ak x ab
 have ax:=yK g hb hs
 rw[lK]at*
 simp only[lY]at*
 refine cM bb Tryz.func30 Yi (by simp only[b7,I.flat,db,dp,of_flat,cR,df,ds,dw,Bool.and_self]) rfl ?_
 unfold NJ TK
 simp(disch:=omega)only[go_sem,simprocAttr]
 refine aj ?_
 refine D.P (ar) ?_
 generalize iP x=b at*
 cases b
 ·refine aj ?_
  exact D.rx
 ·refine aj ?_
  refine D.P (ax) ?_
  refine aj ?_
  exact D.rx
end
section
set_option maxRecDepth 1000000
attribute [local go_sem] al.cr ai.cr al.ch ai.ch b6 cR eH eS dp of_flat ba.row db gQ eZ
attribute [local go_sem] eE et er eG ds dw df cH Fd.row dn dz cD.row dr.row bs.row hB ie dI eI fR bK.row
def fj:cd:=⟨[80],[[97],[98]],[⟨[109],[],0,[],[]⟩],2,0,1,[⟨0,0,1,0,1,false⟩],[]⟩
end
section
def gd (p q:Nat) (l:List bK):Prop:=∀i∈l,i.op≠24∧(i.op=19∨i.op=20∨i.op=22→(p:Int)≤i.n∧i.n≤(q:Int))
inductive iL:Nat→List Int→List bK→Prop
 |nil {p:Nat}:iL p [] []
 |cons {p:Nat}{body:List bK}{E:List Int}{c:List bK}(h:gd p (p+body.length) body) (t:iL (p+(body.length+1)) E c):iL p ((p:Int)::E) (body++ins 24 0::c)
end
section
attribute [local go_sem] al.cr ai.cr al.ch ai.ch b6 cR eH eS dp of_flat ba.row db gQ eZ
attribute [local go_sem] eE et er eG ds dw df cH Fd.row dn dz cD.row dr.row bs.row hB ie dI eI fR bK.row
theorem Bc {x:b3}(h:iP x=true):x.vars.length≤60∧x.hs.length≤60∧x.os.length≤60:=by
 unfold iP at h
 cases a8:kQ x.hs 0 with
 |none=>rw[a8]at h; cases h
 |some n=>
  rw[a8]at h
  simp only[Bool.and_eq_true,decide_eq_true_eq]at h
  exact h.2
def oL:ba:=⟨[122,122,122,122,122,122,122,122,122,122,122,122,122,122,122,122],1,0,1,1,0,[]⟩
theorem vO (l:List ba):eN (l.map ba.row++[[.str [122,122,122,122,122,122,122,122,122,122,122,122,122,122,122,122],.int .i64 1,.int .i64 0,.int .i64 1,.int .i64 1,.int .i64 0,.str []]])=true:=by
 have h:=db (l++[oL])
 rw[List.map_append]at h
 exact h
attribute [local go_sem] vO
end
section
set_option maxRecDepth 1000000
attribute [local go_sem] al.cr ai.cr al.ch ai.ch b6 cR eH eS dp of_flat ba.row db gQ eZ
attribute [local go_sem] eE et er eG ds dw df cH Fd.row dn dz cD.row dr.row bs.row hB ie dI eI fR bK.row
def kc (n:Int):List I:=[.int .u8 n]
theorem tu (l:List Int):eN (l.map kc)=true:=lW (fun _=>rfl) l
attribute [local go_sem] kc tu
end
section
theorem Ia {x y:b3}{g:cd}{r:Int}{ps:Option (List (bF×Int))}(ae:x.vars=y.vars) (k:Int) (o m:bF) (aT:List Int):qm ⟨x,g,r,ps⟩ k o m aT=qm ⟨y,g,r,ps⟩ k o m aT:=by
 unfold qm qP dL.look
 simp only[ae]
mutual
theorem sD {x y:b3}{g:cd}{r:Int}{ps:Option (List (bF×Int))}(ae:x.vars=y.vars): ∀e:al,kk ⟨x,g,r,ps⟩ e=kk ⟨y,g,r,ps⟩ e
 | .mk k o m t n l=>by
  simp only[kk,B2 ae l,Ia ae]
theorem B2 {x y:b3}{g:cd}{r:Int}{ps:Option (List (bF×Int))}(ae:x.vars=y.vars): ∀l:List al,k8 ⟨x,g,r,ps⟩ l=k8 ⟨y,g,r,ps⟩ l
 |[]=>by simp only[k8]
 |e::l=>by simp only[k8,sD ae e,B2 ae l]
end
theorem FE {x y:b3}{g:cd}{r:Int}{ps:Option (List (bF×Int))}(ae:x.vars=y.vars) (n:bF) (e:al):rf ⟨x,g,r,ps⟩ n e=rf ⟨y,g,r,ps⟩ n e:=by
 simp only[rf,sD ae e,dL.look,ae]
mutual
theorem JD {x y:b3}{g:cd}{r:Int}{ps:Option (List (bF×Int))}(ae:x.vars=y.vars): ∀s:ai,o6 ⟨x,g,r,ps⟩ s=o6 ⟨y,g,r,ps⟩ s
 | .mk k m e t a b=>by
  simp only[o6,FE ae,sD ae e,vA ae a,vA ae b]
theorem vA {x y:b3}{g:cd}{r:Int}{ps:Option (List (bF×Int))}(ae:x.vars=y.vars): ∀l:List ai,jN ⟨x,g,r,ps⟩ l=jN ⟨y,g,r,ps⟩ l
 |[]=>by simp only[jN]
 |s::l=>by simp only[jN,JD ae s,vA ae l]
end
theorem Hn {x y:b3}{g:cd}{r:Int}{ps:Option (List (bF×Int))}(ae:x.vars=y.vars) (a:List bL) (h:bL):ki ⟨x,g,r,ps⟩ a h=ki ⟨y,g,r,ps⟩ a h:=by
 simp only[ki,qL,vA ae h.body,ae]
theorem AI {x y:b3}{g:cd}{r:Int}{ps:Option (List (bF×Int))}(ae:x.vars=y.vars) (m:bF): ∀(l:List al) (b2:List Fd),lT ⟨x,g,r,ps⟩ m l b2=lT ⟨y,g,r,ps⟩ m l b2
 |[],_=>by simp only[lT]
 | _:: _,[]=>by simp only[lT]
 |e::l,f::b2=>by simp only[lT,sD ae e,AI ae m l b2]
theorem CS {x y:b3}{g:cd}{r:Int}{ps:Option (List (bF×Int))}(ae:x.vars=y.vars): ∀(l:List al),nN ⟨x,g,r,ps⟩ l=nN ⟨y,g,r,ps⟩ l
 |[]=>by simp only[nN]
 |e::l=>by simp only[nN,sD ae e,CS ae l]
theorem Iw {x y:b3}{g:cd}{r:Int}{ps:Option (List (bF×Int))}(ae:x.vars=y.vars) (o:cf):nD ⟨x,g,r,ps⟩ o=nD ⟨y,g,r,ps⟩ o:=by
 simp only[nD,qL,AI ae,CS ae]
theorem mm {α β:Type}{r:cY α}{f:α→cY β}{b:β}:r.bind f= .ok b↔ ∃a,r= .ok a∧f a= .ok b:=
 ⟨cY.iN,fun⟨a,U,aa⟩=>by rw[U]; exact aa⟩
theorem yh {b:Bool}{n:bF}{e:Int}{u:Unit}:gh b n e= .ok u↔b=true:=
 ⟨sG,fun h=>by unfold gh; rw[if_pos h]⟩
def qy (o h:bL):Prop:=o.c7=h.c7∧o.peer=h.peer
theorem Hm (ck:dL) (a:List bL) (h:bL):ki ck a h= .ok ()↔ki ck [] h= .ok ()∧∀o∈a,¬qy o h:=by
 have eh:(!a.any fun o=>decide (o.c7=h.c7)&&decide (o.peer=h.peer))=true↔ ∀o∈a,¬qy o h:=by
  rw[Bool.not_eq_true',Bool.eq_false_iff,ne_eq,List.any_eq_true]
  simp only[Bool.and_eq_true,decide_eq_true_eq,qy]
  constructor
  ·intro k o ao aq; exact k ⟨o,ao,aq⟩
  ·rintro k ⟨o,ao,aq⟩; exact k o ao aq
 unfold ki
 constructor
 ·intro k
  obtain⟨d,bf,k⟩:=mm.1 k
  obtain⟨_,bi,k⟩:=mm.1 k
  exact⟨mm.2 ⟨d,bf,mm.2 ⟨(),yh.2 rfl,k⟩⟩,eh.1 (yh.1 bi)⟩
 ·rintro⟨k,cz⟩
  obtain⟨d,bf,k⟩:=mm.1 k
  obtain⟨_,bi,k⟩:=mm.1 k
  exact mm.2 ⟨d,bf,mm.2 ⟨(),yh.2 (eh.2 cz),k⟩⟩
theorem uR (ck:dL): ∀(l a:List bL),mP ck a l= .ok ()↔(∀h∈l,ki ck [] h= .ok ())∧(∀h∈l,∀o∈a,¬qy o h)∧l.Pairwise (fun o h=> ¬qy o h)
 |[],a=>by simp [mP]
 |x::l,a=>by
  have bB:=uR ck l (a++[x])
  have ab:=Hm ck a x
  simp only[mP,mm]
  constructor
  ·rintro⟨_,bf,bi⟩
   obtain⟨cz,eu⟩:=ab.1 bf
   obtain⟨gr,mS,sB⟩:=bB.1 bi
   refine⟨fun h hm=> ?_,fun h hm o ao=> ?_,List.pairwise_cons.2 ⟨fun h hm=>mS h hm x (by simp),sB⟩⟩
   ·rcases List.mem_cons.1 hm with rfl|hm
    ·exact cz
    ·exact gr h hm
   ·rcases List.mem_cons.1 hm with rfl|hm
    ·exact eu o ao
    ·exact mS h hm o (by simp [ao])
  ·rintro⟨bf,bi,cz⟩
   obtain⟨eu,gr⟩:=List.pairwise_cons.1 cz
   refine⟨(),ab.2 ⟨bf x (by simp),bi x (by simp)⟩,bB.2 ⟨fun h hm=>bf h (by simp [hm]),fun h hm o ao=> ?_,gr⟩⟩
   rcases List.mem_append.1 ao with ao|ao
   ·exact bi h (by simp [hm]) o ao
   ·rw[List.mem_singleton.1 ao]
    exact eu h hm
theorem yn (ck:dL): ∀(l:List cf),nE ck l= .ok ()↔ ∀o∈l,nD ck o= .ok ()
 |[]=>by simp [nE]
 |x::l=>by
  have bB:=yn ck l
  simp only[nE,mm]
  constructor
  ·rintro⟨_,bf,bi⟩ o ao
   rcases List.mem_cons.1 ao with rfl|ao
   ·exact bf
   ·exact bB.1 bi o ao
  ·intro k
   exact⟨(),k x (by simp),bB.2 fun o ao=>k o (by simp [ao])⟩
def _root_.Go.aO.b3.sub (x:b3) (hs:List bL) (os:List cf):b3:=⟨x.name,x.bM,x.gJ,x.vars,hs,os⟩
theorem IH {x:b3}{g:cd}{hs:List bL}{os:List cf}(h:pE x g= .ok ()) (U: ∀y∈hs,y∈x.hs) (aa: ∀o∈os,o∈x.os) (hp:hs.Pairwise (fun o h=> ¬qy o h)):pE (x.sub hs os) g= .ok ():=by
 obtain⟨bf,bi,cz,eu,gr⟩:=Cq h
 obtain⟨mS,_,_⟩:=(uR _ _ _).1 eu
 have sB:=(yn _ _).1 gr
 refine IG bf bi cz ((uR _ _ _).2 ⟨fun y aV=> ?_,(fun _ _ o ao=>by cases ao),hp⟩) ((yn _ _).2 fun o ao=> ?_)
 ·rw[←mS y (U y aV)]
  exact Hn (x:=x.sub hs os) (y:=x) rfl _ _
 ·rw[←sB o (aa o ao)]
  exact Iw (x:=x.sub hs os) (y:=x) rfl _
theorem Ha {x:b3}{hs:List bL}{os:List cf}(h:n3 x=true) (U: ∀y∈hs,y∈x.hs) (aa: ∀o∈os,o∈x.os) (aH:hs.length≤x.hs.length) (fG:os.length≤x.os.length) (nw:(hs.map mA).flatten.length≤(x.hs.map mA).flatten.length) (ye:(os.map nC).flatten.length≤(x.os.map nC).flatten.length):n3 (x.sub hs os)=true:=by
 simp only[n3,vq,rX,qx,Bool.and_eq_true,decide_eq_true_eq,List.length_append]at h ⊢
 obtain⟨⟨ec,a2,a3,a4,a5,yY⟩,⟨fz,iM,kL⟩,c1⟩:=h
 refine⟨⟨ec,a2,a3,a4,?_,?_⟩,⟨fz,?_,?_⟩,?_⟩
 ·show hs.length≤40; omega
 ·show os.length≤40; omega
 ·exact List.all_eq_true.2 fun y aV=>List.all_eq_true.1 iM y (U y aV)
 ·exact List.all_eq_true.2 fun y aV=>List.all_eq_true.1 kL y (aa y aV)
 ·simp only[b3.sub]
  omega
theorem OJ {α:Type}(f:α→bF){a b:List α}(h:a.Perm b):(a.map f).flatten.length=(b.map f).flatten.length:=by
 induction h with
 |nil=>rfl
 |cons x _ bB=>simp only[List.map_cons,List.flatten_cons,List.length_append]; omega
 |swap x y l=>simp only[List.map_cons,List.flatten_cons,List.length_append]; omega
 |trans _ _ U aa=>omega
theorem LP {x:b3}{g:cd}{hs:List bL}{os:List cf}(h:(kf x g).2=0) (U:hs.Perm x.hs) (aa:os.Perm x.os):(kf (x.sub hs os) g).2=0:=by
 obtain⟨a,b,c⟩:=zb.1 h
 obtain⟨_,_,_,eu,_⟩:=Cq c
 obtain⟨_,_,B1⟩:=(uR _ _ _).1 eu
 refine zb.2 ⟨Ha a (fun y aV=>U.mem_iff.1 aV) (fun y aV=>aa.mem_iff.1 aV) (Nat.le_of_eq U.length_eq) (Nat.le_of_eq aa.length_eq) (Nat.le_of_eq (OJ _ U)) (Nat.le_of_eq (OJ _ aa)),b,IH c (fun y aV=>U.mem_iff.1 aV) (fun y aV=>aa.mem_iff.1 aV) ?_⟩
 refine (List.Perm.pairwise_iff (fun {u v} k c=>k ⟨c.1.symm,c.2.symm⟩) U).2 B1
end
section
attribute [local go_sem] al.cr ai.cr al.ch ai.ch b6 cR eH eS dp of_flat ba.row db gQ eZ
attribute [local go_sem] eE et er eG ds dw df cH Fd.row dn dz cD.row dr.row bs.row hB ie dI eI fR bK.row
theorem JF {R:Nat}{x:b3}(ab:x.ok R){hs:List bL}{os:List cf}(U: ∀y∈hs,y∈x.hs) (aa: ∀o∈os,o∈x.os) (aH:hs.length*80≤R) (fG:os.length*80≤R):(x.sub hs os).ok R:=
 ⟨ab.name,ab.bM,ab.gJ,ab.kn,ab.vars,aH,fun y aV=>ab.hs y (U y aV),fG,fun y aV=>ab.os y (aa y aV)⟩
theorem JE {x:b3}(hb:jw x){hs:List bL}{os:List cf}(U: ∀y∈hs,y∈x.hs) (aa: ∀o∈os,o∈x.os) (aH:hs.length≤1000000) (fG:os.length≤1000000):jw (x.sub hs os):=
 ⟨fun y aV=>hb.aL y (U y aV),fun y aV=>hb.hp y (U y aV),fun o ao=>hb.sH o (aa o ao),hb.kn,aH,fG⟩
end
section
set_option maxRecDepth 1000000
attribute [local go_sem] al.cr ai.cr al.ch ai.ch b6 cR eH eS dp of_flat ba.row db gQ eZ
attribute [local go_sem] eE et er eG ds dw df cH Fd.row dn dz cD.row dr.row bs.row hB ie dI eI fR bK.row
theorem bb3 (l:List (Int×Int×Int)) (a:Int×Int×Int) (aC:l.length≤1000000000):Pure Tryz.prog 182 [.af 3 (l.map dI),.agg (dI a)] (.int .i64 (dt (fun v=> !decide (a=v)) l 0)):=by
 obtain⟨ec,a2,a3⟩:=a
 have eb:((l.map dI).length:Int)=(l.length:Int):=by rw[List.length_map]
 simp only[dI]
 refine cM bb Tryz.func182 Xr (by simp only[b7,I.flat,hB,Bool.and_self]) rfl ?_
 unfold MW SS
 simp(disch:=omega)only[go_sem,simprocAttr]
 refine aj ?_
 refine av.c5 (X:=Nat) 0 (fun i=>[(0,.af 3 (l.map dI)),(3,.ptr 0 0),(7,.int .i64 ((l.map dI).length:Int)),(8,.int .i64 (i:Int))]) (fun _=>[(0,74,[.int .i64 ec,.int .i64 a2,.int .i64 a3])]) (fun _=>[]) (fun i=>i≤l.length∧dt (fun v=> !decide ((ec,a2,a3)=v)) (l.drop i) i=dt (fun v=> !decide ((ec,a2,a3)=v)) l 0) (fun i=>l.length-i) ⟨Nat.zero_le _,rfl⟩ ⟨rfl,rfl,rfl,rfl,trivial⟩ ⟨rfl,trivial⟩ trivial ?_
 rintro i ⟨ad,aG⟩
 try simp only at ad aG ⊢
 cases ae:l[i]? with
 |some v=>
  obtain⟨v1,v2,v3⟩:=v
  have cB:=(List.getElem?_eq_some_iff.1 ae).1
  have d1:(i:Int)<(l.length:Int):=by omega
  rw[fY ae]at aG
  simp only[dt]at aG
  by_cases h:(ec,a2,a3)=(v1,v2,v3)
  ·simp only[Prod.mk.injEq]at h
   obtain⟨rfl,rfl,rfl⟩:=h
   (have ah:=eb;have z2:=d1;refine eM ?_;clear ah z2)
   refine D.r ?_
   refine⟨_,rfl,.aM ?_ rfl,trivial,trivial⟩
   rw[←aG]
   simp [I.aM]
  ·have br:(decide (ec=v1)&&(decide (a2=v2)&&decide (a3=v3)))=false:=by
    rw[Bool.eq_false_iff]
    intro k
    simp only[Bool.and_eq_true,decide_eq_true_eq]at k
    exact h (by rw[k.1,k.2.1,k.2.2])
   rw[decide_eq_false h]at aG
   (have ah:=eb;have z2:=d1;have z3:=br;refine dE ?_;clear ah z2 z3)
   refine av.dO (i+1) ⟨by omega,aG⟩ ⟨rfl,rfl,rfl,by simp only[Int.natCast_add]; rfl,trivial⟩ ⟨rfl,trivial⟩ trivial rfl rfl (by show l.length-(i+1)<l.length-i; omega)
 |none=>
  have cg:=List.getElem?_eq_none_iff.1 ae
  have d1: ¬(i:Int)<(l.length:Int):=by omega
  rw[List.drop_eq_nil_of_le cg]at aG
  (have ah:=eb;have z2:=d1;refine eM ?_;clear ah z2)
  refine D.r ?_
  exact⟨_,rfl,.aM (by rw[←aG]; rfl) rfl,trivial,trivial⟩
theorem bd7 (l:List (Int×Int×Int)) (a:Int×Int×Int) (aC:l.length≤1000000000):Pure Tryz.prog 95 [.af 3 (l.map dI),.agg (dI a)] (.bool (l.any fun v=>decide (a=v))):=by
 have e:=bb3 l a aC
 rw[←vt]
 generalize dt (fun v=> !decide (a=v)) l 0=z at e ⊢
 obtain⟨ec,a2,a3⟩:=a
 simp only[dI]at e ⊢
 refine cM bb Tryz.func95 Y6 (by simp only[b7,I.flat,hB,Bool.and_self]) rfl ?_
 unfold xJ UA
 simp(disch:=omega)only[go_sem,simprocAttr]
 refine aj ?_
 refine D.P (e) ?_
 refine aj ?_
 exact D.rx
theorem bc2:Pure Tryz.prog 287 [.int .u64 1] (.int .i64 1):=by
 refine cM bb Tryz.func287 Yc rfl rfl ?_
 unfold ND TE
 simp(disch:=omega)only[go_sem,simprocAttr]
 refine aj ?_
 exact D.rx
theorem bb6:Pure Tryz.prog 185 [.int .u64 1] (.int .i64 1):=by
 have e:=bc2
 refine cM bb Tryz.func185 Xt rfl rfl ?_
 unfold MY SV
 simp(disch:=omega)only[go_sem,simprocAttr]
 refine aj ?_
 refine D.P (e) ?_
 refine aj ?_
 exact D.rx
theorem bc1 (a b c:Int) (f:FuncId):Pure Tryz.prog 278 [.af 3 [[.int .i64 a,.int .i64 b,.int .i64 c]],.int .i64 0,.int .i64 1,.fn f []] (.cT []):=by
 refine cM bb Tryz.func278 Yb rfl rfl ?_
 unfold NC TD
 simp(disch:=omega)only[go_sem,simprocAttr]
 refine aj ?_
 refine av.c5 (X:=Nat) 0 (fun _=>[(2,.int .i64 1),(8,.int .i64 1)]) (fun _=>[]) (fun _=>[]) (fun i=>i=0) (fun i=>0) rfl ⟨rfl,rfl,trivial⟩ trivial trivial ?_
 intro i ad
 refine aj ?_
 exact D.rx
theorem bb5 (a b c:Int) (f:FuncId):Pure Tryz.prog 184 [.af 3 [[.int .i64 a,.int .i64 b,.int .i64 c]],.int .i64 0,.int .i64 1,.int .i64 1,.fn f []] (.cT []):=by
 have e:=bc1 a b c f
 refine cM bb Tryz.func184 Xs rfl rfl ?_
 unfold MX SU
 simp(disch:=omega)only[go_sem,simprocAttr]
 refine aj ?_
 refine av.c5 (X:=Nat) 0 (fun _=>[(0,.af 3 [[.int .i64 a,.int .i64 b,.int .i64 c]]),(1,.int .i64 0),(2,.int .i64 1),(3,.int .i64 1),(4,.fn f [])]) (fun _=>[]) (fun _=>[]) (fun i=>i=0) (fun i=>0) rfl ⟨rfl,rfl,rfl,rfl,rfl,trivial⟩ trivial trivial ?_
 intro i ad
 refine aj ?_
 refine D.P (e) ?_
 refine aj ?_
 exact D.rx
theorem bd9 (a b c:Int) (f:FuncId):Pure Tryz.prog 97 [.af 3 [[.int .i64 a,.int .i64 b,.int .i64 c]],.fn f []] (.cT []):=by
 have ar:=bb6
 have e:=bb5 a b c f
 refine cM bb Tryz.func97 Y7 rfl rfl ?_
 unfold DJ UB
 simp(disch:=omega)only[go_sem,simprocAttr]
 refine aj ?_
 refine D.P (ar) ?_
 refine aj ?_
 refine D.P (e) ?_
 refine aj ?_
 exact D.rx
theorem bc5 (l:List (Int×Int×Int)) (aC:l.length≤1000000000):Pure Tryz.prog 35 [.af 3 (l.map dI),.af 3 (l.map dI)] (.bool true):=by
 refine cM bb Tryz.func35 YD (by simp only[b7,I.flat,hB,Bool.and_self]) rfl ?_
 unfold zm T7
 have eb:((l.map dI).length:Int)=(l.length:Int):=by rw[List.length_map]
 simp(disch:=omega)only[go_sem,simprocAttr]
 (have ah:=eb;refine bE ?_;clear ah)
 refine av.c5 (X:=Nat) 0 (fun i=>[(0,.af 3 (l.map dI)),(1,.af 3 (l.map dI)),(5,.int .i64 (i:Int))]) (fun _=>[]) (fun _=>[]) (fun i=>i≤l.length) (fun i=>l.length-i) (Nat.zero_le _) ⟨rfl,rfl,rfl,trivial⟩ trivial trivial ?_
 intro i ad
 try simp only at ad ⊢
 cases ae:l[i]? with
 |some v=>
  have cB:=(List.getElem?_eq_some_iff.1 ae).1
  have d1:(i:Int)<(l.length:Int):=by omega
  (have ah:=eb;have z2:=d1;refine eM ?_;clear ah z2)
  refine av.dO (i+1) (by omega) ⟨rfl,rfl,by simp only[Int.natCast_add]; rfl,trivial⟩ trivial trivial rfl rfl (by show l.length-(i+1)<l.length-i; omega)
 |none=>
  have cg:=List.getElem?_eq_none_iff.1 ae
  have d1: ¬(i:Int)<(l.length:Int):=by omega
  (have ah:=eb;have z2:=d1;refine eM ?_;clear ah z2)
  exact D.rx
end
section
set_option maxRecDepth 1000000
attribute [local go_sem] al.cr ai.cr al.ch ai.ch b6 cR eH eS dp of_flat ba.row db gQ eZ
attribute [local go_sem] eE et er eG ds dw df cH Fd.row dn dz cD.row dr.row bs.row hB ie dI eI fR bK.row
def xg:b3:=⟨[83],[98],[80],[],[⟨[109],[97],[[120]],[.mk 1 [120] (.mk 1 [] [] [] 1 []) 0 [] []]⟩],[]⟩
def uj:b3:=⟨[83],[98],[80],[],[],[]⟩
def je:cd:=⟨[80],[[97],[98]],[⟨[109],[⟨[120],1,0,9⟩],0,[],[]⟩],2,0,1,[⟨0,0,1,0,1,false⟩],[]⟩
theorem aY1:jw xg:=by
 refine⟨fun h hm=> ?_,fun h hm=> ?_,(fun o hm=>by cases hm),by decide,by decide,by decide⟩
 all_goals
  simp only[xg,List.mem_cons,List.not_mem_nil,or_false]at hm
  subst hm
  decide
theorem Vd:jw uj:=⟨(fun h hm=>by cases hm),(fun h hm=>by cases hm),(fun o hm=>by cases hm),by decide,by decide,by decide⟩
theorem G8:kp je:=by
 refine⟨by decide,by decide,by decide,by decide,fun d hm=> ?_⟩
 simp only[je,List.mem_cons,List.not_mem_nil,or_false]at hm
 subst hm
 decide
theorem aF2:xg.ok 1000:=by
 refine⟨by decide,by decide,by decide,by decide,(fun v ae=>by cases ae),by decide,?_,by decide,(fun v ae=>by cases ae)⟩
 intro v ae
 rw[List.mem_singleton.1 ae]
 exact⟨by decide,by decide,by decide,by decide,by decide,⟨rfl,by decide,⟨rfl,by decide,by decide,by decide,rfl,by decide,trivial⟩,rfl,by decide,by decide,trivial,trivial⟩,trivial⟩
theorem Zv:kf xg je=([120],11):=by kernel_rfl
theorem LQ:kf uj je=([],0):=by kernel_rfl
theorem R3:eJ je.cC [98]=1:=by kernel_rfl
abbrev DX:I:= .agg [.str [80],.af 1 [[.str [97]],[.str [98]]],.af 5 [[.str [109],.af 4 [[.str [120],.int .i64 1,.int .i64 0,.int .i64 9]],.int .i64 0,.aD,.aD]],.int .i64 2,.int .i64 0,.int .i64 1,.af 6 [[.int .i64 0,.int .i64 0,.int .i64 1,.int .i64 0,.int .i64 1,.bool false]],.aD]
theorem Bf:bh DX je.cQ:=
 qt (bu (bh.refl _) (bu (bh.refl _) (bu (mj (.cons (bu (bh.refl _) (bu (bh.refl _) (bu (bh.refl _) (bu bh.nil (bu bh.nil gG))))) .nil)) (bu (bh.refl _) (bu (bh.refl _) (bu (bh.refl _) (bu (bh.refl _) (bu bh.nil gG))))))))
theorem be4:bh (.agg [.str [83],.str [98],.str [80],.aD,.af 4 [[.str [109],.str [97],.af 1 [[.str [120]]],.af 11 [[.int .i64 1,.str [120],.int .i64 1,.str [],.str [],.str [],.int .i64 1,.aD,.int .i64 0,.aD,.aD]]]],.aD]) xg.cQ:=
 qt (bu (bh.refl _) (bu (bh.refl _) (bu (bh.refl _) (bu bh.nil (bu (mj (.cons (bu (bh.refl _) (bu (bh.refl _) (bu (bh.refl _) (bu (mj (.cons (bu (bh.refl _) (bu (bh.refl _) (bu (bh.refl _) (bu (bh.refl _) (bu (bh.refl _) (bu (bh.refl _) (bu (bh.refl _) (bu bh.nil (bu (bh.refl _) (bu bh.nil (bu bh.nil gG))))))))))) .nil)) gG)))) .nil)) (bu bh.nil gG))))))
theorem bb4:aY Tryz.prog 183 [.af 4 [],.fn 94 [.ptr 0 0,.ptr 1 0]] (aQ.of 2 0 [(0,32,[.str [80],.af 1 [[.str [97]],[.str [98]]],.af 5 [[.str [109],.af 4 [[.str [120],.int .i64 1,.int .i64 0,.int .i64 9]],.int .i64 0,.aD,.aD]],.int .i64 2,.int .i64 0,.int .i64 1,.af 6 [[.int .i64 0,.int .i64 0,.int .i64 1,.int .i64 0,.int .i64 1,.bool false]],.aD]),(1,74,[.int .i64 0,.int .i64 1,.int .i64 0])] []) (dR (.int .i64 (-1)) [(0,32,[.str [80],.af 1 [[.str [97]],[.str [98]]],.af 5 [[.str [109],.af 4 [[.str [120],.int .i64 1,.int .i64 0,.int .i64 9]],.int .i64 0,.aD,.aD]],.int .i64 2,.int .i64 0,.int .i64 1,.af 6 [[.int .i64 0,.int .i64 0,.int .i64 1,.int .i64 0,.int .i64 1,.bool false]],.aD]),(1,74,[.int .i64 0,.int .i64 1,.int .i64 0])] []):=by
 refine aY.intro bb Tryz.func183 FP ?_
 unfold DD EV
 simp(disch:=omega)only[go_sem,simprocAttr]
 refine aj ?_
 refine av.c5 (X:=Nat) 0 (fun i=>[(0,.af 4 []),(1,.fn 94 [.ptr 0 0,.ptr 1 0]),(7,.int .i64 0),(8,.int .i64 (i:Int))]) (fun _=>[(0,32,[.str [80],.af 1 [[.str [97]],[.str [98]]],.af 5 [[.str [109],.af 4 [[.str [120],.int .i64 1,.int .i64 0,.int .i64 9]],.int .i64 0,.aD,.aD]],.int .i64 2,.int .i64 0,.int .i64 1,.af 6 [[.int .i64 0,.int .i64 0,.int .i64 1,.int .i64 0,.int .i64 1,.bool false]],.aD]),(1,74,[.int .i64 0,.int .i64 1,.int .i64 0])]) (fun _=>[]) (fun i=>i=0) (fun i=>0) rfl ⟨rfl,rfl,rfl,rfl,trivial⟩ ⟨rfl,rfl,trivial⟩ trivial ?_
 intro i ad
 subst ad
 refine aj ?_
 refine D.r ?_
 exact⟨rfl,⟨rfl,rfl,trivial⟩,trivial⟩
theorem bd8:aY Tryz.prog 96 [.af 4 [],.fn 94 [.ptr 0 0,.ptr 1 0]] (aQ.of 2 0 [(0,32,[.str [80],.af 1 [[.str [97]],[.str [98]]],.af 5 [[.str [109],.af 4 [[.str [120],.int .i64 1,.int .i64 0,.int .i64 9]],.int .i64 0,.aD,.aD]],.int .i64 2,.int .i64 0,.int .i64 1,.af 6 [[.int .i64 0,.int .i64 0,.int .i64 1,.int .i64 0,.int .i64 1,.bool false]],.aD]),(1,74,[.int .i64 0,.int .i64 1,.int .i64 0])] []) (dR (.bool false) [(0,32,[.str [80],.af 1 [[.str [97]],[.str [98]]],.af 5 [[.str [109],.af 4 [[.str [120],.int .i64 1,.int .i64 0,.int .i64 9]],.int .i64 0,.aD,.aD]],.int .i64 2,.int .i64 0,.int .i64 1,.af 6 [[.int .i64 0,.int .i64 0,.int .i64 1,.int .i64 0,.int .i64 1,.bool false]],.aD]),(1,74,[.int .i64 0,.int .i64 1,.int .i64 0])] []):=by
 have e:=bb4
 refine aY.intro bb Tryz.func96 FW ?_
 unfold zq E1
 simp(disch:=omega)only[go_sem,simprocAttr]
 refine aj ?_
 refine D.F ⟨[0,1],[]⟩ (e) ?_
 refine aj ?_
 refine D.r ?_
 exact⟨rfl,⟨rfl,rfl,trivial⟩,trivial⟩
theorem bc6:Pure Tryz.prog 36 [.agg [.str [83],.str [98],.str [80],.af 7 [],.af 4 [],.af 4 []],DX] (.af 3 [[.int .i64 0,.int .i64 1,.int .i64 0]]):=by
 have ks:=(z6 uj je Vd G8).le (bu (bh.refl _) (bu Bf gG))
 have mv:=(J5 uj je (by decide)).le (bu (bh.refl _) (bu Bf gG))
 have xJ:=bd7 [] (0,1,0) (by decide)
 rw[List.any_nil]at xJ
 have zq:=bd8
 have DJ:=bd9 0 1 0 98
 rw[LQ]at ks
 rw[show uj.bM=[98] by rfl,R3,show max (1:Int) 0=1 by decide]at mv
 simp only[za]at ks
 rw[lK]at ks mv
 simp only[uj,List.map_nil,DX]at ks mv xJ ⊢
 try (simp (disch:=omega) only[go_sem,simprocAttr]at ks)
 try (simp (disch:=omega) only[go_sem,simprocAttr]at mv)
 try (simp (disch:=omega) only[go_sem,simprocAttr]at xJ)
 refine cM bb Tryz.func36 YG rfl rfl ?_
 unfold A4 Ua
 simp(disch:=omega)only[go_sem,simprocAttr]
 refine aj ?_
 refine D.P (ks) ?_
 refine aj ?_
 refine D.P (mv) ?_
 refine aj ?_
 refine av.uM 9 3 74 rfl (by decide) ?_
 simp(disch:=omega)only[go_sem,simprocAttr]
 refine av.c5 (X:=Nat) 0 (fun i=>[(2,.ptr 0 0),(3,.ptr 1 0),(7,.int .i64 1),(9,.own 0 3 (if i=0 then[] else[[.int .i64 0,.int .i64 1,.int .i64 0]])),(29,.af 6 [[.int .i64 0,.int .i64 0,.int .i64 1,.int .i64 0,.int .i64 1,.bool false]]),(30,.int .i64 1),(31,.int .i64 (i:Int))]) (fun _=>[(0,48,[.str [83],.str [98],.str [80],.af 7 [],.af 4 [],.af 4 []]),(1,32,[.str [80],.af 1 [[.str [97]],[.str [98]]],.af 5 [[.str [109],.af 4 [[.str [120],.int .i64 1,.int .i64 0,.int .i64 9]],.int .i64 0,.aD,.aD]],.int .i64 2,.int .i64 0,.int .i64 1,.af 6 [[.int .i64 0,.int .i64 0,.int .i64 1,.int .i64 0,.int .i64 1,.bool false]],.aD])]) (fun i=>[(0,.bX 74 3 (if i=0 then 0 else 1))]) (fun i=>i≤1) (fun i=>1-i) (Nat.zero_le _) ⟨rfl,rfl,rfl,rfl,rfl,rfl,rfl,trivial⟩ ⟨rfl,rfl,trivial⟩ ⟨rfl,trivial⟩ ?_
 intro i ad
 match i,ad with
 |0,_=>
  simp only[if_true]
  refine aj ?_
  refine D.P (xJ) ?_
  refine aj ?_
  refine D.F ⟨[1,3],[]⟩ (zq) ?_
  refine aj ?_
  refine D.hQ ?_
  refine aj ?_
  refine av.oG 1 (by decide) ⟨rfl,rfl,rfl,rfl,rfl,rfl,rfl,trivial⟩ ⟨rfl,rfl,trivial⟩ ⟨rfl,trivial⟩ rfl (by simp only[lq,ed,fA,fB,kd,I.dW,cb.bX,go_sem]<;>rfl) (by decide)
 |1,_=>
  simp only[show ¬(1:Nat)=0 by decide,if_false]
  refine aj ?_
  refine D.P (DJ) ?_
  refine aj ?_
  exact D.rx
 |n+2,h=>omega
theorem bc3:Pure Tryz.prog 29 [] (.bool true):=by
 have mu:=(wY (R:=1000) (by decide) xg aF2).le (bu be4 gG)
 have ks:=(z6 xg je aY1 G8).le (bu (bh.refl _) (bu Bf gG))
 have sb:=(z6 uj je Vd G8).le (bu (bh.refl _) (bu Bf gG))
 have mv:=(J5 uj je (by decide)).le (bu (bh.refl _) (bu Bf gG))
 have A4:=bc6
 have zm:=bc5 [(0,1,0)] (by decide)
 rw[Zv]at ks
 rw[LQ]at sb
 rw[show uj.bM=[98] by rfl,R3,show max (1:Int) 0=1 by decide]at mv
 simp only[za]at ks sb
 rw[lK]at mu ks sb mv
 simp only[xg,uj,List.map_cons,List.map_nil,DX]at mu ks sb mv A4 zm
 try (simp (disch:=omega) only[go_sem,simprocAttr]at mu)
 try (simp (disch:=omega) only[go_sem,simprocAttr]at ks)
 try (simp (disch:=omega) only[go_sem,simprocAttr]at sb)
 try (simp (disch:=omega) only[go_sem,simprocAttr]at mv)
 try (simp (disch:=omega) only[go_sem,simprocAttr]at zm)
 refine cM bb Tryz.func29 Yd rfl rfl ?_
 unfold NE TF
 simp(disch:=omega)only[go_sem,simprocAttr]
 refine aj ?_
 refine D.P (mu) ?_
 refine aj ?_
 refine D.P (ks) ?_
 refine dc ?_
 (repeat (apply av.s true true;(·simp(disch:=omega)only[go_sem,simprocAttr,]<;>with_reducible rfl)))
 refine av.dN ?_
 refine dc ?_
 refine av.VR 1 4 4 rfl rfl ?_
 simp(disch:=omega)only[go_sem,simprocAttr]
 refine aj ?_
 refine D.P (sb) ?_
 refine aj ?_
 refine D.P (A4) ?_
 refine aj ?_
 refine D.P (mv) ?_
 refine aj ?_
 refine D.P (zm) ?_
 refine aj ?_
 exact D.rx
end
section
attribute [local go_sem] al.cr ai.cr al.ch ai.ch b6 cR eH eS dp of_flat ba.row db gQ eZ
attribute [local go_sem] eE et er eG ds dw df cH Fd.row dn dz cD.row dr.row bs.row
theorem Zs (x:b3) (g:cd):(kf (x.sub x.hs.reverse x.os.reverse) g).2=0↔(kf x g).2=0:=by
 constructor
 ·intro h
  have:=LP (hs:=x.hs) (os:=x.os) h (List.reverse_perm _).symm (List.reverse_perm _).symm
  exact this
 ·intro h
  exact LP h (List.reverse_perm _) (List.reverse_perm _)
theorem UH {α:Type}{l:List α}{i:Nat}(h:i<l.length): ∃v,l[l.length-1-i]? =some v∧l.reverse[i]? =some v:=by
 refine⟨l[l.length-1-i]'(by omega),List.getElem?_eq_getElem (by omega),?_⟩
 rw[List.getElem?_reverse h]
 exact List.getElem?_eq_getElem (by omega)
theorem bb1 {R:Nat}(ak:R≤140737488355328) (rs:10000≤R) (x:b3) (g:cd) (ab:x.ok R) (uS:cG x.cells≤100000000) (x2:cG g.cells≤100000000):Pure Tryz.prog 11 [x.cQ,g.cQ] (.bool true):=by
 obtain⟨qc,HV⟩:=xO x2
 have f1:=bc4 ak x g ab qc (by omega)
 have eF:=wY ak x ab
 have O4:=bc3
 cases hf:(iP x&&iC g) with
 |false=>
  rw[hf]at f1
  rw[lK]at*
  simp only[lY]at*
  refine cM bb Tryz.func11 y6 (by simp only[b7,I.flat,db,dp,of_flat,cR,df,ds,dw,Bool.and_self]) rfl ?_
  unfold Gv I0
  simp(disch:=omega)only[go_sem,simprocAttr]
  refine aj ?_
  refine D.P (O4) ?_
  refine aj ?_
  refine D.P (f1) ?_
  refine aj ?_
  exact D.rx
 |true=>
 rw[hf]at f1
 simp only[Bool.and_eq_true]at hf
 have hb:=xv uS hf.1
 obtain⟨_,v2,v3⟩:=Bc hf.1
 have ks:=z6 x g hb qc
 have sb:=z6 (x.sub x.hs.reverse x.os.reverse) g (JE hb (fun y aV=>List.mem_reverse.1 aV) (fun y aV=>List.mem_reverse.1 aV) (by rw[List.length_reverse]; omega) (by rw[List.length_reverse]; omega)) qc
 have eR:=wY ak (x.sub x.hs.reverse x.os.reverse) (JF ab (fun y aV=>List.mem_reverse.1 aV) (fun y aV=>List.mem_reverse.1 aV) (by rw[List.length_reverse]; exact ab.l5) (by rw[List.length_reverse]; exact ab.no))
 have BD:=Zs x g
 rcases hC:kf x g with ⟨rG,ar⟩
 rcases j2:kf (x.sub x.hs.reverse x.os.reverse) g with ⟨rH,ax⟩
 rw[hC]at ks BD
 rw[j2]at sb BD
 simp only[za]at ks sb
 simp only at BD
 rw[lK]at*
 simp only[lY]at*
 simp only[b3.sub]at sb eR
 have ta:((x.hs.map bL.row).length:Int)=(x.hs.length:Int):=by rw[List.length_map]
 have rR:((x.os.map cf.row).length:Int)=(x.os.length:Int):=by rw[List.length_map]
 clear hC j2
 refine cM bb Tryz.func11 y6 (by simp only[b7,I.flat,db,dp,of_flat,cR,df,ds,dw,Bool.and_self]) rfl ?_
 unfold Gv I0
 simp(disch:=omega)only[go_sem,simprocAttr]
 refine aj ?_
 refine D.P (O4) ?_
 refine aj ?_
 refine D.P (f1) ?_
 (have ah:=ta;refine bE ?_;clear ah)
 refine av.ou 2 4 4 113 rfl rfl (by decide) ?_
 simp(disch:=omega)only[go_sem,simprocAttr]
 refine av.ou 2 5 4 116 rfl rfl (by decide) ?_
 simp(disch:=omega)only[go_sem,simprocAttr]
 refine av.c5 (X:=Nat×Int) (0,(x.hs.length:Int)-1) (fun p=>[(2,.ptr 0 0),(3,.ptr 1 0),(5,.ptr 2 0),(6,.int .i64 p.2)]) (fun p=>[(0,26,[.str x.name,.str x.bM,.str x.gJ,.af 7 (x.vars.map ba.row),.af 4 (x.hs.map bL.row),.af 4 (x.os.map cf.row)]),(1,32,[.str g.name,.af 1 (g.cC.map b6),.af 5 (g.decls.map bs.row),.int .i64 g.iI,.int .i64 g.start,.int .i64 g.fin,.af 6 (g.cy.map cD.row),.af 3 (g.fH.map dr.row)]),(2,26,[.str x.name,.str x.bM,.str x.gJ,.af 7 (x.vars.map ba.row),.own 0 4 ((x.hs.reverse.take p.1).map bL.row),.own 1 4 []])]) (fun p=>[(0,.bX 113 4 ((x.hs.reverse.take p.1).map bL.row).length),(1,.bX 116 4 0)]) (fun p=>p.1≤x.hs.length∧p.2=(x.hs.length:Int)-1-p.1) (fun p=>x.hs.length-p.1) ⟨Nat.zero_le _,by simp⟩ ⟨rfl,rfl,rfl,rfl,trivial⟩ ⟨rfl,rfl,rfl,trivial⟩ ⟨rfl,rfl,trivial⟩ ?_
 rintro⟨i,z⟩ ⟨ad,aG⟩
 try simp only at ad aG ⊢
 by_cases cB:i<x.hs.length
 ·obtain⟨v,ae,hw⟩:=UH cB
  have ei:=rP bL.row hw
  have hlen:(x.hs.reverse.take i).length=i:=by simp; omega
  have d1:0≤z:=by omega
  simp only[eH]at ei
  clear hw
  (have ah:=d1;refine bE ?_;clear ah)
  refine D.hQ ?_
  refine aj ?_
  refine av.dO (i+1,z-1) ⟨by omega,by omega⟩ ⟨rfl,rfl,rfl,rfl,trivial⟩ (by refine⟨rfl,rfl,?_,trivial⟩; simp only[ei]; rfl) (by refine⟨?_,rfl,trivial⟩; simp only[ei,List.length_append]; rfl) rfl rfl (by show x.hs.length-(i+1)<x.hs.length-i; omega)
 have d1: ¬ 0≤z:=by omega
 have ht:x.hs.reverse.take i=x.hs.reverse:=List.take_of_length_le (by rw[List.length_reverse]; omega)
 rw[ht]
 clear ad aG cB ht
 (have ah:=d1;have z2:=rR;refine eM ?_;clear ah z2)
 refine av.c5 (X:=Nat×Int) (0,(x.os.length:Int)-1) (fun p=>[(2,.ptr 0 0),(3,.ptr 1 0),(5,.ptr 2 0),(7,.int .i64 p.2)]) (fun p=>[(0,26,[.str x.name,.str x.bM,.str x.gJ,.af 7 (x.vars.map ba.row),.af 4 (x.hs.map bL.row),.af 4 (x.os.map cf.row)]),(1,32,[.str g.name,.af 1 (g.cC.map b6),.af 5 (g.decls.map bs.row),.int .i64 g.iI,.int .i64 g.start,.int .i64 g.fin,.af 6 (g.cy.map cD.row),.af 3 (g.fH.map dr.row)]),(2,26,[.str x.name,.str x.bM,.str x.gJ,.af 7 (x.vars.map ba.row),.own 0 4 (x.hs.reverse.map bL.row),.own 1 4 ((x.os.reverse.take p.1).map cf.row)])]) (fun p=>[(0,.bX 113 4 (x.hs.reverse.map bL.row).length),(1,.bX 116 4 ((x.os.reverse.take p.1).map cf.row).length)]) (fun p=>p.1≤x.os.length∧p.2=(x.os.length:Int)-1-p.1) (fun p=>x.os.length-p.1) ⟨Nat.zero_le _,by simp⟩ ⟨rfl,rfl,rfl,rfl,trivial⟩ ⟨rfl,rfl,rfl,trivial⟩ ⟨rfl,rfl,trivial⟩ ?_
 clear d1
 rintro⟨i,z⟩ ⟨ad,aG⟩
 try simp only at ad aG ⊢
 by_cases cB:i<x.os.length
 ·obtain⟨v,ae,hw⟩:=UH cB
  have ei:=rP cf.row hw
  have hlen:(x.os.reverse.take i).length=i:=by simp; omega
  have d1:0≤z:=by omega
  simp only[eS]at ei
  clear hw
  (have ah:=d1;refine bE ?_;clear ah)
  refine D.hQ ?_
  refine aj ?_
  refine av.dO (i+1,z-1) ⟨by omega,by omega⟩ ⟨rfl,rfl,rfl,rfl,trivial⟩ (by refine⟨rfl,rfl,?_,trivial⟩; simp only[ei]; rfl) (by refine⟨rfl,?_,trivial⟩; simp only[ei,List.length_append]; rfl) rfl rfl (by show x.os.length-(i+1)<x.os.length-i; omega)
 have d1: ¬ 0≤z:=by omega
 have ht:x.os.reverse.take i=x.os.reverse:=List.take_of_length_le (by rw[List.length_reverse]; omega)
 rw[ht]
 clear ad aG cB ht
 (repeat (apply av.s true true;(·simp(disch:=omega)only[go_sem,simprocAttr,]<;>with_reducible rfl)))
 refine av.dN ?_
 (have ah:=d1;refine Ay ?_;clear ah)
 (repeat (apply av.s true true;(·simp(disch:=omega)only[go_sem,simprocAttr,]<;>with_reducible rfl)))
 refine av.iU (anns:=[(.agg [.str x.name,.str x.bM,.str x.gJ,.af 7 (x.vars.map ba.row),.af 4 (x.hs.map bL.row),.af 4 (x.os.map cf.row)]),.cT [.str rG,.int .i64 ar]]) ?_
 refine dc ?_
 refine D.fL (eF) ?_
 refine dc ?_
 refine D.fL (ks) ?_
 refine dc ?_
 (repeat (apply av.s true true;(·simp(disch:=omega)only[go_sem,simprocAttr,]<;>with_reducible rfl)))
 refine av.iU (anns:=[(.agg [.str x.name,.str x.bM,.str x.gJ,.af 7 (x.vars.map ba.row),.af 4 (x.hs.reverse.map bL.row),.af 4 (x.os.reverse.map cf.row)]),.cT [.str rH,.int .i64 ax]]) ?_
 refine dc ?_
 refine D.fL (eR) ?_
 refine dc ?_
 refine D.fL (sb) ?_
 by_cases aU:ar=0
 ·have U:ax=0:=BD.2 aU
  (have ah:=aU;have z2:=U;refine eM ?_;clear ah z2)
  exact D.rx
 ·have U: ¬ax=0:=fun k=>aU (BD.1 k)
  (have ah:=aU;have z2:=U;refine eM ?_;clear ah z2)
  exact D.rx
end
section
theorem bb2 (x:b3) (g:cd) (ab:x.ok reachBytes) (U:cG x.cells≤1048576) (aa:cG g.cells≤1048576):Pure Tryz.prog 11 [x.cQ,g.cQ] (.bool true):=bb1 (R:=reachBytes) (by decide) (by decide) x g ab (by omega) (by omega)
end
end Go.aO.T.N
set_option maxRecDepth 100000
namespace Go.aO.T.N
open Go Go.aO Go.Proofs Go.ChangeShapes Go.WideShapes Go.RowKit
theorem vx:iV Tryz.prog [5] 8 5=some [.dD (.i .u8)]:=by kernel_rfl
theorem r0:Tryz.prog.bytesOf 5=1:=by kernel_rfl
variable {R:Nat}
theorem bo4: ∀(n:Nat) (r:List I),kq Tryz.prog [5] R n 5 r→∃z:Int,r=kc z∧0≤z∧z<256
 |0,_,h=>h.elim
 |n+1,r,h=>by
  obtain⟨aT,U,aa⟩:=h
  rw[vx]at U
  cases U
  simp only[h7,gM.ok]at aa
  obtain⟨_,_,rfl,⟨z,rfl,aG⟩,rfl⟩:=aa
  refine⟨z,rfl,?_⟩
  simp only[Lit.wf,Bool.and_eq_true,decide_eq_true_eq,show IntKind.u8.min=0 by rfl,show IntKind.u8.max=255 by rfl]at aG
  omega
section
variable {H:Type}{enc:TypeId×Value→H}{w:World}{base:Nat}{spare:Nat→Bool}{held:Bool}
end
end Go.aO.T.N
