/- Part of a proof; own work. -/
import Derived.KernelRfl
import Derived.Test.YtlemhelnmidpfaaGreatDoorOMore
set_option linter.unusedVariables false
set_option linter.unusedSimpArgs false
set_option maxHeartbeats 8000000
namespace Go.aO
open Go Go.aO.T.N
theorem jv {a:Int}(aU: -9223372036854775808≤a) (U:a<9223372036854775808):IntKind.i64.wrap a=a:=by
 simp only[IntKind.wrap,IntKind.bits,IntKind.signed]
 simp
 omega
mutual
theorem al.ni: ∀x:al,x.bJ≤100000000→x.am=(x.bJ:Int)-1
 | .mk _ _ _ _ _ l,h=>by
  simp only[al.bJ]at h
  have aC:=al.fT l
  simp only[al.am,al.bJ]
  rw[al.hL l (l.length:Int) (by omega) (by omega) (by omega)]
  omega
theorem al.hL: ∀(l:List al) (n:Int),al.bz l≤100000000→0≤n→n+(al.bz l:Int)≤1000000000000→al.gg l n=n+((al.bz l:Int)-l.length)
 |[],n,_,_,_=>by simp [al.gg,al.bz]
 |x::l,n,h,aU,U=>by
  simp only[al.bz]at h U
  have hp:1≤x.bJ:=by cases x; simp only[al.bJ]; omega
  rw[al.gg,al.ni x (by omega),jv (by omega) (by omega),al.hL l _ (by omega) (by omega) (by omega)]
  simp only[al.bz,List.length_cons]
  omega
end
mutual
theorem ai.ni: ∀x:ai,x.bJ≤100000000→x.am=(x.bJ:Int)-1
 | .mk _ _ x _ a b,h=>by
  simp only[ai.bJ]at h
  have hp:1≤x.bJ:=by cases x; simp only[al.bJ]; omega
  have aL:=ai.fT a
  have hb:=ai.fT b
  simp only[ai.am,ai.bJ]
  rw[al.ni x (by omega),ai.hL a (a.length:Int) (by omega) (by omega) (by omega),ai.hL b (b.length:Int) (by omega) (by omega) (by omega),jv (a:=1+ _) (by omega) (by omega),jv (a:=1+ _+ _) (by omega) (by omega),jv (by omega) (by omega)]
  omega
theorem ai.hL: ∀(l:List ai) (n:Int),ai.bz l≤100000000→0≤n→n+(ai.bz l:Int)≤1000000000000→ai.gg l n=n+((ai.bz l:Int)-l.length)
 |[],n,_,_,_=>by simp [ai.gg,ai.bz]
 |x::l,n,h,aU,U=>by
  simp only[ai.bz]at h U
  have hp:1≤x.bJ:=by cases x; simp only[ai.bJ]; omega
  rw[ai.gg,ai.ni x (by omega),jv (by omega) (by omega),ai.hL l _ (by omega) (by omega) (by omega)]
  simp only[ai.bz,List.length_cons]
  omega
end
def fp:List bL→Nat
 |[]=>0
 |h::l=>ai.bz h.body+fp l
def fq:List cf→Nat
 |[]=>0
 |o::l=>al.bz o.args+al.bz o.dk+fq l
theorem sj: ∀(l:List bL) (n:Int) (z:Int),fp l≤100000000→0≤n→n+(fp l:Int)≤1000000000000→kQ l n=some z→z=n+fp l∧∀h∈l,h.ps.length≤60∧ai.bz h.body≤fp l
 |[],n,z,_,_,_,h=>by
  simp only[kQ,Option.some.injEq]at h
  simp [fp,h]
 |h::l,n,z,hs,aU,U,hf=>by
  simp only[fp]at hs U
  simp only[kQ]at hf
  by_cases hp:60<h.ps.length
  ·rw[if_pos hp]at hf; cases hf
  rw[if_neg hp]at hf
  have aC:=ai.fT h.body
  rw[ai.hL h.body (h.body.length:Int) (by omega) (by omega) (by omega),jv (by omega) (by omega)]at hf
  obtain⟨e,k⟩:=sj l _ z (by omega) (by omega) (by omega) hf
  refine⟨by simp only[fp]; omega,fun g a7=> ?_⟩
  simp only[fp]
  rcases List.mem_cons.1 a7 with rfl|a7
  ·exact⟨by omega,by omega⟩
  ·have:=k g a7
   exact⟨this.1,by omega⟩
theorem sk: ∀(l:List cf) (n:Int),fq l≤100000000→0≤n→n+(fq l:Int)≤1000000000000→nq l n=n+fq l
 |[],n,_,_,_=>by simp [nq,fq]
 |o::l,n,hs,aU,U=>by
  simp only[fq]at hs U
  have aL:=al.fT o.args
  have hb:=al.fT o.dk
  rw[nq,al.hL o.args (o.args.length:Int) (by omega) (by omega) (by omega),al.hL o.dk (o.dk.length:Int) (by omega) (by omega) (by omega)]
  simp (disch:=omega) only[jv]
  rw[sk l _ (by omega) (by omega) (by omega)]
  simp only[fq]
  omega
theorem sX: ∀ {l:List cf}{o:cf},o∈l→al.bz o.args+al.bz o.dk≤fq l
 |p::l,o,h=>by
  simp only[fq]
  rcases List.mem_cons.1 h with rfl|h
  ·omega
  ·have:=sX h; omega
theorem xK {x:b3}(U:fp x.hs≤100000000) (aa:fq x.os≤100000000) (hf:iP x=true):jw x:=by
 unfold iP at hf
 cases a8:kQ x.hs 0 with
 |none=>rw[a8]at hf; cases hf
 |some n=>
  rw[a8]at hf
  obtain⟨e,k⟩:=sj x.hs 0 n U (by omega) (by omega) a8
  simp only[Bool.and_eq_true,decide_eq_true_eq]at hf
  rw[sk x.os n aa (by omega) (by omega)]at hf
  obtain⟨f1,f2,f3,f4⟩:=hf
  exact⟨fun h hm=>by have:=(k h hm).2; omega,fun h hm=>by have:=(k h hm).1; omega,fun o hm=>by have:=sX hm; omega,by omega,by omega,by omega⟩
theorem sV: ∀l:List bL,fp l≤fo (l.map bL.row)
 |[]=>by simp [fp]
 |h::l=>by
  have:=sV l
  have:=ai.nS h.body
  simp only[fp,List.map_cons,fo,bL.row,cG,I.eY]
  omega
theorem sW: ∀l:List cf,fq l≤fo (l.map cf.row)
 |[]=>by simp [fq]
 |o::l=>by
  have:=sW l
  have:=al.nS o.args
  have:=al.nS o.dk
  simp only[fq,List.map_cons,fo,cf.row,cG,I.eY]
  omega
theorem xv {x:b3}(h:cG x.cells≤100000000) (hf:iP x=true):jw x:=by
 have U:=sV x.hs
 have aa:=sW x.os
 simp only[b3.cells,cG,I.eY]at h
 exact xK (by omega) (by omega) hf
end Go.aO
namespace Go.aO.T.N
open Go Go.aO Go.Proofs Go.RowKit
set_option maxRecDepth 100000
attribute [local irreducible] Go.aO.av Go.aO.au Go.aO.aY
section
attribute [local go_sem] al.cr ai.cr al.ch ai.ch b6 cR eH eS dp of_flat ba.row db gQ eZ
attribute [local go_sem] eE et er eG ds dw df cH Fd.row dn dz cD.row dr.row bs.row
def dJ:List bs→Nat
 |[]=>0
 |d::l=>d.fields.length+d.ep.length+d.eqs.length+dJ l
def np (l:List bs):Bool:=decide (l.length≤60)&&decide (dJ l≤100)
def iC (g:cd):Bool:=decide (g.iI≤40)&&(decide (g.cy.length≤80)&&(decide (g.fH.length≤40)&&(decide (g.cC.length≤10)&&np g.decls)))
theorem yA {l:List bs}{i:Nat}{d:bs}(h:l[i]? =some d):dJ (l.take (i+1))=dJ (l.take i)+(d.fields.length+d.ep.length+d.eqs.length):=by
 rw[List.take_add_one,h]
 generalize l.take i=m
 induction m with
 |nil=>simp [dJ]
 |cons x m bB=>simp only[List.cons_append,dJ,bB]; omega
theorem yB (l:List bs) (i:Nat):dJ (l.take i)≤dJ l:=by
 induction l generalizing i with
 |nil=>simp [dJ]
 |cons x l bB=>
  cases i with
  |zero=>simp [dJ]
  |succ i=>
   have:=bB i
   simp only[List.take_succ_cons,dJ]
   omega
theorem yI (l:List bs) (aC:l.length≤1000000000) (hs:dJ l≤1000000000):Pure Tryz.prog 120 [.af 5 (l.map bs.row)] (.bool (np l)):=by
 refine cM bb Tryz.func120 xw (by simp only[b7,I.flat,df,Bool.and_self]) rfl ?_
 unfold r9 sK
 have eb:((l.map bs.row).length:Int)=(l.length:Int):=by rw[List.length_map]
 simp(disch:=omega)only[go_sem,simprocAttr]
 refine aj ?_
 refine av.c5 (X:=Nat) 0 (fun i=>[(0,.af 5 (l.map bs.row)),(3,.int .i64 (dJ (l.take i):Int)),(4,.int .i64 (i:Int))]) (fun _=>[]) (fun _=>[]) (fun i=>i≤l.length) (fun i=>l.length-i) (Nat.zero_le _) ⟨rfl,rfl,rfl,trivial⟩ trivial trivial ?_
 intro i ad
 try simp only at ad ⊢
 cases ae:l[i]? with
 |some d=>
  have cB:=(List.getElem?_eq_some_iff.1 ae).1
  have d1:(i:Int)<(l.length:Int):=by omega
  have s1:=yA ae
  have s2:=yB l (i+1)
  have nO:((d.fields.map Fd.row).length:Int)=(d.fields.length:Int):=by rw[List.length_map]
  have lP:((d.ep.map dn).length:Int)=(d.ep.length:Int):=by rw[List.length_map]
  have c4:((d.eqs.map dz).length:Int)=(d.eqs.length:Int):=by rw[List.length_map]
  generalize ea:dJ (l.take (i+1))=S at s1 s2
  (have ah:=eb;have z2:=d1;have z3:=And.intro nO (And.intro lP c4);refine dE ?_;clear ah z2 z3)
  refine av.dO (i+1) (by omega) ⟨rfl,by simp only[Env.get,ea]; rw[s1]; simp only[Int.natCast_add,Int.add_assoc]<;>rfl,by simp only[Int.natCast_add]; rfl,trivial⟩ trivial trivial rfl rfl (by show l.length-(i+1)<l.length-i; omega)
 |none=>
  have cg:=List.getElem?_eq_none_iff.1 ae
  have e:i=l.length:=by omega
  subst e
  have d1: ¬(l.length:Int)<(l.length:Int):=by omega
  simp only[List.take_length]
  by_cases U:l.length≤60
  ·have d2:(l.length:Int)≤60:=by omega
   (have ah:=eb;have z2:=d1;have z3:=d2;refine dE ?_;clear ah z2 z3)
   refine D.r ?_
   refine⟨_,rfl,.aM ?_ rfl,trivial,trivial⟩
   simp only[np,decide_eq_true U,Bool.true_and,I.aM]
   congr 1
   exact decide_eq_decide.2 (by omega)
  ·have d2: ¬(l.length:Int)≤60:=by omega
   (have ah:=eb;have z2:=d1;have z3:=d2;refine dE ?_;clear ah z2 z3)
   refine D.r ?_
   refine⟨_,rfl,.aM ?_ rfl,trivial,trivial⟩
   simp only[np,decide_eq_false U,Bool.false_and,I.aM]
theorem r2: ∀(l:List (List I)),(∀r∈l,1≤cG r)→l.length≤fo l
 |[],_=>Nat.zero_le _
 |r::l,h=>by
  have U:=h r (by simp)
  have aa:=r2 l fun x ab=>h x (by simp [ab])
  simp only[List.length_cons,fo]
  omega
theorem jm {α:Type}(f:α→List I) (hf: ∀a,1≤cG (f a)) (l:List α):l.length≤fo (l.map f):=by
 have:=r2 (l.map f) (by intro r ac; obtain⟨a,_,rfl⟩:=List.mem_map.1 ac; exact hf a)
 simpa using this
theorem r3: ∀ {l:List (List I)}{r:List I},r∈l→cG r≤fo l
 |x::l,r,h=>by
  simp only[fo]
  rcases List.mem_cons.1 h with rfl|h
  ·omega
  ·have:=r3 h; omega
theorem r8 (d:bs):d.fields.length+d.ep.length+d.eqs.length≤cG d.row:=by
 have U:=jm Fd.row (fun f=>by simp only[Fd.row,cG,I.eY]; omega) d.fields
 have aa:=jm dn (fun f=>by simp only[dn,cG,I.eY]; omega) d.ep
 have ay:=jm dz (fun f=>by simp only[dz,cG,I.eY]; omega) d.eqs
 simp only[bs.row,cG,I.eY]
 omega
theorem sU: ∀l:List bs,dJ l≤fo (l.map bs.row)
 |[]=>by simp [dJ]
 |d::l=>by
  have U:=r8 d
  have aa:=sU l
  simp only[dJ,List.map_cons,fo]
  omega
theorem xO {g:cd}(h:cG g.cells≤100000000):kp g∧dJ g.decls≤100000000:=by
 have U:=jm b6 (fun f=>by simp only[b6,cG,I.eY]; omega) g.cC
 have aa:=jm bs.row (fun f=>by simp only[bs.row,cG,I.eY]; omega) g.decls
 have ay:=jm cD.row (fun f=>by simp only[cD.row,cG,I.eY]; omega) g.cy
 have bl:=jm dr.row (fun f=>by simp only[dr.row,cG,I.eY]; omega) g.fH
 have bW:=sU g.decls
 simp only[cd.cells,cG,I.eY]at h
 refine⟨⟨by omega,by omega,by omega,by omega,fun d br=> ?_⟩,by omega⟩
 have bf:=r3 (List.mem_map_of_mem (f:=bs.row) br)
 have bi:=r8 d
 omega
theorem yK (g:cd) (hb:kp g) (hs:dJ g.decls≤1000000000):Pure Tryz.prog 45 [g.cQ] (.bool (iC g)):=by
 have ar:=yI g.decls hb.yi hs
 rw[lY]
 have c4:((g.cy.map cD.row).length:Int)=(g.cy.length:Int):=by rw[List.length_map]
 have kJ:((g.fH.map dr.row).length:Int)=(g.fH.length:Int):=by rw[List.length_map]
 have nc:((g.cC.map b6).length:Int)=(g.cC.length:Int):=by rw[List.length_map]
 refine cM bb Tryz.func45 xz (by simp only[b7,I.flat,cR,df,ds,dw,Bool.and_self]) rfl ?_
 unfold se sN
 by_cases U:g.iI≤40
 rotate_left
 ·simp(disch:=omega)only[go_sem,simprocAttr]
  (have ah:=U;refine bE ?_;clear ah)
  refine D.r ?_
  exact⟨_,rfl,.aM (by simp only[iC,decide_eq_false U,Bool.false_and,I.aM]) rfl,trivial,trivial⟩
 by_cases aa:g.cy.length≤80
 rotate_left
 ·have d2: ¬(g.cy.length:Int)≤80:=by omega
  simp(disch:=omega)only[go_sem,simprocAttr]
  (have ah:=U;have z2:=c4;have z3:=d2;refine dE ?_;clear ah z2 z3)
  refine D.r ?_
  exact⟨_,rfl,.aM (by simp only[iC,decide_eq_false aa,Bool.false_and,Bool.and_false,I.aM]) rfl,trivial,trivial⟩
 have d2:(g.cy.length:Int)≤80:=by omega
 by_cases ay:g.fH.length≤40
 rotate_left
 ·have d3: ¬(g.fH.length:Int)≤40:=by omega
  simp(disch:=omega)only[go_sem,simprocAttr]
  (have ah:=U;have z2:=c4;have z3:=And.intro d2 (And.intro kJ d3);refine dE ?_;clear ah z2 z3)
  refine D.r ?_
  exact⟨_,rfl,.aM (by simp only[iC,decide_eq_false ay,Bool.false_and,Bool.and_false,I.aM]) rfl,trivial,trivial⟩
 have d3:(g.fH.length:Int)≤40:=by omega
 by_cases bl:g.cC.length≤10
 rotate_left
 ·have d4: ¬(g.cC.length:Int)≤10:=by omega
  simp(disch:=omega)only[go_sem,simprocAttr]
  (have ah:=U;have z2:=c4;have z3:=And.intro d2 (And.intro kJ (And.intro d3 (And.intro nc d4)));refine dE ?_;clear ah z2 z3)
  refine D.r ?_
  exact⟨_,rfl,.aM (by simp only[iC,decide_eq_false bl,Bool.false_and,Bool.and_false,I.aM]) rfl,trivial,trivial⟩
 have d4:(g.cC.length:Int)≤10:=by omega
 simp(disch:=omega)only[go_sem,simprocAttr]
 (have ah:=U;have z2:=c4;have z3:=And.intro d2 (And.intro kJ (And.intro d3 (And.intro nc d4)));refine dE ?_;clear ah z2 z3)
 refine D.P (ar) ?_
 refine aj ?_
 refine D.r ?_
 exact⟨_,rfl,.aM (by simp only[iC,decide_eq_true U,decide_eq_true aa,decide_eq_true ay,decide_eq_true bl,Bool.true_and,I.aM]) rfl,trivial,trivial⟩
theorem CR {R:Nat}(ak:R≤140737488355328) (x:b3) (g:cd) (ab:x.ok R) (hb:kp g) (hs:dJ g.decls≤1000000000):Pure Tryz.prog 19 [x.cQ,g.cQ] (.bool (iP x&&iC g)):=by
 have ar:=ER ak x ab
 have ax:=yK g hb hs
 rw[lK]at*
 simp only[lY]at*
 refine cM bb Tryz.func19 AN (by simp only[b7,I.flat,db,dp,of_flat,cR,df,ds,dw,Bool.and_self]) rfl ?_
 unfold wh wZ
 simp(disch:=omega)only[go_sem,simprocAttr]
 refine aj ?_
 refine D.P (ar) ?_
 generalize iP x=b at*
 cases b
 ·refine aj ?_
  exact D.rx
 ·refine aj ?_
  refine D.P (ax) ?_
  refine aj ?_
  exact D.rx
end
section
set_option maxRecDepth 1000000
attribute [local go_sem] al.cr ai.cr al.ch ai.ch b6 cR eH eS dp of_flat ba.row db gQ eZ
attribute [local go_sem] eE et er eG ds dw df cH Fd.row dn dz cD.row dr.row bs.row hB ie dI eI fR bK.row
def lO:b3:=⟨[83],[97],[80],[⟨[107],1,0,9,1,0,[]⟩],[],[⟨[109],[98],[],[.mk 6 [62] [] [] 0 [.mk 1 [] [] [] 2 [],.mk 3 [] [107] [] 0 []]]⟩]⟩
def fj:cd:=⟨[80],[[97],[98]],[⟨[109],[],0,[],[]⟩],2,0,1,[⟨0,0,1,0,1,false⟩],[]⟩
theorem yC:jw lO:=by
 refine⟨(fun h hm=>by cases hm),(fun h hm=>by cases hm),fun o hm=> ?_,by decide,by decide,by decide⟩
 simp only[lO,List.mem_cons,List.not_mem_nil,or_false]at hm
 subst hm
 decide
theorem wz:kp fj:=by
 refine⟨by decide,by decide,by decide,by decide,fun d hm=> ?_⟩
 simp only[fj,List.mem_cons,List.not_mem_nil,or_false]at hm
 subst hm
 decide
theorem xA:jy lO fj=(⟨[83],0,[⟨[107],1,0,9,1,0,[]⟩],[],[(1,0,0,4)],[⟨3,0,[]⟩,⟨1,2,[]⟩,⟨13,0,[]⟩,⟨24,0,[]⟩,⟨24,0,[]⟩]⟩,0):=by kernel_rfl
theorem xe (n:Int):Pure Tryz.prog 24 [.int .i64 n] (.agg [.int .i64 1,.int .i64 n,.str []]):=by
 refine cM bb Tryz.func24 xy rfl rfl ?_
 unfold kO sM
 simp(disch:=omega)only[go_sem,simprocAttr]
 refine aj ?_
 exact D.rx
theorem wy:bh (.agg [.str [80],.af 1 [[.str [97]],[.str [98]]],.af 5 [[.str [109],.aD,.int .i64 0,.aD,.aD]],.int .i64 2,.int .i64 0,.int .i64 1,.af 6 [[.int .i64 0,.int .i64 0,.int .i64 1,.int .i64 0,.int .i64 1,.bool false]],.aD]) fj.cQ:=
 qt (bu (bh.refl _) (bu (bh.refl _) (bu (mj (.cons (bu (bh.refl _) (bu bh.nil (bu (bh.refl _) (bu bh.nil (bu bh.nil gG))))) .nil)) (bu (bh.refl _) (bu (bh.refl _) (bu (bh.refl _) (bu (bh.refl _) (bu bh.nil gG))))))))
theorem yN:bh (.agg [.str [83],.str [97],.str [80],.af 7 [[.str [107],.int .i64 1,.int .i64 0,.int .i64 9,.int .i64 1,.int .i64 0,.str []]],.aD,.af 4 [[.str [109],.str [98],.aD,.af 6 [[.int .i64 6,.str [62],.str [],.str [],.int .i64 0,.af 6 [[.int .i64 1,.str [],.str [],.str [],.int .i64 2,.aD],[.int .i64 3,.str [],.str [107],.str [],.int .i64 0,.aD]]]]]]]) lO.cQ:=by
 have h: ∀k n m,eo [.int .i64 k,.str [],.str m,.str [],.int .i64 n,.aD] [.int .i64 k,.str [],.str m,.str [],.int .i64 n,.af 6 []]:=fun k n m=>bu (bh.refl _) (bu (bh.refl _) (bu (bh.refl _) (bu (bh.refl _) (bu (bh.refl _) (bu bh.nil gG)))))
 exact qt (bu (bh.refl _) (bu (bh.refl _) (bu (bh.refl _) (bu (bh.refl _) (bu bh.nil (bu (mj (.cons (bu (bh.refl _) (bu (bh.refl _) (bu bh.nil (bu (mj (.cons (bu (bh.refl _) (bu (bh.refl _) (bu (bh.refl _) (bu (bh.refl _) (bu (bh.refl _) (bu (mj (.cons (h _ _ _) (.cons (h _ _ _) .nil))) gG)))))) .nil)) gG)))) .nil)) gG))))))
theorem yJ:Pure Tryz.prog 18 [] (.bool true):=by
 have fS:=(ug lO fj yC wz).le (bu yN (bu wy gG))
 rw[xA]at fS
 have kO:=xe 0
 simp only[gL.cQ,gL.cells,List.map_cons,List.map_nil]at fS
 simp(disch:=omega)only[go_sem,simprocAttr]at fS
 refine cM bb Tryz.func18 xx rfl rfl ?_
 unfold sa sL
 simp(disch:=omega)only[go_sem,simprocAttr]
 refine aj ?_
 refine D.P (kO) ?_
 refine aj ?_
 refine D.P (fS) ?_
 refine aj ?_
 refine av.c5 (X:=Nat) 0 (fun i=>[(3,.ptr 2 0),(5,.af 3 [[.int .i64 3,.int .i64 0,.str []],[.int .i64 1,.int .i64 2,.str []],[.int .i64 13,.int .i64 0,.str []],[.int .i64 24,.int .i64 0,.str []],[.int .i64 24,.int .i64 0,.str []]]),(6,.int .i64 (i:Int))]) (fun _=>[(2,40,[.str [83],.int .i64 0,.af 7 [[.str [107],.int .i64 1,.int .i64 0,.int .i64 9,.int .i64 1,.int .i64 0,.str []]],.af 3 [],.af 4 [[.int .i64 1,.int .i64 0,.int .i64 0,.int .i64 4]],.af 3 [[.int .i64 3,.int .i64 0,.str []],[.int .i64 1,.int .i64 2,.str []],[.int .i64 13,.int .i64 0,.str []],[.int .i64 24,.int .i64 0,.str []],[.int .i64 24,.int .i64 0,.str []]]])]) (fun _=>[]) (fun i=>i≤5) (fun i=>5-i) (Nat.zero_le _) ⟨rfl,rfl,rfl,trivial⟩ ⟨rfl,trivial⟩ trivial ?_
 intro i ad
 match i,ad with
 |0,_=>
  refine aj ?_
  refine av.dO 1 (by decide) ⟨rfl,rfl,rfl,trivial⟩ ⟨rfl,trivial⟩ trivial rfl rfl (by decide)
 |1,_=>
  refine aj ?_
  refine av.dO 2 (by decide) ⟨rfl,rfl,rfl,trivial⟩ ⟨rfl,trivial⟩ trivial rfl rfl (by decide)
 |2,_=>
  refine aj ?_
  refine av.dO 3 (by decide) ⟨rfl,rfl,rfl,trivial⟩ ⟨rfl,trivial⟩ trivial rfl rfl (by decide)
 |3,_=>
  refine aj ?_
  refine av.dO 4 (by decide) ⟨rfl,rfl,rfl,trivial⟩ ⟨rfl,trivial⟩ trivial rfl rfl (by decide)
 |4,_=>
  refine aj ?_
  refine av.dO 5 (by decide) ⟨rfl,rfl,rfl,trivial⟩ ⟨rfl,trivial⟩ trivial rfl rfl (by decide)
 |5,_=>
  refine aj ?_
  exact D.rx
 |n+6,h=>omega
end
section
def gd (p q:Nat) (l:List bK):Prop:=∀i∈l,i.op≠24∧(i.op=19∨i.op=20∨i.op=22→(p:Int)≤i.n∧i.n≤(q:Int))
inductive iL:Nat→List Int→List bK→Prop
 |nil {p:Nat}:iL p [] []
 |cons {p:Nat}{body:List bK}{E:List Int}{c:List bK}(h:gd p (p+body.length) body) (t:iL (p+(body.length+1)) E c):iL p ((p:Int)::E) (body++ins 24 0::c)
theorem wD (x:b3) (g:cd): ∀(l:List bL) (p:Nat),(dM x g p l).1.length=l.length
 |[],_=>rfl
 |h::l,p=>by simp only[dM,List.length_cons,wD x g l]
end
section
attribute [local go_sem] al.cr ai.cr al.ch ai.ch b6 cR eH eS dp of_flat ba.row db gQ eZ
attribute [local go_sem] eE et er eG ds dw df cH Fd.row dn dz cD.row dr.row bs.row hB ie dI eI fR bK.row
theorem v7 {x:b3}{g:cd}{P:gL}(h:jy x g=(P,0)):(kf x g).2=0∧(iZ x g).length≤1000∧(dM x g 0 x.hs).2.2=false∧P=⟨x.name,eJ g.cC x.bM,x.vars,(dM x g 0 x.hs).1,(hq x g (dM x g 0 x.hs).2.1.length x.os).1,iZ x g⟩:=by
 unfold jy at h
 split at h
 ·rename_i aq
  split at h
  ·cases h
  ·rename_i aW
   simp only[not_or,Bool.not_eq_true]at aW
   simp only[Prod.mk.injEq]at h
   exact⟨aq,by omega,aW.2,h.1.symm⟩
 ·cases h
theorem wU (x:b3) (g:cd): ∀(l:List cf) (p:Nat),(hq x g p l).1.length=l.length
 |[],_=>rfl
 |h::l,p=>by simp only[hq,List.length_cons,wU x g l]
end
section
attribute [local go_sem] al.cr ai.cr al.ch ai.ch b6 cR eH eS dp of_flat ba.row db gQ eZ hB ie dI eI fR bK.row
theorem bd1 (l:List ba) (aC:l.length≤1000000000):Pure Tryz.prog 67 [.af 7 (l.map ba.row),.af 7 (l.map ba.row)] (.bool true):=by
 refine cM bb Tryz.func67 YX (by simp only[b7,I.flat,db,Bool.and_self]) rfl ?_
 unfold Of Ur
 have eb:((l.map ba.row).length:Int)=(l.length:Int):=by rw[List.length_map]
 simp(disch:=omega)only[go_sem,simprocAttr]
 (have ah:=eb;refine bE ?_;clear ah)
 refine av.c5 (X:=Nat) 0 (fun i=>[(0,.af 7 (l.map ba.row)),(1,.af 7 (l.map ba.row)),(12,.int .i64 (l.length:Int)),(13,.int .i64 (i:Int))]) (fun _=>[]) (fun _=>[]) (fun i=>i≤l.length) (fun i=>l.length-i) (Nat.zero_le _) ⟨rfl,rfl,by simp only[Env.get,eb]; rfl,rfl,trivial⟩ trivial trivial ?_
 intro i ad
 try simp only at ad ⊢
 cases ae:l[i]? with
 |some v=>
  have cB:=(List.getElem?_eq_some_iff.1 ae).1
  have d1:(i:Int)<(l.length:Int):=by omega
  (have ah:=eb;have z2:=d1;refine eM ?_;clear ah z2)
  refine av.dO (i+1) (by omega) ⟨rfl,rfl,rfl,by simp only[Int.natCast_add]; rfl,trivial⟩ trivial trivial rfl rfl (by show l.length-(i+1)<l.length-i; omega)
 |none=>
  have cg:=List.getElem?_eq_none_iff.1 ae
  have d1: ¬(i:Int)<(l.length:Int):=by omega
  (have ah:=eb;have z2:=d1;refine eM ?_;clear ah z2)
  exact D.rx
theorem bd2 (l:List (Int×Int×Int)) (aC:l.length≤1000000000):Pure Tryz.prog 68 [.af 3 (l.map dI),.af 3 (l.map dI)] (.bool true):=by
 refine cM bb Tryz.func68 YY (by simp only[b7,I.flat,hB,Bool.and_self]) rfl ?_
 unfold Og Us
 have eb:((l.map dI).length:Int)=(l.length:Int):=by rw[List.length_map]
 simp(disch:=omega)only[go_sem,simprocAttr]
 (have ah:=eb;refine bE ?_;clear ah)
 refine av.c5 (X:=Nat) 0 (fun i=>[(0,.af 3 (l.map dI)),(1,.af 3 (l.map dI)),(12,.int .i64 (l.length:Int)),(13,.int .i64 (i:Int))]) (fun _=>[]) (fun _=>[]) (fun i=>i≤l.length) (fun i=>l.length-i) (Nat.zero_le _) ⟨rfl,rfl,by simp only[Env.get,eb]; rfl,rfl,trivial⟩ trivial trivial ?_
 intro i ad
 try simp only at ad ⊢
 cases ae:l[i]? with
 |some v=>
  have cB:=(List.getElem?_eq_some_iff.1 ae).1
  have d1:(i:Int)<(l.length:Int):=by omega
  (have ah:=eb;have z2:=d1;refine eM ?_;clear ah z2)
  refine av.dO (i+1) (by omega) ⟨rfl,rfl,rfl,by simp only[Int.natCast_add]; rfl,trivial⟩ trivial trivial rfl rfl (by show l.length-(i+1)<l.length-i; omega)
 |none=>
  have cg:=List.getElem?_eq_none_iff.1 ae
  have d1: ¬(i:Int)<(l.length:Int):=by omega
  (have ah:=eb;have z2:=d1;refine eM ?_;clear ah z2)
  exact D.rx
theorem bd3 (l:List (Int×Int×Int×Int)) (aC:l.length≤1000000000):Pure Tryz.prog 69 [.af 4 (l.map eI),.af 4 (l.map eI)] (.bool true):=by
 refine cM bb Tryz.func69 YZ (by simp only[b7,I.flat,ie,Bool.and_self]) rfl ?_
 unfold Oh Ut
 have eb:((l.map eI).length:Int)=(l.length:Int):=by rw[List.length_map]
 simp(disch:=omega)only[go_sem,simprocAttr]
 (have ah:=eb;refine bE ?_;clear ah)
 refine av.c5 (X:=Nat) 0 (fun i=>[(0,.af 4 (l.map eI)),(1,.af 4 (l.map eI)),(12,.int .i64 (l.length:Int)),(13,.int .i64 (i:Int))]) (fun _=>[]) (fun _=>[]) (fun i=>i≤l.length) (fun i=>l.length-i) (Nat.zero_le _) ⟨rfl,rfl,by simp only[Env.get,eb]; rfl,rfl,trivial⟩ trivial trivial ?_
 intro i ad
 try simp only at ad ⊢
 cases ae:l[i]? with
 |some v=>
  have cB:=(List.getElem?_eq_some_iff.1 ae).1
  have d1:(i:Int)<(l.length:Int):=by omega
  (have ah:=eb;have z2:=d1;refine eM ?_;clear ah z2)
  refine av.dO (i+1) (by omega) ⟨rfl,rfl,rfl,by simp only[Int.natCast_add]; rfl,trivial⟩ trivial trivial rfl rfl (by show l.length-(i+1)<l.length-i; omega)
 |none=>
  have cg:=List.getElem?_eq_none_iff.1 ae
  have d1: ¬(i:Int)<(l.length:Int):=by omega
  (have ah:=eb;have z2:=d1;refine eM ?_;clear ah z2)
  exact D.rx
theorem bd6 (l:List bK) (aC:l.length≤1000000000):Pure Tryz.prog 70 [.af 3 (l.map bK.row),.af 3 (l.map bK.row)] (.bool true):=by
 refine cM bb Tryz.func70 Y0 (by simp only[b7,I.flat,fR,Bool.and_self]) rfl ?_
 unfold Oi Uu
 have eb:((l.map bK.row).length:Int)=(l.length:Int):=by rw[List.length_map]
 simp(disch:=omega)only[go_sem,simprocAttr]
 (have ah:=eb;refine bE ?_;clear ah)
 refine av.c5 (X:=Nat) 0 (fun i=>[(0,.af 3 (l.map bK.row)),(1,.af 3 (l.map bK.row)),(12,.int .i64 (l.length:Int)),(13,.int .i64 (i:Int))]) (fun _=>[]) (fun _=>[]) (fun i=>i≤l.length) (fun i=>l.length-i) (Nat.zero_le _) ⟨rfl,rfl,by simp only[Env.get,eb]; rfl,rfl,trivial⟩ trivial trivial ?_
 intro i ad
 try simp only at ad ⊢
 cases ae:l[i]? with
 |some v=>
  have cB:=(List.getElem?_eq_some_iff.1 ae).1
  have d1:(i:Int)<(l.length:Int):=by omega
  (have ah:=eb;have z2:=d1;refine eM ?_;clear ah z2)
  refine av.dO (i+1) (by omega) ⟨rfl,rfl,rfl,by simp only[Int.natCast_add]; rfl,trivial⟩ trivial trivial rfl rfl (by show l.length-(i+1)<l.length-i; omega)
 |none=>
  have cg:=List.getElem?_eq_none_iff.1 ae
  have d1: ¬(i:Int)<(l.length:Int):=by omega
  (have ah:=eb;have z2:=d1;refine eM ?_;clear ah z2)
  exact D.rx
theorem bc0 (P:gL) (aH:P.vars.length≤1000000000) (fG:P.hs.length≤1000000000) (nw:P.os.length≤1000000000) (ye:P.code.length≤1000000000):Pure Tryz.prog 25 [P.cQ,P.cQ] (.bool true):=by
 have ar:=bd1 P.vars aH
 have ax:=bd2 P.hs fG
 have bU:=bd3 P.os nw
 have dl:=bd6 P.code ye
 simp only[gL.cQ,gL.cells]
 refine cM bb Tryz.func25 XX (by simp only[b7,I.flat,db,hB,ie,fR,Bool.and_self]) rfl ?_
 unfold A3 Tp
 simp(disch:=omega)only[go_sem,simprocAttr]
 refine aj ?_
 refine D.P (ar) ?_
 refine aj ?_
 refine D.P (ax) ?_
 refine aj ?_
 refine D.P (bU) ?_
 refine aj ?_
 refine D.P (dl) ?_
 refine aj ?_
 exact D.rx
end
section
def _root_.Go.aO.fJ.more (cx:fJ) (v:ba):fJ:=⟨cx.vars++[v],cx.ps,cx.aT⟩
theorem R4 {α:Type}(f:α→Bool): ∀(l r:List α) (i:Nat),l.all f=false→dt f (l++r) i=dt f l i
 |[],r,i,h=>by simp at h
 |x::l,r,i,h=>by
  simp only[List.cons_append,dt]
  cases ab:f x with
  |false=>rfl
  |true=>
   rw[List.all_cons,ab,Bool.true_and]at h
   simp only[cond_true]
   exact R4 f l r (i+1) h
theorem Kb {l:List ba}{v:ba}{m:bF}(h:l.any (fun w=>decide (w.name=m))=true):pa (l++[v]) m=pa l m∧0≤pa l m∧pa l m<l.length:=by
 have aa:l.all (fun w=> !decide (w.name=m))=false:=by
  have:=vt (fun w:ba=>decide (w.name=m)) l
  rw[h,vs]at this
  simpa using this
 refine⟨R4 _ _ _ _ aa,(IJ _ _ _).2 aa,?_⟩
 have:=IK (fun w:ba=> !decide (w.name=m)) l 0
 unfold pa
 omega
theorem RM {cx:fJ}{k n:Int}{o m t:bF}{l:List al}(h:o3 cx (.mk k o m t n l)=true):k=1∨k=2∨(k=3∧qO cx m=true)∨(k≠3∧jE cx l=true):=by
 simp only[o3]at h
 by_cases U:k=1
 ·exact .inl U
 by_cases aa:k=2
 ·exact .inr (.inl aa)
 rw[if_neg (by simp [U,aa])]at h
 by_cases ay:k=3
 ·rw[if_pos ay]at h
  exact .inr (.inr (.inl ⟨ay,h⟩))
 ·rw[if_neg ay]at h
  refine .inr (.inr (.inr ⟨ay,?_⟩))
  split at h<;>simp only[Bool.and_eq_true]at h<;>exact h.2
mutual
theorem aZ1 {cx:fJ}{v:ba}: ∀x:al,o3 cx x=true→vC (cx.more v) x=vC cx x
 | .mk k o m t n l,h=>by
  simp only[vC]
  rcases RM h with rfl|rfl|⟨rfl,aW⟩|⟨ay,aC⟩
  ·simp
  ·simp
  ·simp only[show ¬(3:Int)=2 by decide,if_false,if_true]
   show (if 0≤eJ cx.ps m then _ else _)= _
   by_cases hp:0≤eJ cx.ps m
   ·rw[if_pos hp,if_pos hp]; rfl
   ·rw[if_neg hp,if_neg hp]
    unfold qO at aW
    rw[if_neg hp]at aW
    obtain⟨U,aa,ay⟩:=Kb (v:=v) aW
    simp only[fJ.more]
    rw[U,List.getElem?_append_left (by omega)]
  ·have:=Vg (v:=v) l aC
   simp only[if_neg ay,this]
theorem Vg {cx:fJ}{v:ba}: ∀l:List al,jE cx l=true→w8 (cx.more v) l=w8 cx l
 |[],_=>rfl
 |x::l,h=>by
  simp only[jE,Bool.and_eq_true]at h
  simp only[w8]
  exact aZ1 x h.1
end
mutual
theorem F6 {cx:fJ}{v:ba}: ∀x:al,o3 cx x=true→c3 (cx.more v) x=c3 cx x
 | .mk k o m t n l,h=>by
  simp only[c3]
  rcases RM h with rfl|rfl|⟨rfl,aW⟩|⟨ay,aC⟩
  ·simp
  ·simp
  ·simp only[show ¬(3:Int)=1 by decide,show ¬(3:Int)=2 by decide,if_false,if_true]
   show [if 0≤eJ cx.ps m then _ else _]= _
   by_cases hp:0≤eJ cx.ps m
   ·rw[if_pos hp,if_pos hp]; rfl
   ·rw[if_neg hp,if_neg hp]
    unfold qO at aW
    rw[if_neg hp]at aW
    obtain⟨U,aa,ay⟩:=Kb (v:=v) aW
    simp only[fJ.more]
    rw[U]
  ·have U:=F7 (v:=v) l aC
   have aa:=Vg (v:=v) l aC
   simp only[if_neg ay,U,aa]
theorem F7 {cx:fJ}{v:ba}: ∀l:List al,jE cx l=true→fM (cx.more v) l=fM cx l
 |[],_=>rfl
 |x::l,h=>by
  simp only[jE,Bool.and_eq_true]at h
  simp only[fM,F6 x h.1,F7 l h.2]
end
mutual
theorem ZE {cx:fJ}{v:ba}: ∀(x:ai) (p:Nat),wV cx x=true→hT (cx.more v) p x=hT cx p x
 | .mk k m x t a b,p,h=>by
  simp only[wV,Bool.and_eq_true]at h
  obtain⟨ab,h⟩:=h
  have ex:=F6 (v:=v) x ab
  simp only[hT,ex]
  by_cases bf:k=1
  ·rw[if_pos bf]at h
   simp only[if_pos bf]
   have:=(Kb (v:=v) h).1
   simp only[fJ.more,this]
  rw[if_neg bf]at h
  simp only[Bool.and_eq_true]at h
  have h8:=fun p=>Dv (v:=v) a p h.1
  have iB:=fun p=>Dv (v:=v) b p h.2
  simp only[if_neg bf,h8]
  by_cases bi:k=2
  ·simp only[if_pos bi]
   cases b with
   |nil=>rfl
   |cons y r=>simp only[iB]
  ·simp only[if_neg bi]
theorem Dv {cx:fJ}{v:ba}: ∀(l:List ai) (p:Nat),pC cx l=true→dS (cx.more v) p l=dS cx p l
 |[],_,_=>rfl
 |x::l,p,h=>by
  simp only[pC,Bool.and_eq_true]at h
  simp only[dS,ZE x p h.1,Dv l _ h.2]
end
def _root_.Go.aO.b3.more (x:b3) (v:ba):b3:=⟨x.name,x.bM,x.gJ,x.vars++[v],x.hs,x.os⟩
theorem Pd {x:b3}{g:cd}{v:ba}: ∀(l:List bL) (p:Nat),(∀h∈l,pC ⟨x.vars,h.ps,kl g h.c7⟩ h.body=true)→dM (x.more v) g p l=dM x g p l
 |[],_,_=>rfl
 |h::l,p,aw=>by
  have U:=Dv (v:=v) h.body p (aw h (by simp))
  have aa:ly (x.more v) (kl g h.c7) p h=ly x (kl g h.c7) p h:=by
   unfold ly
   rw[←U]
   rfl
  simp only[dM,aa,Pd l _ fun y aV=>aw y (by simp [aV])]
theorem RJ {x:b3}{g:cd}{v:ba}: ∀(l:List cf) (p:Nat),(∀o∈l,jE ⟨x.vars,[],[]⟩ o.args=true∧jE ⟨x.vars,[],[]⟩ o.dk=true)→hq (x.more v) g p l=hq x g p l
 |[],_,_=>rfl
 |o::l,p,aw=>by
  obtain⟨bf,bi⟩:=aw o (by simp)
  have U:fM ⟨(x.more v).vars,[],[]⟩ o.args=fM ⟨x.vars,[],[]⟩ o.args:=F7 (v:=v) o.args bf
  have aa:og ⟨(x.more v).vars,[],[]⟩ p o.dk=og ⟨x.vars,[],[]⟩ p o.dk:=by
   cases hw:o.dk with
   |nil=>rfl
   |cons y r=>
    rw[hw]at bi
    simp only[jE,Bool.and_eq_true]at bi
    have:c3 ⟨(x.more v).vars,[],[]⟩ y=c3 ⟨x.vars,[],[]⟩ y:=F6 (v:=v) y bi.1
    simp only[og,this]
  simp only[hq,U,aa,RJ l _ fun y aV=>aw y (by simp [aV])]
theorem ZG {x:b3}{g:cd}{v:ba}{P Q:gL}(hb:jw x) (h:jy x g=(P,0)) (k:jy (x.more v) g=(Q,0)):Q=⟨P.name,P.bM,P.vars++[v],P.hs,P.os,P.code⟩:=by
 obtain⟨c1,_,_,rfl⟩:=v7 h
 obtain⟨_,_,_,rfl⟩:=v7 k
 have ac:=UE hb c1
 have U: ∀p,dM (x.more v) g p x.hs=dM x g p x.hs:=fun p=>Pd x.hs p fun y aV=>(ac.hs y aV).2.1
 have aa: ∀p,hq (x.more v) g p x.os=hq x g p x.os:=fun p=>RJ x.os p fun y aV=>⟨(ac.os y aV).1,(ac.os y aV).2.1⟩
 have ay:(x.more v).hs=x.hs:=rfl
 have bl:(x.more v).os=x.os:=rfl
 simp only[iZ,ay,bl,U,aa]
 rfl
end
section
attribute [local go_sem] al.cr ai.cr al.ch ai.ch b6 cR eH eS dp of_flat ba.row db gQ eZ
attribute [local go_sem] eE et er eG ds dw df cH Fd.row dn dz cD.row dr.row bs.row hB ie dI eI fR bK.row
theorem Bc {x:b3}(h:iP x=true):x.vars.length≤60∧x.hs.length≤60∧x.os.length≤60:=by
 unfold iP at h
 cases a8:kQ x.hs 0 with
 |none=>rw[a8]at h; cases h
 |some n=>
  rw[a8]at h
  simp only[Bool.and_eq_true,decide_eq_true_eq]at h
  exact h.2
def oL:ba:=⟨[122,122,122,122,122,122,122,122,122,122,122,122,122,122,122,122],1,0,1,1,0,[]⟩
theorem vO (l:List ba):eN (l.map ba.row++[[.str [122,122,122,122,122,122,122,122,122,122,122,122,122,122,122,122],.int .i64 1,.int .i64 0,.int .i64 1,.int .i64 1,.int .i64 0,.str []]])=true:=by
 have h:=db (l++[oL])
 rw[List.map_append]at h
 exact h
attribute [local go_sem] vO
theorem aC1 {R:Nat}(h:10000≤R){x:b3}(ab:x.ok R) (ae:x.vars.length≤60):(x.more oL).ok R:=by
 refine⟨ab.name,ab.bM,ab.gJ,?_,?_,ab.l5,ab.hs,ab.no,ab.os⟩
 ·simp only[b3.more,List.length_append,List.length_cons,List.length_nil]
  omega
 ·intro v hm
  simp only[b3.more,List.mem_append,List.mem_cons,List.not_mem_nil,or_false]at hm
  rcases hm with hm|rfl
  ·exact ab.vars v hm
  ·exact⟨⟨by show 16≤R; omega,by show 0≤R; omega⟩,rfl,rfl,rfl,rfl,rfl⟩
theorem aC0 {x:b3}(hb:jw x) (ae:x.vars.length≤60):jw (x.more oL):=
 ⟨hb.aL,hb.hp,hb.sH,by simp only[b3.more,List.length_append,List.length_cons,List.length_nil]; omega,hb.l5,hb.no⟩
theorem yL {R:Nat}(ak:R≤140737488355328) (rs:10000≤R) (x:b3) (g:cd) (ab:x.ok R) (uS:cG x.cells≤100000000) (x2:cG g.cells≤100000000):Pure Tryz.prog 6 [x.cQ,g.cQ] (.bool true):=by
 obtain⟨qc,HV⟩:=xO x2
 have f1:=CR ak x g ab qc (by omega)
 have eF:=wY ak x ab
 have rr:=yJ
 cases hf:(iP x&&iC g) with
 |false=>
  rw[hf]at f1
  rw[lK]at*
  simp only[lY]at*
  refine cM bb Tryz.func6 ls (by simp only[b7,I.flat,db,dp,of_flat,cR,df,ds,dw,Bool.and_self]) rfl ?_
  unfold mw sO
  simp(disch:=omega)only[go_sem,simprocAttr]
  refine aj ?_
  refine D.P (rr) ?_
  refine aj ?_
  refine D.P (f1) ?_
  refine aj ?_
  exact D.rx
 |true=>
 rw[hf]at f1
 simp only[Bool.and_eq_true]at hf
 have hb:=xv uS hf.1
 have HC:=(Bc hf.1).1
 have fS:=ug x g hb qc
 have mu:=ug (x.more oL) g (aC0 hb HC) qc
 have eR:=wY ak (x.more oL) (aC1 rs ab HC)
 have kO:=xe 0
 have rv:= @ZG x g oL
 rcases hC:jy x g with ⟨P,e⟩
 rcases j2:jy (x.more oL) g with ⟨Q,f⟩
 rw[hC]at fS
 rw[j2]at mu
 simp only[gL.cQ,gL.cells]at fS mu
 rw[lK]at*
 simp only[lY]at*
 have sE:(x.vars.map ba.row).length=x.vars.length:=List.length_map _
 simp only[b3.more,List.map_append,List.map_cons,List.map_nil,oL]at eR mu
 simp(disch:=omega)only[go_sem,simprocAttr]at eR
 simp(disch:=omega)only[go_sem,simprocAttr]at mu
 refine cM bb Tryz.func6 ls (by simp only[b7,I.flat,db,dp,of_flat,cR,df,ds,dw,Bool.and_self]) rfl ?_
 unfold mw sO
 simp(disch:=omega)only[go_sem,simprocAttr]
 refine aj ?_
 refine D.P (rr) ?_
 refine aj ?_
 refine D.P (f1) ?_
 refine aj ?_
 refine D.hQ ?_
 refine aj ?_
 refine D.P (kO) ?_
 refine aj ?_
 refine D.hQ ?_
 refine dc ?_
 (repeat (apply av.s true true;(·simp(disch:=omega)only[go_sem,simprocAttr,]<;>with_reducible rfl)))
 refine av.iU (anns:=[(.agg [.str x.name,.str x.bM,.str x.gJ,.af 7 (x.vars.map ba.row),.af 4 (x.hs.map bL.row),.af 4 (x.os.map cf.row)]),.cT [.agg [.str P.name,.int .i64 P.bM,.af 7 (P.vars.map ba.row),.af 3 (P.hs.map dI),.af 4 (P.os.map eI),.af 3 (P.code.map bK.row)],.int .i64 e]]) ?_
 refine dc ?_
 refine D.fL (eF) ?_
 refine dc ?_
 refine D.fL (fS) ?_
 refine dc ?_
 (repeat (apply av.s true true;(·simp(disch:=omega)only[go_sem,simprocAttr,]<;>with_reducible rfl)))
 refine av.iU (anns:=[(.agg [.str x.name,.str x.bM,.str x.gJ,.af 7 (x.vars.map ba.row++[[.str [122,122,122,122,122,122,122,122,122,122,122,122,122,122,122,122],.int .i64 1,.int .i64 0,.int .i64 1,.int .i64 1,.int .i64 0,.str []]]),.af 4 (x.hs.map bL.row),.af 4 (x.os.map cf.row)]),.cT [.agg [.str Q.name,.int .i64 Q.bM,.af 7 (Q.vars.map ba.row),.af 3 (Q.hs.map dI),.af 4 (Q.os.map eI),.af 3 (Q.code.map bK.row)],.int .i64 f]]) ?_
 refine dc ?_
 refine D.fL (eR) ?_
 refine dc ?_
 refine D.fL (mu) ?_
 by_cases aU:e=0
 rotate_left
 ·(have ah:=aU;refine bE ?_;clear ah)
  exact D.rx
 by_cases U:f=0
 rotate_left
 ·(have ah:=aU;have z2:=U;refine eM ?_;clear ah z2)
  exact D.rx
 subst aU
 subst U
 have zw:=rv hb hC j2
 obtain⟨D6,sr,pu,mz⟩:=v7 hC
 have A3:=bc0 P (by rw[mz]; have:=hb.kn; simp only; omega) (by have:=wD x g x.hs 0; have:=hb.l5; rw[mz]; simp only; omega) (by have:=wU x g x.os (dM x g 0 x.hs).2.1.length; have:=hb.no; rw[mz]; simp only; omega) (by rw[mz]; simp only; omega)
 have aH:P.vars.length≤1000000:=by rw[mz]; exact hb.kn
 simp only[gL.cQ,gL.cells]at A3
 obtain⟨V,jB⟩: ∃V,V=P.vars++[oL]:=⟨_,rfl⟩
 have Pa:V.length=P.vars.length+1:=by rw[jB]; simp
 have dF:(V.map ba.row).take P.vars.length=P.vars.map ba.row:=by rw[jB,List.map_append,List.take_left' (by simp)]
 rw[←jB]at zw
 subst zw
 have bg1:((V.map ba.row).length:Int)=(P.vars.length:Int)+1:=by rw[List.length_map,Pa]; simp
 have bg2:((P.vars.map ba.row).length:Int)=(P.vars.length:Int):=by rw[List.length_map]
 clear mz hC j2 jB fS mu eF eR
 (have ah:=bg1;have z2:=bg2;refine eM ?_;clear ah z2)
 (apply au.Ah (P.vars.length);(·simp(disch:=omega)only[go_sem,simprocAttr]<;>with_reducible rfl);(·simp(disch:=omega)only[go_sem,simprocAttr]<;>with_reducible rfl);(·omega);(·(try simp only[List.length_map]);omega))
 (have ah:=dF;refine bE ?_;clear ah)
 refine D.P (A3) ?_
 refine aj ?_
 exact D.rx
end
section
set_option maxRecDepth 1000000
attribute [local go_sem] al.cr ai.cr al.ch ai.ch b6 cR eH eS dp of_flat ba.row db gQ eZ
attribute [local go_sem] eE et er eG ds dw df cH Fd.row dn dz cD.row dr.row bs.row hB ie dI eI fR bK.row
def kc (n:Int):List I:=[.int .u8 n]
theorem tu (l:List Int):eN (l.map kc)=true:=lW (fun _=>rfl) l
attribute [local go_sem] kc tu
end
section
theorem bd4 (x:b3) (g:cd) (ab:x.ok reachBytes) (U:cG x.cells≤1048576) (aa:cG g.cells≤1048576):Pure Tryz.prog 6 [x.cQ,g.cQ] (.bool true):=yL (R:=reachBytes) (by decide) (by decide) x g ab (by omega) (by omega)
end
section
set_option maxRecDepth 1000000
attribute [local go_sem] al.cr ai.cr al.ch ai.ch b6 cR eH eS dp of_flat ba.row db gQ eZ
attribute [local go_sem] eE et er eG ds dw df cH Fd.row dn dz cD.row dr.row bs.row hB ie dI eI fR bK.row
def je:cd:=⟨[80],[[97],[98]],[⟨[109],[⟨[120],1,0,9⟩],0,[],[]⟩],2,0,1,[⟨0,0,1,0,1,false⟩],[]⟩
end
end Go.aO.T.N
set_option maxRecDepth 100000
namespace Go.aO.T.N
open Go Go.aO Go.Proofs Go.ChangeShapes Go.WideShapes Go.RowKit
theorem vx:iV Tryz.prog [5] 8 5=some [.dD (.i .u8)]:=by kernel_rfl
theorem r0:Tryz.prog.bytesOf 5=1:=by kernel_rfl
variable {R:Nat}
theorem bo4: ∀(n:Nat) (r:List I),kq Tryz.prog [5] R n 5 r→∃z:Int,r=kc z∧0≤z∧z<256
 |0,_,h=>h.elim
 |n+1,r,h=>by
  obtain⟨aT,U,aa⟩:=h
  rw[vx]at U
  cases U
  simp only[h7,gM.ok]at aa
  obtain⟨_,_,rfl,⟨z,rfl,aG⟩,rfl⟩:=aa
  refine⟨z,rfl,?_⟩
  simp only[Lit.wf,Bool.and_eq_true,decide_eq_true_eq,show IntKind.u8.min=0 by rfl,show IntKind.u8.max=255 by rfl]at aG
  omega
section
variable {H:Type}{enc:TypeId×Value→H}{w:World}{base:Nat}{spare:Nat→Bool}{held:Bool}
end
end Go.aO.T.N
