/- Part of a proof; own work. -/
import Derived.KernelRfl
import Derived.Test.YtlemhelnmidpfaaGreatDoorOEnds
set_option linter.unusedVariables false
set_option linter.unusedSimpArgs false
set_option maxHeartbeats 8000000
namespace Go.aO
open Go Go.aO.T.N
theorem jv {a:Int}(aU: -9223372036854775808≤a) (U:a<9223372036854775808):IntKind.i64.wrap a=a:=by
 simp only[IntKind.wrap,IntKind.bits,IntKind.signed]
 simp
 omega
mutual
theorem al.ni: ∀x:al,x.bJ≤100000000→x.am=(x.bJ:Int)-1
 | .mk _ _ _ _ _ l,h=>by
  simp only[al.bJ]at h
  have aC:=al.fT l
  simp only[al.am,al.bJ]
  rw[al.hL l (l.length:Int) (by omega) (by omega) (by omega)]
  omega
theorem al.hL: ∀(l:List al) (n:Int),al.bz l≤100000000→0≤n→n+(al.bz l:Int)≤1000000000000→al.gg l n=n+((al.bz l:Int)-l.length)
 |[],n,_,_,_=>by simp [al.gg,al.bz]
 |x::l,n,h,aU,U=>by
  simp only[al.bz]at h U
  have hp:1≤x.bJ:=by cases x; simp only[al.bJ]; omega
  rw[al.gg,al.ni x (by omega),jv (by omega) (by omega),al.hL l _ (by omega) (by omega) (by omega)]
  simp only[al.bz,List.length_cons]
  omega
end
mutual
theorem ai.ni: ∀x:ai,x.bJ≤100000000→x.am=(x.bJ:Int)-1
 | .mk _ _ x _ a b,h=>by
  simp only[ai.bJ]at h
  have hp:1≤x.bJ:=by cases x; simp only[al.bJ]; omega
  have aL:=ai.fT a
  have hb:=ai.fT b
  simp only[ai.am,ai.bJ]
  rw[al.ni x (by omega),ai.hL a (a.length:Int) (by omega) (by omega) (by omega),ai.hL b (b.length:Int) (by omega) (by omega) (by omega),jv (a:=1+ _) (by omega) (by omega),jv (a:=1+ _+ _) (by omega) (by omega),jv (by omega) (by omega)]
  omega
theorem ai.hL: ∀(l:List ai) (n:Int),ai.bz l≤100000000→0≤n→n+(ai.bz l:Int)≤1000000000000→ai.gg l n=n+((ai.bz l:Int)-l.length)
 |[],n,_,_,_=>by simp [ai.gg,ai.bz]
 |x::l,n,h,aU,U=>by
  simp only[ai.bz]at h U
  have hp:1≤x.bJ:=by cases x; simp only[ai.bJ]; omega
  rw[ai.gg,ai.ni x (by omega),jv (by omega) (by omega),ai.hL l _ (by omega) (by omega) (by omega)]
  simp only[ai.bz,List.length_cons]
  omega
end
def fp:List bL→Nat
 |[]=>0
 |h::l=>ai.bz h.body+fp l
def fq:List cf→Nat
 |[]=>0
 |o::l=>al.bz o.args+al.bz o.dk+fq l
theorem sj: ∀(l:List bL) (n:Int) (z:Int),fp l≤100000000→0≤n→n+(fp l:Int)≤1000000000000→kQ l n=some z→z=n+fp l∧∀h∈l,h.ps.length≤60∧ai.bz h.body≤fp l
 |[],n,z,_,_,_,h=>by
  simp only[kQ,Option.some.injEq]at h
  simp [fp,h]
 |h::l,n,z,hs,aU,U,hf=>by
  simp only[fp]at hs U
  simp only[kQ]at hf
  by_cases hp:60<h.ps.length
  ·rw[if_pos hp]at hf; cases hf
  rw[if_neg hp]at hf
  have aC:=ai.fT h.body
  rw[ai.hL h.body (h.body.length:Int) (by omega) (by omega) (by omega),jv (by omega) (by omega)]at hf
  obtain⟨e,k⟩:=sj l _ z (by omega) (by omega) (by omega) hf
  refine⟨by simp only[fp]; omega,fun g a7=> ?_⟩
  simp only[fp]
  rcases List.mem_cons.1 a7 with rfl|a7
  ·exact⟨by omega,by omega⟩
  ·have:=k g a7
   exact⟨this.1,by omega⟩
theorem sk: ∀(l:List cf) (n:Int),fq l≤100000000→0≤n→n+(fq l:Int)≤1000000000000→nq l n=n+fq l
 |[],n,_,_,_=>by simp [nq,fq]
 |o::l,n,hs,aU,U=>by
  simp only[fq]at hs U
  have aL:=al.fT o.args
  have hb:=al.fT o.dk
  rw[nq,al.hL o.args (o.args.length:Int) (by omega) (by omega) (by omega),al.hL o.dk (o.dk.length:Int) (by omega) (by omega) (by omega)]
  simp (disch:=omega) only[jv]
  rw[sk l _ (by omega) (by omega) (by omega)]
  simp only[fq]
  omega
theorem sX: ∀ {l:List cf}{o:cf},o∈l→al.bz o.args+al.bz o.dk≤fq l
 |p::l,o,h=>by
  simp only[fq]
  rcases List.mem_cons.1 h with rfl|h
  ·omega
  ·have:=sX h; omega
theorem xK {x:b3}(U:fp x.hs≤100000000) (aa:fq x.os≤100000000) (hf:iP x=true):jw x:=by
 unfold iP at hf
 cases a8:kQ x.hs 0 with
 |none=>rw[a8]at hf; cases hf
 |some n=>
  rw[a8]at hf
  obtain⟨e,k⟩:=sj x.hs 0 n U (by omega) (by omega) a8
  simp only[Bool.and_eq_true,decide_eq_true_eq]at hf
  rw[sk x.os n aa (by omega) (by omega)]at hf
  obtain⟨f1,f2,f3,f4⟩:=hf
  exact⟨fun h hm=>by have:=(k h hm).2; omega,fun h hm=>by have:=(k h hm).1; omega,fun o hm=>by have:=sX hm; omega,by omega,by omega,by omega⟩
theorem sV: ∀l:List bL,fp l≤fo (l.map bL.row)
 |[]=>by simp [fp]
 |h::l=>by
  have:=sV l
  have:=ai.nS h.body
  simp only[fp,List.map_cons,fo,bL.row,cG,I.eY]
  omega
theorem sW: ∀l:List cf,fq l≤fo (l.map cf.row)
 |[]=>by simp [fq]
 |o::l=>by
  have:=sW l
  have:=al.nS o.args
  have:=al.nS o.dk
  simp only[fq,List.map_cons,fo,cf.row,cG,I.eY]
  omega
theorem xv {x:b3}(h:cG x.cells≤100000000) (hf:iP x=true):jw x:=by
 have U:=sV x.hs
 have aa:=sW x.os
 simp only[b3.cells,cG,I.eY]at h
 exact xK (by omega) (by omega) hf
end Go.aO
namespace Go.aO.T.N
open Go Go.aO Go.Proofs Go.RowKit
set_option maxRecDepth 100000
attribute [local irreducible] Go.aO.av Go.aO.au Go.aO.aY
section
attribute [local go_sem] al.cr ai.cr al.ch ai.ch b6 cR eH eS dp of_flat ba.row db gQ eZ
attribute [local go_sem] eE et er eG ds dw df cH Fd.row dn dz cD.row dr.row bs.row
def dJ:List bs→Nat
 |[]=>0
 |d::l=>d.fields.length+d.ep.length+d.eqs.length+dJ l
def np (l:List bs):Bool:=decide (l.length≤60)&&decide (dJ l≤100)
def iC (g:cd):Bool:=decide (g.iI≤40)&&(decide (g.cy.length≤80)&&(decide (g.fH.length≤40)&&(decide (g.cC.length≤10)&&np g.decls)))
theorem yA {l:List bs}{i:Nat}{d:bs}(h:l[i]? =some d):dJ (l.take (i+1))=dJ (l.take i)+(d.fields.length+d.ep.length+d.eqs.length):=by
 rw[List.take_add_one,h]
 generalize l.take i=m
 induction m with
 |nil=>simp [dJ]
 |cons x m bB=>simp only[List.cons_append,dJ,bB]; omega
theorem yB (l:List bs) (i:Nat):dJ (l.take i)≤dJ l:=by
 induction l generalizing i with
 |nil=>simp [dJ]
 |cons x l bB=>
  cases i with
  |zero=>simp [dJ]
  |succ i=>
   have:=bB i
   simp only[List.take_succ_cons,dJ]
   omega
theorem yI (l:List bs) (aC:l.length≤1000000000) (hs:dJ l≤1000000000):Pure Tryz.prog 120 [.af 5 (l.map bs.row)] (.bool (np l)):=by
 refine cM bb Tryz.func120 xw (by simp only[b7,I.flat,df,Bool.and_self]) rfl ?_
 unfold r9 sK
 have eb:((l.map bs.row).length:Int)=(l.length:Int):=by rw[List.length_map]
 simp(disch:=omega)only[go_sem,simprocAttr]
 refine aj ?_
 refine av.c5 (X:=Nat) 0 (fun i=>[(0,.af 5 (l.map bs.row)),(3,.int .i64 (dJ (l.take i):Int)),(4,.int .i64 (i:Int))]) (fun _=>[]) (fun _=>[]) (fun i=>i≤l.length) (fun i=>l.length-i) (Nat.zero_le _) ⟨rfl,rfl,rfl,trivial⟩ trivial trivial ?_
 intro i ad
 try simp only at ad ⊢
 cases ae:l[i]? with
 |some d=>
  have cB:=(List.getElem?_eq_some_iff.1 ae).1
  have d1:(i:Int)<(l.length:Int):=by omega
  have s1:=yA ae
  have s2:=yB l (i+1)
  have nO:((d.fields.map Fd.row).length:Int)=(d.fields.length:Int):=by rw[List.length_map]
  have lP:((d.ep.map dn).length:Int)=(d.ep.length:Int):=by rw[List.length_map]
  have c4:((d.eqs.map dz).length:Int)=(d.eqs.length:Int):=by rw[List.length_map]
  generalize ea:dJ (l.take (i+1))=S at s1 s2
  (have ah:=eb;have z2:=d1;have z3:=And.intro nO (And.intro lP c4);refine dE ?_;clear ah z2 z3)
  refine av.dO (i+1) (by omega) ⟨rfl,by simp only[Env.get,ea]; rw[s1]; simp only[Int.natCast_add,Int.add_assoc]<;>rfl,by simp only[Int.natCast_add]; rfl,trivial⟩ trivial trivial rfl rfl (by show l.length-(i+1)<l.length-i; omega)
 |none=>
  have cg:=List.getElem?_eq_none_iff.1 ae
  have e:i=l.length:=by omega
  subst e
  have d1: ¬(l.length:Int)<(l.length:Int):=by omega
  simp only[List.take_length]
  by_cases U:l.length≤60
  ·have d2:(l.length:Int)≤60:=by omega
   (have ah:=eb;have z2:=d1;have z3:=d2;refine dE ?_;clear ah z2 z3)
   refine D.r ?_
   refine⟨_,rfl,.aM ?_ rfl,trivial,trivial⟩
   simp only[np,decide_eq_true U,Bool.true_and,I.aM]
   congr 1
   exact decide_eq_decide.2 (by omega)
  ·have d2: ¬(l.length:Int)≤60:=by omega
   (have ah:=eb;have z2:=d1;have z3:=d2;refine dE ?_;clear ah z2 z3)
   refine D.r ?_
   refine⟨_,rfl,.aM ?_ rfl,trivial,trivial⟩
   simp only[np,decide_eq_false U,Bool.false_and,I.aM]
theorem r2: ∀(l:List (List I)),(∀r∈l,1≤cG r)→l.length≤fo l
 |[],_=>Nat.zero_le _
 |r::l,h=>by
  have U:=h r (by simp)
  have aa:=r2 l fun x ab=>h x (by simp [ab])
  simp only[List.length_cons,fo]
  omega
theorem jm {α:Type}(f:α→List I) (hf: ∀a,1≤cG (f a)) (l:List α):l.length≤fo (l.map f):=by
 have:=r2 (l.map f) (by intro r ac; obtain⟨a,_,rfl⟩:=List.mem_map.1 ac; exact hf a)
 simpa using this
theorem r3: ∀ {l:List (List I)}{r:List I},r∈l→cG r≤fo l
 |x::l,r,h=>by
  simp only[fo]
  rcases List.mem_cons.1 h with rfl|h
  ·omega
  ·have:=r3 h; omega
theorem r8 (d:bs):d.fields.length+d.ep.length+d.eqs.length≤cG d.row:=by
 have U:=jm Fd.row (fun f=>by simp only[Fd.row,cG,I.eY]; omega) d.fields
 have aa:=jm dn (fun f=>by simp only[dn,cG,I.eY]; omega) d.ep
 have ay:=jm dz (fun f=>by simp only[dz,cG,I.eY]; omega) d.eqs
 simp only[bs.row,cG,I.eY]
 omega
theorem sU: ∀l:List bs,dJ l≤fo (l.map bs.row)
 |[]=>by simp [dJ]
 |d::l=>by
  have U:=r8 d
  have aa:=sU l
  simp only[dJ,List.map_cons,fo]
  omega
theorem xO {g:cd}(h:cG g.cells≤100000000):kp g∧dJ g.decls≤100000000:=by
 have U:=jm b6 (fun f=>by simp only[b6,cG,I.eY]; omega) g.cC
 have aa:=jm bs.row (fun f=>by simp only[bs.row,cG,I.eY]; omega) g.decls
 have ay:=jm cD.row (fun f=>by simp only[cD.row,cG,I.eY]; omega) g.cy
 have bl:=jm dr.row (fun f=>by simp only[dr.row,cG,I.eY]; omega) g.fH
 have bW:=sU g.decls
 simp only[cd.cells,cG,I.eY]at h
 refine⟨⟨by omega,by omega,by omega,by omega,fun d br=> ?_⟩,by omega⟩
 have bf:=r3 (List.mem_map_of_mem (f:=bs.row) br)
 have bi:=r8 d
 omega
theorem yK (g:cd) (hb:kp g) (hs:dJ g.decls≤1000000000):Pure Tryz.prog 45 [g.cQ] (.bool (iC g)):=by
 have ar:=yI g.decls hb.yi hs
 rw[lY]
 have c4:((g.cy.map cD.row).length:Int)=(g.cy.length:Int):=by rw[List.length_map]
 have kJ:((g.fH.map dr.row).length:Int)=(g.fH.length:Int):=by rw[List.length_map]
 have nc:((g.cC.map b6).length:Int)=(g.cC.length:Int):=by rw[List.length_map]
 refine cM bb Tryz.func45 xz (by simp only[b7,I.flat,cR,df,ds,dw,Bool.and_self]) rfl ?_
 unfold se sN
 by_cases U:g.iI≤40
 rotate_left
 ·simp(disch:=omega)only[go_sem,simprocAttr]
  (have ah:=U;refine bE ?_;clear ah)
  refine D.r ?_
  exact⟨_,rfl,.aM (by simp only[iC,decide_eq_false U,Bool.false_and,I.aM]) rfl,trivial,trivial⟩
 by_cases aa:g.cy.length≤80
 rotate_left
 ·have d2: ¬(g.cy.length:Int)≤80:=by omega
  simp(disch:=omega)only[go_sem,simprocAttr]
  (have ah:=U;have z2:=c4;have z3:=d2;refine dE ?_;clear ah z2 z3)
  refine D.r ?_
  exact⟨_,rfl,.aM (by simp only[iC,decide_eq_false aa,Bool.false_and,Bool.and_false,I.aM]) rfl,trivial,trivial⟩
 have d2:(g.cy.length:Int)≤80:=by omega
 by_cases ay:g.fH.length≤40
 rotate_left
 ·have d3: ¬(g.fH.length:Int)≤40:=by omega
  simp(disch:=omega)only[go_sem,simprocAttr]
  (have ah:=U;have z2:=c4;have z3:=And.intro d2 (And.intro kJ d3);refine dE ?_;clear ah z2 z3)
  refine D.r ?_
  exact⟨_,rfl,.aM (by simp only[iC,decide_eq_false ay,Bool.false_and,Bool.and_false,I.aM]) rfl,trivial,trivial⟩
 have d3:(g.fH.length:Int)≤40:=by omega
 by_cases bl:g.cC.length≤10
 rotate_left
 ·have d4: ¬(g.cC.length:Int)≤10:=by omega
  simp(disch:=omega)only[go_sem,simprocAttr]
  (have ah:=U;have z2:=c4;have z3:=And.intro d2 (And.intro kJ (And.intro d3 (And.intro nc d4)));refine dE ?_;clear ah z2 z3)
  refine D.r ?_
  exact⟨_,rfl,.aM (by simp only[iC,decide_eq_false bl,Bool.false_and,Bool.and_false,I.aM]) rfl,trivial,trivial⟩
 have d4:(g.cC.length:Int)≤10:=by omega
 simp(disch:=omega)only[go_sem,simprocAttr]
 (have ah:=U;have z2:=c4;have z3:=And.intro d2 (And.intro kJ (And.intro d3 (And.intro nc d4)));refine dE ?_;clear ah z2 z3)
 refine D.P (ar) ?_
 refine aj ?_
 refine D.r ?_
 exact⟨_,rfl,.aM (by simp only[iC,decide_eq_true U,decide_eq_true aa,decide_eq_true ay,decide_eq_true bl,Bool.true_and,I.aM]) rfl,trivial,trivial⟩
theorem CR {R:Nat}(ak:R≤140737488355328) (x:b3) (g:cd) (ab:x.ok R) (hb:kp g) (hs:dJ g.decls≤1000000000):Pure Tryz.prog 19 [x.cQ,g.cQ] (.bool (iP x&&iC g)):=by
 have ar:=ER ak x ab
 have ax:=yK g hb hs
 rw[lK]at*
 simp only[lY]at*
 refine cM bb Tryz.func19 AN (by simp only[b7,I.flat,db,dp,of_flat,cR,df,ds,dw,Bool.and_self]) rfl ?_
 unfold wh wZ
 simp(disch:=omega)only[go_sem,simprocAttr]
 refine aj ?_
 refine D.P (ar) ?_
 generalize iP x=b at*
 cases b
 ·refine aj ?_
  exact D.rx
 ·refine aj ?_
  refine D.P (ax) ?_
  refine aj ?_
  exact D.rx
end
section
set_option maxRecDepth 1000000
attribute [local go_sem] al.cr ai.cr al.ch ai.ch b6 cR eH eS dp of_flat ba.row db gQ eZ
attribute [local go_sem] eE et er eG ds dw df cH Fd.row dn dz cD.row dr.row bs.row hB ie dI eI fR bK.row
def lO:b3:=⟨[83],[97],[80],[⟨[107],1,0,9,1,0,[]⟩],[],[⟨[109],[98],[],[.mk 6 [62] [] [] 0 [.mk 1 [] [] [] 2 [],.mk 3 [] [107] [] 0 []]]⟩]⟩
def fj:cd:=⟨[80],[[97],[98]],[⟨[109],[],0,[],[]⟩],2,0,1,[⟨0,0,1,0,1,false⟩],[]⟩
theorem yC:jw lO:=by
 refine⟨(fun h hm=>by cases hm),(fun h hm=>by cases hm),fun o hm=> ?_,by decide,by decide,by decide⟩
 simp only[lO,List.mem_cons,List.not_mem_nil,or_false]at hm
 subst hm
 decide
theorem wz:kp fj:=by
 refine⟨by decide,by decide,by decide,by decide,fun d hm=> ?_⟩
 simp only[fj,List.mem_cons,List.not_mem_nil,or_false]at hm
 subst hm
 decide
theorem xA:jy lO fj=(⟨[83],0,[⟨[107],1,0,9,1,0,[]⟩],[],[(1,0,0,4)],[⟨3,0,[]⟩,⟨1,2,[]⟩,⟨13,0,[]⟩,⟨24,0,[]⟩,⟨24,0,[]⟩]⟩,0):=by kernel_rfl
theorem xe (n:Int):Pure Tryz.prog 24 [.int .i64 n] (.agg [.int .i64 1,.int .i64 n,.str []]):=by
 refine cM bb Tryz.func24 xy rfl rfl ?_
 unfold kO sM
 simp(disch:=omega)only[go_sem,simprocAttr]
 refine aj ?_
 exact D.rx
theorem wy:bh (.agg [.str [80],.af 1 [[.str [97]],[.str [98]]],.af 5 [[.str [109],.aD,.int .i64 0,.aD,.aD]],.int .i64 2,.int .i64 0,.int .i64 1,.af 6 [[.int .i64 0,.int .i64 0,.int .i64 1,.int .i64 0,.int .i64 1,.bool false]],.aD]) fj.cQ:=
 qt (bu (bh.refl _) (bu (bh.refl _) (bu (mj (.cons (bu (bh.refl _) (bu bh.nil (bu (bh.refl _) (bu bh.nil (bu bh.nil gG))))) .nil)) (bu (bh.refl _) (bu (bh.refl _) (bu (bh.refl _) (bu (bh.refl _) (bu bh.nil gG))))))))
theorem yN:bh (.agg [.str [83],.str [97],.str [80],.af 7 [[.str [107],.int .i64 1,.int .i64 0,.int .i64 9,.int .i64 1,.int .i64 0,.str []]],.aD,.af 4 [[.str [109],.str [98],.aD,.af 6 [[.int .i64 6,.str [62],.str [],.str [],.int .i64 0,.af 6 [[.int .i64 1,.str [],.str [],.str [],.int .i64 2,.aD],[.int .i64 3,.str [],.str [107],.str [],.int .i64 0,.aD]]]]]]]) lO.cQ:=by
 have h: ∀k n m,eo [.int .i64 k,.str [],.str m,.str [],.int .i64 n,.aD] [.int .i64 k,.str [],.str m,.str [],.int .i64 n,.af 6 []]:=fun k n m=>bu (bh.refl _) (bu (bh.refl _) (bu (bh.refl _) (bu (bh.refl _) (bu (bh.refl _) (bu bh.nil gG)))))
 exact qt (bu (bh.refl _) (bu (bh.refl _) (bu (bh.refl _) (bu (bh.refl _) (bu bh.nil (bu (mj (.cons (bu (bh.refl _) (bu (bh.refl _) (bu bh.nil (bu (mj (.cons (bu (bh.refl _) (bu (bh.refl _) (bu (bh.refl _) (bu (bh.refl _) (bu (bh.refl _) (bu (mj (.cons (h _ _ _) (.cons (h _ _ _) .nil))) gG)))))) .nil)) gG)))) .nil)) gG))))))
theorem yJ:Pure Tryz.prog 18 [] (.bool true):=by
 have fS:=(ug lO fj yC wz).le (bu yN (bu wy gG))
 rw[xA]at fS
 have kO:=xe 0
 simp only[gL.cQ,gL.cells,List.map_cons,List.map_nil]at fS
 simp(disch:=omega)only[go_sem,simprocAttr]at fS
 refine cM bb Tryz.func18 xx rfl rfl ?_
 unfold sa sL
 simp(disch:=omega)only[go_sem,simprocAttr]
 refine aj ?_
 refine D.P (kO) ?_
 refine aj ?_
 refine D.P (fS) ?_
 refine aj ?_
 refine av.c5 (X:=Nat) 0 (fun i=>[(3,.ptr 2 0),(5,.af 3 [[.int .i64 3,.int .i64 0,.str []],[.int .i64 1,.int .i64 2,.str []],[.int .i64 13,.int .i64 0,.str []],[.int .i64 24,.int .i64 0,.str []],[.int .i64 24,.int .i64 0,.str []]]),(6,.int .i64 (i:Int))]) (fun _=>[(2,40,[.str [83],.int .i64 0,.af 7 [[.str [107],.int .i64 1,.int .i64 0,.int .i64 9,.int .i64 1,.int .i64 0,.str []]],.af 3 [],.af 4 [[.int .i64 1,.int .i64 0,.int .i64 0,.int .i64 4]],.af 3 [[.int .i64 3,.int .i64 0,.str []],[.int .i64 1,.int .i64 2,.str []],[.int .i64 13,.int .i64 0,.str []],[.int .i64 24,.int .i64 0,.str []],[.int .i64 24,.int .i64 0,.str []]]])]) (fun _=>[]) (fun i=>i≤5) (fun i=>5-i) (Nat.zero_le _) ⟨rfl,rfl,rfl,trivial⟩ ⟨rfl,trivial⟩ trivial ?_
 intro i ad
 match i,ad with
 |0,_=>
  refine aj ?_
  refine av.dO 1 (by decide) ⟨rfl,rfl,rfl,trivial⟩ ⟨rfl,trivial⟩ trivial rfl rfl (by decide)
 |1,_=>
  refine aj ?_
  refine av.dO 2 (by decide) ⟨rfl,rfl,rfl,trivial⟩ ⟨rfl,trivial⟩ trivial rfl rfl (by decide)
 |2,_=>
  refine aj ?_
  refine av.dO 3 (by decide) ⟨rfl,rfl,rfl,trivial⟩ ⟨rfl,trivial⟩ trivial rfl rfl (by decide)
 |3,_=>
  refine aj ?_
  refine av.dO 4 (by decide) ⟨rfl,rfl,rfl,trivial⟩ ⟨rfl,trivial⟩ trivial rfl rfl (by decide)
 |4,_=>
  refine aj ?_
  refine av.dO 5 (by decide) ⟨rfl,rfl,rfl,trivial⟩ ⟨rfl,trivial⟩ trivial rfl rfl (by decide)
 |5,_=>
  refine aj ?_
  exact D.rx
 |n+6,h=>omega
end
section
def iu (i:bK):Prop:=i.op≠24∧i.op≠19∧i.op≠20∧i.op≠21∧i.op≠22
theorem jM {i:bK}(h:i.op≤18):iu i:=by
 unfold iu
 omega
def mL (q:Int×Bool×Bool):Prop:=q.1≤16
theorem BQ {c:Prop}[Decidable c]{a b:Int×Bool×Bool}(aL:mL a) (hb:mL b):mL (if c then a else b):=by split<;>assumption
theorem Cj (o:bF):mL (lc o):=by
 unfold lc
 repeat' apply BQ
 all_goals (unfold mL; decide)
theorem Ck (o:bF) (s:bF) (n:Int):iu ⟨(lc o).1,n,s⟩:=by
 have h:=Cj o
 unfold mL at h
 exact jM (by show (lc o).1≤18; omega)
theorem AJ {o:bF}{qZ:Bool}{l:List (List bK)}(h: ∀c∈l,∀i∈c,iu i): ∀i∈ml o qZ l,iu i:=by
 match l,h with
 |[],_=>intro i ad; simp [ml]at ad
 |[a],_=>intro i ad; simp [ml]at ad
 |a::b::r,h=>
  have aL:=h a (by simp)
  have hb:=h b (by simp)
  intro i ad
  simp only[ml,List.mem_append,List.mem_cons]at ad
  have Bn:i∈(if (lc o).2.1=true then b++a else a++b)→iu i:=fun U=>by
   split at U
   ·rcases List.mem_append.1 U with U|U
    ·exact hb i U
    ·exact aL i U
   ·rcases List.mem_append.1 U with U|U
    ·exact aL i U
    ·exact hb i U
  rcases ad with ad|rfl|ad
  ·exact Bn ad
  ·split
   ·exact jM (by show (17:Int)≤18; decide)
   ·exact Ck o [] 0
  ·split at ad
   ·rcases List.mem_cons.1 ad with rfl|ad
    ·unfold ins iu; decide
    ·cases ad
   ·cases ad
mutual
theorem tx (cx:fJ): ∀(x:al),∀i∈c3 cx x,iu i
 | .mk k o m t n l=>by
  have aC:=ux cx l
  have br: ∀i∈(fM cx l).headD [],iu i:=by
   cases bw:fM cx l with
   |nil=>intro i ad; cases ad
   |cons a b=>exact aC a (by rw[bw]; simp)
  intro i ad
  simp only[c3]at ad
  repeat' split at ad
  all_goals try simp only[List.mem_append,List.mem_cons,List.not_mem_nil,or_false]at ad
  ·subst ad; exact jM (by show (1:Int)≤18; decide)
  ·subst ad; exact jM (by show (2:Int)≤18; decide)
  ·subst ad; exact jM (by show (4:Int)≤18; decide)
  ·subst ad; exact jM (by show (3:Int)≤18; decide)
  ·rcases ad with ad|rfl
   ·exact br i ad
   ·exact jM (by show (18:Int)≤18; decide)
  ·rcases ad with ad|rfl
   ·exact br i ad
   ·exact jM (by show (11:Int)≤18; decide)
  ·rcases ad with ad|rfl
   ·exact br i ad
   ·exact jM (by show (14:Int)≤18; decide)
  ·exact AJ aC i ad
theorem ux (cx:fJ): ∀(l:List al),∀c∈fM cx l,∀i∈c,iu i
 |[]=>by intro c aq; simp only[fM]at aq; cases aq
 |x::l=>by
  intro c aq
  simp only[fM,List.mem_cons]at aq
  rcases aq with rfl|aq
  ·exact tx cx x
  ·exact ux cx l c aq
end
def gd (p q:Nat) (l:List bK):Prop:=∀i∈l,i.op≠24∧(i.op=19∨i.op=20∨i.op=22→(p:Int)≤i.n∧i.n≤(q:Int))
theorem gd.dV {p q:Nat}{a b:List bK}(aL:gd p q a) (hb:gd p q b):gd p q (a++b):=fun i ad=>by
 rcases List.mem_append.1 ad with ad|ad
 ·exact aL i ad
 ·exact hb i ad
theorem gd.mono {p q zV kB:Nat}{a:List bK}(aL:gd p q a) (U:zV≤p) (aa:q≤kB):gd zV kB a:=fun i ad=>by
 obtain⟨h,k⟩:=aL i ad
 refine⟨h,fun bx=> ?_⟩
 obtain⟨bf,bi⟩:=k bx
 omega
theorem gd.plain {p q:Nat}{a:List bK}(h: ∀i∈a,iu i):gd p q a:=fun i ad=>by
 obtain⟨U,aa,ay,bl,bW⟩:=h i ad
 exact⟨U,fun bx=>by rcases bx with bx|bx|bx<;>contradiction⟩
theorem gd.cons {p q:Nat}{x:bK}{a:List bK}(ab:x.op≠24∧(x.op=19∨x.op=20∨x.op=22→(p:Int)≤x.n∧x.n≤(q:Int))) (aL:gd p q a):gd p q (x::a):=fun i ad=>by
 rcases List.mem_cons.1 ad with rfl|ad
 ·exact ab
 ·exact aL i ad
theorem gd.nil {p q:Nat}:gd p q []:=fun i ad=>by cases ad
mutual
theorem AS (cx:fJ): ∀(x:ai) (p:Nat),gd p (p+(hT cx p x).length) (hT cx p x)
 | .mk k m x t a b,p=>by
  have he: ∀p q,gd p q (c3 cx x):=fun p q=> .plain (tx cx x)
  simp only[hT]
  by_cases bf:k=1
  ·simp only[if_pos bf]
   exact (he _ _).dV (.cons ⟨by show (5:Int)≠24; decide,by unfold ins; simp⟩ .nil)
  simp only[if_neg bf]
  by_cases bi:k=2
  ·simp only[if_pos bi]
   cases b with
   |nil=>
    simp only[List.length_append,List.length_cons]
    have aL:=mr cx a (p+(c3 cx x).length+1)
    refine (he _ _).dV (.cons ⟨by show (20:Int)≠24; decide,fun _=>by unfold ins; simp only; omega⟩ (aL.mono (by omega) (by omega)))
   |cons y r=>
    have aL:=mr cx a (p+(c3 cx x).length+1)
    have hb:=mr cx (y::r) (p+(c3 cx x).length+1+(dS cx (p+(c3 cx x).length+1) a).length+1)
    simp only[List.length_append,List.length_cons]
    generalize dS cx (p+(c3 cx x).length+1+(dS cx (p+(c3 cx x).length+1) a).length+1) (y::r)=B at hb ⊢
    generalize dS cx (p+(c3 cx x).length+1) a=A at aL hb ⊢
    generalize c3 cx x=E at he aL hb ⊢
    refine (he _ _).dV (.cons ⟨by show (20:Int)≠24; decide,fun _=>by unfold ins; simp only; omega⟩ ((aL.mono (by omega) (by omega)).dV (.cons ⟨by show (19:Int)≠24; decide,fun _=>by unfold ins; simp only; omega⟩ (hb.mono (by omega) (by omega)))))
  ·simp only[if_neg bi]
   have aL:=mr cx a (p+1+(c3 cx x).length+1)
   simp only[List.length_append,List.length_cons,List.length_nil]
   generalize dS cx (p+1+(c3 cx x).length+1) a=A at aL ⊢
   generalize c3 cx x=E at he aL ⊢
   refine .cons ⟨by show (21:Int)≠24; decide,by unfold ins; simp⟩ ((he _ _).dV (.cons ⟨by show (20:Int)≠24; decide,fun _=>by unfold ins; simp only; omega⟩ ((aL.mono (by omega) (by omega)).dV (.cons ⟨by show (22:Int)≠24; decide,fun _=>by unfold ins; simp only; omega⟩ (.cons ⟨by show (23:Int)≠24; decide,by unfold ins; simp⟩ .nil)))))
theorem mr (cx:fJ): ∀(l:List ai) (p:Nat),gd p (p+(dS cx p l).length) (dS cx p l)
 |[],p=>by simp only[dS]; exact .nil
 |x::l,p=>by
  have U:=AS cx x p
  have aa:=mr cx l (p+(hT cx p x).length)
  simp only[dS,List.length_append]
  exact (U.mono (by omega) (by omega)).dV (aa.mono (by omega) (by omega))
end
inductive iL:Nat→List Int→List bK→Prop
 |nil {p:Nat}:iL p [] []
 |cons {p:Nat}{body:List bK}{E:List Int}{c:List bK}(h:gd p (p+body.length) body) (t:iL (p+(body.length+1)) E c):iL p ((p:Int)::E) (body++ins 24 0::c)
theorem iL.dV {p:Nat}{E F:List Int}{a b:List bK}(h:iL p E a) (k:iL (p+a.length) F b):iL p (E++F) (a++b):=by
 induction h with
 |nil=>simpa using k
 |cons U t bB=>
  simp only[List.cons_append,List.append_assoc]
  refine .cons U (bB ?_)
  simp only[List.length_append,List.length_cons]at k
  rw[Nat.add_assoc]
  rw[show ∀u v w:Nat,u+1+v=u+(v+1) by omega]
  exact k
  all_goals exact 0
theorem zz (x:b3) (g:cd): ∀(l:List bL) (p:Nat),iL p ((dM x g p l).1.map fun q=>q.2.2) (dM x g p l).2.1
 |[],p=> .nil
 |h::l,p=>by
  have bB:=zz x g l (p+(ly x (kl g h.c7) p h).length)
  simp only[dM,List.map_cons]
  unfold ly at bB ⊢
  simp only[List.length_append,List.length_cons,List.length_nil,Nat.zero_add]at bB ⊢
  rw[List.append_assoc]
  exact .cons (mr _ _ _) bB
def pB:List (Int×Int×Int×Int)→List Int
 |[]=>[]
 |o::l=>if 0≤o.2.2.1 then o.2.2.1::o.2.2.2::pB l else o.2.2.2::pB l
theorem OK (cx:fJ) (l:List al): ∀i∈(fM cx l).flatten,iu i:=fun i ad=>by
 obtain⟨c,aq,h⟩:=List.mem_flatten.1 ad
 exact ux cx l c aq i h
theorem Ix (x:b3) (g:cd): ∀(l:List cf) (p:Nat),iL p (pB (hq x g p l).1) (hq x g p l).2
 |[],p=> .nil
 |o::l,p=>by
  simp only[hq,pB]
  cases hw:o.dk with
  |nil=>
   have bB:=Ix x g l (p+0+((fM ⟨x.vars,[],[]⟩ o.args).flatten++[ins 24 0]).length)
   simp only[og,List.length_nil,List.nil_append,show ¬(0:Int)≤ -1 by decide,if_false,Nat.add_zero]at bB ⊢
   simp only[List.length_append,List.length_cons,List.length_nil,Nat.zero_add]at bB ⊢
   rw[List.append_assoc]
   exact .cons (.plain (OK _ _)) bB
  |cons y r=>
   have bB:=Ix x g l (p+(c3 ⟨x.vars,[],[]⟩ y++[ins 24 0]).length+((fM ⟨x.vars,[],[]⟩ o.args).flatten++[ins 24 0]).length)
   simp only[og,Int.natCast_nonneg,if_true]at bB ⊢
   simp only[List.length_append,List.length_cons,List.length_nil,Nat.zero_add]at bB ⊢
   simp only[List.append_assoc,List.cons_append,List.nil_append]
   refine .cons (.plain (tx _ _)) ?_
   exact .cons (.plain (OK _ _)) bB
theorem wD (x:b3) (g:cd): ∀(l:List bL) (p:Nat),(dM x g p l).1.length=l.length
 |[],_=>rfl
 |h::l,p=>by simp only[dM,List.length_cons,wD x g l]
theorem ZC (x:b3) (g:cd):(iL 0 ((dM x g 0 x.hs).1.map (fun q=>q.2.2)++pB (hq x g (dM x g 0 x.hs).2.1.length x.os).1) (iZ x g))∨((dM x g 0 x.hs).1.map (fun q=>q.2.2)++pB (hq x g (dM x g 0 x.hs).2.1.length x.os).1=[]∧iZ x g=[ins 24 0]):=by
 have U:=zz x g x.hs 0
 have aa:=Ix x g x.os (dM x g 0 x.hs).2.1.length
 have ay:=U.dV (by rw[Nat.zero_add]; exact aa)
 unfold iZ
 simp only
 split
 ·rename_i aU
  rw[List.length_eq_zero_iff]at aU
  right
  rw[aU]at ay
  generalize (dM x g 0 x.hs).1.map (fun q=>q.2.2)++pB (hq x g (dM x g 0 x.hs).2.1.length x.os).1=E at ay ⊢
  refine⟨?_,rfl⟩
  generalize aq:([]:List bK)=c at ay
  cases ay with
  |nil=>rfl
  |cons h t=>
   rename_i body _ _
   cases body<;>cases aq
 ·exact .inl ay
end
section
attribute [local go_sem] al.cr ai.cr al.ch ai.ch b6 cR eH eS dp of_flat ba.row db gQ eZ
attribute [local go_sem] eE et er eG ds dw df cH Fd.row dn dz cD.row dr.row bs.row hB ie dI eI fR bK.row
theorem v7 {x:b3}{g:cd}{P:gL}(h:jy x g=(P,0)):(kf x g).2=0∧(iZ x g).length≤1000∧(dM x g 0 x.hs).2.2=false∧P=⟨x.name,eJ g.cC x.bM,x.vars,(dM x g 0 x.hs).1,(hq x g (dM x g 0 x.hs).2.1.length x.os).1,iZ x g⟩:=by
 unfold jy at h
 split at h
 ·rename_i aq
  split at h
  ·cases h
  ·rename_i aW
   simp only[not_or,Bool.not_eq_true]at aW
   simp only[Prod.mk.injEq]at h
   exact⟨aq,by omega,aW.2,h.1.symm⟩
 ·cases h
theorem wU (x:b3) (g:cd): ∀(l:List cf) (p:Nat),(hq x g p l).1.length=l.length
 |[],_=>rfl
 |h::l,p=>by simp only[hq,List.length_cons,wU x g l]
theorem aE5 {l:List (Int×Int×Int×Int)}{i:Nat}{o:Int×Int×Int×Int}(h:l[i]? =some o):pB (l.take (i+1))=pB (l.take i)++(if 0≤o.2.2.1 then[o.2.2.1,o.2.2.2] else[o.2.2.2]):=by
 rw[List.take_add_one,h]
 generalize l.take i=m
 induction m with
 |nil=>simp only[Option.toList,List.nil_append,pB]
 |cons x m bB=>
  simp only[List.cons_append,pB,bB]
  split<;>rfl
theorem aU2 {p:Nat}{z:Int}{E:List Int}{c:List bK}(h:iL p (z::E) c):z=(p:Int)∧∃body d,c=body++ins 24 0::d∧gd p (p+body.length) body∧iL (p+(body.length+1)) E d:=by
 cases h with
 |cons h t=>exact⟨rfl,_,_,rfl,h,t⟩
theorem aU3 {p:Nat}{c:List bK}(h:iL p [] c):c=[]:=by cases h; rfl
theorem q4 {R:Nat}(ak:R≤140737488355328) (x:b3) (g:cd) (ab:x.ok R) (uS:cG x.cells≤100000000) (x2:cG g.cells≤100000000):Pure Tryz.prog 4 [x.cQ,g.cQ] (.bool true):=by
 obtain⟨qc,HV⟩:=xO x2
 have f1:=CR ak x g ab qc (by omega)
 have eF:=wY ak x ab
 have rr:=yJ
 cases hf:(iP x&&iC g) with
 |false=>
  rw[hf]at f1
  rw[lK]at*
  simp only[lY]at*
  refine cM bb Tryz.func4 ha (by simp only[b7,I.flat,db,dp,of_flat,cR,df,ds,dw,Bool.and_self]) rfl ?_
  unfold dl hE
  simp(disch:=omega)only[go_sem,simprocAttr]
  refine aj ?_
  refine D.P (rr) ?_
  refine aj ?_
  refine D.P (f1) ?_
  refine aj ?_
  exact D.rx
 |true=>
 rw[hf]at f1
 simp only[Bool.and_eq_true]at hf
 have hb:=xv uS hf.1
 have fS:=ug x g hb qc
 rcases hC:jy x g with ⟨P,e⟩
 rw[hC]at fS
 simp only[gL.cQ,gL.cells]at fS
 rw[lK]at*
 simp only[lY]at*
 refine cM bb Tryz.func4 ha (by simp only[b7,I.flat,db,dp,of_flat,cR,df,ds,dw,Bool.and_self]) rfl ?_
 unfold dl hE
 simp(disch:=omega)only[go_sem,simprocAttr]
 refine aj ?_
 refine D.P (rr) ?_
 refine aj ?_
 refine D.P (f1) ?_
 refine dc ?_
 (repeat (apply av.s true true;(·simp(disch:=omega)only[go_sem,simprocAttr,]<;>with_reducible rfl)))
 refine av.iU (anns:=[(.agg [.str x.name,.str x.bM,.str x.gJ,.af 7 (x.vars.map ba.row),.af 4 (x.hs.map bL.row),.af 4 (x.os.map cf.row)]),.cT [.agg [.str P.name,.int .i64 P.bM,.af 7 (P.vars.map ba.row),.af 3 (P.hs.map dI),.af 4 (P.os.map eI),.af 3 (P.code.map bK.row)],.int .i64 e]]) ?_
 refine dc ?_
 refine D.fL (eF) ?_
 refine dc ?_
 refine D.fL (fS) ?_
 by_cases aU:e=0
 rotate_left
 ·(have ah:=aU;refine bE ?_;clear ah)
  exact D.rx
 subst aU
 obtain⟨D6,sr,pu,mz⟩:=v7 hC
 have ea:=ZC x g
 obtain⟨hs,Ec⟩: ∃hs,hs=P.hs:=⟨_,rfl⟩
 obtain⟨os,u1⟩: ∃os,os=P.os:=⟨_,rfl⟩
 obtain⟨code,xZ⟩: ∃code,code=P.code:=⟨_,rfl⟩
 have aH:hs.length≤1000000:=by
  have:=wD x g x.hs 0
  have:=hb.l5
  rw[Ec,mz]
  simp only
  omega
 have fG:os.length≤1000000:=by
  have:=wU x g x.os (dM x g 0 x.hs).2.1.length
  have:=hb.no
  rw[u1,mz]
  simp only
  omega
 have nw:code.length≤1000:=by
  rw[xZ,mz]
  exact sr
 have Bl:iL 0 (hs.map (fun q=>q.2.2)++pB os) code∨(hs.map (fun q=>q.2.2)++pB os=[]∧code=[ins 24 0]):=by
  rw[Ec,u1,xZ,mz]
  exact ea
 rw[←Ec,←u1,←xZ]
 clear ea mz xZ u1 Ec D6 sr pu hC fS eF f1 rr
 have ta:((hs.map dI).length:Int)=(hs.length:Int):=by rw[List.length_map]
 have rR:((os.map eI).length:Int)=(os.length:Int):=by rw[List.length_map]
 have pO:((code.map bK.row).length:Int)=(code.length:Int):=by rw[List.length_map]
 refine aj ?_
 refine av.uM 7 1 3 rfl (by decide) ?_
 simp(disch:=omega)only[go_sem,simprocAttr]
 refine av.c5 (X:=Nat×List Int) (0,[]) (fun p=>[(5,.ptr 2 0),(7,.own 0 1 (p.2.map cH)),(8,.int .i64 (p.1:Int))]) (fun _=>[(2,40,[.str P.name,.int .i64 P.bM,.af 7 (P.vars.map ba.row),.af 3 (hs.map dI),.af 4 (os.map eI),.af 3 (code.map bK.row)])]) (fun p=>[(0,.bX 3 1 (p.2.map cH).length)]) (fun p=>p.1≤hs.length∧p.2=(hs.take p.1).map (fun q=>q.2.2)) (fun p=>hs.length-p.1) ⟨Nat.zero_le _,rfl⟩ ⟨rfl,rfl,rfl,trivial⟩ ⟨rfl,trivial⟩ ⟨rfl,trivial⟩ ?_
 rintro⟨i,E⟩ ⟨ad,dC⟩
 try simp only at ad dC ⊢
 have cm:E.length=i:=by rw[dC]; simp; omega
 cases ae:hs[i]? with
 |some v=>
  have cB:=(List.getElem?_eq_some_iff.1 ae).1
  have d1:(i:Int)<(hs.length:Int):=by omega
  have ai6:E++[v.2.2]=(hs.take (i+1)).map (fun q=>q.2.2):=by rw[dC]; exact (rP _ ae).symm
  (have ah:=ta;have z2:=d1;refine eM ?_;clear ah z2)
  refine D.hQ ?_
  refine aj ?_
  refine av.dO (i+1,E++[v.2.2]) ⟨by omega,ai6⟩ ⟨rfl,by simp only[Env.get,List.map_append,List.map_cons,List.map_nil,cH]; rfl,rfl,trivial⟩ ⟨rfl,trivial⟩ ⟨by simp only[List.map_append,List.map_cons,List.map_nil,cH,List.length_append]; rfl,trivial⟩ rfl rfl (by show hs.length-(i+1)<hs.length-i; omega)
 |none=>
 have cg:=List.getElem?_eq_none_iff.1 ae
 have cA:i=hs.length:=by omega
 subst cA
 rw[List.take_length]at dC
 have d1: ¬(hs.length:Int)<(hs.length:Int):=by omega
 clear ad ae cg
 (have ah:=ta;have z2:=d1;refine eM ?_;clear ah z2)
 refine av.c5 (X:=Nat×List Int) (0,E) (fun p=>[(5,.ptr 2 0),(7,.own 0 1 (p.2.map cH)),(9,.int .i64 (p.1:Int))]) (fun _=>[(2,40,[.str P.name,.int .i64 P.bM,.af 7 (P.vars.map ba.row),.af 3 (hs.map dI),.af 4 (os.map eI),.af 3 (code.map bK.row)])]) (fun p=>[(0,.bX 3 1 (p.2.map cH).length)]) (fun p=>p.1≤os.length∧p.2=E++pB (os.take p.1)∧p.2.length≤E.length+2*p.1) (fun p=>os.length-p.1) ⟨Nat.zero_le _,by simp [pB],by simp⟩ ⟨rfl,rfl,rfl,trivial⟩ ⟨rfl,trivial⟩ ⟨rfl,trivial⟩ ?_
 rintro⟨i,F⟩ ⟨ad,bH,Qf⟩
 try simp only at ad bH Qf ⊢
 cases ae:os[i]? with
 |some v=>
  have cB:=(List.getElem?_eq_some_iff.1 ae).1
  have d1:(i:Int)<(os.length:Int):=by omega
  have n7:=aE5 ae
  by_cases hw:0≤v.2.2.1
  ·rw[if_pos hw]at n7
   (have ah:=rR;have z2:=d1;have z3:=hw;refine dE ?_;clear ah z2 z3)
   refine D.hQ ?_
   refine aj ?_
   refine D.hQ ?_ (ht:=by simp (disch:=omega) only[go_sem,simprocAttr,List.length_append]<;>with_reducible rfl)
   refine aj ?_
   refine av.dO (i+1,F++[v.2.2.1,v.2.2.2]) ⟨by omega,by rw[bH,n7,List.append_assoc],by simp only[List.length_append,List.length_cons,List.length_nil]; omega⟩ ⟨rfl,by simp only[Env.get,List.map_append,List.map_cons,List.map_nil,cH,List.append_assoc,List.cons_append,List.nil_append]; rfl,rfl,trivial⟩ ⟨rfl,trivial⟩ ⟨by simp only[List.map_append,List.map_cons,List.map_nil,cH,List.length_append,List.append_assoc,List.cons_append,List.nil_append]; rfl,trivial⟩ rfl rfl (by show os.length-(i+1)<os.length-i; omega)
  ·rw[if_neg hw]at n7
   (have ah:=rR;have z2:=d1;have z3:=hw;refine dE ?_;clear ah z2 z3)
   refine D.hQ ?_
   refine aj ?_
   refine av.dO (i+1,F++[v.2.2.2]) ⟨by omega,by rw[bH,n7,List.append_assoc],by simp only[List.length_append,List.length_cons,List.length_nil]; omega⟩ ⟨rfl,by simp only[Env.get,List.map_append,List.map_cons,List.map_nil,cH]; rfl,rfl,trivial⟩ ⟨rfl,trivial⟩ ⟨by simp only[List.map_append,List.map_cons,List.map_nil,cH,List.length_append]; rfl,trivial⟩ rfl rfl (by show os.length-(i+1)<os.length-i; omega)
 |none=>
 have cg:=List.getElem?_eq_none_iff.1 ae
 have cA:i=os.length:=by omega
 subst cA
 rw[List.take_length,dC]at bH
 rw[←bH]at Bl
 have d1: ¬(os.length:Int)<(os.length:Int):=by omega
 have ye:F.length≤3000000:=by omega
 clear ad ae cg bH Qf dC
 have Kn:((F.map cH).length:Int)=(F.length:Int):=by rw[List.length_map]
 (have ah:=rR;have z2:=d1;refine eM ?_;clear ah z2)
 refine av.c5 (X:=Nat×Nat) (0,0) (fun p=>[(5,.ptr 2 0),(7,.own 0 1 (F.map cH)),(10,.int .i64 (p.2:Int)),(11,.int .i64 (p.1:Int))]) (fun _=>[(2,40,[.str P.name,.int .i64 P.bM,.af 7 (P.vars.map ba.row),.af 3 (hs.map dI),.af 4 (os.map eI),.af 3 (code.map bK.row)])]) (fun p=>[(0,.bX 3 1 (F.map cH).length)]) (fun p=>p.1≤F.length∧p.2≤code.length∧(iL p.2 (F.drop p.1) (code.drop p.2)∨(F=[]∧code=[ins 24 0]))) (fun p=>F.length-p.1) ⟨Nat.zero_le _,Nat.zero_le _,Bl⟩ ⟨rfl,rfl,rfl,rfl,trivial⟩ ⟨rfl,trivial⟩ ⟨rfl,trivial⟩ ?_
 clear Bl
 rintro⟨i,a⟩ ⟨ad,aL,ea⟩
 try simp only at ad aL ea ⊢
 cases ae:F[i]? with
 |some z=>
  have cB:=(List.getElem?_eq_some_iff.1 ae).1
  have d1:(i:Int)<(F.length:Int):=by omega
  replace ea:iL a (F.drop i) (code.drop a):=by
   rcases ea with ea|⟨ea,_⟩
   ·exact ea
   ·rw[ea]at cB; simp at cB
  rw[fY ae]at ea
  obtain⟨rfl,body,d,Hs,nt,ea⟩:=aU2 ea
  have hlen:code.length=a+(body.length+1+d.length):=by
   have:=congrArg List.length Hs
   simp only[List.length_drop,List.length_append,List.length_cons]at this
   omega
  have tP: ∀j,code[a+j]? =(body++ins 24 0::d)[j]? :=fun j=>by rw[←Hs,List.getElem?_drop]
  have PN:code.drop (a+(body.length+1))=d:=by
   rw[←List.drop_drop,Hs,List.drop_append]
   simp
  (have ah:=Kn;have z2:=d1;refine eM ?_;clear ah z2)
  refine D.jY ae ?_
  refine aj ?_
  refine av.c5 (X:=Nat) a (fun j=>[(5,.ptr 2 0),(7,.own 0 1 (F.map cH)),(10,.int .i64 (j:Int)),(11,.int .i64 (i:Int))]) (fun _=>[(2,40,[.str P.name,.int .i64 P.bM,.af 7 (P.vars.map ba.row),.af 3 (hs.map dI),.af 4 (os.map eI),.af 3 (code.map bK.row)])]) (fun _=>[(0,.bX 3 1 (F.map cH).length)]) (fun j=>a≤j∧j≤a+body.length) (fun j=>a+body.length-j) ⟨Nat.le_refl _,by omega⟩ ⟨rfl,rfl,rfl,rfl,trivial⟩ ⟨rfl,trivial⟩ ⟨rfl,trivial⟩ ?_
  rintro j ⟨ao0,ao1⟩
  try simp only at ao0 ao1 ⊢
  have d2:(j:Int)<(code.length:Int):=by omega
  by_cases bx:j<a+body.length
  ·obtain⟨w,hw⟩: ∃w,body[j-a]? =some w:=⟨_,List.getElem?_eq_getElem (by omega)⟩
   have BI:code[j]? =some w:=by
    have:=tP (j-a)
    rw[List.getElem?_append_left (by omega),hw,show a+(j-a)=j by omega]at this
    exact this
   have d3: ¬w.op=24:=(nt w (List.mem_of_getElem? hw)).1
   (have ah:=pO;have z2:=d2;have z3:=d3;refine dE ?_;clear ah z2 z3)
   refine av.dO (j+1) ⟨by omega,by omega⟩ ⟨rfl,rfl,by simp only[Int.natCast_add]; rfl,rfl,trivial⟩ ⟨rfl,trivial⟩ ⟨rfl,trivial⟩ rfl rfl (by show a+body.length-(j+1)<a+body.length-j; omega)
  have ar:j=a+body.length:=by omega
  subst ar
  have BI:code[a+body.length]? =some (ins 24 0):=by rw[tP]; simp
  have d3:(ins 24 0).op=24:=rfl
  have d4: ¬(((a+body.length:Nat):Int)=(code.length:Int)):=by omega
  (have ah:=pO;have z2:=d2;have z3:=And.intro d3 d4;refine dE ?_;clear ah z2 z3)
  refine D.jY ae ?_
  refine aj ?_
  refine av.c5 (X:=Nat) a (fun j=>[(5,.ptr 2 0),(7,.own 0 1 (F.map cH)),(10,.int .i64 ((a+body.length:Nat):Int)),(11,.int .i64 (i:Int)),(12,.int .i64 (j:Int))]) (fun _=>[(2,40,[.str P.name,.int .i64 P.bM,.af 7 (P.vars.map ba.row),.af 3 (hs.map dI),.af 4 (os.map eI),.af 3 (code.map bK.row)])]) (fun _=>[(0,.bX 3 1 (F.map cH).length)]) (fun j=>a≤j∧j≤a+body.length) (fun j=>a+body.length-j) ⟨Nat.le_refl _,by omega⟩ ⟨rfl,rfl,rfl,rfl,rfl,trivial⟩ ⟨rfl,trivial⟩ ⟨rfl,trivial⟩ ?_
  clear BI d3
  rintro k ⟨Ef,Eg⟩
  try simp only at Ef Eg ⊢
  by_cases aw:k<a+body.length
  ·obtain⟨w,hw⟩: ∃w,body[k-a]? =some w:=⟨_,List.getElem?_eq_getElem (by omega)⟩
   have BI:code[k]? =some w:=by
    have:=tP (k-a)
    rw[List.getElem?_append_left (by omega),hw,show a+(k-a)=k by omega]at this
    exact this
   obtain⟨_,HI⟩:=nt w (List.mem_of_getElem? hw)
   have d5:(k:Int)<((a+body.length:Nat):Int):=by omega
   by_cases rB:w.op=19
   ·have d6:=HI (.inl rB)
    have d7: ¬w.n<(a:Int):=by omega
    have d8: ¬((a+body.length:Nat):Int)<w.n:=by omega
    (have ah:=d5;have z2:=rB;have z3:=And.intro d7 d8;refine dE ?_;clear ah z2 z3)
    refine D.jY ae ?_
    (have ah:=d5;have z2:=rB;have z3:=And.intro d7 d8;refine dE ?_;clear ah z2 z3)
    refine av.dO (k+1) ⟨by omega,by omega⟩ ⟨rfl,rfl,rfl,rfl,by simp only[Int.natCast_add]; rfl,trivial⟩ ⟨rfl,trivial⟩ ⟨rfl,trivial⟩ rfl rfl (by show a+body.length-(k+1)<a+body.length-k; omega)
   by_cases rC:w.op=20
   ·have d6:=HI (.inr (.inl rC))
    have d7: ¬w.n<(a:Int):=by omega
    have d8: ¬((a+body.length:Nat):Int)<w.n:=by omega
    (have ah:=d5;have z2:=rC;have z3:=And.intro d7 d8;refine dE ?_;clear ah z2 z3)
    refine D.jY ae ?_
    (have ah:=d5;have z2:=rC;have z3:=And.intro d7 d8;refine dE ?_;clear ah z2 z3)
    refine av.dO (k+1) ⟨by omega,by omega⟩ ⟨rfl,rfl,rfl,rfl,by simp only[Int.natCast_add]; rfl,trivial⟩ ⟨rfl,trivial⟩ ⟨rfl,trivial⟩ rfl rfl (by show a+body.length-(k+1)<a+body.length-k; omega)
   by_cases Ev:w.op=22
   ·have d6:=HI (.inr (.inr Ev))
    have d7: ¬w.n<(a:Int):=by omega
    have d8: ¬((a+body.length:Nat):Int)<w.n:=by omega
    (have ah:=d5;have z2:=Ev;have z3:=And.intro d7 d8;refine dE ?_;clear ah z2 z3)
    refine D.jY ae ?_
    (have ah:=d5;have z2:=Ev;have z3:=And.intro d7 d8;refine dE ?_;clear ah z2 z3)
    refine av.dO (k+1) ⟨by omega,by omega⟩ ⟨rfl,rfl,rfl,rfl,by simp only[Int.natCast_add]; rfl,trivial⟩ ⟨rfl,trivial⟩ ⟨rfl,trivial⟩ rfl rfl (by show a+body.length-(k+1)<a+body.length-k; omega)
   (have ah:=d5;have z2:=rB;have z3:=And.intro rC Ev;refine dE ?_;clear ah z2 z3)
   refine av.dO (k+1) ⟨by omega,by omega⟩ ⟨rfl,rfl,rfl,rfl,by simp only[Int.natCast_add]; rfl,trivial⟩ ⟨rfl,trivial⟩ ⟨rfl,trivial⟩ rfl rfl (by show a+body.length-(k+1)<a+body.length-k; omega)
  have ar:k=a+body.length:=by omega
  subst ar
  have d5: ¬((a+body.length:Nat):Int)<((a+body.length:Nat):Int):=by omega
  (have ah:=d5;refine bE ?_;clear ah)
  refine av.dO (i+1,a+(body.length+1)) ⟨by omega,by omega,.inl (by rw[PN]; exact ea)⟩ ⟨rfl,rfl,by simp only[Env.get,Int.natCast_add,Int.add_assoc]; rfl,by simp only[Int.natCast_add]; rfl,trivial⟩ ⟨rfl,trivial⟩ ⟨rfl,trivial⟩ rfl rfl (by show F.length-(i+1)<F.length-i; omega)
 |none=>
 have cg:=List.getElem?_eq_none_iff.1 ae
 have cA:i=F.length:=by omega
 subst cA
 have d1: ¬(F.length:Int)<(F.length:Int):=by omega
 by_cases aG:a=code.length
 ·have d2:(a:Int)=(code.length:Int):=by omega
  (have ah:=Kn;have z2:=d1;have z3:=And.intro pO d2;refine dE ?_;clear ah z2 z3)
  exact D.rx
 have bi6:F.length=0∧code.length=1:=by
  rcases ea with ea|⟨U,aa⟩
  ·rw[List.drop_length]at ea
   have ay:=List.drop_eq_nil_iff.1 (aU3 ea)
   omega
  ·rw[U,aa]
   exact⟨rfl,rfl⟩
 have d2: ¬(a:Int)=1:=by omega
 have d3:(F.length:Int)=0:=by omega
 have d4:(code.length:Int)=1:=by omega
 (have ah:=Kn;have z2:=d1;have z3:=And.intro pO (And.intro d2 (And.intro d3 d4));refine dE ?_;clear ah z2 z3)
 exact D.rx
end
section
attribute [local go_sem] al.cr ai.cr al.ch ai.ch b6 cR eH eS dp of_flat ba.row db gQ eZ
attribute [local go_sem] eE et er eG ds dw df cH Fd.row dn dz cD.row dr.row bs.row hB ie dI eI fR bK.row
def oL:ba:=⟨[122,122,122,122,122,122,122,122,122,122,122,122,122,122,122,122],1,0,1,1,0,[]⟩
theorem vO (l:List ba):eN (l.map ba.row++[[.str [122,122,122,122,122,122,122,122,122,122,122,122,122,122,122,122],.int .i64 1,.int .i64 0,.int .i64 1,.int .i64 1,.int .i64 0,.str []]])=true:=by
 have h:=db (l++[oL])
 rw[List.map_append]at h
 exact h
attribute [local go_sem] vO
end
section
set_option maxRecDepth 1000000
attribute [local go_sem] al.cr ai.cr al.ch ai.ch b6 cR eH eS dp of_flat ba.row db gQ eZ
attribute [local go_sem] eE et er eG ds dw df cH Fd.row dn dz cD.row dr.row bs.row hB ie dI eI fR bK.row
def kc (n:Int):List I:=[.int .u8 n]
theorem tu (l:List Int):eN (l.map kc)=true:=lW (fun _=>rfl) l
attribute [local go_sem] kc tu
end
section
theorem bc8 (x:b3) (g:cd) (ab:x.ok reachBytes) (U:cG x.cells≤1048576) (aa:cG g.cells≤1048576):Pure Tryz.prog 4 [x.cQ,g.cQ] (.bool true):=q4 (R:=reachBytes) (by decide) x g ab (by omega) (by omega)
end
section
set_option maxRecDepth 1000000
attribute [local go_sem] al.cr ai.cr al.ch ai.ch b6 cR eH eS dp of_flat ba.row db gQ eZ
attribute [local go_sem] eE et er eG ds dw df cH Fd.row dn dz cD.row dr.row bs.row hB ie dI eI fR bK.row
def je:cd:=⟨[80],[[97],[98]],[⟨[109],[⟨[120],1,0,9⟩],0,[],[]⟩],2,0,1,[⟨0,0,1,0,1,false⟩],[]⟩
end
end Go.aO.T.N
set_option maxRecDepth 100000
namespace Go.aO.T.N
open Go Go.aO Go.Proofs Go.ChangeShapes Go.WideShapes Go.RowKit
theorem vx:iV Tryz.prog [5] 8 5=some [.dD (.i .u8)]:=by kernel_rfl
theorem r0:Tryz.prog.bytesOf 5=1:=by kernel_rfl
variable {R:Nat}
theorem bo4: ∀(n:Nat) (r:List I),kq Tryz.prog [5] R n 5 r→∃z:Int,r=kc z∧0≤z∧z<256
 |0,_,h=>h.elim
 |n+1,r,h=>by
  obtain⟨aT,U,aa⟩:=h
  rw[vx]at U
  cases U
  simp only[h7,gM.ok]at aa
  obtain⟨_,_,rfl,⟨z,rfl,aG⟩,rfl⟩:=aa
  refine⟨z,rfl,?_⟩
  simp only[Lit.wf,Bool.and_eq_true,decide_eq_true_eq,show IntKind.u8.min=0 by rfl,show IntKind.u8.max=255 by rfl]at aG
  omega
section
variable {H:Type}{enc:TypeId×Value→H}{w:World}{base:Nat}{spare:Nat→Bool}{held:Bool}
end
end Go.aO.T.N
