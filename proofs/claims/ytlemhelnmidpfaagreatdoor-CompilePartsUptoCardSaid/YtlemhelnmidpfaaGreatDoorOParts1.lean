/- Part of a proof; own work. -/
import Derived.KernelRfl
import Derived.Test.YtlemhelnmidpfaaGreatDoorOParts
set_option linter.unusedVariables false
set_option linter.unusedSimpArgs false
set_option maxHeartbeats 8000000
namespace Go.aO
open Go Go.aO.T.N
theorem jv {a:Int}(aU: -9223372036854775808≤a) (U:a<9223372036854775808):IntKind.i64.wrap a=a:=by
 simp only[IntKind.wrap,IntKind.bits,IntKind.signed]
 simp
 omega
mutual
theorem al.ni: ∀x:al,x.bJ≤100000000→x.am=(x.bJ:Int)-1
 | .mk _ _ _ _ _ l,h=>by
  simp only[al.bJ]at h
  have aC:=al.fT l
  simp only[al.am,al.bJ]
  rw[al.hL l (l.length:Int) (by omega) (by omega) (by omega)]
  omega
theorem al.hL: ∀(l:List al) (n:Int),al.bz l≤100000000→0≤n→n+(al.bz l:Int)≤1000000000000→al.gg l n=n+((al.bz l:Int)-l.length)
 |[],n,_,_,_=>by simp [al.gg,al.bz]
 |x::l,n,h,aU,U=>by
  simp only[al.bz]at h U
  have hp:1≤x.bJ:=by cases x; simp only[al.bJ]; omega
  rw[al.gg,al.ni x (by omega),jv (by omega) (by omega),al.hL l _ (by omega) (by omega) (by omega)]
  simp only[al.bz,List.length_cons]
  omega
end
mutual
theorem ai.ni: ∀x:ai,x.bJ≤100000000→x.am=(x.bJ:Int)-1
 | .mk _ _ x _ a b,h=>by
  simp only[ai.bJ]at h
  have hp:1≤x.bJ:=by cases x; simp only[al.bJ]; omega
  have aL:=ai.fT a
  have hb:=ai.fT b
  simp only[ai.am,ai.bJ]
  rw[al.ni x (by omega),ai.hL a (a.length:Int) (by omega) (by omega) (by omega),ai.hL b (b.length:Int) (by omega) (by omega) (by omega),jv (a:=1+ _) (by omega) (by omega),jv (a:=1+ _+ _) (by omega) (by omega),jv (by omega) (by omega)]
  omega
theorem ai.hL: ∀(l:List ai) (n:Int),ai.bz l≤100000000→0≤n→n+(ai.bz l:Int)≤1000000000000→ai.gg l n=n+((ai.bz l:Int)-l.length)
 |[],n,_,_,_=>by simp [ai.gg,ai.bz]
 |x::l,n,h,aU,U=>by
  simp only[ai.bz]at h U
  have hp:1≤x.bJ:=by cases x; simp only[ai.bJ]; omega
  rw[ai.gg,ai.ni x (by omega),jv (by omega) (by omega),ai.hL l _ (by omega) (by omega) (by omega)]
  simp only[ai.bz,List.length_cons]
  omega
end
def fp:List bL→Nat
 |[]=>0
 |h::l=>ai.bz h.body+fp l
def fq:List cf→Nat
 |[]=>0
 |o::l=>al.bz o.args+al.bz o.dk+fq l
theorem sj: ∀(l:List bL) (n:Int) (z:Int),fp l≤100000000→0≤n→n+(fp l:Int)≤1000000000000→kQ l n=some z→z=n+fp l∧∀h∈l,h.ps.length≤60∧ai.bz h.body≤fp l
 |[],n,z,_,_,_,h=>by
  simp only[kQ,Option.some.injEq]at h
  simp [fp,h]
 |h::l,n,z,hs,aU,U,hf=>by
  simp only[fp]at hs U
  simp only[kQ]at hf
  by_cases hp:60<h.ps.length
  ·rw[if_pos hp]at hf; cases hf
  rw[if_neg hp]at hf
  have aC:=ai.fT h.body
  rw[ai.hL h.body (h.body.length:Int) (by omega) (by omega) (by omega),jv (by omega) (by omega)]at hf
  obtain⟨e,k⟩:=sj l _ z (by omega) (by omega) (by omega) hf
  refine⟨by simp only[fp]; omega,fun g a7=> ?_⟩
  simp only[fp]
  rcases List.mem_cons.1 a7 with rfl|a7
  ·exact⟨by omega,by omega⟩
  ·have:=k g a7
   exact⟨this.1,by omega⟩
theorem sk: ∀(l:List cf) (n:Int),fq l≤100000000→0≤n→n+(fq l:Int)≤1000000000000→nq l n=n+fq l
 |[],n,_,_,_=>by simp [nq,fq]
 |o::l,n,hs,aU,U=>by
  simp only[fq]at hs U
  have aL:=al.fT o.args
  have hb:=al.fT o.dk
  rw[nq,al.hL o.args (o.args.length:Int) (by omega) (by omega) (by omega),al.hL o.dk (o.dk.length:Int) (by omega) (by omega) (by omega)]
  simp (disch:=omega) only[jv]
  rw[sk l _ (by omega) (by omega) (by omega)]
  simp only[fq]
  omega
theorem sX: ∀ {l:List cf}{o:cf},o∈l→al.bz o.args+al.bz o.dk≤fq l
 |p::l,o,h=>by
  simp only[fq]
  rcases List.mem_cons.1 h with rfl|h
  ·omega
  ·have:=sX h; omega
theorem xK {x:b3}(U:fp x.hs≤100000000) (aa:fq x.os≤100000000) (hf:iP x=true):jw x:=by
 unfold iP at hf
 cases a8:kQ x.hs 0 with
 |none=>rw[a8]at hf; cases hf
 |some n=>
  rw[a8]at hf
  obtain⟨e,k⟩:=sj x.hs 0 n U (by omega) (by omega) a8
  simp only[Bool.and_eq_true,decide_eq_true_eq]at hf
  rw[sk x.os n aa (by omega) (by omega)]at hf
  obtain⟨f1,f2,f3,f4⟩:=hf
  exact⟨fun h hm=>by have:=(k h hm).2; omega,fun h hm=>by have:=(k h hm).1; omega,fun o hm=>by have:=sX hm; omega,by omega,by omega,by omega⟩
theorem sV: ∀l:List bL,fp l≤fo (l.map bL.row)
 |[]=>by simp [fp]
 |h::l=>by
  have:=sV l
  have:=ai.nS h.body
  simp only[fp,List.map_cons,fo,bL.row,cG,I.eY]
  omega
theorem sW: ∀l:List cf,fq l≤fo (l.map cf.row)
 |[]=>by simp [fq]
 |o::l=>by
  have:=sW l
  have:=al.nS o.args
  have:=al.nS o.dk
  simp only[fq,List.map_cons,fo,cf.row,cG,I.eY]
  omega
theorem xv {x:b3}(h:cG x.cells≤100000000) (hf:iP x=true):jw x:=by
 have U:=sV x.hs
 have aa:=sW x.os
 simp only[b3.cells,cG,I.eY]at h
 exact xK (by omega) (by omega) hf
end Go.aO
namespace Go.aO.T.N
open Go Go.aO Go.Proofs Go.RowKit
set_option maxRecDepth 100000
attribute [local irreducible] Go.aO.av Go.aO.au Go.aO.aY
section
attribute [local go_sem] al.cr ai.cr al.ch ai.ch b6 cR eH eS dp of_flat ba.row db gQ eZ
attribute [local go_sem] eE et er eG ds dw df cH Fd.row dn dz cD.row dr.row bs.row
def dJ:List bs→Nat
 |[]=>0
 |d::l=>d.fields.length+d.ep.length+d.eqs.length+dJ l
def np (l:List bs):Bool:=decide (l.length≤60)&&decide (dJ l≤100)
def iC (g:cd):Bool:=decide (g.iI≤40)&&(decide (g.cy.length≤80)&&(decide (g.fH.length≤40)&&(decide (g.cC.length≤10)&&np g.decls)))
theorem yA {l:List bs}{i:Nat}{d:bs}(h:l[i]? =some d):dJ (l.take (i+1))=dJ (l.take i)+(d.fields.length+d.ep.length+d.eqs.length):=by
 rw[List.take_add_one,h]
 generalize l.take i=m
 induction m with
 |nil=>simp [dJ]
 |cons x m bB=>simp only[List.cons_append,dJ,bB]; omega
theorem yB (l:List bs) (i:Nat):dJ (l.take i)≤dJ l:=by
 induction l generalizing i with
 |nil=>simp [dJ]
 |cons x l bB=>
  cases i with
  |zero=>simp [dJ]
  |succ i=>
   have:=bB i
   simp only[List.take_succ_cons,dJ]
   omega
theorem yI (l:List bs) (aC:l.length≤1000000000) (hs:dJ l≤1000000000):Pure Tryz.prog 120 [.af 5 (l.map bs.row)] (.bool (np l)):=by
 refine cM bb Tryz.func120 xw (by simp only[b7,I.flat,df,Bool.and_self]) rfl ?_
 unfold r9 sK
 have eb:((l.map bs.row).length:Int)=(l.length:Int):=by rw[List.length_map]
 simp(disch:=omega)only[go_sem,simprocAttr]
 refine aj ?_
 refine av.c5 (X:=Nat) 0 (fun i=>[(0,.af 5 (l.map bs.row)),(3,.int .i64 (dJ (l.take i):Int)),(4,.int .i64 (i:Int))]) (fun _=>[]) (fun _=>[]) (fun i=>i≤l.length) (fun i=>l.length-i) (Nat.zero_le _) ⟨rfl,rfl,rfl,trivial⟩ trivial trivial ?_
 intro i ad
 try simp only at ad ⊢
 cases ae:l[i]? with
 |some d=>
  have cB:=(List.getElem?_eq_some_iff.1 ae).1
  have d1:(i:Int)<(l.length:Int):=by omega
  have s1:=yA ae
  have s2:=yB l (i+1)
  have nO:((d.fields.map Fd.row).length:Int)=(d.fields.length:Int):=by rw[List.length_map]
  have lP:((d.ep.map dn).length:Int)=(d.ep.length:Int):=by rw[List.length_map]
  have c4:((d.eqs.map dz).length:Int)=(d.eqs.length:Int):=by rw[List.length_map]
  generalize ea:dJ (l.take (i+1))=S at s1 s2
  (have ah:=eb;have z2:=d1;have z3:=And.intro nO (And.intro lP c4);refine dE ?_;clear ah z2 z3)
  refine av.dO (i+1) (by omega) ⟨rfl,by simp only[Env.get,ea]; rw[s1]; simp only[Int.natCast_add,Int.add_assoc]<;>rfl,by simp only[Int.natCast_add]; rfl,trivial⟩ trivial trivial rfl rfl (by show l.length-(i+1)<l.length-i; omega)
 |none=>
  have cg:=List.getElem?_eq_none_iff.1 ae
  have e:i=l.length:=by omega
  subst e
  have d1: ¬(l.length:Int)<(l.length:Int):=by omega
  simp only[List.take_length]
  by_cases U:l.length≤60
  ·have d2:(l.length:Int)≤60:=by omega
   (have ah:=eb;have z2:=d1;have z3:=d2;refine dE ?_;clear ah z2 z3)
   refine D.r ?_
   refine⟨_,rfl,.aM ?_ rfl,trivial,trivial⟩
   simp only[np,decide_eq_true U,Bool.true_and,I.aM]
   congr 1
   exact decide_eq_decide.2 (by omega)
  ·have d2: ¬(l.length:Int)≤60:=by omega
   (have ah:=eb;have z2:=d1;have z3:=d2;refine dE ?_;clear ah z2 z3)
   refine D.r ?_
   refine⟨_,rfl,.aM ?_ rfl,trivial,trivial⟩
   simp only[np,decide_eq_false U,Bool.false_and,I.aM]
theorem r2: ∀(l:List (List I)),(∀r∈l,1≤cG r)→l.length≤fo l
 |[],_=>Nat.zero_le _
 |r::l,h=>by
  have U:=h r (by simp)
  have aa:=r2 l fun x ab=>h x (by simp [ab])
  simp only[List.length_cons,fo]
  omega
theorem jm {α:Type}(f:α→List I) (hf: ∀a,1≤cG (f a)) (l:List α):l.length≤fo (l.map f):=by
 have:=r2 (l.map f) (by intro r ac; obtain⟨a,_,rfl⟩:=List.mem_map.1 ac; exact hf a)
 simpa using this
theorem r3: ∀ {l:List (List I)}{r:List I},r∈l→cG r≤fo l
 |x::l,r,h=>by
  simp only[fo]
  rcases List.mem_cons.1 h with rfl|h
  ·omega
  ·have:=r3 h; omega
theorem r8 (d:bs):d.fields.length+d.ep.length+d.eqs.length≤cG d.row:=by
 have U:=jm Fd.row (fun f=>by simp only[Fd.row,cG,I.eY]; omega) d.fields
 have aa:=jm dn (fun f=>by simp only[dn,cG,I.eY]; omega) d.ep
 have ay:=jm dz (fun f=>by simp only[dz,cG,I.eY]; omega) d.eqs
 simp only[bs.row,cG,I.eY]
 omega
theorem sU: ∀l:List bs,dJ l≤fo (l.map bs.row)
 |[]=>by simp [dJ]
 |d::l=>by
  have U:=r8 d
  have aa:=sU l
  simp only[dJ,List.map_cons,fo]
  omega
theorem xO {g:cd}(h:cG g.cells≤100000000):kp g∧dJ g.decls≤100000000:=by
 have U:=jm b6 (fun f=>by simp only[b6,cG,I.eY]; omega) g.cC
 have aa:=jm bs.row (fun f=>by simp only[bs.row,cG,I.eY]; omega) g.decls
 have ay:=jm cD.row (fun f=>by simp only[cD.row,cG,I.eY]; omega) g.cy
 have bl:=jm dr.row (fun f=>by simp only[dr.row,cG,I.eY]; omega) g.fH
 have bW:=sU g.decls
 simp only[cd.cells,cG,I.eY]at h
 refine⟨⟨by omega,by omega,by omega,by omega,fun d br=> ?_⟩,by omega⟩
 have bf:=r3 (List.mem_map_of_mem (f:=bs.row) br)
 have bi:=r8 d
 omega
theorem yK (g:cd) (hb:kp g) (hs:dJ g.decls≤1000000000):Pure Tryz.prog 45 [g.cQ] (.bool (iC g)):=by
 have ar:=yI g.decls hb.yi hs
 rw[lY]
 have c4:((g.cy.map cD.row).length:Int)=(g.cy.length:Int):=by rw[List.length_map]
 have kJ:((g.fH.map dr.row).length:Int)=(g.fH.length:Int):=by rw[List.length_map]
 have nc:((g.cC.map b6).length:Int)=(g.cC.length:Int):=by rw[List.length_map]
 refine cM bb Tryz.func45 xz (by simp only[b7,I.flat,cR,df,ds,dw,Bool.and_self]) rfl ?_
 unfold se sN
 by_cases U:g.iI≤40
 rotate_left
 ·simp(disch:=omega)only[go_sem,simprocAttr]
  (have ah:=U;refine bE ?_;clear ah)
  refine D.r ?_
  exact⟨_,rfl,.aM (by simp only[iC,decide_eq_false U,Bool.false_and,I.aM]) rfl,trivial,trivial⟩
 by_cases aa:g.cy.length≤80
 rotate_left
 ·have d2: ¬(g.cy.length:Int)≤80:=by omega
  simp(disch:=omega)only[go_sem,simprocAttr]
  (have ah:=U;have z2:=c4;have z3:=d2;refine dE ?_;clear ah z2 z3)
  refine D.r ?_
  exact⟨_,rfl,.aM (by simp only[iC,decide_eq_false aa,Bool.false_and,Bool.and_false,I.aM]) rfl,trivial,trivial⟩
 have d2:(g.cy.length:Int)≤80:=by omega
 by_cases ay:g.fH.length≤40
 rotate_left
 ·have d3: ¬(g.fH.length:Int)≤40:=by omega
  simp(disch:=omega)only[go_sem,simprocAttr]
  (have ah:=U;have z2:=c4;have z3:=And.intro d2 (And.intro kJ d3);refine dE ?_;clear ah z2 z3)
  refine D.r ?_
  exact⟨_,rfl,.aM (by simp only[iC,decide_eq_false ay,Bool.false_and,Bool.and_false,I.aM]) rfl,trivial,trivial⟩
 have d3:(g.fH.length:Int)≤40:=by omega
 by_cases bl:g.cC.length≤10
 rotate_left
 ·have d4: ¬(g.cC.length:Int)≤10:=by omega
  simp(disch:=omega)only[go_sem,simprocAttr]
  (have ah:=U;have z2:=c4;have z3:=And.intro d2 (And.intro kJ (And.intro d3 (And.intro nc d4)));refine dE ?_;clear ah z2 z3)
  refine D.r ?_
  exact⟨_,rfl,.aM (by simp only[iC,decide_eq_false bl,Bool.false_and,Bool.and_false,I.aM]) rfl,trivial,trivial⟩
 have d4:(g.cC.length:Int)≤10:=by omega
 simp(disch:=omega)only[go_sem,simprocAttr]
 (have ah:=U;have z2:=c4;have z3:=And.intro d2 (And.intro kJ (And.intro d3 (And.intro nc d4)));refine dE ?_;clear ah z2 z3)
 refine D.P (ar) ?_
 refine aj ?_
 refine D.r ?_
 exact⟨_,rfl,.aM (by simp only[iC,decide_eq_true U,decide_eq_true aa,decide_eq_true ay,decide_eq_true bl,Bool.true_and,I.aM]) rfl,trivial,trivial⟩
theorem CR {R:Nat}(ak:R≤140737488355328) (x:b3) (g:cd) (ab:x.ok R) (hb:kp g) (hs:dJ g.decls≤1000000000):Pure Tryz.prog 19 [x.cQ,g.cQ] (.bool (iP x&&iC g)):=by
 have ar:=ER ak x ab
 have ax:=yK g hb hs
 rw[lK]at*
 simp only[lY]at*
 refine cM bb Tryz.func19 AN (by simp only[b7,I.flat,db,dp,of_flat,cR,df,ds,dw,Bool.and_self]) rfl ?_
 unfold wh wZ
 simp(disch:=omega)only[go_sem,simprocAttr]
 refine aj ?_
 refine D.P (ar) ?_
 generalize iP x=b at*
 cases b
 ·refine aj ?_
  exact D.rx
 ·refine aj ?_
  refine D.P (ax) ?_
  refine aj ?_
  exact D.rx
end
section
set_option maxRecDepth 1000000
attribute [local go_sem] al.cr ai.cr al.ch ai.ch b6 cR eH eS dp of_flat ba.row db gQ eZ
attribute [local go_sem] eE et er eG ds dw df cH Fd.row dn dz cD.row dr.row bs.row hB ie dI eI fR bK.row
def lO:b3:=⟨[83],[97],[80],[⟨[107],1,0,9,1,0,[]⟩],[],[⟨[109],[98],[],[.mk 6 [62] [] [] 0 [.mk 1 [] [] [] 2 [],.mk 3 [] [107] [] 0 []]]⟩]⟩
def fj:cd:=⟨[80],[[97],[98]],[⟨[109],[],0,[],[]⟩],2,0,1,[⟨0,0,1,0,1,false⟩],[]⟩
theorem yC:jw lO:=by
 refine⟨(fun h hm=>by cases hm),(fun h hm=>by cases hm),fun o hm=> ?_,by decide,by decide,by decide⟩
 simp only[lO,List.mem_cons,List.not_mem_nil,or_false]at hm
 subst hm
 decide
theorem wz:kp fj:=by
 refine⟨by decide,by decide,by decide,by decide,fun d hm=> ?_⟩
 simp only[fj,List.mem_cons,List.not_mem_nil,or_false]at hm
 subst hm
 decide
theorem xA:jy lO fj=(⟨[83],0,[⟨[107],1,0,9,1,0,[]⟩],[],[(1,0,0,4)],[⟨3,0,[]⟩,⟨1,2,[]⟩,⟨13,0,[]⟩,⟨24,0,[]⟩,⟨24,0,[]⟩]⟩,0):=by kernel_rfl
theorem xe (n:Int):Pure Tryz.prog 24 [.int .i64 n] (.agg [.int .i64 1,.int .i64 n,.str []]):=by
 refine cM bb Tryz.func24 xy rfl rfl ?_
 unfold kO sM
 simp(disch:=omega)only[go_sem,simprocAttr]
 refine aj ?_
 exact D.rx
theorem wy:bh (.agg [.str [80],.af 1 [[.str [97]],[.str [98]]],.af 5 [[.str [109],.aD,.int .i64 0,.aD,.aD]],.int .i64 2,.int .i64 0,.int .i64 1,.af 6 [[.int .i64 0,.int .i64 0,.int .i64 1,.int .i64 0,.int .i64 1,.bool false]],.aD]) fj.cQ:=
 qt (bu (bh.refl _) (bu (bh.refl _) (bu (mj (.cons (bu (bh.refl _) (bu bh.nil (bu (bh.refl _) (bu bh.nil (bu bh.nil gG))))) .nil)) (bu (bh.refl _) (bu (bh.refl _) (bu (bh.refl _) (bu (bh.refl _) (bu bh.nil gG))))))))
theorem yN:bh (.agg [.str [83],.str [97],.str [80],.af 7 [[.str [107],.int .i64 1,.int .i64 0,.int .i64 9,.int .i64 1,.int .i64 0,.str []]],.aD,.af 4 [[.str [109],.str [98],.aD,.af 6 [[.int .i64 6,.str [62],.str [],.str [],.int .i64 0,.af 6 [[.int .i64 1,.str [],.str [],.str [],.int .i64 2,.aD],[.int .i64 3,.str [],.str [107],.str [],.int .i64 0,.aD]]]]]]]) lO.cQ:=by
 have h: ∀k n m,eo [.int .i64 k,.str [],.str m,.str [],.int .i64 n,.aD] [.int .i64 k,.str [],.str m,.str [],.int .i64 n,.af 6 []]:=fun k n m=>bu (bh.refl _) (bu (bh.refl _) (bu (bh.refl _) (bu (bh.refl _) (bu (bh.refl _) (bu bh.nil gG)))))
 exact qt (bu (bh.refl _) (bu (bh.refl _) (bu (bh.refl _) (bu (bh.refl _) (bu bh.nil (bu (mj (.cons (bu (bh.refl _) (bu (bh.refl _) (bu bh.nil (bu (mj (.cons (bu (bh.refl _) (bu (bh.refl _) (bu (bh.refl _) (bu (bh.refl _) (bu (bh.refl _) (bu (mj (.cons (h _ _ _) (.cons (h _ _ _) .nil))) gG)))))) .nil)) gG)))) .nil)) gG))))))
theorem yJ:Pure Tryz.prog 18 [] (.bool true):=by
 have fS:=(ug lO fj yC wz).le (bu yN (bu wy gG))
 rw[xA]at fS
 have kO:=xe 0
 simp only[gL.cQ,gL.cells,List.map_cons,List.map_nil]at fS
 simp(disch:=omega)only[go_sem,simprocAttr]at fS
 refine cM bb Tryz.func18 xx rfl rfl ?_
 unfold sa sL
 simp(disch:=omega)only[go_sem,simprocAttr]
 refine aj ?_
 refine D.P (kO) ?_
 refine aj ?_
 refine D.P (fS) ?_
 refine aj ?_
 refine av.c5 (X:=Nat) 0 (fun i=>[(3,.ptr 2 0),(5,.af 3 [[.int .i64 3,.int .i64 0,.str []],[.int .i64 1,.int .i64 2,.str []],[.int .i64 13,.int .i64 0,.str []],[.int .i64 24,.int .i64 0,.str []],[.int .i64 24,.int .i64 0,.str []]]),(6,.int .i64 (i:Int))]) (fun _=>[(2,40,[.str [83],.int .i64 0,.af 7 [[.str [107],.int .i64 1,.int .i64 0,.int .i64 9,.int .i64 1,.int .i64 0,.str []]],.af 3 [],.af 4 [[.int .i64 1,.int .i64 0,.int .i64 0,.int .i64 4]],.af 3 [[.int .i64 3,.int .i64 0,.str []],[.int .i64 1,.int .i64 2,.str []],[.int .i64 13,.int .i64 0,.str []],[.int .i64 24,.int .i64 0,.str []],[.int .i64 24,.int .i64 0,.str []]]])]) (fun _=>[]) (fun i=>i≤5) (fun i=>5-i) (Nat.zero_le _) ⟨rfl,rfl,rfl,trivial⟩ ⟨rfl,trivial⟩ trivial ?_
 intro i ad
 match i,ad with
 |0,_=>
  refine aj ?_
  refine av.dO 1 (by decide) ⟨rfl,rfl,rfl,trivial⟩ ⟨rfl,trivial⟩ trivial rfl rfl (by decide)
 |1,_=>
  refine aj ?_
  refine av.dO 2 (by decide) ⟨rfl,rfl,rfl,trivial⟩ ⟨rfl,trivial⟩ trivial rfl rfl (by decide)
 |2,_=>
  refine aj ?_
  refine av.dO 3 (by decide) ⟨rfl,rfl,rfl,trivial⟩ ⟨rfl,trivial⟩ trivial rfl rfl (by decide)
 |3,_=>
  refine aj ?_
  refine av.dO 4 (by decide) ⟨rfl,rfl,rfl,trivial⟩ ⟨rfl,trivial⟩ trivial rfl rfl (by decide)
 |4,_=>
  refine aj ?_
  refine av.dO 5 (by decide) ⟨rfl,rfl,rfl,trivial⟩ ⟨rfl,trivial⟩ trivial rfl rfl (by decide)
 |5,_=>
  refine aj ?_
  exact D.rx
 |n+6,h=>omega
end
section
def iu (i:bK):Prop:=i.op≠24∧i.op≠19∧i.op≠20∧i.op≠21∧i.op≠22
theorem jM {i:bK}(h:i.op≤18):iu i:=by
 unfold iu
 omega
def mL (q:Int×Bool×Bool):Prop:=q.1≤16
theorem BQ {c:Prop}[Decidable c]{a b:Int×Bool×Bool}(aL:mL a) (hb:mL b):mL (if c then a else b):=by split<;>assumption
theorem Cj (o:bF):mL (lc o):=by
 unfold lc
 repeat' apply BQ
 all_goals (unfold mL; decide)
theorem Ck (o:bF) (s:bF) (n:Int):iu ⟨(lc o).1,n,s⟩:=by
 have h:=Cj o
 unfold mL at h
 exact jM (by show (lc o).1≤18; omega)
theorem AJ {o:bF}{qZ:Bool}{l:List (List bK)}(h: ∀c∈l,∀i∈c,iu i): ∀i∈ml o qZ l,iu i:=by
 match l,h with
 |[],_=>intro i ad; simp [ml]at ad
 |[a],_=>intro i ad; simp [ml]at ad
 |a::b::r,h=>
  have aL:=h a (by simp)
  have hb:=h b (by simp)
  intro i ad
  simp only[ml,List.mem_append,List.mem_cons]at ad
  have Bn:i∈(if (lc o).2.1=true then b++a else a++b)→iu i:=fun U=>by
   split at U
   ·rcases List.mem_append.1 U with U|U
    ·exact hb i U
    ·exact aL i U
   ·rcases List.mem_append.1 U with U|U
    ·exact aL i U
    ·exact hb i U
  rcases ad with ad|rfl|ad
  ·exact Bn ad
  ·split
   ·exact jM (by show (17:Int)≤18; decide)
   ·exact Ck o [] 0
  ·split at ad
   ·rcases List.mem_cons.1 ad with rfl|ad
    ·unfold ins iu; decide
    ·cases ad
   ·cases ad
mutual
theorem tx (cx:fJ): ∀(x:al),∀i∈c3 cx x,iu i
 | .mk k o m t n l=>by
  have aC:=ux cx l
  have br: ∀i∈(fM cx l).headD [],iu i:=by
   cases bw:fM cx l with
   |nil=>intro i ad; cases ad
   |cons a b=>exact aC a (by rw[bw]; simp)
  intro i ad
  simp only[c3]at ad
  repeat' split at ad
  all_goals try simp only[List.mem_append,List.mem_cons,List.not_mem_nil,or_false]at ad
  ·subst ad; exact jM (by show (1:Int)≤18; decide)
  ·subst ad; exact jM (by show (2:Int)≤18; decide)
  ·subst ad; exact jM (by show (4:Int)≤18; decide)
  ·subst ad; exact jM (by show (3:Int)≤18; decide)
  ·rcases ad with ad|rfl
   ·exact br i ad
   ·exact jM (by show (18:Int)≤18; decide)
  ·rcases ad with ad|rfl
   ·exact br i ad
   ·exact jM (by show (11:Int)≤18; decide)
  ·rcases ad with ad|rfl
   ·exact br i ad
   ·exact jM (by show (14:Int)≤18; decide)
  ·exact AJ aC i ad
theorem ux (cx:fJ): ∀(l:List al),∀c∈fM cx l,∀i∈c,iu i
 |[]=>by intro c aq; simp only[fM]at aq; cases aq
 |x::l=>by
  intro c aq
  simp only[fM,List.mem_cons]at aq
  rcases aq with rfl|aq
  ·exact tx cx x
  ·exact ux cx l c aq
end
def gd (p q:Nat) (l:List bK):Prop:=∀i∈l,i.op≠24∧(i.op=19∨i.op=20∨i.op=22→(p:Int)≤i.n∧i.n≤(q:Int))
theorem gd.dV {p q:Nat}{a b:List bK}(aL:gd p q a) (hb:gd p q b):gd p q (a++b):=fun i ad=>by
 rcases List.mem_append.1 ad with ad|ad
 ·exact aL i ad
 ·exact hb i ad
theorem gd.mono {p q zV kB:Nat}{a:List bK}(aL:gd p q a) (U:zV≤p) (aa:q≤kB):gd zV kB a:=fun i ad=>by
 obtain⟨h,k⟩:=aL i ad
 refine⟨h,fun bx=> ?_⟩
 obtain⟨bf,bi⟩:=k bx
 omega
theorem gd.plain {p q:Nat}{a:List bK}(h: ∀i∈a,iu i):gd p q a:=fun i ad=>by
 obtain⟨U,aa,ay,bl,bW⟩:=h i ad
 exact⟨U,fun bx=>by rcases bx with bx|bx|bx<;>contradiction⟩
theorem gd.cons {p q:Nat}{x:bK}{a:List bK}(ab:x.op≠24∧(x.op=19∨x.op=20∨x.op=22→(p:Int)≤x.n∧x.n≤(q:Int))) (aL:gd p q a):gd p q (x::a):=fun i ad=>by
 rcases List.mem_cons.1 ad with rfl|ad
 ·exact ab
 ·exact aL i ad
theorem gd.nil {p q:Nat}:gd p q []:=fun i ad=>by cases ad
mutual
theorem AS (cx:fJ): ∀(x:ai) (p:Nat),gd p (p+(hT cx p x).length) (hT cx p x)
 | .mk k m x t a b,p=>by
  have he: ∀p q,gd p q (c3 cx x):=fun p q=> .plain (tx cx x)
  simp only[hT]
  by_cases bf:k=1
  ·simp only[if_pos bf]
   exact (he _ _).dV (.cons ⟨by show (5:Int)≠24; decide,by unfold ins; simp⟩ .nil)
  simp only[if_neg bf]
  by_cases bi:k=2
  ·simp only[if_pos bi]
   cases b with
   |nil=>
    simp only[List.length_append,List.length_cons]
    have aL:=mr cx a (p+(c3 cx x).length+1)
    refine (he _ _).dV (.cons ⟨by show (20:Int)≠24; decide,fun _=>by unfold ins; simp only; omega⟩ (aL.mono (by omega) (by omega)))
   |cons y r=>
    have aL:=mr cx a (p+(c3 cx x).length+1)
    have hb:=mr cx (y::r) (p+(c3 cx x).length+1+(dS cx (p+(c3 cx x).length+1) a).length+1)
    simp only[List.length_append,List.length_cons]
    generalize dS cx (p+(c3 cx x).length+1+(dS cx (p+(c3 cx x).length+1) a).length+1) (y::r)=B at hb ⊢
    generalize dS cx (p+(c3 cx x).length+1) a=A at aL hb ⊢
    generalize c3 cx x=E at he aL hb ⊢
    refine (he _ _).dV (.cons ⟨by show (20:Int)≠24; decide,fun _=>by unfold ins; simp only; omega⟩ ((aL.mono (by omega) (by omega)).dV (.cons ⟨by show (19:Int)≠24; decide,fun _=>by unfold ins; simp only; omega⟩ (hb.mono (by omega) (by omega)))))
  ·simp only[if_neg bi]
   have aL:=mr cx a (p+1+(c3 cx x).length+1)
   simp only[List.length_append,List.length_cons,List.length_nil]
   generalize dS cx (p+1+(c3 cx x).length+1) a=A at aL ⊢
   generalize c3 cx x=E at he aL ⊢
   refine .cons ⟨by show (21:Int)≠24; decide,by unfold ins; simp⟩ ((he _ _).dV (.cons ⟨by show (20:Int)≠24; decide,fun _=>by unfold ins; simp only; omega⟩ ((aL.mono (by omega) (by omega)).dV (.cons ⟨by show (22:Int)≠24; decide,fun _=>by unfold ins; simp only; omega⟩ (.cons ⟨by show (23:Int)≠24; decide,by unfold ins; simp⟩ .nil)))))
theorem mr (cx:fJ): ∀(l:List ai) (p:Nat),gd p (p+(dS cx p l).length) (dS cx p l)
 |[],p=>by simp only[dS]; exact .nil
 |x::l,p=>by
  have U:=AS cx x p
  have aa:=mr cx l (p+(hT cx p x).length)
  simp only[dS,List.length_append]
  exact (U.mono (by omega) (by omega)).dV (aa.mono (by omega) (by omega))
end
inductive iL:Nat→List Int→List bK→Prop
 |nil {p:Nat}:iL p [] []
 |cons {p:Nat}{body:List bK}{E:List Int}{c:List bK}(h:gd p (p+body.length) body) (t:iL (p+(body.length+1)) E c):iL p ((p:Int)::E) (body++ins 24 0::c)
theorem zz (x:b3) (g:cd): ∀(l:List bL) (p:Nat),iL p ((dM x g p l).1.map fun q=>q.2.2) (dM x g p l).2.1
 |[],p=> .nil
 |h::l,p=>by
  have bB:=zz x g l (p+(ly x (kl g h.c7) p h).length)
  simp only[dM,List.map_cons]
  unfold ly at bB ⊢
  simp only[List.length_append,List.length_cons,List.length_nil,Nat.zero_add]at bB ⊢
  rw[List.append_assoc]
  exact .cons (mr _ _ _) bB
theorem wD (x:b3) (g:cd): ∀(l:List bL) (p:Nat),(dM x g p l).1.length=l.length
 |[],_=>rfl
 |h::l,p=>by simp only[dM,List.length_cons,wD x g l]
end
section
attribute [local go_sem] al.cr ai.cr al.ch ai.ch b6 cR eH eS dp of_flat ba.row db gQ eZ
attribute [local go_sem] eE et er eG ds dw df cH Fd.row dn dz cD.row dr.row bs.row hB ie dI eI fR bK.row
theorem v7 {x:b3}{g:cd}{P:gL}(h:jy x g=(P,0)):(kf x g).2=0∧(iZ x g).length≤1000∧(dM x g 0 x.hs).2.2=false∧P=⟨x.name,eJ g.cC x.bM,x.vars,(dM x g 0 x.hs).1,(hq x g (dM x g 0 x.hs).2.1.length x.os).1,iZ x g⟩:=by
 unfold jy at h
 split at h
 ·rename_i aq
  split at h
  ·cases h
  ·rename_i aW
   simp only[not_or,Bool.not_eq_true]at aW
   simp only[Prod.mk.injEq]at h
   exact⟨aq,by omega,aW.2,h.1.symm⟩
 ·cases h
theorem wU (x:b3) (g:cd): ∀(l:List cf) (p:Nat),(hq x g p l).1.length=l.length
 |[],_=>rfl
 |h::l,p=>by simp only[hq,List.length_cons,wU x g l]
end
section
attribute [local go_sem] al.cr ai.cr al.ch ai.ch b6 cR eH eS dp of_flat ba.row db gQ eZ
attribute [local go_sem] eE et er eG ds dw df cH Fd.row dn dz cD.row dr.row bs.row hB ie dI eI fR bK.row
theorem Bc {x:b3}(h:iP x=true):x.vars.length≤60∧x.hs.length≤60∧x.os.length≤60:=by
 unfold iP at h
 cases a8:kQ x.hs 0 with
 |none=>rw[a8]at h; cases h
 |some n=>
  rw[a8]at h
  simp only[Bool.and_eq_true,decide_eq_true_eq]at h
  exact h.2
def oL:ba:=⟨[122,122,122,122,122,122,122,122,122,122,122,122,122,122,122,122],1,0,1,1,0,[]⟩
theorem vO (l:List ba):eN (l.map ba.row++[[.str [122,122,122,122,122,122,122,122,122,122,122,122,122,122,122,122],.int .i64 1,.int .i64 0,.int .i64 1,.int .i64 1,.int .i64 0,.str []]])=true:=by
 have h:=db (l++[oL])
 rw[List.map_append]at h
 exact h
attribute [local go_sem] vO
end
section
set_option maxRecDepth 1000000
attribute [local go_sem] al.cr ai.cr al.ch ai.ch b6 cR eH eS dp of_flat ba.row db gQ eZ
attribute [local go_sem] eE et er eG ds dw df cH Fd.row dn dz cD.row dr.row bs.row hB ie dI eI fR bK.row
def kc (n:Int):List I:=[.int .u8 n]
theorem tu (l:List Int):eN (l.map kc)=true:=lW (fun _=>rfl) l
attribute [local go_sem] kc tu
end
section
attribute [local go_sem] al.cr ai.cr al.ch ai.ch b6 cR eH eS dp of_flat ba.row db gQ eZ hB ie dI eI fR bK.row
abbrev Fq:List I:=[.str [],.int .i64 0,.aD,.aD,.aD,.aD]
theorem VM (P:gL) (fG:P.vars.length≤1000000) (nw:P.hs.length≤1000000) (ye:P.os.length≤1000000) (bl0:P.code.length≤1000000):Pure Tryz.prog 22 [P.cQ] P.cQ:=by
 simp only[gL.cQ,gL.cells]
 refine cM bb Tryz.func22 XQ (by simp only[b7,I.flat,db,hB,ie,fR,Bool.and_self]) (by simp only[b7,I.flat,db,hB,ie,fR,Bool.and_self]) ?_
 unfold A2 Ti
 simp(disch:=omega)only[go_sem,simprocAttr]
 refine av.seq ?_
 refine av.dN ?_
 refine dc ?_
 refine av.seq ?_
 refine av.dN ?_
 refine dc ?_
 refine av.ou 2 2 7 159 rfl rfl (by decide) ?_
 simp(disch:=omega)only[go_sem,simprocAttr]
 refine av.ou 2 3 3 160 rfl rfl (by decide) ?_
 simp(disch:=omega)only[go_sem,simprocAttr]
 refine av.ou 2 4 4 161 rfl rfl (by decide) ?_
 simp(disch:=omega)only[go_sem,simprocAttr]
 refine av.ou 2 5 3 162 rfl rfl (by decide) ?_
 simp(disch:=omega)only[go_sem,simprocAttr]
 refine aj ?_
 refine av.c5 (X:=Nat) 0 (fun i=>[(1,.ptr 0 0),(2,.ptr 1 0),(3,.ptr 2 0),(4,.int .i64 (i:Int))]) (fun i=>[(0,40,[.str P.name,.int .i64 P.bM,.af 7 (P.vars.map ba.row),.af 3 (P.hs.map dI),.af 4 (P.os.map eI),.af 3 (P.code.map bK.row)]),(1,55,Fq),(2,55,[.str P.name,.int .i64 P.bM,.own 0 7 ((P.vars.take i).map ba.row),.own 1 3 (([]:List (Int×Int×Int)).map dI),.own 2 4 (([]:List (Int×Int×Int×Int)).map eI),.own 3 3 (([]:List bK).map bK.row)])]) (fun i=>[(0,.bX 159 7 ((P.vars.take i).map ba.row).length),(1,.bX 160 3 (([]:List (Int×Int×Int)).map dI).length),(2,.bX 161 4 (([]:List (Int×Int×Int×Int)).map eI).length),(3,.bX 162 3 (([]:List bK).map bK.row).length)]) (fun i=>i≤P.vars.length) (fun i=>P.vars.length-i) (Nat.zero_le _) ⟨rfl,rfl,rfl,rfl,trivial⟩ ⟨rfl,rfl,rfl,trivial⟩ ⟨rfl,rfl,rfl,rfl,trivial⟩ ?_
 intro i ad
 try simp only at ad ⊢
 cases ae:P.vars[i]? with
 |some v=>
  have cB:=(List.getElem?_eq_some_iff.1 ae).1
  have hlen:(P.vars.take i).length=i:=by simp; omega
  have ei:=rP ba.row ae
  have d1:(i:Int)<((P.vars.map ba.row).length:Int):=by rw[List.length_map]; omega
  (have ah:=d1;refine bE ?_;clear ah)
  refine D.hQ ?_
  refine aj ?_
  refine av.dO (i+1) (by omega) ⟨rfl,rfl,rfl,rfl,trivial⟩ (by refine⟨rfl,rfl,?_,trivial⟩; simp only[ei]; rfl) (by refine⟨?_,rfl,rfl,rfl,trivial⟩; simp only[ei,List.length_append]; rfl) rfl rfl (by show P.vars.length-(i+1)<P.vars.length-i; omega)
 |none=>
 have cg:=List.getElem?_eq_none_iff.1 ae
 have e:i=P.vars.length:=by omega
 subst e
 have d1: ¬(P.vars.length:Int)<((P.vars.map ba.row).length:Int):=by rw[List.length_map]; omega
 simp only[List.take_length]
 clear ad ae cg
 (have ah:=d1;refine bE ?_;clear ah)
 refine av.c5 (X:=Nat) 0 (fun i=>[(1,.ptr 0 0),(2,.ptr 1 0),(3,.ptr 2 0),(5,.int .i64 (i:Int))]) (fun i=>[(0,40,[.str P.name,.int .i64 P.bM,.af 7 (P.vars.map ba.row),.af 3 (P.hs.map dI),.af 4 (P.os.map eI),.af 3 (P.code.map bK.row)]),(1,55,Fq),(2,55,[.str P.name,.int .i64 P.bM,.own 0 7 (P.vars.map ba.row),.own 1 3 ((P.hs.take i).map dI),.own 2 4 (([]:List (Int×Int×Int×Int)).map eI),.own 3 3 (([]:List bK).map bK.row)])]) (fun i=>[(0,.bX 159 7 (P.vars.map ba.row).length),(1,.bX 160 3 ((P.hs.take i).map dI).length),(2,.bX 161 4 (([]:List (Int×Int×Int×Int)).map eI).length),(3,.bX 162 3 (([]:List bK).map bK.row).length)]) (fun i=>i≤P.hs.length) (fun i=>P.hs.length-i) (Nat.zero_le _) ⟨rfl,rfl,rfl,rfl,trivial⟩ ⟨rfl,rfl,rfl,trivial⟩ ⟨rfl,rfl,rfl,rfl,trivial⟩ ?_
 intro i ad
 try simp only at ad ⊢
 cases ae:P.hs[i]? with
 |some v=>
  have cB:=(List.getElem?_eq_some_iff.1 ae).1
  have hlen:(P.hs.take i).length=i:=by simp; omega
  have ei:=rP dI ae
  have d1:(i:Int)<((P.hs.map dI).length:Int):=by rw[List.length_map]; omega
  (have ah:=d1;refine bE ?_;clear ah)
  refine D.hQ ?_
  refine aj ?_
  refine av.dO (i+1) (by omega) ⟨rfl,rfl,rfl,rfl,trivial⟩ (by refine⟨rfl,rfl,?_,trivial⟩; simp only[ei]; rfl) (by refine⟨rfl,?_,rfl,rfl,trivial⟩; simp only[ei,List.length_append]; rfl) rfl rfl (by show P.hs.length-(i+1)<P.hs.length-i; omega)
 |none=>
 have cg:=List.getElem?_eq_none_iff.1 ae
 have e:i=P.hs.length:=by omega
 subst e
 have d1: ¬(P.hs.length:Int)<((P.hs.map dI).length:Int):=by rw[List.length_map]; omega
 simp only[List.take_length]
 clear ad ae cg
 (have ah:=d1;refine bE ?_;clear ah)
 refine av.c5 (X:=Nat) 0 (fun i=>[(1,.ptr 0 0),(2,.ptr 1 0),(3,.ptr 2 0),(6,.int .i64 (i:Int))]) (fun i=>[(0,40,[.str P.name,.int .i64 P.bM,.af 7 (P.vars.map ba.row),.af 3 (P.hs.map dI),.af 4 (P.os.map eI),.af 3 (P.code.map bK.row)]),(1,55,Fq),(2,55,[.str P.name,.int .i64 P.bM,.own 0 7 (P.vars.map ba.row),.own 1 3 (P.hs.map dI),.own 2 4 ((P.os.take i).map eI),.own 3 3 (([]:List bK).map bK.row)])]) (fun i=>[(0,.bX 159 7 (P.vars.map ba.row).length),(1,.bX 160 3 (P.hs.map dI).length),(2,.bX 161 4 ((P.os.take i).map eI).length),(3,.bX 162 3 (([]:List bK).map bK.row).length)]) (fun i=>i≤P.os.length) (fun i=>P.os.length-i) (Nat.zero_le _) ⟨rfl,rfl,rfl,rfl,trivial⟩ ⟨rfl,rfl,rfl,trivial⟩ ⟨rfl,rfl,rfl,rfl,trivial⟩ ?_
 intro i ad
 try simp only at ad ⊢
 cases ae:P.os[i]? with
 |some v=>
  have cB:=(List.getElem?_eq_some_iff.1 ae).1
  have hlen:(P.os.take i).length=i:=by simp; omega
  have ei:=rP eI ae
  have d1:(i:Int)<((P.os.map eI).length:Int):=by rw[List.length_map]; omega
  (have ah:=d1;refine bE ?_;clear ah)
  refine D.hQ ?_
  refine aj ?_
  refine av.dO (i+1) (by omega) ⟨rfl,rfl,rfl,rfl,trivial⟩ (by refine⟨rfl,rfl,?_,trivial⟩; simp only[ei]; rfl) (by refine⟨rfl,rfl,?_,rfl,trivial⟩; simp only[ei,List.length_append]; rfl) rfl rfl (by show P.os.length-(i+1)<P.os.length-i; omega)
 |none=>
 have cg:=List.getElem?_eq_none_iff.1 ae
 have e:i=P.os.length:=by omega
 subst e
 have d1: ¬(P.os.length:Int)<((P.os.map eI).length:Int):=by rw[List.length_map]; omega
 simp only[List.take_length]
 clear ad ae cg
 (have ah:=d1;refine bE ?_;clear ah)
 refine av.c5 (X:=Nat) 0 (fun i=>[(1,.ptr 0 0),(2,.ptr 1 0),(3,.ptr 2 0),(7,.int .i64 (i:Int))]) (fun i=>[(0,40,[.str P.name,.int .i64 P.bM,.af 7 (P.vars.map ba.row),.af 3 (P.hs.map dI),.af 4 (P.os.map eI),.af 3 (P.code.map bK.row)]),(1,55,Fq),(2,55,[.str P.name,.int .i64 P.bM,.own 0 7 (P.vars.map ba.row),.own 1 3 (P.hs.map dI),.own 2 4 (P.os.map eI),.own 3 3 ((P.code.take i).map bK.row)])]) (fun i=>[(0,.bX 159 7 (P.vars.map ba.row).length),(1,.bX 160 3 (P.hs.map dI).length),(2,.bX 161 4 (P.os.map eI).length),(3,.bX 162 3 ((P.code.take i).map bK.row).length)]) (fun i=>i≤P.code.length) (fun i=>P.code.length-i) (Nat.zero_le _) ⟨rfl,rfl,rfl,rfl,trivial⟩ ⟨rfl,rfl,rfl,trivial⟩ ⟨rfl,rfl,rfl,rfl,trivial⟩ ?_
 intro i ad
 try simp only at ad ⊢
 cases ae:P.code[i]? with
 |some v=>
  have cB:=(List.getElem?_eq_some_iff.1 ae).1
  have hlen:(P.code.take i).length=i:=by simp; omega
  have ei:=rP bK.row ae
  have d1:(i:Int)<((P.code.map bK.row).length:Int):=by rw[List.length_map]; omega
  (have ah:=d1;refine bE ?_;clear ah)
  refine D.hQ ?_
  refine aj ?_
  refine av.dO (i+1) (by omega) ⟨rfl,rfl,rfl,rfl,trivial⟩ (by refine⟨rfl,rfl,?_,trivial⟩; simp only[ei]; rfl) (by refine⟨rfl,rfl,rfl,?_,trivial⟩; simp only[ei,List.length_append]; rfl) rfl rfl (by show P.code.length-(i+1)<P.code.length-i; omega)
 |none=>
 have cg:=List.getElem?_eq_none_iff.1 ae
 have e:i=P.code.length:=by omega
 subst e
 have d1: ¬(P.code.length:Int)<((P.code.map bK.row).length:Int):=by rw[List.length_map]; omega
 simp only[List.take_length]
 clear ad ae cg
 (have ah:=d1;refine bE ?_;clear ah)
 refine D.r ?_
 refine⟨_,rfl,?_,trivial,trivial⟩
 exact .aM rfl (by simp only[b7,I.flat,db,hB,ie,fR,Bool.and_self])
def leads (o:Int):Bool:=decide (o=19)||(decide (o=20)||decide (o=22))
theorem bd0 (o:Int):Pure Tryz.prog 66 [.int .i64 o] (.bool (leads o)):=by
 refine cM bb Tryz.func66 YW rfl rfl ?_
 unfold xH Uq
 by_cases U:o=19
 ·subst U
  simp(disch:=omega)only[go_sem,simprocAttr]
  refine aj ?_
  exact D.rx
 by_cases aa:o=20
 ·subst aa
  simp(disch:=omega)only[go_sem,simprocAttr]
  refine aj ?_
  exact D.rx
 have dX:leads o=decide (o=22):=by simp only[leads,decide_eq_false U,decide_eq_false aa,Bool.false_or]
 rw[dX]
 simp(disch:=omega)only[go_sem,simprocAttr]
 (have ah:=U;have z2:=aa;refine eM ?_;clear ah z2)
 exact D.rx
def qN (d:Int) (i:bK):bK:=if leads i.op=true then⟨i.op,i.n+d,i.s⟩ else i
theorem bb9 (a b:List bK) (k m:Nat) (az5:a.length≤1000) (bl1:b.length≤1000) (aW: ∀i∈a,leads i.op=true→ -1000000≤i.n∧i.n≤1000000) (hm:m<a.length) (HK:k+m<b.length) (O3: ∀j w,j<m→a[j]? =some w→w.op≠24) (Pw: ∀w,a[m]? =some w→w.op=24) (hs: ∀j w,j≤m→a[j]? =some w→b[k+j]? =some (qN (k:Int) w)):Pure Tryz.prog 23 [.af 3 (a.map bK.row),.af 3 (b.map bK.row),.int .i64 0,.int .i64 (k:Int)] (.bool true):=by
 have dK:((a.map bK.row).length:Int)=(a.length:Int):=by rw[List.length_map]
 have gF:((b.map bK.row).length:Int)=(b.length:Int):=by rw[List.length_map]
 refine cM bb Tryz.func23 XV (by simp only[b7,I.flat,fR,Bool.and_self]) rfl ?_
 unfold DE Tn
 simp(disch:=omega)only[go_sem,simprocAttr]
 refine aj ?_
 refine av.c5 (X:=Nat) 0 (fun j=>[(0,.af 3 (a.map bK.row)),(1,.af 3 (b.map bK.row)),(2,.int .i64 (j:Int)),(3,.int .i64 ((k+j:Nat):Int)),(9,.int .i64 (k:Int))]) (fun _=>[]) (fun _=>[]) (fun j=>j≤m) (fun j=>m-j) (Nat.zero_le _) ⟨rfl,rfl,rfl,rfl,by simp only[Env.get,Int.sub_zero]; rfl,trivial⟩ trivial trivial ?_
 intro j bx
 try simp only at bx ⊢
 obtain⟨w,hw⟩: ∃w,a[j]? =some w:=⟨_,List.getElem?_eq_getElem (by omega)⟩
 have d1:(j:Int)<(a.length:Int):=by omega
 have d2:((k+j:Nat):Int)<(b.length:Int):=by omega
 have xH:=bd0 w.op
 have Hq:=hs j w bx hw
 have aq4:=aW w (List.mem_of_getElem? hw)
 unfold qN at Hq
 clear hs aW
 generalize bw:k+j=q at*
 cases aC:leads w.op with
 |true=>
  rw[aC]at xH
  rw[if_pos aC]at Hq
  have bj8:=aq4 aC
  (have ah:=dK;have z2:=gF;have z3:=And.intro d1 d2;refine dE ?_;clear ah z2 z3)
  refine D.P (xH) ?_
  refine aj ?_
  by_cases HH:j=m
  ·have d3:w.op=24:=Pw w (by rw[←HH]; assumption)
   rw[d3]at aC
   cases aC
  ·have d3: ¬w.op=24:=O3 j w (by omega) (by assumption)
   (have ah:=d3;refine bE ?_;clear ah)
   refine av.oG (j+1) (by omega) ⟨rfl,rfl,by simp only[Int.natCast_add]; rfl,by simp only[Env.get,←bw,Int.natCast_add,Int.add_assoc]; rfl,rfl,trivial⟩ trivial trivial rfl (by simp only[lq,ed,fA,fB,kd,I.dW,fR,go_sem]<;>rfl) (by show m-(j+1)<m-j; omega)
 |false=>
  rw[aC]at xH
  rw[if_neg (by rw[aC]; decide)]at Hq
  (have ah:=dK;have z2:=gF;have z3:=And.intro d1 d2;refine dE ?_;clear ah z2 z3)
  refine D.P (xH) ?_
  refine aj ?_
  by_cases HH:j=m
  ·have d3:w.op=24:=Pw w (by rw[←HH]; assumption)
   (have ah:=d3;refine bE ?_;clear ah)
   exact D.rx
  ·have d3: ¬w.op=24:=O3 j w (by omega) (by assumption)
   (have ah:=d3;refine bE ?_;clear ah)
   refine av.oG (j+1) (by omega) ⟨rfl,rfl,by simp only[Int.natCast_add]; rfl,by simp only[Env.get,←bw,Int.natCast_add,Int.add_assoc]; rfl,rfl,trivial⟩ trivial trivial rfl (by simp only[lq,ed,fA,fB,kd,I.dW,fR,go_sem]<;>rfl) (by show m-(j+1)<m-j; omega)
end
section
theorem Ia {x y:b3}{g:cd}{r:Int}{ps:Option (List (bF×Int))}(ae:x.vars=y.vars) (k:Int) (o m:bF) (aT:List Int):qm ⟨x,g,r,ps⟩ k o m aT=qm ⟨y,g,r,ps⟩ k o m aT:=by
 unfold qm qP dL.look
 simp only[ae]
mutual
theorem sD {x y:b3}{g:cd}{r:Int}{ps:Option (List (bF×Int))}(ae:x.vars=y.vars): ∀e:al,kk ⟨x,g,r,ps⟩ e=kk ⟨y,g,r,ps⟩ e
 | .mk k o m t n l=>by
  simp only[kk,B2 ae l,Ia ae]
theorem B2 {x y:b3}{g:cd}{r:Int}{ps:Option (List (bF×Int))}(ae:x.vars=y.vars): ∀l:List al,k8 ⟨x,g,r,ps⟩ l=k8 ⟨y,g,r,ps⟩ l
 |[]=>by simp only[k8]
 |e::l=>by simp only[k8,sD ae e,B2 ae l]
end
theorem FE {x y:b3}{g:cd}{r:Int}{ps:Option (List (bF×Int))}(ae:x.vars=y.vars) (n:bF) (e:al):rf ⟨x,g,r,ps⟩ n e=rf ⟨y,g,r,ps⟩ n e:=by
 simp only[rf,sD ae e,dL.look,ae]
mutual
theorem JD {x y:b3}{g:cd}{r:Int}{ps:Option (List (bF×Int))}(ae:x.vars=y.vars): ∀s:ai,o6 ⟨x,g,r,ps⟩ s=o6 ⟨y,g,r,ps⟩ s
 | .mk k m e t a b=>by
  simp only[o6,FE ae,sD ae e,vA ae a,vA ae b]
theorem vA {x y:b3}{g:cd}{r:Int}{ps:Option (List (bF×Int))}(ae:x.vars=y.vars): ∀l:List ai,jN ⟨x,g,r,ps⟩ l=jN ⟨y,g,r,ps⟩ l
 |[]=>by simp only[jN]
 |s::l=>by simp only[jN,JD ae s,vA ae l]
end
theorem Hn {x y:b3}{g:cd}{r:Int}{ps:Option (List (bF×Int))}(ae:x.vars=y.vars) (a:List bL) (h:bL):ki ⟨x,g,r,ps⟩ a h=ki ⟨y,g,r,ps⟩ a h:=by
 simp only[ki,qL,vA ae h.body,ae]
theorem AI {x y:b3}{g:cd}{r:Int}{ps:Option (List (bF×Int))}(ae:x.vars=y.vars) (m:bF): ∀(l:List al) (b2:List Fd),lT ⟨x,g,r,ps⟩ m l b2=lT ⟨y,g,r,ps⟩ m l b2
 |[],_=>by simp only[lT]
 | _:: _,[]=>by simp only[lT]
 |e::l,f::b2=>by simp only[lT,sD ae e,AI ae m l b2]
theorem CS {x y:b3}{g:cd}{r:Int}{ps:Option (List (bF×Int))}(ae:x.vars=y.vars): ∀(l:List al),nN ⟨x,g,r,ps⟩ l=nN ⟨y,g,r,ps⟩ l
 |[]=>by simp only[nN]
 |e::l=>by simp only[nN,sD ae e,CS ae l]
theorem Iw {x y:b3}{g:cd}{r:Int}{ps:Option (List (bF×Int))}(ae:x.vars=y.vars) (o:cf):nD ⟨x,g,r,ps⟩ o=nD ⟨y,g,r,ps⟩ o:=by
 simp only[nD,qL,AI ae,CS ae]
theorem mm {α β:Type}{r:cY α}{f:α→cY β}{b:β}:r.bind f= .ok b↔ ∃a,r= .ok a∧f a= .ok b:=
 ⟨cY.iN,fun⟨a,U,aa⟩=>by rw[U]; exact aa⟩
theorem yh {b:Bool}{n:bF}{e:Int}{u:Unit}:gh b n e= .ok u↔b=true:=
 ⟨sG,fun h=>by unfold gh; rw[if_pos h]⟩
def qy (o h:bL):Prop:=o.c7=h.c7∧o.peer=h.peer
theorem Hm (ck:dL) (a:List bL) (h:bL):ki ck a h= .ok ()↔ki ck [] h= .ok ()∧∀o∈a,¬qy o h:=by
 have eh:(!a.any fun o=>decide (o.c7=h.c7)&&decide (o.peer=h.peer))=true↔ ∀o∈a,¬qy o h:=by
  rw[Bool.not_eq_true',Bool.eq_false_iff,ne_eq,List.any_eq_true]
  simp only[Bool.and_eq_true,decide_eq_true_eq,qy]
  constructor
  ·intro k o ao aq; exact k ⟨o,ao,aq⟩
  ·rintro k ⟨o,ao,aq⟩; exact k o ao aq
 unfold ki
 constructor
 ·intro k
  obtain⟨d,bf,k⟩:=mm.1 k
  obtain⟨_,bi,k⟩:=mm.1 k
  exact⟨mm.2 ⟨d,bf,mm.2 ⟨(),yh.2 rfl,k⟩⟩,eh.1 (yh.1 bi)⟩
 ·rintro⟨k,cz⟩
  obtain⟨d,bf,k⟩:=mm.1 k
  obtain⟨_,bi,k⟩:=mm.1 k
  exact mm.2 ⟨d,bf,mm.2 ⟨(),yh.2 (eh.2 cz),k⟩⟩
theorem uR (ck:dL): ∀(l a:List bL),mP ck a l= .ok ()↔(∀h∈l,ki ck [] h= .ok ())∧(∀h∈l,∀o∈a,¬qy o h)∧l.Pairwise (fun o h=> ¬qy o h)
 |[],a=>by simp [mP]
 |x::l,a=>by
  have bB:=uR ck l (a++[x])
  have ab:=Hm ck a x
  simp only[mP,mm]
  constructor
  ·rintro⟨_,bf,bi⟩
   obtain⟨cz,eu⟩:=ab.1 bf
   obtain⟨gr,mS,sB⟩:=bB.1 bi
   refine⟨fun h hm=> ?_,fun h hm o ao=> ?_,List.pairwise_cons.2 ⟨fun h hm=>mS h hm x (by simp),sB⟩⟩
   ·rcases List.mem_cons.1 hm with rfl|hm
    ·exact cz
    ·exact gr h hm
   ·rcases List.mem_cons.1 hm with rfl|hm
    ·exact eu o ao
    ·exact mS h hm o (by simp [ao])
  ·rintro⟨bf,bi,cz⟩
   obtain⟨eu,gr⟩:=List.pairwise_cons.1 cz
   refine⟨(),ab.2 ⟨bf x (by simp),bi x (by simp)⟩,bB.2 ⟨fun h hm=>bf h (by simp [hm]),fun h hm o ao=> ?_,gr⟩⟩
   rcases List.mem_append.1 ao with ao|ao
   ·exact bi h (by simp [hm]) o ao
   ·rw[List.mem_singleton.1 ao]
    exact eu h hm
theorem yn (ck:dL): ∀(l:List cf),nE ck l= .ok ()↔ ∀o∈l,nD ck o= .ok ()
 |[]=>by simp [nE]
 |x::l=>by
  have bB:=yn ck l
  simp only[nE,mm]
  constructor
  ·rintro⟨_,bf,bi⟩ o ao
   rcases List.mem_cons.1 ao with rfl|ao
   ·exact bf
   ·exact bB.1 bi o ao
  ·intro k
   exact⟨(),k x (by simp),bB.2 fun o ao=>k o (by simp [ao])⟩
def _root_.Go.aO.b3.sub (x:b3) (hs:List bL) (os:List cf):b3:=⟨x.name,x.bM,x.gJ,x.vars,hs,os⟩
theorem IH {x:b3}{g:cd}{hs:List bL}{os:List cf}(h:pE x g= .ok ()) (U: ∀y∈hs,y∈x.hs) (aa: ∀o∈os,o∈x.os) (hp:hs.Pairwise (fun o h=> ¬qy o h)):pE (x.sub hs os) g= .ok ():=by
 obtain⟨bf,bi,cz,eu,gr⟩:=Cq h
 obtain⟨mS,_,_⟩:=(uR _ _ _).1 eu
 have sB:=(yn _ _).1 gr
 refine IG bf bi cz ((uR _ _ _).2 ⟨fun y aV=> ?_,(fun _ _ o ao=>by cases ao),hp⟩) ((yn _ _).2 fun o ao=> ?_)
 ·rw[←mS y (U y aV)]
  exact Hn (x:=x.sub hs os) (y:=x) rfl _ _
 ·rw[←sB o (aa o ao)]
  exact Iw (x:=x.sub hs os) (y:=x) rfl _
theorem Ha {x:b3}{hs:List bL}{os:List cf}(h:n3 x=true) (U: ∀y∈hs,y∈x.hs) (aa: ∀o∈os,o∈x.os) (aH:hs.length≤x.hs.length) (fG:os.length≤x.os.length) (nw:(hs.map mA).flatten.length≤(x.hs.map mA).flatten.length) (ye:(os.map nC).flatten.length≤(x.os.map nC).flatten.length):n3 (x.sub hs os)=true:=by
 simp only[n3,vq,rX,qx,Bool.and_eq_true,decide_eq_true_eq,List.length_append]at h ⊢
 obtain⟨⟨ec,a2,a3,a4,a5,yY⟩,⟨fz,iM,kL⟩,c1⟩:=h
 refine⟨⟨ec,a2,a3,a4,?_,?_⟩,⟨fz,?_,?_⟩,?_⟩
 ·show hs.length≤40; omega
 ·show os.length≤40; omega
 ·exact List.all_eq_true.2 fun y aV=>List.all_eq_true.1 iM y (U y aV)
 ·exact List.all_eq_true.2 fun y aV=>List.all_eq_true.1 kL y (aa y aV)
 ·simp only[b3.sub]
  omega
theorem OL {α:Type}(f:α→bF){a b:List α}(h:a.Sublist b):(a.map f).flatten.length≤(b.map f).flatten.length:=by
 induction h with
 |slnil=>exact Nat.le_refl _
 |cons x _ bB=>simp only[List.map_cons,List.flatten_cons,List.length_append]; omega
 |cons_cons x _ bB=>simp only[List.map_cons,List.flatten_cons,List.length_append]; omega
theorem Zt {x:b3}{g:cd}{hs:List bL}{os:List cf}(h:(kf x g).2=0) (U:hs.Sublist x.hs) (aa:os.Sublist x.os):(kf (x.sub hs os) g).2=0:=by
 obtain⟨a,b,c⟩:=zb.1 h
 obtain⟨_,_,_,eu,_⟩:=Cq c
 obtain⟨_,_,B1⟩:=(uR _ _ _).1 eu
 exact zb.2 ⟨Ha a (fun y aV=>U.subset aV) (fun y aV=>aa.subset aV) U.length_le aa.length_le (OL _ U) (OL _ aa),b,IH c (fun y aV=>U.subset aV) (fun y aV=>aa.subset aV) (B1.sublist U)⟩
end
section
theorem aC4 {d:Int}{l:List bK}(h: ∀i∈l,iu i):l.map (qN d)=l:=by
 induction l with
 |nil=>rfl
 |cons x l bB=>
  have ab:=h x (by simp)
  obtain⟨U,aa,ay,bl,bW⟩:=ab
  rw[List.map_cons,bB fun i ad=>h i (by simp [ad])]
  have aC:leads x.op=false:=by simp only[leads,decide_eq_false aa,decide_eq_false ay,decide_eq_false bW,Bool.or_self]
  simp only[qN,aC,Bool.false_eq_true,if_false]
theorem Cb {d o n:Int}(h:leads o=true):qN d (ins o n)=ins o (n+d):=by
 simp only[qN,ins,h,if_true]
theorem EC {d o n:Int}(h:leads o=false):qN d (ins o n)=ins o n:=by
 simp only[qN,ins,h,Bool.false_eq_true,if_false]
mutual
theorem ZF (cx:fJ) (d:Nat): ∀(x:ai) (p:Nat),hT cx (p+d) x=(hT cx p x).map (qN (d:Int))
 | .mk k m x t a b,p=>by
  have he:=aC4 (d:=(d:Int)) (tx cx x)
  simp only[hT]
  by_cases bf:k=1
  ·simp only[if_pos bf,List.map_append,he,List.map_cons,List.map_nil,EC (show leads 5=false by decide)]
  simp only[if_neg bf]
  by_cases bi:k=2
  ·simp only[if_pos bi]
   have h8:=AT cx d a (p+(c3 cx x).length+1)
   cases b with
   |nil=>
    simp only[List.map_append,he,List.map_cons,Cb (show leads 20=true by decide)]
    rw[show p+d+(c3 cx x).length+1=p+(c3 cx x).length+1+d by omega,h8,List.length_map]
    simp only[Int.natCast_add]
    rw[show ∀u v w:Int,u+v+w=u+w+v by omega]
   |cons y r=>
    have iB:=AT cx d (y::r) (p+(c3 cx x).length+1+(dS cx (p+(c3 cx x).length+1) a).length+1)
    simp only[List.map_append,he,List.map_cons,Cb (show leads 20=true by decide),Cb (show leads 19=true by decide)]
    rw[show p+d+(c3 cx x).length+1=p+(c3 cx x).length+1+d by omega,h8,List.length_map]
    rw[show ∀A:Nat,p+(c3 cx x).length+1+d+A+1=p+(c3 cx x).length+1+A+1+d by omega,iB,List.length_map]
    rw[show ∀A B:Nat,((p+(c3 cx x).length+1+A+1+d+B:Nat):Int)=((p+(c3 cx x).length+1+A+1+B:Nat):Int)+(d:Int) by intros; omega,show ∀A:Nat,((p+(c3 cx x).length+1+A+1+d:Nat):Int)=((p+(c3 cx x).length+1+A+1:Nat):Int)+(d:Int) by intros; omega]
  ·simp only[if_neg bi]
   have h8:=AT cx d a (p+1+(c3 cx x).length+1)
   simp only[List.map_append,he,List.map_cons,List.map_nil,Cb (show leads 20=true by decide),Cb (show leads 22=true by decide),EC (show leads 21=false by decide),EC (show leads 23=false by decide)]
   rw[show p+d+1+(c3 cx x).length+1=p+1+(c3 cx x).length+1+d by omega,h8,List.length_map]
   rw[show ∀A:Nat,((p+1+(c3 cx x).length+1+d+A+1:Nat):Int)=((p+1+(c3 cx x).length+1+A+1:Nat):Int)+(d:Int) by intros; omega,show ((p+d+1:Nat):Int)=((p+1:Nat):Int)+(d:Int) by omega]
theorem AT (cx:fJ) (d:Nat): ∀(l:List ai) (p:Nat),dS cx (p+d) l=(dS cx p l).map (qN (d:Int))
 |[],p=>by simp only[dS,List.map_nil]
 |x::l,p=>by
  have U:=ZF cx d x p
  have aa:=AT cx d l (p+(hT cx p x).length)
  simp only[dS,List.map_append]
  rw[U,List.length_map,show p+d+(hT cx p x).length=p+(hT cx p x).length+d by omega,aa]
end
theorem Pe (x:b3) (g:cd): ∀(l:List bL) (p i:Nat) (h:bL),l[i]? =some h→∃pre rest,(dM x g p l).2.1=pre++(ly x (kl g h.c7) (p+pre.length) h++rest)∧(dM x g p l).1[i]? =some (eJ g.cC h.peer,jn g h.c7,((p+pre.length:Nat):Int))∧((dM x g p l).2.2=false→gO 0 h.body=false)
 |[],_,_,_,e=>by simp at e
 |y::l,p,0,h,e=>by
  simp only[List.getElem?_cons_zero,Option.some.injEq]at e
  subst e
  refine⟨[],(dM x g (p+(ly x (kl g y.c7) p y).length) l).2.1,rfl,rfl,fun k=> ?_⟩
  simp only[dM,Bool.or_eq_false_iff]at k
  exact k.1
 |y::l,p,i+1,h,e=>by
  simp only[List.getElem?_cons_succ]at e
  obtain⟨pre,rest,ar,ax,bU⟩:=Pe x g l (p+(ly x (kl g y.c7) p y).length) i h e
  refine⟨ly x (kl g y.c7) p y++pre,rest,?_,?_,fun k=> ?_⟩
  ·simp only[dM,ar,List.append_assoc,List.length_append,Nat.add_assoc]
  ·simp only[dM,List.getElem?_cons_succ,ax,List.length_append,Nat.add_assoc]
  ·simp only[dM,Bool.or_eq_false_iff]at k
   exact bU k.2
theorem ZB (x:b3) (g:cd) (h:x.hs≠[]): ∃rest,iZ x g=(dM x g 0 x.hs).2.1++rest:=by
 refine⟨(hq x g (dM x g 0 x.hs).2.1.length x.os).2,?_⟩
 unfold iZ
 simp only
 rw[if_neg]
 cases ab:x.hs with
 |nil=>exact absurd ab h
 |cons y l=>
  simp only[dM,ly,List.length_append,List.length_cons,List.length_nil]
  omega
theorem ZH {x:b3}{g:cd}{P:gL}{i:Nat}{h:bL}(hC:jy x g=(P,0)) (ad:x.hs[i]? =some h): ∃(Q:gL) (k m:Nat),jy (x.sub [h] []) g=(Q,0)∧Q.hs=[(eJ g.cC h.peer,jn g h.c7,0)]∧P.hs[i]? =some (eJ g.cC h.peer,jn g h.c7,(k:Int))∧Q.vars=x.vars∧Q.os=[]∧Q.code.length≤1000∧P.code.length≤1000∧
  (∀w∈Q.code,leads w.op=true→ -1000000≤w.n∧w.n≤1000000)∧m<Q.code.length∧k+m<P.code.length∧(∀j w,j<m→Q.code[j]? =some w→w.op≠24)∧(∀w,Q.code[m]? =some w→w.op=24)∧(∀j w,j≤m→Q.code[j]? =some w→P.code[k+j]? =some (qN (k:Int) w)):=by
 obtain⟨c1,ci,fc,rfl⟩:=v7 hC
 have hm:h∈x.hs:=List.mem_of_getElem? ad
 have d1:=Zt (hs:=[h]) (os:=[]) c1 (List.singleton_sublist.2 hm) (List.nil_sublist _)
 obtain⟨pre,rest,ar,ax,bU⟩:=Pe x g x.hs 0 i h ad
 obtain⟨aQ4,dl⟩:=ZB x g (by intro e; rw[e]at hm; cases hm)
 rw[ar]at dl
 simp only[Nat.zero_add]at ax dl
 have am5: ∀p,ly (x.sub [h] []) (kl g h.c7) p h=ly x (kl g h.c7) p h:=fun p=>rfl
 have PM:=AT ⟨x.vars,h.ps,kl g h.c7⟩ pre.length h.body 0
 rw[Nat.zero_add]at PM
 have nt:=mr ⟨x.vars,h.ps,kl g h.c7⟩ h.body 0
 have bw:iZ (x.sub [h] []) g=dS ⟨x.vars,h.ps,kl g h.c7⟩ 0 h.body++[ins 24 0]:=by
  have ec:(x.sub [h] []).hs=[h]:=rfl
  have a2:(x.sub [h] []).os=[]:=rfl
  simp only[iZ,ec,a2,dM,hq,am5,List.append_nil]
  unfold ly
  rw[if_neg (by simp)]
 unfold ly at dl
 rw[PM]at dl
 generalize dS ⟨x.vars,h.ps,kl g h.c7⟩ 0 h.body=B at bw nt dl
 have hlen:(iZ x g).length=pre.length+(B.length+1+rest.length+aQ4.length):=by
  rw[dl]
  simp only[List.length_append,List.length_map,List.length_cons,List.length_nil]
  omega
 refine⟨⟨x.name,eJ g.cC x.bM,x.vars,(dM (x.sub [h] []) g 0 [h]).1,(hq (x.sub [h] []) g (dM (x.sub [h] []) g 0 [h]).2.1.length []).1,iZ (x.sub [h] []) g⟩,pre.length,B.length,?_,?_,ax,?_,?_,?_,ci,?_,?_,?_,?_,?_,?_⟩
 ·unfold jy
  rw[if_pos d1,if_neg]
  ·rfl
  rw[bw]
  rintro (k|k)
  ·simp only[List.length_append,List.length_cons,List.length_nil]at k
   omega
  ·have ec:(x.sub [h] []).hs=[h]:=rfl
   simp only[ec,dM,Bool.or_false]at k
   rw[bU fc]at k
   cases k
 ·rfl
 ·rfl
 ·rfl
 ·rw[bw]
  simp only[List.length_append,List.length_cons,List.length_nil]
  omega
 ·rw[bw]
  intro w hw aC
  rcases List.mem_append.1 hw with hw|hw
  ·have k:=(nt w hw).2
   have bi:w.op=19∨w.op=20∨w.op=22:=by simpa [leads] using aC
   have cz:=k bi
   omega
  ·rw[List.mem_singleton.1 hw]at aC
   cases aC
 ·rw[bw]
  simp
 ·show pre.length+B.length<(iZ x g).length
  omega
 ·rw[bw]
  intro j w bx hw
  rw[List.getElem?_append_left bx]at hw
  exact (nt w (List.mem_of_getElem? hw)).1
 ·rw[bw]
  intro w hw
  rw[List.getElem?_append_right (Nat.le_refl _),Nat.sub_self]at hw
  cases hw
  rfl
 ·rw[bw]
  intro j w bx hw
  show (iZ x g)[pre.length+j]? = _
  rw[dl,List.append_assoc,List.getElem?_append_right (by omega),show pre.length+j-pre.length=j by omega]
  have gn:B.map (qN (pre.length:Int))++[ins 24 0]=(B++[ins 24 0]).map (qN (pre.length:Int)):=by
   rw[List.map_append,List.map_cons,List.map_nil,EC (by decide)]
  rw[gn,List.append_assoc,List.getElem?_append_left (by simp; omega),List.getElem?_map,hw]
  rfl
end
section
attribute [local go_sem] al.cr ai.cr al.ch ai.ch b6 cR eH eS dp of_flat ba.row db gQ eZ
attribute [local go_sem] eE et er eG ds dw df cH Fd.row dn dz cD.row dr.row bs.row hB ie dI eI fR bK.row
theorem JF {R:Nat}{x:b3}(ab:x.ok R){hs:List bL}{os:List cf}(U: ∀y∈hs,y∈x.hs) (aa: ∀o∈os,o∈x.os) (aH:hs.length*80≤R) (fG:os.length*80≤R):(x.sub hs os).ok R:=
 ⟨ab.name,ab.bM,ab.gJ,ab.kn,ab.vars,aH,fun y aV=>ab.hs y (U y aV),fG,fun y aV=>ab.os y (aa y aV)⟩
theorem JE {x:b3}(hb:jw x){hs:List bL}{os:List cf}(U: ∀y∈hs,y∈x.hs) (aa: ∀o∈os,o∈x.os) (aH:hs.length≤1000000) (fG:os.length≤1000000):jw (x.sub hs os):=
 ⟨fun y aV=>hb.aL y (U y aV),fun y aV=>hb.hp y (U y aV),fun o ao=>hb.sH o (aa o ao),hb.kn,aH,fG⟩
theorem aF4 {α β:Type}(f:α→β){l:List α}{i:Nat}{h:α}(e:l[i]? =some h):((l.map f).take (i+1)).drop i=[f h]:=by
 rw[List.take_add_one,List.getElem?_map,e]
 have aC:=(List.getElem?_eq_some_iff.1 e).1
 rw[List.drop_append_of_le_length (by simp; omega),List.drop_eq_nil_of_le (by simp; omega)]
 rfl
theorem q3 {R:Nat}(ak:R≤140737488355328) (rs:10000≤R) (x:b3) (g:cd) (ab:x.ok R) (uS:cG x.cells≤100000000) (x2:cG g.cells≤100000000):Pure Tryz.prog 3 [x.cQ,g.cQ] (.bool true):=by
 obtain⟨qc,HV⟩:=xO x2
 have f1:=CR ak x g ab qc (by omega)
 have eF:=wY ak x ab
 have rr:=yJ
 cases hf:(iP x&&iC g) with
 |false=>
  rw[hf]at f1
  rw[lK]at*
  simp only[lY]at*
  refine cM bb Tryz.func3 fc (by simp only[b7,I.flat,db,dp,of_flat,cR,df,ds,dw,Bool.and_self]) rfl ?_
  unfold bU dv
  simp(disch:=omega)only[go_sem,simprocAttr]
  refine aj ?_
  refine D.P (rr) ?_
  refine aj ?_
  refine D.P (f1) ?_
  refine aj ?_
  exact D.rx
 |true=>
 rw[hf]at f1
 simp only[Bool.and_eq_true]at hf
 have hb:=xv uS hf.1
 have HC:=Bc hf.1
 have fS:=ug x g hb qc
 rcases hC:jy x g with ⟨P,e⟩
 rw[hC]at fS
 simp only[gL.cQ,gL.cells]at fS
 have Nb: ∀hs:List bL,(∀y∈hs,y∈x.hs)→hs.length≤60→Pure Tryz.prog 20 [(x.sub hs []).cQ,g.cQ] (.cT [(jy (x.sub hs []) g).1.cQ,.int .i64 (jy (x.sub hs []) g).2]):=fun hs U aa=>ug (x.sub hs []) g (JE hb U (fun o ao=>by cases ao) (by omega) (Nat.zero_le _)) qc
 have QT: ∀hs:List bL,(∀y∈hs,y∈x.hs)→hs.length≤60→Pure Tryz.prog 21 [(x.sub hs []).cQ] (x.sub hs []).cQ:=fun hs U aa=>wY ak (x.sub hs []) (JF ab U (fun o ao=>by cases ao) (by omega) (by simp))
 rw[lK]at fS eF f1 ⊢
 simp only[lY]at*
 refine cM bb Tryz.func3 fc (by simp only[b7,I.flat,db,dp,of_flat,cR,df,ds,dw,Bool.and_self]) rfl ?_
 unfold bU dv
 simp(disch:=omega)only[go_sem,simprocAttr]
 refine aj ?_
 refine D.P (rr) ?_
 refine aj ?_
 refine D.P (f1) ?_
 refine dc ?_
 (repeat (apply av.s true true;(·simp(disch:=omega)only[go_sem,simprocAttr,]<;>with_reducible rfl)))
 refine av.iU (anns:=[(.agg [.str x.name,.str x.bM,.str x.gJ,.af 7 (x.vars.map ba.row),.af 4 (x.hs.map bL.row),.af 4 (x.os.map cf.row)]),.cT [.agg [.str P.name,.int .i64 P.bM,.af 7 (P.vars.map ba.row),.af 3 (P.hs.map dI),.af 4 (P.os.map eI),.af 3 (P.code.map bK.row)],.int .i64 e]]) ?_
 refine dc ?_
 refine D.fL (eF) ?_
 refine dc ?_
 refine D.fL (fS) ?_
 by_cases aU:e=0
 rotate_left
 ·(have ah:=aU;refine bE ?_;clear ah)
  exact D.rx
 subst aU
 obtain⟨D6,sr,pu,mz⟩:=v7 hC
 have qI:P.hs.length=x.hs.length:=by
  rw[mz]
  exact wD x g x.hs 0
 have A2:=VM P (by rw[mz]; exact hb.kn) (by have:=hb.l5; omega) (by have:=wU x g x.os (dM x g 0 x.hs).2.1.length; have:=hb.no; rw[mz]; simp only; omega) (by rw[mz]; simp only; omega)
 simp only[gL.cQ,gL.cells]at A2
 have PO:= @ZH x g P
 have Kp:((x.hs.map bL.row).length:Int)=(x.hs.length:Int):=by rw[List.length_map]
 have bg3:((P.hs.map dI).length:Int)=(x.hs.length:Int):=by rw[List.length_map,qI]
 clear mz D6 sr pu eF fS f1
 refine aj ?_
 refine D.P (A2) ?_
 refine aj ?_
 refine av.c5 (X:=Nat) 0 (fun i=>[(2,.ptr 0 0),(3,.ptr 1 0),(5,.ptr 2 0),(7,.af 3 (P.code.map bK.row)),(8,.int .i64 (i:Int))]) (fun _=>[(0,26,[.str x.name,.str x.bM,.str x.gJ,.af 7 (x.vars.map ba.row),.af 4 (x.hs.map bL.row),.af 4 (x.os.map cf.row)]),(1,32,[.str g.name,.af 1 (g.cC.map b6),.af 5 (g.decls.map bs.row),.int .i64 g.iI,.int .i64 g.start,.int .i64 g.fin,.af 6 (g.cy.map cD.row),.af 3 (g.fH.map dr.row)]),(2,40,[.str P.name,.int .i64 P.bM,.af 7 (P.vars.map ba.row),.af 3 (P.hs.map dI),.af 4 (P.os.map eI),.af 3 (P.code.map bK.row)])]) (fun _=>[]) (fun i=>i≤x.hs.length) (fun i=>x.hs.length-i) (Nat.zero_le _) ⟨rfl,rfl,rfl,rfl,rfl,trivial⟩ ⟨rfl,rfl,rfl,trivial⟩ trivial ?_
 intro i ad
 try simp only at ad ⊢
 cases ae:x.hs[i]? with
 |none=>
  have cg:=List.getElem?_eq_none_iff.1 ae
  have d1: ¬(i:Int)<(x.hs.length:Int):=by omega
  (have ah:=Kp;have z2:=d1;refine eM ?_;clear ah z2)
  exact D.rx
 |some h=>
  have cB:=(List.getElem?_eq_some_iff.1 ae).1
  have d1:(i:Int)<(x.hs.length:Int):=by omega
  have dF:=aF4 bL.row ae
  have n6: ∀y∈[h],y∈x.hs:=fun y aV=>by rw[List.mem_singleton.1 aV]; exact List.mem_of_getElem? ae
  have eR:=QT [h] n6 (by simp)
  have mu:=Nb [h] n6 (by simp)
  obtain⟨Q,k,m,j2,b0,cN,du,gE,l7,aN4,Sh,aN5,aN7,Sl,Sm,Sn⟩:=PO hC ae
  rw[j2]at mu
  have kO:=VM Q (by rw[du]; exact hb.kn) (by rw[b0]; simp) (by rw[gE]; simp) (by omega)
  have DE:=bb9 Q.code P.code k m l7 aN4 Sh aN5 aN7 Sl Sm Sn
  simp only[gL.cQ,gL.cells,b0,du,gE,List.map_cons,List.map_nil]at mu kO
  rw[lK]at eR mu
  simp only[b3.sub,List.map_cons,List.map_nil]at eR mu
  simp(disch:=omega)only[go_sem,simprocAttr]at eR
  simp(disch:=omega)only[go_sem,simprocAttr]at mu
  simp(disch:=omega)only[go_sem,simprocAttr]at kO
  clear ae PO j2 QT Nb n6 Sh Sl Sm Sn
  have bi5:=cN
  clear cN
  (have ah:=Kp;have z2:=d1;refine V8 ?_;clear ah z2)
  refine av.block ?_
  (repeat (apply av.s true true;(·simp(disch:=omega)only[go_sem,simprocAttr,]<;>with_reducible rfl)))
  refine av.dN ?_
  refine dc ?_
  (repeat (apply av.s true true;(·simp(disch:=omega)only[go_sem,simprocAttr,]<;>with_reducible rfl)))
  refine av.dN ?_
  refine dc ?_
  (apply au.aW5 (i) (i+1);(·simp(disch:=omega)only[go_sem,simprocAttr]<;>with_reducible rfl);(·simp(disch:=omega)only[go_sem,simprocAttr]<;>with_reducible rfl);(·simp(disch:=omega)only[go_sem,simprocAttr]<;>with_reducible rfl);(·omega);(·omega);(·omega);(·(try simp only[List.length_map]);omega))
  rw[dF]
  refine dc ?_
  refine av.VR 3 5 4 rfl rfl ?_
  simp(disch:=omega)only[go_sem,simprocAttr]
  (repeat (apply av.s true true;(·simp(disch:=omega)only[go_sem,simprocAttr,]<;>with_reducible rfl)))
  refine av.iU (anns:=[(.agg [.str x.name,.str x.bM,.str x.gJ,.af 7 (x.vars.map ba.row),.af 4 [[.str h.c7,.str h.peer,.af 1 (h.ps.map b6),.af 11 (h.body.map ai.row)]],.af 4 []]),.cT [.agg [.str Q.name,.int .i64 Q.bM,.af 7 (x.vars.map ba.row),.af 3 [[.int .i64 (eJ g.cC h.peer),.int .i64 (jn g h.c7),.int .i64 0]],.af 4 [],.af 3 (Q.code.map bK.row)],.int .i64 0]]) ?_
  refine dc ?_
  refine D.fL (eR) ?_
  refine dc ?_
  refine D.fL (mu) ?_
  refine dc ?_
  (repeat (apply av.s true true;(·simp(disch:=omega)only[go_sem,simprocAttr,]<;>with_reducible rfl)))
  refine av.iU (anns:=[.agg [.str Q.name,.int .i64 Q.bM,.af 7 (x.vars.map ba.row),.af 3 [[.int .i64 (eJ g.cC h.peer),.int .i64 (jn g h.c7),.int .i64 0]],.af 4 [],.af 3 (Q.code.map bK.row)],.bool true]) ?_
  have d2: ¬(k:Int)<0:=by omega
  (have ah:=bg3;have z2:=Kp;have z3:=d2;refine V9 ?_;clear ah z2 z3)
  refine D.fL (kO) ?_
  refine dc ?_
  refine D.fL (DE) ?_
  refine aj ?_
  refine av.oG (i+1) (by omega) ⟨rfl,rfl,rfl,rfl,by simp only[Int.natCast_add]; rfl,trivial⟩ ⟨rfl,rfl,rfl,trivial⟩ trivial rfl (by simp only[lq,ed,fA,fB,kd,I.dW,db,dp,of_flat,cR,df,ds,dw,hB,ie,fR,go_sem]<;>rfl) (by show x.hs.length-(i+1)<x.hs.length-i; omega)
end
section
theorem bc7 (x:b3) (g:cd) (ab:x.ok reachBytes) (U:cG x.cells≤1048576) (aa:cG g.cells≤1048576):Pure Tryz.prog 3 [x.cQ,g.cQ] (.bool true):=q3 (R:=reachBytes) (by decide) (by decide) x g ab (by omega) (by omega)
end
section
set_option maxRecDepth 1000000
attribute [local go_sem] al.cr ai.cr al.ch ai.ch b6 cR eH eS dp of_flat ba.row db gQ eZ
attribute [local go_sem] eE et er eG ds dw df cH Fd.row dn dz cD.row dr.row bs.row hB ie dI eI fR bK.row
def je:cd:=⟨[80],[[97],[98]],[⟨[109],[⟨[120],1,0,9⟩],0,[],[]⟩],2,0,1,[⟨0,0,1,0,1,false⟩],[]⟩
end
end Go.aO.T.N
set_option maxRecDepth 100000
namespace Go.aO.T.N
open Go Go.aO Go.Proofs Go.ChangeShapes Go.WideShapes Go.RowKit
theorem vx:iV Tryz.prog [5] 8 5=some [.dD (.i .u8)]:=by kernel_rfl
theorem r0:Tryz.prog.bytesOf 5=1:=by kernel_rfl
variable {R:Nat}
theorem bo4: ∀(n:Nat) (r:List I),kq Tryz.prog [5] R n 5 r→∃z:Int,r=kc z∧0≤z∧z<256
 |0,_,h=>h.elim
 |n+1,r,h=>by
  obtain⟨aT,U,aa⟩:=h
  rw[vx]at U
  cases U
  simp only[h7,gM.ok]at aa
  obtain⟨_,_,rfl,⟨z,rfl,aG⟩,rfl⟩:=aa
  refine⟨z,rfl,?_⟩
  simp only[Lit.wf,Bool.and_eq_true,decide_eq_true_eq,show IntKind.u8.min=0 by rfl,show IntKind.u8.max=255 by rfl]at aG
  omega
section
variable {H:Type}{enc:TypeId×Value→H}{w:World}{base:Nat}{spare:Nat→Bool}{held:Bool}
end
end Go.aO.T.N
