/- Part of a proof; own work. -/
import Derived.Test.YtjkbgcgljnldeaaGreatDoorProg
import Derived.KernelRfl
import Derived.Test.YtjkbgcgljnldeaaGreatDoorWS12
set_option linter.unusedVariables false
set_option linter.unusedSimpArgs false
set_option maxHeartbeats 16000000
namespace Go.bc.T.N
open Go Go.bc Go.Proofs Go.RowKit
set_option maxRecDepth 100000
attribute [local irreducible] Go.bc.aj Go.bc.ae Go.bc.bz
section
attribute [local go_sem] ad.ct ad.b9 ad.de ac.ct ac.b9 ac.de cj eN fZ gJ dp of_flat cb.row dG
theorem a18 (v:cb):jT v=[9,118,97,114,32]++v.name++[58,32]++(if v.hV=2 then[116,101,120,116] else[105,110,116])++[32]++Lib.itoa v.cz++[32,46,46,32]++Lib.itoa v.ai++[32,61,32]++qM v.ik v.n v.s++[59,10]:=by
 unfold jT eE
 split<;>simp
theorem ZU (h:cd):jb h=([9,111,110,32]++h.eK++[40])++Lib.join h.ps [44,32]++([41,32,102,114,111,109,32]++h.peer++[32]++kc 1 h.body++[10]):=by
 unfold jb eE kc
 simp [kp]
theorem aX5 (o:ca):jJ o=([9,111,102,102,101,114,32]++o.eK++[40]++Lib.join (o.args.map cm) [44,32]++[41,32,116,111,32]++o.peer)++p9 o.dT++[59,10]:=by
 unfold jJ eE
 simp
theorem a04 (x:e9) (ab:CU x):Pure Tryz.prog 57 [x.ir] (.str (iK x)):=by
 have eC:=ab.len
 have Em:=ab.nS
 have Ek:=ab.nh
 have ck:=ab.no
 obtain⟨F,oV⟩: ∃F,F=iK x:=⟨_,rfl⟩
 rw[←oV]at eC ⊢
 unfold iK at oV
 obtain⟨H0,w7⟩: ∃H0,H0=eE 0 [[115,101,114,118,105,99,101,32],x.name,[32,112,108,97,121,115,32],x.hD,[32,111,102,32],x.hA,[32,123]]:=⟨_,rfl⟩
 obtain⟨E,dc⟩: ∃E,E=eE 0 [[125]]:=⟨_,rfl⟩
 rw[←w7,←dc]at oV
 have Be:=congrArg List.length oV
 simp only[List.length_append]at Be
 have RZ:H0=[115,101,114,118,105,99,101,32]++x.name++[32,112,108,97,121,115,32]++x.hD++[32,111,102,32]++x.hA++[32,123,10]:=by rw[w7]; unfold eE; simp
 have aW3:=congrArg List.length RZ
 simp only[List.length_append,List.length_cons,List.length_nil]at aW3
 rw[lq]
 refine cF bN Tryz.func57 aU5 (by simp only[b3,I.flat,dG,dp,of_flat,Bool.and_self]) rfl ?_
 unfold Kf ax0
 simp(disch:=omega)only[go_sem,simprocAttr]
 iterate 2 refine iT ?_
 refine D.bR ?_
 refine D.bR ?_
 refine bK ?_
 refine D.bR ?_
 refine D.bR ?_
 refine bK ?_
 refine D.bR ?_
 refine D.bR ?_
 refine ao ?_
 have a30: ∃ij,ij=H0∧ij=[115,101,114,118,105,99,101,32]++x.name++[32,112,108,97,121,115,32]++x.hD++[32,111,102,32]++x.hA++[32,123,10]:=⟨_,rfl,RZ⟩
 refine aj.dd (X:=Nat×a7) (0,H0) (fun y=>[(1,.ptr 0 0),(3,.str y.2),(4,.int .i64 (y.1:Int))]) (fun _=>[(0,35,x.cells)]) (fun _=>[]) (fun y=>y.1≤x.vars.length∧y.2=H0++((x.vars.take y.1).map jT).flatten) (fun y=>x.vars.length-y.1) ⟨Nat.zero_le _,by simp⟩ ⟨rfl,by simp only[RZ,List.cons_append,List.nil_append]; rfl,rfl,trivial⟩ ⟨by simp only[fG]; rfl,trivial⟩ trivial ?_
 rintro⟨i,o⟩ ⟨ai,aB⟩
 try simp only at ai aB ⊢
 have sY:=BJ jT x.vars i
 have GI:=congrArg List.length aB
 rw[List.length_append]at GI
 have aj1:o.length≤900000000:=by omega
 clear sY GI
 simp only[fG]
 cases af:x.vars[i]? with
 |some v=>
  have cK:=(List.getElem?_eq_some_iff.1 af).1
  have gN:=List.mem_of_getElem? af
  have mZ:iN v=true:=by simpa using List.all_eq_true.1 ab.ay v gN
  have d1:(i:Int)<((x.vars.map cb.row).length:Int):=by rw[List.length_map]; omega
  have fy:H0++((x.vars.take (i+1)).map jT).flatten=o++jT v:=by rw[vI jT af,aB,List.append_assoc]
  obtain⟨g1,g2,g3,g4,g5,g6⟩:=DW mZ
  have uD:=SA mZ
  rw[a18]at fy uD
  have RJ: -1000000000≤v.n∧v.n≤1000000000:=by
   by_cases h:v.ik=2
   ·simp only[iN,Bool.and_eq_true,h,show ¬(2:Int)=1 by decide,if_true,if_false,decide_eq_true_eq]at mZ
    omega
   ·exact g5 h
  have fR:=N8 v.cz g1 g2
  have il:=N8 v.ai g3 g4
  have gl:=N8 v.n RJ.1 RJ.2
  have mB:=ao3 v.s (by omega)
  simp only[qM]at fy uD
  rcases v with ⟨h7,hV,cz,gB,ik,n,s⟩
  simp only at fR il gl mB fy uD
  generalize Lib.itoa cz=s1 at*
  generalize Lib.itoa gB=s2 at*
  generalize Lib.itoa n=oA at*
  generalize p4 s=Cl at*
  clear RJ g1 g2 g3 g4 g5 g6 mZ
  by_cases aC:hV=2
  ·subst aC
   rw[if_pos rfl]at fy uD
   by_cases aa:ik=2
   ·subst aa
    rw[if_pos rfl]at fy uD
    simp only[List.length_append,List.length_cons,List.length_nil]at uD
    (have al:=d1;refine bQ ?_;clear al)
    refine D.P (gl) ?_
    refine bK ?_
    iterate 3 refine iT ?_
    (repeat (apply aj.s true true;(·simp(disch:=omega)only[go_sem,simprocAttr,]<;>with_reducible rfl)))
    refine aj.b6 ?_
    refine bK ?_
    refine D.P (mB) ?_
    refine bK ?_
    (repeat (apply aj.s true true;(·simp(disch:=omega)only[go_sem,simprocAttr,]<;>with_reducible rfl)))
    refine aj.fs (anns:=[.str s1,.str s2]) ?_
    refine bK ?_
    refine D.bR ?_
    refine D.bR ?_
    refine bK ?_
    refine D.bR ?_
    refine D.bR ?_
    refine bK ?_
    refine D.df (fR) ?_
    refine D.bR ?_
    refine D.bR ?_
    refine bK ?_
    refine D.df (il) ?_
    refine D.bR ?_
    refine D.bR ?_
    refine bK ?_
    refine D.bR ?_
    refine D.bR ?_
    refine D.bR ?_
    refine ao ?_
    refine aj.gT (i+1,o++([9,118,97,114,32]++h7++[58,32]++[116,101,120,116]++[32]++s1++[32,46,46,32]++s2++[32,61,32]++Cl++[59,10])) ⟨by omega,fy.symm⟩ ⟨rfl,rfl,by simp only[Int.natCast_add]; rfl,trivial⟩ ⟨rfl,trivial⟩ trivial rfl (by simp only[fY,dr,dP,dV,fO,I.cR,b2.bJ,fG,lT,dG,dp,of_flat,go_sem]<;>rfl) (by show x.vars.length-(i+1)<x.vars.length-i; omega)
   ·rw[if_neg aa]at fy uD
    simp only[List.length_append,List.length_cons,List.length_nil]at uD
    (have al:=d1;refine bQ ?_;clear al)
    refine D.P (gl) ?_
    refine bK ?_
    (have al:=aa;refine gA ?_;refine gA ?_;refine gA ?_;clear al)
    (have al:=aa;refine yd ?_;clear al)
    refine aj.fs (anns:=[.str s1,.str s2]) ?_
    refine bK ?_
    refine D.bR ?_
    refine D.bR ?_
    refine bK ?_
    refine D.bR ?_
    refine D.bR ?_
    refine bK ?_
    refine D.df (fR) ?_
    refine D.bR ?_
    refine D.bR ?_
    refine bK ?_
    refine D.df (il) ?_
    refine D.bR ?_
    refine D.bR ?_
    refine bK ?_
    refine D.bR ?_
    refine D.bR ?_
    refine D.bR ?_
    refine ao ?_
    refine aj.gT (i+1,o++([9,118,97,114,32]++h7++[58,32]++[116,101,120,116]++[32]++s1++[32,46,46,32]++s2++[32,61,32]++oA++[59,10])) ⟨by omega,fy.symm⟩ ⟨rfl,rfl,by simp only[Int.natCast_add]; rfl,trivial⟩ ⟨rfl,trivial⟩ trivial rfl (by simp only[fY,dr,dP,dV,fO,I.cR,b2.bJ,fG,lT,dG,dp,of_flat,go_sem]<;>rfl) (by show x.vars.length-(i+1)<x.vars.length-i; omega)
  ·rw[if_neg aC]at fy uD
   by_cases aa:ik=2
   ·subst aa
    rw[if_pos rfl]at fy uD
    simp only[List.length_append,List.length_cons,List.length_nil]at uD
    (have al:=d1;refine bQ ?_;clear al)
    refine D.P (gl) ?_
    refine bK ?_
    (have al:=aC;refine gA ?_;refine gA ?_;clear al)
    (have al:=aC;refine yd ?_;clear al)
    refine aj.b6 ?_
    refine bK ?_
    refine D.P (mB) ?_
    refine bK ?_
    (repeat (apply aj.s true true;(·simp(disch:=omega)only[go_sem,simprocAttr,]<;>with_reducible rfl)))
    refine aj.fs (anns:=[.str s1,.str s2]) ?_
    refine bK ?_
    refine D.bR ?_
    refine D.bR ?_
    refine bK ?_
    refine D.bR ?_
    refine D.bR ?_
    refine bK ?_
    refine D.df (fR) ?_
    refine D.bR ?_
    refine D.bR ?_
    refine bK ?_
    refine D.df (il) ?_
    refine D.bR ?_
    refine D.bR ?_
    refine bK ?_
    refine D.bR ?_
    refine D.bR ?_
    refine D.bR ?_
    refine ao ?_
    refine aj.gT (i+1,o++([9,118,97,114,32]++h7++[58,32]++[105,110,116]++[32]++s1++[32,46,46,32]++s2++[32,61,32]++Cl++[59,10])) ⟨by omega,fy.symm⟩ ⟨rfl,rfl,by simp only[Int.natCast_add]; rfl,trivial⟩ ⟨rfl,trivial⟩ trivial rfl (by simp only[fY,dr,dP,dV,fO,I.cR,b2.bJ,fG,lT,dG,dp,of_flat,go_sem]<;>rfl) (by show x.vars.length-(i+1)<x.vars.length-i; omega)
   ·rw[if_neg aa]at fy uD
    simp only[List.length_append,List.length_cons,List.length_nil]at uD
    (have al:=d1;refine bQ ?_;clear al)
    refine D.P (gl) ?_
    refine bK ?_
    (have al:=aC;have z2:=aa;refine fo ?_;refine fo ?_;clear al z2)
    (have al:=aC;have z2:=aa;refine ye ?_;clear al z2)
    refine aj.fs (anns:=[.str s1,.str s2]) ?_
    refine bK ?_
    refine D.bR ?_
    refine D.bR ?_
    refine bK ?_
    refine D.bR ?_
    refine D.bR ?_
    refine bK ?_
    refine D.df (fR) ?_
    refine D.bR ?_
    refine D.bR ?_
    refine bK ?_
    refine D.df (il) ?_
    refine D.bR ?_
    refine D.bR ?_
    refine bK ?_
    refine D.bR ?_
    refine D.bR ?_
    refine D.bR ?_
    refine ao ?_
    refine aj.gT (i+1,o++([9,118,97,114,32]++h7++[58,32]++[105,110,116]++[32]++s1++[32,46,46,32]++s2++[32,61,32]++oA++[59,10])) ⟨by omega,fy.symm⟩ ⟨rfl,rfl,by simp only[Int.natCast_add]; rfl,trivial⟩ ⟨rfl,trivial⟩ trivial rfl (by simp only[fY,dr,dP,dV,fO,I.cR,b2.bJ,fG,lT,dG,dp,of_flat,go_sem]<;>rfl) (by show x.vars.length-(i+1)<x.vars.length-i; omega)
 |none=>
 have cM:=List.getElem?_eq_none_iff.1 af
 have bE:i=x.vars.length:=by omega
 subst bE
 rw[List.take_length]at aB
 have d1: ¬(x.vars.length:Int)<((x.vars.map cb.row).length:Int):=by rw[List.length_map]; omega
 (have al:=d1;refine bQ ?_;clear al)
 clear af cM d1 ai
 revert o
 intro V a33 ol
 refine aj.dd (X:=Nat×a7) (0,V) (fun y=>[(1,.ptr 0 0),(3,.str y.2),(8,.int .i64 (y.1:Int))]) (fun _=>[(0,35,x.cells)]) (fun _=>[]) (fun y=>y.1≤x.ap.length∧y.2=V++((x.ap.take y.1).map jb).flatten) (fun y=>x.ap.length-y.1) ⟨Nat.zero_le _,by simp⟩ ⟨rfl,rfl,rfl,trivial⟩ ⟨by simp only[fG]; rfl,trivial⟩ trivial ?_
 rintro⟨i,o⟩ ⟨ai,aB⟩
 try simp only at ai aB ⊢
 have sY:=BJ jb x.ap i
 have GI:=congrArg List.length aB
 have Lp:=congrArg List.length ol
 rw[List.length_append]at GI Lp
 have aj1:o.length≤900000000:=by omega
 clear sY GI
 simp only[fG]
 cases af:x.ap[i]? with
 |some v=>
  have cK:=(List.getElem?_eq_some_iff.1 af).1
  have gN:=List.mem_of_getElem? af
  have mZ:jZ v=true:=by simpa using List.all_eq_true.1 ab.ap v gN
  have d1:(i:Int)<((x.ap.map cd.row).length:Int):=by rw[List.length_map]; omega
  have fy:V++((x.ap.take (i+1)).map jb).flatten=o++jb v:=by rw[vI jb af,aB,List.append_assoc]
  obtain⟨g1,g2⟩:=yI mZ
  have uD:=zj jb af
  rw[ZU]at fy uD
  have hb:(jb v).length≤900000000:=by rw[ZU]; omega
  have aP:=ab.aP v gN
  rcases v with ⟨eK,peer,ps,body⟩
  simp only at g1 g2 fy uD aP
  have LN:(Lib.join ps [44,32]).length≤900000000∧(kc 1 body).length≤900000000∧eK.length≤900000000∧peer.length≤900000000:=by
   simp only[List.length_append,List.length_cons,List.length_nil]at uD
   omega
  have fR:=(SH 900000).2 body 1 aP g1 (by omega) (by omega)
  rw[show kp 1=[9] from rfl]at fR
  (have al:=d1;refine bQ ?_;clear al)
  refine D.bR ?_
  refine D.bR ?_
  refine D.bR ?_
  refine ao ?_
  have ae6:=am0 [44,32] ps
  obtain⟨J8,R0⟩: ∃J8,J8=o++([9,111,110,32]++eK++[40]):=⟨_,rfl⟩
  have a32:J8.length≤1900000000:=by
   rw[R0]
   simp only[List.length_append,List.length_cons,List.length_nil]
   omega
  refine aj.dd (X:=Nat×a7) (0,J8) (fun y=>[(1,.ptr 0 0),(9,.ptr 1 0),(3,.str y.2),(8,.int .i64 (i:Int)),(10,.int .i64 (y.1:Int))]) (fun _=>[(1,99,(cd.mk eK peer ps body).row),(0,35,x.cells)]) (fun _=>[]) (fun y=>y.1≤ps.length∧y.2=J8++Lib.join (ps.take y.1) [44,32]) (fun y=>ps.length-y.1) ⟨Nat.zero_le _,by simp [Lib.join_nil]⟩ ⟨rfl,rfl,by simp only[R0,List.cons_append,List.nil_append]; rfl,rfl,rfl,trivial⟩ ⟨by simp only[fZ]; rfl,by simp only[fG]; rfl,trivial⟩ trivial ?_
  rintro⟨j,q⟩ ⟨bq,bG⟩
  try simp only at bq bG ⊢
  have Eo:q.length≤2800000000:=by
   have:=ae6 j
   rw[bG,List.length_append]
   omega
  simp only[fG,fZ]
  cases hw:ps[j]? with
  |some s=>
   have aW9:=(List.getElem?_eq_some_iff.1 hw).1
   have d2:(j:Int)<((ps.map cj).length:Int):=by rw[List.length_map]; omega
   have xk:=ak6 [44,32] hw
   have pS:s.length≤900000000:=by
    have:=congrArg List.length xk
    have aa:=ae6 (j+1)
    rw[List.length_append]at this
    omega
   by_cases aw:j=0
   ·have d3: ¬(0:Int)<(j:Int):=by omega
    rw[if_pos aw,List.nil_append]at xk
    have aq:q=J8:=by rw[bG,aw]; simp [Lib.join_nil]
    (have al:=d2;have z2:=d3;refine e8 ?_;clear al z2)
    refine D.bR ?_ (hb:=by simp only[maxLen]; omega)
    refine ao ?_
    refine aj.dK (j+1,q++s) ⟨by omega,by rw[xk,aq]⟩ ⟨rfl,rfl,rfl,rfl,by simp only[Int.natCast_add]; rfl,trivial⟩ ⟨rfl,rfl,trivial⟩ trivial rfl rfl (by show ps.length-(j+1)<ps.length-j; omega)
   ·have d3:(0:Int)<(j:Int):=by omega
    rw[if_neg aw]at xk
    (have al:=d2;have z2:=d3;refine e8 ?_;clear al z2)
    refine D.bR ?_
    refine ao ?_
    refine D.bR ?_
    refine ao ?_
    refine aj.dK (j+1,q++[44,32]++s) ⟨by omega,by rw[xk,bG]; simp only[List.append_assoc]⟩ ⟨rfl,rfl,rfl,rfl,by simp only[Int.natCast_add]; rfl,trivial⟩ ⟨rfl,rfl,trivial⟩ trivial rfl rfl (by show ps.length-(j+1)<ps.length-j; omega)
  |none=>
  have cM:=List.getElem?_eq_none_iff.1 hw
  have bE:j=ps.length:=by omega
  subst bE
  rw[List.take_length]at bG
  have d2: ¬(ps.length:Int)<((ps.map cj).length:Int):=by rw[List.length_map]; omega
  have Bw:V++((x.ap.take (i+1)).map jb).flatten=q++([41,32,102,114,111,109,32]++peer++[32]++kc 1 body++[10]):=by
   rw[fy,bG,R0]
   simp only[List.append_assoc]
  clear fy
  generalize kc 1 body=B at*
  (have al:=d2;refine gA ?_;clear al)
  (have al:=d2;refine yd ?_;clear al)
  refine aj.fs (anns:=[.str B]) ?_
  refine bK ?_
  refine D.bR ?_
  refine D.bR ?_
  refine bK ?_
  refine D.df (fR) ?_
  refine D.bR ?_
  refine D.bR ?_
  refine D.bR ?_
  refine ao ?_
  refine aj.gT (i+1,q++([41,32,102,114,111,109,32]++peer++[32]++B++[10])) ⟨by omega,Bw.symm⟩ ⟨rfl,rfl,by simp only[Int.natCast_add]; rfl,trivial⟩ ⟨rfl,trivial⟩ trivial rfl (by simp only[fY,dr,dP,dV,fO,I.cR,b2.bJ,fG,lT,dG,dp,of_flat,go_sem]<;>rfl) (by show x.ap.length-(i+1)<x.ap.length-i; omega)
 |none=>
 have cM:=List.getElem?_eq_none_iff.1 af
 have bE:i=x.ap.length:=by omega
 subst bE
 rw[List.take_length]at aB
 have d1: ¬(x.ap.length:Int)<((x.ap.map cd.row).length:Int):=by rw[List.length_map]; omega
 (have al:=d1;refine bQ ?_;clear al)
 clear af cM d1 ai
 revert o
 intro W a34 yM
 have aW4:=congrArg List.length yM
 rw[List.length_append]at aW4
 refine aj.dd (X:=Nat×a7) (0,W) (fun y=>[(1,.ptr 0 0),(3,.str y.2),(11,.int .i64 (y.1:Int))]) (fun _=>[(0,35,x.cells)]) (fun _=>[]) (fun y=>y.1≤x.os.length∧y.2=W++((x.os.take y.1).map jJ).flatten) (fun y=>x.os.length-y.1) ⟨Nat.zero_le _,by simp⟩ ⟨rfl,rfl,rfl,trivial⟩ ⟨by simp only[fG]; rfl,trivial⟩ trivial ?_
 rintro⟨i,o⟩ ⟨ai,aB⟩
 try simp only at ai aB ⊢
 have sY:=BJ jJ x.os i
 have GI:=congrArg List.length aB
 rw[List.length_append]at GI
 have aj1:o.length≤900000000:=by omega
 clear sY GI
 simp only[fG]
 cases af:x.os[i]? with
 |some v=>
  have cK:=(List.getElem?_eq_some_iff.1 af).1
  have gN:=List.mem_of_getElem? af
  have mZ:j6 v=true:=by simpa using List.all_eq_true.1 ab.os v gN
  have d1:(i:Int)<((x.os.map ca.row).length:Int):=by rw[List.length_map]; omega
  have fy:W++((x.os.take (i+1)).map jJ).flatten=o++jJ v:=by rw[vI jJ af,aB,List.append_assoc]
  obtain⟨g1,g2,g3⟩:=yJ mZ
  have uD:=zj jJ af
  rw[aX5]at fy uD
  have aP:=ab.o6 v gN
  rcases v with ⟨eK,peer,args,dT⟩
  simp only at g1 g2 g3 fy uD aP
  simp only[List.length_append,List.length_cons,List.length_nil]at uD
  have il:=aZ2 args (by omega) g1 (by omega)
  generalize Lib.join (args.map cm) [44,32]=A at*
  match dT,g2,g3 with
  |[],_,_=>
   simp only[p9,List.append_nil]at fy
   (have al:=d1;refine gA ?_;refine gA ?_;clear al)
   (repeat (apply aj.s true true;(·simp(disch:=omega)only[go_sem,simprocAttr,]<;>with_reducible rfl)))
   refine aj.fs (anns:=[.str A]) ?_
   refine bK ?_
   refine D.bR ?_
   refine D.bR ?_
   refine bK ?_
   refine D.df (il) ?_
   refine D.bR ?_
   refine D.bR ?_
   refine bK ?_
   refine D.bR ?_
   refine D.bR ?_
   refine ao ?_
   refine D.bR ?_
   refine ao ?_
   refine aj.gT (i+1,o++([9,111,102,102,101,114,32]++eK++[40]++A++[41,32,116,111,32]++peer)++[59,10]) ⟨by omega,by rw[fy]; simp only[List.append_assoc]⟩ ⟨rfl,rfl,by simp only[Int.natCast_add]; rfl,trivial⟩ ⟨rfl,trivial⟩ trivial rfl (by simp only[fY,dr,dP,dV,fO,I.cR,b2.bJ,fG,lT,dG,dp,of_flat,go_sem]<;>rfl) (by show x.os.length-(i+1)<x.os.length-i; omega)
  |[z],g2,_=>
   simp only[List.all_cons,List.all_nil,Bool.and_true]at g2
   simp only[ad.bB]at aP
   simp only[p9,List.length_append,List.length_cons,List.length_nil]at fy uD
   have gl:=(Fv 1000000).1 z (by omega) g2 (by omega)
   generalize cm z=oB at*
   rcases z with ⟨aL6,mO,aM5,aO1,aM8,aM0⟩
   simp(disch:=omega)only[go_sem,simprocAttr]at gl
   (have al:=d1;refine gA ?_;refine gA ?_;clear al)
   (repeat (apply aj.s true true;(·simp(disch:=omega)only[go_sem,simprocAttr,]<;>with_reducible rfl)))
   refine aj.fs (anns:=[.str A]) ?_
   refine bK ?_
   refine D.bR ?_
   refine D.bR ?_
   refine bK ?_
   refine D.df (il) ?_
   refine D.bR ?_
   refine D.bR ?_
   refine bK ?_
   refine D.bR ?_
   refine D.bR ?_
   refine ao ?_
   refine D.P (gl) ?_
   refine D.bR ?_
   refine D.bR ?_
   refine ao ?_
   refine D.bR ?_
   refine ao ?_
   refine aj.gT (i+1,o++([9,111,102,102,101,114,32]++eK++[40]++A++[41,32,116,111,32]++peer)++([32,119,104,101,114,101,32]++oB)++[59,10]) ⟨by omega,by rw[fy]; simp only[List.append_assoc]⟩ ⟨rfl,rfl,by simp only[Int.natCast_add]; rfl,trivial⟩ ⟨rfl,trivial⟩ trivial rfl (by simp only[fY,dr,dP,dV,fO,I.cR,b2.bJ,fG,lT,dG,dp,of_flat,go_sem]<;>rfl) (by show x.os.length-(i+1)<x.os.length-i; omega)
 |none=>
 have cM:=List.getElem?_eq_none_iff.1 af
 have bE:i=x.os.length:=by omega
 subst bE
 rw[List.take_length]at aB
 have d1: ¬(x.os.length:Int)<((x.os.map ca.row).length:Int):=by rw[List.length_map]; omega
 (have al:=d1;refine bQ ?_;clear al)
 refine D.bR ?_
 refine ao ?_
 refine D.r ?_
 refine⟨_,rfl,.av ?_ rfl,trivial,trivial⟩
 rw[oV,aB,yM,ol,dc]
 simp [I.av,eE]
end
section
attribute [local go_sem] ad.ct ad.b9 ad.de ac.ct ac.b9 ac.de cj eN fZ gJ dp of_flat
theorem SY: ∀(N:Nat) (x:ad),x.bI≤N→N≤1000000000→Pure Tryz.prog 138 [.agg x.row] (.int .i64 (iL x:Int))
 |0,.mk k o m t n l,h,_=>by simp only[ad.bI]at h; omega
 |N+1,.mk k o m t n l,bW,rO=>by
  simp only[ad.bI]at bW
  have j9:l.length≤1000000000:=by have:=ad.hZ l; omega
  have yR:=AG l
  simp only[iL]
  refine cF bN Tryz.func138 aT2 (by simp only[b3,I.flat,ad.de,Bool.and_self]) rfl ?_
  unfold V0 aq7
  simp(disch:=omega)only[go_sem,simprocAttr]
  refine ao ?_
  refine aj.dd (X:=Nat×Nat) (0,0) (fun y=>[(1,.ptr 0 0),(4,.int .i64 (y.1:Int)),(3,.int .i64 (y.2:Int))]) (fun _=>[(0,51,(ad.mk k o m t n l).row)]) (fun _=>[]) (fun y=>y.1≤l.length∧y.2≤oc l∧max y.2 (oc (l.drop y.1))=oc l) (fun y=>l.length-y.1) ⟨Nat.zero_le _,Nat.zero_le _,by simp⟩ ⟨rfl,rfl,rfl,trivial⟩ ⟨by simp only[ad.ct]; rfl,trivial⟩ trivial ?_
  rintro⟨i,a⟩ ⟨ai,aP,aB⟩
  simp only at ai aP aB ⊢
  simp only[ad.ct]
  cases af:l[i]? with
  |some v=>
   have cK:=(List.getElem?_eq_some_iff.1 af).1
   rw[iM af]at aB
   simp only[oc]at aB
   have d1:(i:Int)<((l.map ad.row).length:Int):=by rw[List.length_map]; omega
   have e:=SY N v (by have:=ad.lh af; omega) (by omega)
   obtain⟨q,bG⟩: ∃q,q=iL v:=⟨_,rfl⟩
   rw[←bG]at e aB
   rcases v with ⟨eb,ef,ed,eg,ee,ec⟩
   simp(disch:=omega)only[go_sem,simprocAttr]at e
   (have al:=d1;refine bQ ?_;clear al)
   refine D.P (e) ?_
   refine ao ?_
   refine aj.gT (i+1,max a q) ⟨by simp only; omega,by simp only; omega,by simp only; omega⟩ ⟨rfl,by simp only[Int.natCast_add]; rfl,by rw[show ((max a q:Nat):Int)=max (a:Int) (q:Int) by omega]; rfl,trivial⟩ ⟨rfl,trivial⟩ trivial rfl (by simp only[fY,dr,dP,dV,fO,I.cR,b2.bJ,go_sem]<;>rfl) (by show l.length-(i+1)<l.length-i; omega)
  |none=>
   have cM:=List.getElem?_eq_none_iff.1 af
   have bE:i=l.length:=by omega
   subst bE
   have d1: ¬(l.length:Int)<((l.map ad.row).length:Int):=by rw[List.length_map]; omega
   rw[List.drop_length]at aB
   simp only[oc]at aB
   (have al:=d1;refine bQ ?_;clear al)
   refine D.r ?_
   refine⟨_,rfl,.av ?_ rfl,trivial,trivial⟩
   simp only[I.av,I.int.injEq,true_and]
   omega
theorem Tp (s:a7):Pure Tryz.prog 96 [.str s] (.agg [.int .i64 2,.int .i64 0,.str s]):=by
 refine cF bN Tryz.func96 aV2 rfl rfl ?_
 unfold Yr aC9
 simp(disch:=omega)only[go_sem,simprocAttr]
 refine ao ?_
 exact D.rx
theorem SX: ∀(N:Nat) (x:ad),x.bI≤N→N≤1000000000→Pure Tryz.prog 137 [.agg x.row] (.bool (dB x))
 |0,.mk k o m t n l,h,_=>by simp only[ad.bI]at h; omega
 |N+1,.mk k o m t n l,bW,rO=>by
  simp only[ad.bI]at bW
  have j9:l.length≤1000000000:=by have:=ad.hZ l; omega
  have cv: ∀(i:Nat) (v:ad),l[i]? =some v→Pure Tryz.prog 137 [.agg v.row] (.bool (dB v)):=fun i v af=>SX N v (by have:=ad.lh af; omega) (by omega)
  simp only[dB,DV]
  have z0:((l.map ad.row).length:Int)=(l.length:Int):=by rw[List.length_map]
  refine cF bN Tryz.func137 aT0 (by simp only[b3,I.flat,ad.de,Bool.and_self]) rfl ?_
  unfold VL aq1
  simp(disch:=omega)only[go_sem,simprocAttr]
  iterate 4 refine iT ?_
  repeat refine D.cN true false ?_
  refine aj.C5 (X:=Nat×Bool×a7×a7×a7×Int) (fun y=>[(1,.ptr 0 0),(3,.ptr 1 0),(4,.int .i64 (y.1:Int)),(5,.bool y.2.1)]) (fun y=>[(0,51,[.int .i64 k,.str o,.str m,.str t,.int .i64 n,.ay 6 (l.map ad.row)]),(1,51,[.int .i64 k,.str y.2.2.1,.str y.2.2.2.1,.str y.2.2.2.2.1,.int .i64 y.2.2.2.2.2,.aV])]) (fun _=>[]) (fun y=>fL k o m t n l.length=(y.2.1&&(decide (l.length=y.1)&&(decide (y.2.2.1=o)&&(decide (y.2.2.2.1=m)&&(decide (y.2.2.2.2.1=t)&&decide (y.2.2.2.2.2=n))))))) ?_ ?_
  ·rintro⟨c,ok,QI,QH,wt,wn⟩ w8
   simp only at w8 ⊢
   rw[w8]
   clear w8
   cases ok
   ·refine ao ?_
    refine D.r ?_
    exact⟨_,rfl,.av (by simp [I.av, *]) rfl,trivial,trivial⟩
   by_cases aH:l.length=c
   rotate_left
   ·have d0: ¬((l.map ad.row).length:Int)=(c:Int):=by rw[List.length_map]; omega
    (have al:=d0;refine bQ ?_;clear al)
    refine D.r ?_
    exact⟨_,rfl,.av (by simp [I.av, *]) rfl,trivial,trivial⟩
   have d0:((l.map ad.row).length:Int)=(c:Int):=by rw[List.length_map]; omega
   by_cases aq:QI=o
   rotate_left
   ·(have al:=d0;have z2:=aq;refine e8 ?_;clear al z2)
    refine D.r ?_
    exact⟨_,rfl,.av (by simp [I.av, *]) rfl,trivial,trivial⟩
   subst aq
   by_cases hm:QH=m
   rotate_left
   ·(have al:=d0;have z2:=hm;refine e8 ?_;clear al z2)
    refine D.r ?_
    exact⟨_,rfl,.av (by simp [I.av, *]) rfl,trivial,trivial⟩
   subst hm
   by_cases aO:wt=t
   rotate_left
   ·(have al:=d0;have z2:=aO;refine e8 ?_;clear al z2)
    refine D.r ?_
    exact⟨_,rfl,.av (by simp [I.av, *]) rfl,trivial,trivial⟩
   subst aO
   by_cases a6:wn=n
   rotate_left
   ·(have al:=d0;have z2:=a6;refine e8 ?_;clear al z2)
    refine D.r ?_
    exact⟨_,rfl,.av (by simp [I.av, *]) rfl,trivial,trivial⟩
   subst a6
   subst aH
   simp only[decide_true,Bool.true_and]
   (have al:=d0;refine bQ ?_;clear al)
   refine aj.dd (X:=Nat) 0 (fun i=>[(1,.ptr 0 0),(4,.int .i64 (l.length:Int)),(6,.int .i64 (i:Int))]) (fun _=>[(0,51,(ad.mk k QI QH wt wn l).row)]) (fun _=>[]) (fun i=>i≤l.length∧(l.drop i).all dB=l.all dB) (fun i=>l.length-i) ⟨Nat.zero_le _,rfl⟩ ⟨rfl,rfl,rfl,trivial⟩ ⟨by simp only[ad.ct]; rfl,trivial⟩ trivial ?_
   rintro i ⟨ai,aB⟩
   try simp only at ai aB ⊢
   simp only[ad.ct]
   cases af:l[i]? with
   |some v=>
    have cK:=(List.getElem?_eq_some_iff.1 af).1
    have d1:(i:Int)<(l.length:Int):=by omega
    have d2:(i:Int)<((l.map ad.row).length:Int):=by rw[List.length_map]; omega
    have e:=cv i v af
    rw[iM af]at aB
    simp only[List.all_cons]at aB
    generalize dB v=oj at*
    rcases v with ⟨eb,ef,ed,eg,ee,ec⟩
    simp(disch:=omega)only[go_sem,simprocAttr]at e
    (have al:=d1;refine bQ ?_;clear al)
    refine D.P (e) ?_
    cases oj
    ·refine ao ?_
     refine D.r ?_
     exact⟨_,rfl,.av (by rw[←aB]; rfl) rfl,trivial,trivial⟩
    ·refine ao ?_
     refine aj.dK (i+1) ⟨by omega,by simpa using aB⟩ ⟨rfl,rfl,by simp only[Int.natCast_add]; rfl,trivial⟩ ⟨rfl,trivial⟩ trivial rfl rfl (by show l.length-(i+1)<l.length-i; omega)
   |none=>
    have cM:=List.getElem?_eq_none_iff.1 af
    have bE:i=l.length:=by omega
    subst bE
    have d1: ¬(l.length:Int)<(l.length:Int):=by omega
    rw[List.drop_length]at aB
    (have al:=d1;refine bQ ?_;clear al)
    refine D.r ?_
    exact⟨_,rfl,.av (by rw[←aB]; rfl) rfl,trivial,trivial⟩
  ·intro bq
   by_cases J:k=1
   ·subst J
    by_cases aw:0≤n
    ·by_cases aa:n≤1000
     ·(have al:=aw;have z2:=aa;refine fo ?_;refine fo ?_;refine fo ?_;clear al z2)
      refine aj.gV ?_
      refine bq _ _ (0,true,[],[],[],n) (by simp [fL,aw,aa,eq_comm]) ?_ ?_ ?_ rfl rfl
      all_goals first|exact⟨rfl,rfl,rfl,rfl,trivial⟩|exact⟨rfl,rfl,trivial⟩|exact trivial
     ·(have al:=aw;have z2:=aa;refine fo ?_;refine fo ?_;refine fo ?_;clear al z2)
      refine aj.gV ?_
      refine bq _ _ (0,false,[],[],[],n) (by simp [fL,aw,aa]) ?_ ?_ ?_ rfl rfl
      all_goals first|exact⟨rfl,rfl,rfl,rfl,trivial⟩|exact⟨rfl,rfl,trivial⟩|exact trivial
    ·(have al:=aw;refine gA ?_;refine gA ?_;refine gA ?_;clear al)
     refine aj.gV ?_
     refine bq _ _ (0,false,[],[],[],n) (by simp [fL,aw]) ?_ ?_ ?_ rfl rfl
     all_goals first|exact⟨rfl,rfl,rfl,rfl,trivial⟩|exact⟨rfl,rfl,trivial⟩|exact trivial
   by_cases aa:k=2
   ·subst aa
    have ar:=Tp t
    have ax:=an9 2 0 t
    have aJ:E3 2 0 t=lM t:=by simp [E3]
    rw[aJ]at ax
    iterate 3 refine iT ?_
    repeat refine D.cN true true ?_
    refine aj.b6 ?_
    refine bK ?_
    refine D.P (ar) ?_
    refine bK ?_
    refine D.P (ax) ?_
    refine bK ?_
    refine aj.gV ?_
    refine bq _ _ (0,lM t,[],[],t,0) (by simp [fL,eq_comm]) ?_ ?_ ?_ rfl rfl
    all_goals first|exact⟨rfl,rfl,rfl,rfl,trivial⟩|exact⟨rfl,rfl,trivial⟩|exact trivial
   by_cases au:k=3
   ·subst au
    have ar:=C9 m
    (have al:=J;have z2:=aa;refine fo ?_;refine fo ?_;refine fo ?_;refine fo ?_;clear al z2)
    repeat refine D.cN true true ?_
    refine aj.b6 ?_
    refine bK ?_
    refine D.P (ar) ?_
    refine bK ?_
    refine aj.gV ?_
    refine bq _ _ (0,db m,[],m,[],0) (by simp [fL,eq_comm]) ?_ ?_ ?_ rfl rfl
    all_goals first|exact⟨rfl,rfl,rfl,rfl,trivial⟩|exact⟨rfl,rfl,trivial⟩|exact trivial
   by_cases bn:k=4
   ·subst bn
    iterate 5 refine iT ?_
    refine aj.gV ?_
    refine bq _ _ (1,true,[],[],[],0) (by simp [fL,eq_comm]) ?_ ?_ ?_ rfl rfl
    all_goals first|exact⟨rfl,rfl,rfl,rfl,trivial⟩|exact⟨rfl,rfl,trivial⟩|exact trivial
   by_cases bL:k=5
   ·subst bL
    by_cases cq:o=[45]
    ·subst cq
     iterate 7 refine iT ?_
     refine aj.gV ?_
     refine bq _ _ (1,true,[45],[],[],0) (by simp [fL,eq_comm]) ?_ ?_ ?_ rfl rfl
     all_goals first|exact⟨rfl,rfl,rfl,rfl,trivial⟩|exact⟨rfl,rfl,trivial⟩|exact trivial
    by_cases j0:o=[33]
    ·subst j0
     have d6: ¬([33]:a7)=[45]:=by decide
     (have al:=d6;refine gA ?_;refine gA ?_;refine gA ?_;refine gA ?_;refine gA ?_;refine gA ?_;refine gA ?_;clear al)
     refine aj.gV ?_
     refine bq _ _ (1,true,[33],[],[],0) (by simp [fL,eq_comm]) ?_ ?_ ?_ rfl rfl
     all_goals first|exact⟨rfl,rfl,rfl,rfl,trivial⟩|exact⟨rfl,rfl,trivial⟩|exact trivial
    ·(have al:=cq;have z2:=j0;refine fo ?_;refine fo ?_;refine fo ?_;refine fo ?_;refine fo ?_;refine fo ?_;refine fo ?_;clear al z2)
     refine aj.gV ?_
     refine bq _ _ (1,false,o,[],[],0) (by simp [fL,cq,j0]) ?_ ?_ ?_ rfl rfl
     all_goals first|exact⟨rfl,rfl,rfl,rfl,trivial⟩|exact⟨rfl,rfl,trivial⟩|exact trivial
   by_cases cq:k=6
   ·subst cq
    have ar:=PN o
    have hp:=(uG o).1
    have rW:(!(decide (cV o=0)))=decide (0<cV o):=by
     by_cases h:cV o=0
     ·simp [h]
     ·have aa:0<cV o:=by omega
      simp [h,aa]
    iterate 7 refine iT ?_
    repeat refine D.cN true true ?_
    refine aj.b6 ?_
    refine bK ?_
    refine D.P (ar) ?_
    refine bK ?_
    refine aj.gV ?_
    refine bq _ _ (2,decide (0<cV o),o,[],[],0) (by simp only[fL,show ¬(6:Int)=1 by decide,show ¬(6:Int)=2 by decide,show ¬(6:Int)=3 by decide,show ¬(6:Int)=4 by decide,show ¬(6:Int)=5 by decide,if_false,if_true,rW]; generalize decide (0<cV o)=b; cases b<;>simp [eq_comm]) ?_ ?_ ?_ rfl rfl
    all_goals first|exact⟨rfl,rfl,rfl,rfl,trivial⟩|exact⟨rfl,rfl,trivial⟩|exact trivial
   (repeat' first|(apply ae.s rfl;(·simp(disch:=omega)only[go_sem,simprocAttr,J,aa,au,bn,bL,cq]<;>with_reducible rfl))|(apply aj.s true true;(·simp(disch:=omega)only[go_sem,simprocAttr,J,aa,au,bn,bL,cq]<;>with_reducible rfl))|apply ae.nil|(refine aj.b6 ?_)|(apply ae.eX;(·simp(disch:=omega)only[go_sem,simprocAttr,J,aa,au,bn,bL,cq]<;>with_reducible rfl))|(apply ae.eY;(·rfl);(·simp(disch:=omega)only[go_sem,simprocAttr,J,aa,au,bn,bL,cq]<;>with_reducible rfl))|(apply ae.gs;(·simp(disch:=omega)only[go_sem,simprocAttr,J,aa,au,bn,bL,cq]<;>with_reducible rfl))|((first|apply ae.e3|apply ae.e4|apply ae.e5);(·simp(disch:=omega)only[go_sem,simprocAttr,J,aa,au,bn,bL,cq]<;>with_reducible rfl);(·simp(disch:=omega)only[go_sem,simprocAttr,J,aa,au,bn,bL,cq]<;>with_reducible rfl);(·assumption);(·omega))|intro h)
   refine D.r ?_
   exact⟨_,rfl,.av (by simp [I.av,fL, *]) rfl,trivial,trivial⟩
end
section
attribute [local go_sem] ad.ct ad.b9 ad.de ac.ct ac.b9 ac.de cj eN fZ gJ dp of_flat cb.row dG mV
def JM (l:List ad) (k:Int):Bool:=l.all (fun x=>dB x&&decide (iL x≤10))&&decide ((l.length:Int)≤k)
theorem ao2 (l:List ad) (k:Int) (aP:ad.bB l≤1000000000):Pure Tryz.prog 62 [.ay 6 (l.map ad.row),.int .i64 k] (.bool (JM l k)):=by
 have j9:=ad.hZ l
 have z0:((l.map ad.row).length:Int)=(l.length:Int):=by rw[List.length_map]
 unfold JM
 obtain⟨Mq,ac1⟩: ∃Mq,Mq=(fun x:ad=>dB x&&decide (iL x≤10)):=⟨_,rfl⟩
 rw[←ac1]
 refine cF bN Tryz.func62 aV0 (by simp only[b3,I.flat,ad.b9,Bool.and_self]) rfl ?_
 unfold X9 az4
 simp(disch:=omega)only[go_sem,simprocAttr]
 refine ao ?_
 refine aj.dd (X:=Nat) 0 (fun i=>[(0,.ay 6 (l.map ad.row)),(1,.int .i64 k),(5,.int .i64 (i:Int))]) (fun _=>[]) (fun _=>[]) (fun i=>i≤l.length∧(l.drop i).all Mq=l.all Mq) (fun i=>l.length-i) ⟨Nat.zero_le _,rfl⟩ ⟨rfl,rfl,rfl,trivial⟩ trivial trivial ?_
 rintro i ⟨ai,aB⟩
 try simp only at ai aB ⊢
 cases af:l[i]? with
 |some v=>
  have cK:=(List.getElem?_eq_some_iff.1 af).1
  have d1:(i:Int)<((l.map ad.row).length:Int):=by rw[List.length_map]; omega
  have R6:=ad.pW (List.mem_of_getElem? af)
  have e:=SX 1000000000 v (by omega) (Nat.le_refl _)
  have ax:=SY 1000000000 v (by omega) (Nat.le_refl _)
  rw[iM af]at aB
  have aY:Mq v=(dB v&&decide (iL v≤10)):=by rw[ac1]
  simp only[List.all_cons,aY]at aB
  clear aY
  generalize dB v=oj at*
  generalize iL v=QY at*
  rcases v with ⟨eb,ef,ed,eg,ee,ec⟩
  simp(disch:=omega)only[go_sem,simprocAttr]at e
  simp(disch:=omega)only[go_sem,simprocAttr]at ax
  (have al:=d1;refine bQ ?_;clear al)
  refine D.P (e) ?_
  cases oj
  ·refine ao ?_
   refine D.r ?_
   exact⟨_,rfl,.av (by rw[←aB]; rfl) rfl,trivial,trivial⟩
  ·refine ao ?_
   refine D.P (ax) ?_
   by_cases bw:QY≤10
   ·have d2: ¬(10:Int)<(QY:Int):=by omega
    (have al:=d2;refine bQ ?_;clear al)
    refine aj.dK (i+1) ⟨by omega,by simpa [bw] using aB⟩ ⟨rfl,rfl,by simp only[Int.natCast_add]; rfl,trivial⟩ trivial trivial rfl rfl (by show l.length-(i+1)<l.length-i; omega)
   ·have d2:(10:Int)<(QY:Int):=by omega
    (have al:=d2;refine bQ ?_;clear al)
    refine D.r ?_
    exact⟨_,rfl,.av (by rw[←aB]; simp [I.av,bw]) rfl,trivial,trivial⟩
 |none=>
  have cM:=List.getElem?_eq_none_iff.1 af
  have bE:i=l.length:=by omega
  subst bE
  have d1: ¬(l.length:Int)<(l.length:Int):=by omega
  rw[List.drop_length]at aB
  simp only[List.all_nil]at aB
  (have al:=d1;have z2:=z0;refine e8 ?_;clear al z2)
  refine D.r ?_
  refine⟨_,rfl,.av ?_ rfl,trivial,trivial⟩
  rw[←aB]
  simp [I.av]
theorem a05 (v:cb):Pure Tryz.prog 59 [.agg v.row] (.bool (iN v)):=by
 obtain⟨h7,hV,cz,ai,ik,n,s⟩:=v
 have ar:=C9 h7
 have ax:=an9 ik n s
 obtain⟨G,hG⟩: ∃G,G=iN ⟨h7,hV,cz,ai,ik,n,s⟩:=⟨_,rfl⟩
 rw[←hG]
 simp only[iN]at hG
 refine cF bN Tryz.func59 aU7 rfl rfl ?_
 unfold XO ax8
 simp(disch:=omega)only[go_sem,simprocAttr]
 by_cases J:cz< -999999
 ·have ah:iX cz=false:=by simp [iX]; omega
  rw[ah,Bool.false_and,Bool.and_false]at hG
  (have al:=J;refine bQ ?_;clear al)
  refine D.r ?_
  exact⟨_,rfl,.av (by rw[hG]; rfl) rfl,trivial,trivial⟩
 by_cases aa:ai< -999999
 ·have ah:iX ai=false:=by simp [iX]; omega
  rw[ah,Bool.false_and,Bool.and_false,Bool.and_false]at hG
  (have al:=J;have z2:=aa;refine e8 ?_;clear al z2)
  refine D.r ?_
  exact⟨_,rfl,.av (by rw[hG]; rfl) rfl,trivial,trivial⟩
 by_cases au:999999<cz
 ·have ah:iX cz=false:=by simp [iX]; omega
  rw[ah,Bool.false_and,Bool.and_false]at hG
  (have al:=J;have z2:=aa;have z3:=au;refine ji ?_;clear al z2 z3)
  refine D.r ?_
  exact⟨_,rfl,.av (by rw[hG]; rfl) rfl,trivial,trivial⟩
 have fa: ¬cz< -999999∧¬ai< -999999∧¬ 999999<cz:=⟨J,aa,au⟩
 by_cases bn:999999<ai
 ·have ah:iX ai=false:=by simp [iX]; omega
  rw[ah,Bool.false_and,Bool.and_false,Bool.and_false]at hG
  (have al:=fa;have z2:=bn;refine e8 ?_;clear al z2)
  refine D.r ?_
  exact⟨_,rfl,.av (by rw[hG]; rfl) rfl,trivial,trivial⟩
 have fa: ¬cz< -999999∧¬ai< -999999∧¬ 999999<cz∧¬ 999999<ai:=⟨J,aa,au,bn⟩
 have c1:iX cz=true:=by simp [iX]; omega
 have c2:iX ai=true:=by simp [iX]; omega
 rw[c1,c2,Bool.true_and,Bool.true_and]at hG
 by_cases bC:hV=1
 ·subst bC
  simp only[decide_true,Bool.true_or,Bool.true_and]at hG
  by_cases i1:ik=1
  ·subst i1
   rw[if_pos rfl]at hG
   by_cases t1:s=[]
   rotate_left
   ·(have al:=fa;have z2:=t1;refine e8 ?_;clear al z2)
    refine D.r ?_
    exact⟨_,rfl,.av (by rw[hG]; simp [I.av,t1]) rfl,trivial,trivial⟩
   subst t1
   by_cases t2: -999999≤n
   rotate_left
   ·(have al:=fa;have z2:=t2;refine e8 ?_;clear al z2)
    refine D.r ?_
    exact⟨_,rfl,.av (by rw[hG]; simp [I.av,iX,t2]) rfl,trivial,trivial⟩
   by_cases t3:n≤999999
   rotate_left
   ·have t4: -999999≤n∧¬n≤999999:=⟨t2,t3⟩
    (have al:=fa;have z2:=t4;refine e8 ?_;clear al z2)
    refine D.r ?_
    exact⟨_,rfl,.av (by rw[hG]; simp [I.av,iX,t3]) rfl,trivial,trivial⟩
   have t4: -999999≤n∧n≤999999:=⟨t2,t3⟩
   (have al:=fa;have z2:=t4;refine e8 ?_;clear al z2)
   refine D.P (ar) ?_
   refine ao ?_
   refine D.r ?_
   exact⟨_,rfl,.av (by rw[hG]; simp [I.av,iX,t2,t3]) rfl,trivial,trivial⟩
  have af:E3 ik n s=(if ik=2 then decide (n=0)&&lM s else false):=by simp only[E3,i1,if_false]
  rw[if_neg i1,←af]at hG
  generalize E3 ik n s=QG at*
  (have al:=fa;have z2:=i1;refine e8 ?_;clear al z2)
  refine D.P (ax) ?_
  cases QG
  ·refine ao ?_
   refine D.r ?_
   exact⟨_,rfl,.av (by rw[hG]; simp [I.av]) rfl,trivial,trivial⟩
  ·refine ao ?_
   refine D.P (ar) ?_
   refine ao ?_
   refine D.r ?_
   exact⟨_,rfl,.av (by rw[hG]; simp [I.av]) rfl,trivial,trivial⟩
 by_cases bA:hV=2
 rotate_left
 ·rw[decide_eq_false bC,decide_eq_false bA,Bool.false_and,Bool.or_false,Bool.false_and,Bool.and_false]at hG
  (have al:=fa;have z2:=bC;have z3:=bA;refine ji ?_;clear al z2 z3)
  refine D.r ?_
  exact⟨_,rfl,.av (by rw[hG]; rfl) rfl,trivial,trivial⟩
 subst bA
 simp only[show ¬(2:Int)=1 by decide,decide_false,decide_true,Bool.false_or,Bool.true_and]at hG
 by_cases aM:cz<0
 ·have:decide (0≤cz)=false:=by simp; omega
  rw[this,Bool.false_and,Bool.false_and,Bool.and_false]at hG
  (have al:=fa;have z2:=aM;refine e8 ?_;clear al z2)
  refine D.r ?_
  exact⟨_,rfl,.av (by rw[hG]; rfl) rfl,trivial,trivial⟩
 by_cases dZ:ai<0
 ·have:decide (0≤ai)=false:=by simp; omega
  rw[this,Bool.and_false,Bool.false_and,Bool.and_false]at hG
  (have al:=fa;have z2:=aM;have z3:=dZ;refine ji ?_;clear al z2 z3)
  refine D.r ?_
  exact⟨_,rfl,.av (by rw[hG]; rfl) rfl,trivial,trivial⟩
 have cI:decide (0≤cz)=true:=by simp; omega
 have c8:decide (0≤ai)=true:=by simp; omega
 rw[cI,c8,Bool.true_and,Bool.true_and]at hG
 have dX: ¬cz<0∧¬ai<0:=⟨aM,dZ⟩
 by_cases i1:ik=1
 ·subst i1
  rw[if_pos rfl]at hG
  by_cases t1:s=[]
  rotate_left
  ·(have al:=fa;have z2:=dX;have z3:=t1;refine ji ?_;clear al z2 z3)
   refine D.r ?_
   exact⟨_,rfl,.av (by rw[hG]; simp [I.av,t1]) rfl,trivial,trivial⟩
  subst t1
  by_cases t2: -999999≤n
  rotate_left
  ·(have al:=fa;have z2:=dX;have z3:=t2;refine ji ?_;clear al z2 z3)
   refine D.r ?_
   exact⟨_,rfl,.av (by rw[hG]; simp [I.av,iX,t2]) rfl,trivial,trivial⟩
  by_cases t3:n≤999999
  rotate_left
  ·have t4: -999999≤n∧¬n≤999999:=⟨t2,t3⟩
   (have al:=fa;have z2:=dX;have z3:=t4;refine ji ?_;clear al z2 z3)
   refine D.r ?_
   exact⟨_,rfl,.av (by rw[hG]; simp [I.av,iX,t3]) rfl,trivial,trivial⟩
  have t4: -999999≤n∧n≤999999:=⟨t2,t3⟩
  (have al:=fa;have z2:=dX;have z3:=t4;refine ji ?_;clear al z2 z3)
  refine D.P (ar) ?_
  refine ao ?_
  refine D.r ?_
  exact⟨_,rfl,.av (by rw[hG]; simp [I.av,iX,t2,t3]) rfl,trivial,trivial⟩
 have af:E3 ik n s=(if ik=2 then decide (n=0)&&lM s else false):=by simp only[E3,i1,if_false]
 rw[if_neg i1,←af]at hG
 generalize E3 ik n s=QG at*
 (have al:=fa;have z2:=dX;have z3:=i1;refine ji ?_;clear al z2 z3)
 refine D.P (ax) ?_
 cases QG
 ·refine ao ?_
  refine D.r ?_
  exact⟨_,rfl,.av (by rw[hG]; simp [I.av]) rfl,trivial,trivial⟩
 ·refine ao ?_
  refine D.P (ar) ?_
  refine ao ?_
  refine D.r ?_
  exact⟨_,rfl,.av (by rw[hG]; simp [I.av]) rfl,trivial,trivial⟩
end
section
attribute [local go_sem] ad.ct ad.b9 ad.de ac.ct ac.b9 ac.de cj eN fZ gJ dp of_flat cb.row dG mV
def zw (l:List ac) (d:Nat):Bool:=ho l&&decide (iv l≤d)
def GH (d:Nat) (v:ac):Bool:=hX v&&decide (kh v≤d)
theorem RG (d:Nat): ∀l,zw l d=l.all (GH d)
 |[]=>by simp [zw,ho,iv]
 |x::l=>by
  rw[List.all_cons,←RG d l]
  simp only[zw,GH,ho]
  have:decide (iv (x::l)≤d)=(decide (kh x≤d)&&decide (iv l≤d)):=by
   rw[←Bool.decide_and]
   exact decide_eq_decide.2 (by simp only[iv]; omega)
  rw[this]
  cases hX x<;>cases ho l<;>simp
theorem aW0 (d:Nat) (k:Int) (m:a7) (x:ad) (t:Int) (a b:List ac):GH (d+1) (.mk k m x t a b)=((dB x&&decide (iL x<d+1))&&eu k m t a.length b.length&&(zw a d&&zw b d)):=by
 simp only[GH,hX,zw]
 have:decide (kh (.mk k m x t a b)≤d+1)=(decide (iL x<d+1)&&(decide (iv a≤d)&&decide (iv b≤d))):=by
  rw[←Bool.decide_and,←Bool.decide_and]
  exact decide_eq_decide.2 (by simp only[kh]; omega)
 rw[this]
 cases eu k m t a.length b.length<;>cases dB x<;>cases ho a<;>cases ho b<;>simp
theorem S0: ∀(N:Nat) (l:List ac) (d:Nat),ac.bB l≤N→N≤100000000→d≤1000→Pure Tryz.prog 61 [.ay 11 (l.map ac.row),.int .i64 (d:Int)] (.bool (zw l d))
 |N,l,d,bW,rO,bw=>by
  have j9:=ac.hZ l
  refine cF bN Tryz.func61 aU9 (by simp only[b3,I.flat,ac.b9,Bool.and_self]) rfl ?_
  unfold X8 ay6
  simp(disch:=omega)only[go_sem,simprocAttr]
  by_cases aW8:0<l.length∧d=0
  ·obtain⟨J,rfl⟩:=aW8
   have d1:(0:Int)<((l.map ac.row).length:Int):=by rw[List.length_map]; omega
   have eC:zw l 0=false:=by
    cases l with
    |nil=>simp at J
    |cons x l=>
     rcases x with ⟨k,m,x,t,a,b⟩
     simp [zw,iv,kh]
   (have al:=d1;refine bQ ?_;clear al)
   refine D.r ?_
   exact⟨_,rfl,.av (by rw[eC]; rfl) rfl,trivial,trivial⟩
  have LK: ∃z:Bool,z=false∧((0:Int)<((l.map ac.row).length:Int)→¬(d:Int)=0):=⟨false,rfl,fun h=>by rw[List.length_map]at h; omega⟩
  rw[RG]
  cases xl:l with
  |nil=>
   refine ao ?_
   refine aj.dd (X:=Nat) 0 (fun i=>[(0,.ay 11 []),(1,.int .i64 (d:Int)),(5,.int .i64 (i:Int))]) (fun _=>[]) (fun _=>[]) (fun i=>i=0) (fun i=>0) rfl ⟨rfl,rfl,rfl,trivial⟩ trivial trivial ?_
   rintro i rfl
   refine ao ?_
   exact D.rx
  |cons wo jd=>
  rw[←xl]
  have ZG:0<l.length:=by rw[xl]; simp
  obtain⟨jD,rfl⟩: ∃jD,d=jD+1:=⟨d-1,by omega⟩
  clear xl
  have d1:(0:Int)<((l.map ac.row).length:Int):=by rw[List.length_map]; omega
  have d2: ¬((jD+1:Nat):Int)=0:=by omega
  (have al:=d1;have z2:=d2;refine e8 ?_;clear al z2)
  refine aj.dd (X:=Nat) 0 (fun i=>[(0,.ay 11 (l.map ac.row)),(1,.int .i64 ((jD+1:Nat):Int)),(5,.int .i64 (i:Int))]) (fun _=>[]) (fun _=>[]) (fun i=>i≤l.length∧(l.drop i).all (GH (jD+1))=l.all (GH (jD+1))) (fun i=>l.length-i) ⟨Nat.zero_le _,rfl⟩ ⟨rfl,rfl,rfl,trivial⟩ trivial trivial ?_
  rintro i ⟨ai,aB⟩
  try simp only at ai aB ⊢
  cases af:l[i]? with
  |some v=>
   have cK:=(List.getElem?_eq_some_iff.1 af).1
   have d3:(i:Int)<((l.map ac.row).length:Int):=by rw[List.length_map]; omega
   have R6:=ac.pW (List.mem_of_getElem? af)
   rw[iM af]at aB
   rcases v with ⟨k,m,x,t,a,b⟩
   simp only[ac.bI]at R6
   have ar:=SX 1000000000 x (by omega) (Nat.le_refl _)
   have ax:=SY 1000000000 x (by omega) (Nat.le_refl _)
   have mm:=S0 (ac.bB a) a jD (Nat.le_refl _) (by omega) (by omega)
   have kG:=S0 (ac.bB b) b jD (Nat.le_refl _) (by omega) (by omega)
   rw[List.all_cons,aW0]at aB
   have Ea:=AF x
   generalize dB x=wZ at*
   generalize iL x=Ox at*
   generalize zw a jD=JW at*
   generalize zw b jD=E7 at*
   rcases x with ⟨eb,ef,ed,eg,ee,ec⟩
   simp(disch:=omega)only[go_sem,simprocAttr]at ar
   simp(disch:=omega)only[go_sem,simprocAttr]at ax
   have al:((jD+1:Nat):Int)-1=(jD:Int):=by omega
   (have al:=d3;refine gA ?_;refine gA ?_;clear al)
   refine aj.a13 (X:=Bool) (fun y=>[(0,.ay 11 (l.map ac.row)),(1,.int .i64 ((jD+1:Nat):Int)),(5,.int .i64 (i:Int)),(6,.ptr 0 0),(7,.bool y)]) (fun _=>[(0,165,[.int .i64 k,.str m,.int .i64 eb,.str ef,.str ed,.str eg,.int .i64 ee,.ay 6 (ec.map ad.row),.int .i64 t,.ay 11 (a.map ac.row),.ay 11 (b.map ac.row)])]) (fun _=>[]) (fun y=>y=(wZ&&decide (Ox<jD+1))) ?_ ?_
   rotate_left
   ·intro bq
    repeat refine D.cN true true ?_
    refine aj.b6 ?_
    refine bK ?_
    refine D.P (ar) ?_
    cases wZ
    ·refine bK ?_
     refine bq _ _ false (by simp) ?_ ?_ ?_ rfl rfl
     all_goals first|exact⟨rfl,rfl,rfl,rfl,rfl,trivial⟩|exact⟨rfl,trivial⟩|exact trivial
    ·refine bK ?_
     refine D.P (ax) ?_
     by_cases ab:Ox<jD+1
     ·have z:(Ox:Int)<((jD+1:Nat):Int):=by omega
      (have al:=z;refine rj ?_;clear al)
      refine bq _ _ true (by simp [ab]) ?_ ?_ ?_ rfl rfl
      all_goals first|exact⟨rfl,rfl,rfl,rfl,rfl,trivial⟩|exact⟨rfl,trivial⟩|exact trivial
     ·have z: ¬(Ox:Int)<((jD+1:Nat):Int):=by omega
      (have al:=z;refine rj ?_;clear al)
      refine bq _ _ false (by simp [ab]) ?_ ?_ ?_ rfl rfl
      all_goals first|exact⟨rfl,rfl,rfl,rfl,rfl,trivial⟩|exact⟨rfl,trivial⟩|exact trivial
   ·rintro B dX
    try simp only at dX ⊢
    rw[←dX]at aB
    clear dX
    iterate 1 refine iT ?_
    repeat refine D.cN true false ?_
    refine aj.C5 (X:=Bool) (fun y=>[(0,.ay 11 (l.map ac.row)),(1,.int .i64 ((jD+1:Nat):Int)),(5,.int .i64 (i:Int)),(6,.ptr 0 0),(7,.bool y)]) (fun _=>[(0,165,[.int .i64 k,.str m,.int .i64 eb,.str ef,.str ed,.str eg,.int .i64 ee,.ay 6 (ec.map ad.row),.int .i64 t,.ay 11 (a.map ac.row),.ay 11 (b.map ac.row)])]) (fun _=>[]) (fun y=>y=(B&&eu k m t a.length b.length)) ?_ ?_
    ·rintro C hC
     try simp only at hC ⊢
     rw[←hC]at aB
     clear hC
     cases C
     ·refine ao ?_
      refine D.r ?_
      exact⟨_,rfl,.av (by rw[←aB]; rfl) rfl,trivial,trivial⟩
     ·(have al:=al;refine bQ ?_;clear al)
      refine D.P (mm) ?_
      cases JW
      ·refine ao ?_
       refine D.r ?_
       exact⟨_,rfl,.av (by rw[←aB]; rfl) rfl,trivial,trivial⟩
      ·(have al:=al;refine bQ ?_;clear al)
       refine D.P (kG) ?_
       cases E7
       ·refine ao ?_
        refine D.r ?_
        exact⟨_,rfl,.av (by rw[←aB]; rfl) rfl,trivial,trivial⟩
       ·refine ao ?_
        refine aj.gT (i+1) ⟨by omega,by simpa using aB⟩ ⟨rfl,rfl,by simp only[Int.natCast_add]; rfl,trivial⟩ trivial trivial rfl (by simp only[fY,dr,dP,dV,fO,I.cR,b2.bJ,ac.b9,go_sem]<;>rfl) (by show l.length-(i+1)<l.length-i; omega)
    ·intro bq
     by_cases bC:k=1
     ·subst bC
      cases B
      ·iterate 2 refine iT ?_
       refine aj.gV ?_
       refine bq _ _ false (by simp) ?_ ?_ ?_ rfl rfl
       all_goals first|exact⟨rfl,rfl,rfl,rfl,rfl,trivial⟩|exact⟨rfl,trivial⟩|exact trivial
      ·iterate 1 refine iT ?_
       repeat refine D.cN true true ?_
       refine aj.b6 ?_
       refine bK ?_
       refine D.P (C9 m) ?_
       cases hw:db m
       ·refine bK ?_
        refine aj.gV ?_
        refine bq _ _ false (by simp [eu,hw]) ?_ ?_ ?_ rfl rfl
        all_goals first|exact⟨rfl,rfl,rfl,rfl,rfl,trivial⟩|exact⟨rfl,trivial⟩|exact trivial
       by_cases t0:t=0
       rotate_left
       ·(have al:=t0;refine rj ?_;clear al)
        refine aj.gV ?_
        refine bq _ _ false (by simp [eu,t0]) ?_ ?_ ?_ rfl rfl
        all_goals first|exact⟨rfl,rfl,rfl,rfl,rfl,trivial⟩|exact⟨rfl,trivial⟩|exact trivial
       subst t0
       by_cases a0:a.length=0
       rotate_left
       ·have z2: ¬((a.map ac.row).length:Int)=0:=by rw[List.length_map]; omega
        (have al:=z2;refine rj ?_;clear al)
        refine aj.gV ?_
        refine bq _ _ false (by simp only[eu,a0,if_true,decide_false,Bool.false_and,Bool.and_false]) ?_ ?_ ?_ rfl rfl
        all_goals first|exact⟨rfl,rfl,rfl,rfl,rfl,trivial⟩|exact⟨rfl,trivial⟩|exact trivial
       have z2:((a.map ac.row).length:Int)=0:=by rw[List.length_map]; omega
       by_cases hi:b.length=0
       rotate_left
       ·have z3: ¬((b.map ac.row).length:Int)=0:=by rw[List.length_map]; omega
        (have al:=z2;have z2:=z3;refine U9 ?_;clear al z2)
        refine aj.gV ?_
        refine bq _ _ false (by simp only[eu,hi,if_true,decide_false,Bool.false_and,Bool.and_false]) ?_ ?_ ?_ rfl rfl
        all_goals first|exact⟨rfl,rfl,rfl,rfl,rfl,trivial⟩|exact⟨rfl,trivial⟩|exact trivial
       have z3:((b.map ac.row).length:Int)=0:=by rw[List.length_map]; omega
       (have al:=z2;have z2:=z3;refine U9 ?_;clear al z2)
       refine aj.gV ?_
       refine bq _ _ true (by simp [eu,a0,hi,hw]) ?_ ?_ ?_ rfl rfl
       all_goals first|exact⟨rfl,rfl,rfl,rfl,rfl,trivial⟩|exact⟨rfl,trivial⟩|exact trivial
     by_cases bA:k=2
     ·subst bA
      cases B
      ·iterate 3 refine iT ?_
       refine aj.gV ?_
       refine bq _ _ false (by simp) ?_ ?_ ?_ rfl rfl
       all_goals first|exact⟨rfl,rfl,rfl,rfl,rfl,trivial⟩|exact⟨rfl,trivial⟩|exact trivial
      by_cases m0:m=[]
      rotate_left
      ·(have al:=m0;refine gA ?_;refine gA ?_;refine gA ?_;clear al)
       refine aj.gV ?_
       refine bq _ _ false (by simp [eu,m0]) ?_ ?_ ?_ rfl rfl
       all_goals first|exact⟨rfl,rfl,rfl,rfl,rfl,trivial⟩|exact⟨rfl,trivial⟩|exact trivial
      subst m0
      by_cases t0:t=0
      rotate_left
      ·(have al:=t0;refine gA ?_;refine gA ?_;refine gA ?_;clear al)
       refine aj.gV ?_
       refine bq _ _ false (by simp [eu,t0]) ?_ ?_ ?_ rfl rfl
       all_goals first|exact⟨rfl,rfl,rfl,rfl,rfl,trivial⟩|exact⟨rfl,trivial⟩|exact trivial
      ·subst t0
       iterate 3 refine iT ?_
       refine aj.gV ?_
       refine bq _ _ true (by simp [eu]) ?_ ?_ ?_ rfl rfl
       all_goals first|exact⟨rfl,rfl,rfl,rfl,rfl,trivial⟩|exact⟨rfl,trivial⟩|exact trivial
     by_cases cO:k=3
     ·subst cO
      cases B
      ·iterate 4 refine iT ?_
       refine aj.gV ?_
       refine bq _ _ false (by simp) ?_ ?_ ?_ rfl rfl
       all_goals first|exact⟨rfl,rfl,rfl,rfl,rfl,trivial⟩|exact⟨rfl,trivial⟩|exact trivial
      by_cases m0:m=[]
      rotate_left
      ·(have al:=m0;refine gA ?_;refine gA ?_;refine gA ?_;refine gA ?_;clear al)
       refine aj.gV ?_
       refine bq _ _ false (by simp [eu,m0]) ?_ ?_ ?_ rfl rfl
       all_goals first|exact⟨rfl,rfl,rfl,rfl,rfl,trivial⟩|exact⟨rfl,trivial⟩|exact trivial
      subst m0
      by_cases t1:1≤t
      rotate_left
      ·(have al:=t1;refine gA ?_;refine gA ?_;refine gA ?_;refine gA ?_;clear al)
       refine aj.gV ?_
       refine bq _ _ false (by simp [eu,t1]) ?_ ?_ ?_ rfl rfl
       all_goals first|exact⟨rfl,rfl,rfl,rfl,rfl,trivial⟩|exact⟨rfl,trivial⟩|exact trivial
      by_cases t2:t≤50
      rotate_left
      ·(have al:=t1;have z2:=t2;refine fo ?_;refine fo ?_;refine fo ?_;refine fo ?_;clear al z2)
       refine aj.gV ?_
       refine bq _ _ false (by simp [eu,t2]) ?_ ?_ ?_ rfl rfl
       all_goals first|exact⟨rfl,rfl,rfl,rfl,rfl,trivial⟩|exact⟨rfl,trivial⟩|exact trivial
      have Bq:1≤t∧t≤50:=⟨t1,t2⟩
      by_cases hi:b.length=0
      rotate_left
      ·have z3: ¬((b.map ac.row).length:Int)=0:=by rw[List.length_map]; omega
       (have al:=Bq;have z2:=z3;refine fo ?_;refine fo ?_;refine fo ?_;refine fo ?_;clear al z2)
       refine aj.gV ?_
       refine bq _ _ false (by simp only[eu,show ¬(3:Int)=1 by decide,show ¬(3:Int)=2 by decide,hi,if_true,if_false,decide_false,Bool.false_and,Bool.and_false]) ?_ ?_ ?_ rfl rfl
       all_goals first|exact⟨rfl,rfl,rfl,rfl,rfl,trivial⟩|exact⟨rfl,trivial⟩|exact trivial
      ·have z3:((b.map ac.row).length:Int)=0:=by rw[List.length_map]; omega
       (have al:=Bq;have z2:=z3;refine fo ?_;refine fo ?_;refine fo ?_;refine fo ?_;clear al z2)
       refine aj.gV ?_
       refine bq _ _ true (by simp only[eu,show ¬(3:Int)=1 by decide,show ¬(3:Int)=2 by decide,hi,t1,t2,if_true,if_false,decide_true,Bool.true_and]) ?_ ?_ ?_ rfl rfl
       all_goals first|exact⟨rfl,rfl,rfl,rfl,rfl,trivial⟩|exact⟨rfl,trivial⟩|exact trivial
     have bh:eu k m t a.length b.length=false:=by simp only[eu,bC,bA,cO,if_false]
     rw[bh,Bool.and_false,Bool.false_and,Bool.false_and]at aB
     (have al:=bC;have z2:=bA;have z3:=cO;refine ji ?_;clear al z2 z3)
     refine D.r ?_
     exact⟨_,rfl,.av (by rw[←aB]; rfl) rfl,trivial,trivial⟩
  |none=>
   have cM:=List.getElem?_eq_none_iff.1 af
   have bE:i=l.length:=by omega
   subst bE
   have d3: ¬(l.length:Int)<((l.map ac.row).length:Int):=by rw[List.length_map]; omega
   rw[List.drop_length]at aB
   (have al:=d3;refine bQ ?_;clear al)
   refine D.r ?_
   exact⟨_,rfl,.av (by rw[←aB]; rfl) rfl,trivial,trivial⟩
 termination_by N l d=>ac.bB l
 decreasing_by all_goals (simp only[ac.bI]at*; omega)
end
section
attribute [local go_sem] ad.ct ad.b9 ad.de ac.ct ac.b9 ac.de cj eN fZ gJ dp of_flat cb.row dG mV
theorem aW1 (h:cd):jZ h=((kR h.eK&&(db h.peer&&(decide (h.ps.length≤4)&&zw h.body 10)))&&h.ps.all db):=by
 have:(h.body.all hX&&h.body.all (fun x=>decide (kh x≤10)))=zw h.body 10:=by
  rw[RG]
  have: ∀l:List ac,(l.all hX&&l.all (fun x=>decide (kh x≤10)))=l.all (GH 10):=by
   intro l
   induction l with
   |nil=>rfl
   |cons x l cv=>
    rw[List.all_cons,List.all_cons,List.all_cons,←cv]
    simp only[GH]
    cases hX x<;>cases l.all hX<;>simp
  exact this _
 simp only[jZ,this]
 cases kR h.eK<;>cases db h.peer<;>cases decide (h.ps.length≤4)<;>cases h.ps.all db<;>simp
theorem aW2 (o:ca):j6 o=(kR o.eK&&(db o.peer&&(JM o.args 4&&JM o.dT 1))):=by
 have fa: ∀l:List ad,(l.all dB&&l.all (fun x=>decide (iL x≤10)))=l.all (fun x=>dB x&&decide (iL x≤10)):=by
  intro l
  induction l with
  |nil=>rfl
  |cons x l cv=>
   rw[List.all_cons,List.all_cons,List.all_cons,←cv]
   cases dB x<;>cases l.all dB<;>simp
 have d1:decide ((o.args.length:Int)≤4)=decide (o.args.length≤4):=decide_eq_decide.2 (by omega)
 have d2:decide ((o.dT.length:Int)≤1)=decide (o.dT.length≤1):=decide_eq_decide.2 (by omega)
 simp only[j6,JM,d1,d2,←fa,List.all_append]
 generalize (o.args.all fun x=>decide (iL x≤10))=g1
 generalize (o.dT.all fun x=>decide (iL x≤10))=g2
 cases kR o.eK<;>cases db o.peer<;>cases decide (o.args.length≤4)<;>cases decide (o.dT.length≤1)<;>cases o.args.all dB<;>cases o.dT.all dB<;>cases g1<;>simp
theorem aZ8 (x:e9) (hb:oI x) (pR: ∀h∈x.ap,h.eK.length≤1000000000000000) (rW: ∀o∈x.os,o.eK.length≤1000000000000000):Pure Tryz.prog 21 [x.ir] (.bool (kJ x)):=by
 have ar:=C9 x.name
 have ax:=C9 x.hD
 have cw:=C9 x.hA
 have Em:=hb.nS
 have Ek:=hb.nh
 have ck:=hb.no
 obtain⟨G,hG⟩: ∃G,G=kJ x:=⟨_,rfl⟩
 have CG:kJ x=(qX x&&(py x&&decide ((iK x).length≤8000))):=rfl
 rw[←hG]
 rw[CG]at hG
 have Kf:qX x=true→py x=true→Pure Tryz.prog 57 [x.ir] (.str (iK x)):=fun J aa=>a04 x (Cv hb J aa)
 have yG:qX x=(db x.name&&(db x.hD&&(db x.hA&&(decide (x.vars.length≤12)&&(decide (x.ap.length≤40)&&decide (x.os.length≤40)))))):=rfl
 have zy:py x=(x.vars.all iN&&(x.ap.all jZ&&x.os.all j6)):=rfl
 rw[lq]at Kf ⊢
 obtain⟨C,hC⟩: ∃C,C=iK x:=⟨_,rfl⟩
 rw[←hC]at hG Kf
 refine cF bN Tryz.func21 aT7 (by simp only[b3,I.flat,dG,dp,of_flat,Bool.and_self]) rfl ?_
 unfold FH at5
 simp(disch:=omega)only[go_sem,simprocAttr]
 refine ao ?_
 refine D.P (ar) ?_
 cases pn:db x.name
 ·rw[pn,Bool.false_and]at yG
  rw[yG,Bool.false_and]at hG
  refine ao ?_
  refine D.r ?_
  exact⟨_,rfl,.av (by rw[hG]; rfl) rfl,trivial,trivial⟩
 refine ao ?_
 refine D.P (ax) ?_
 cases mc:db x.hD
 ·rw[pn,mc,Bool.false_and,Bool.and_false]at yG
  rw[yG,Bool.false_and]at hG
  refine ao ?_
  refine D.r ?_
  exact⟨_,rfl,.av (by rw[hG]; rfl) rfl,trivial,trivial⟩
 refine ao ?_
 refine D.P (cw) ?_
 cases Oh:db x.hA
 ·rw[pn,mc,Oh,Bool.false_and,Bool.and_false,Bool.and_false]at yG
  rw[yG,Bool.false_and]at hG
  refine ao ?_
  refine D.r ?_
  exact⟨_,rfl,.av (by rw[hG]; rfl) rfl,trivial,trivial⟩
 rw[pn,mc,Oh,Bool.true_and,Bool.true_and,Bool.true_and]at yG
 by_cases v1:x.vars.length≤12
 rotate_left
 ·have al:(12:Int)<((x.vars.map cb.row).length:Int):=by rw[List.length_map]; omega
  rw[decide_eq_false v1,Bool.false_and]at yG
  rw[yG,Bool.false_and]at hG
  (have al:=al;refine bQ ?_;clear al)
  refine D.r ?_
  exact⟨_,rfl,.av (by rw[hG]; rfl) rfl,trivial,trivial⟩
 have al: ¬(12:Int)<((x.vars.map cb.row).length:Int):=by rw[List.length_map]; omega
 by_cases v2:x.ap.length≤40
 rotate_left
 ·have z2:(40:Int)<((x.ap.map cd.row).length:Int):=by rw[List.length_map]; omega
  rw[decide_eq_false v2,Bool.false_and,Bool.and_false]at yG
  rw[yG,Bool.false_and]at hG
  (have al:=al;have z2:=z2;refine e8 ?_;clear al z2)
  refine D.r ?_
  exact⟨_,rfl,.av (by rw[hG]; rfl) rfl,trivial,trivial⟩
 have z2: ¬(40:Int)<((x.ap.map cd.row).length:Int):=by rw[List.length_map]; omega
 by_cases v3:x.os.length≤40
 rotate_left
 ·have z3:(40:Int)<((x.os.map ca.row).length:Int):=by rw[List.length_map]; omega
  rw[decide_eq_false v3,Bool.and_false,Bool.and_false]at yG
  rw[yG,Bool.false_and]at hG
  (have al:=al;have z2:=z2;have z3:=z3;refine ji ?_;clear al z2 z3)
  refine D.r ?_
  exact⟨_,rfl,.av (by rw[hG]; rfl) rfl,trivial,trivial⟩
 have z3: ¬(40:Int)<((x.os.map ca.row).length:Int):=by rw[List.length_map]; omega
 rw[decide_eq_true v1,decide_eq_true v2,decide_eq_true v3,Bool.true_and,Bool.true_and]at yG
 rw[yG,Bool.true_and]at hG
 (have al:=al;have z2:=z2;have z3:=z3;refine ji ?_;clear al z2 z3)
 refine aj.dd (X:=Nat) 0 (fun i=>[(1,.ptr 0 0),(3,.int .i64 (i:Int))]) (fun _=>[(0,35,x.cells)]) (fun _=>[]) (fun i=>i≤x.vars.length∧(x.vars.drop i).all iN=x.vars.all iN) (fun i=>x.vars.length-i) ⟨Nat.zero_le _,rfl⟩ ⟨rfl,rfl,trivial⟩ ⟨by simp only[fG]; rfl,trivial⟩ trivial ?_
 rintro i ⟨ai,aB⟩
 try simp only at ai aB ⊢
 simp only[fG]
 cases af:x.vars[i]? with
 |some v=>
  have cK:=(List.getElem?_eq_some_iff.1 af).1
  have d1:(i:Int)<((x.vars.map cb.row).length:Int):=by rw[List.length_map]; omega
  have e:=a05 v
  rw[iM af]at aB
  simp only[List.all_cons]at aB
  generalize iN v=oj at*
  rcases v with ⟨h7,hV,cz,gB,ik,n,s⟩
  simp only[cb.row]at e
  (have al:=d1;refine bQ ?_;clear al)
  refine D.P (e) ?_
  cases oj
  ·rw[Bool.false_and]at aB
   rw[zy,←aB,Bool.false_and,Bool.false_and]at hG
   refine ao ?_
   refine D.r ?_
   exact⟨_,rfl,.av (by rw[hG]; rfl) rfl,trivial,trivial⟩
  ·refine ao ?_
   refine aj.dK (i+1) ⟨by omega,by simpa using aB⟩ ⟨rfl,by simp only[Int.natCast_add]; rfl,trivial⟩ ⟨rfl,trivial⟩ trivial rfl rfl (by show x.vars.length-(i+1)<x.vars.length-i; omega)
 |none=>
 have cM:=List.getElem?_eq_none_iff.1 af
 have bE:i=x.vars.length:=by omega
 subst bE
 have d1: ¬(x.vars.length:Int)<((x.vars.map cb.row).length:Int):=by rw[List.length_map]; omega
 rw[List.drop_length]at aB
 have aW6:x.vars.all iN=true:=aB.symm
 clear aB af cM ai
 rw[aW6,Bool.true_and]at zy
 (have al:=d1;refine bQ ?_;clear al)
 refine aj.dd (X:=Nat) 0 (fun i=>[(1,.ptr 0 0),(4,.int .i64 (i:Int))]) (fun _=>[(0,35,x.cells)]) (fun _=>[]) (fun i=>i≤x.ap.length∧(x.ap.drop i).all jZ=x.ap.all jZ) (fun i=>x.ap.length-i) ⟨Nat.zero_le _,rfl⟩ ⟨rfl,rfl,trivial⟩ ⟨by simp only[fG]; rfl,trivial⟩ trivial ?_
 rintro i ⟨ai,aB⟩
 try simp only at ai aB ⊢
 simp only[fG]
 cases af:x.ap[i]? with
 |some v=>
  have cK:=(List.getElem?_eq_some_iff.1 af).1
  have gN:=List.mem_of_getElem? af
  have d2:(i:Int)<((x.ap.map cd.row).length:Int):=by rw[List.length_map]; omega
  have ab9:=hb.aP v gN
  have Bg:=hb.hp v gN
  have fR:=ao1 v.eK (pR v gN)
  have il:=C9 v.peer
  have gl:=S0 10000 v.body 10 ab9 (by omega) (by omega)
  rw[iM af]at aB
  rw[List.all_cons,aW1]at aB
  rcases v with ⟨eK,peer,ps,body⟩
  simp only at fR il gl Bg aB
  generalize kR eK=eB at*
  generalize db peer=dU at*
  generalize zw body 10=jj at*
  (have al:=d2;refine bQ ?_;clear al)
  refine D.P (fR) ?_
  cases eB
  ·rw[Bool.false_and,Bool.false_and]at aB
   rw[Bool.false_and]at aB
   rw[zy,←aB,Bool.false_and,Bool.false_and]at hG
   refine ao ?_
   refine D.r ?_
   exact⟨_,rfl,.av (by rw[hG]; rfl) rfl,trivial,trivial⟩
  refine ao ?_
  refine D.P (il) ?_
  cases dU
  ·rw[Bool.false_and,Bool.and_false,Bool.false_and]at aB
   rw[Bool.false_and]at aB
   rw[zy,←aB,Bool.false_and,Bool.false_and]at hG
   refine ao ?_
   refine D.r ?_
   exact⟨_,rfl,.av (by rw[hG]; rfl) rfl,trivial,trivial⟩
  by_cases BF:ps.length≤4
  rotate_left
  ·have qa:(4:Int)<((ps.map cj).length:Int):=by rw[List.length_map]; omega
   rw[decide_eq_false BF,Bool.false_and,Bool.and_false,Bool.and_false,Bool.false_and,Bool.false_and]at aB
   rw[zy,←aB,Bool.false_and,Bool.false_and]at hG
   (have al:=qa;refine bQ ?_;clear al)
   refine D.r ?_
   exact⟨_,rfl,.av (by rw[hG]; rfl) rfl,trivial,trivial⟩
  have qa: ¬(4:Int)<((ps.map cj).length:Int):=by rw[List.length_map]; omega
  (have al:=qa;refine bQ ?_;clear al)
  refine D.P (gl) ?_
  cases jj
  ·rw[Bool.and_false,Bool.and_false,Bool.and_false,Bool.false_and]at aB
   rw[Bool.false_and]at aB
   rw[zy,←aB,Bool.false_and,Bool.false_and]at hG
   refine ao ?_
   refine D.r ?_
   exact⟨_,rfl,.av (by rw[hG]; rfl) rfl,trivial,trivial⟩
  rw[decide_eq_true BF,Bool.true_and,Bool.true_and,Bool.true_and,Bool.true_and]at aB
  refine ao ?_
  refine aj.dd (X:=Nat) 0 (fun j=>[(1,.ptr 0 0),(5,.ptr 1 0),(4,.int .i64 (i:Int)),(6,.int .i64 (j:Int))]) (fun _=>[(1,99,(cd.mk eK peer ps body).row),(0,35,x.cells)]) (fun _=>[]) (fun j=>j≤ps.length∧(ps.drop j).all db=ps.all db) (fun j=>ps.length-j) ⟨Nat.zero_le _,rfl⟩ ⟨rfl,rfl,rfl,rfl,trivial⟩ ⟨by simp only[fZ]; rfl,by simp only[fG]; rfl,trivial⟩ trivial ?_
  rintro j ⟨bq,hw⟩
  try simp only at bq hw ⊢
  simp only[fG,fZ]
  cases ab:ps[j]? with
  |some s=>
   have aW9:=(List.getElem?_eq_some_iff.1 ab).1
   have d3:(j:Int)<((ps.map cj).length:Int):=by rw[List.length_map]; omega
   have mB:=C9 s
   rw[iM ab,List.all_cons]at hw
   generalize db s=pC at*
   (have al:=d3;refine bQ ?_;clear al)
   refine D.P (mB) ?_
   cases pC
   ·rw[Bool.false_and]at hw
    rw[←hw,Bool.false_and]at aB
    rw[zy,←aB,Bool.false_and,Bool.false_and]at hG
    refine ao ?_
    refine D.r ?_
    exact⟨_,rfl,.av (by rw[hG]; rfl) rfl,trivial,trivial⟩
   ·refine ao ?_
    refine aj.dK (j+1) ⟨by omega,by simpa using hw⟩ ⟨rfl,rfl,rfl,by simp only[Int.natCast_add]; rfl,trivial⟩ ⟨rfl,rfl,trivial⟩ trivial rfl rfl (by show ps.length-(j+1)<ps.length-j; omega)
  |none=>
   have cM:=List.getElem?_eq_none_iff.1 ab
   have bE:j=ps.length:=by omega
   subst bE
   have d3: ¬(ps.length:Int)<((ps.map cj).length:Int):=by rw[List.length_map]; omega
   rw[List.drop_length]at hw
   rw[←hw]at aB
   (have al:=d3;refine bQ ?_;clear al)
   refine aj.gT (i+1) ⟨by omega,by simpa using aB⟩ ⟨rfl,by simp only[Int.natCast_add]; rfl,trivial⟩ ⟨rfl,trivial⟩ trivial rfl (by simp only[fY,dr,dP,dV,fO,I.cR,b2.bJ,fG,dG,dp,of_flat,go_sem]<;>rfl) (by show x.ap.length-(i+1)<x.ap.length-i; omega)
 |none=>
 have cM:=List.getElem?_eq_none_iff.1 af
 have bE:i=x.ap.length:=by omega
 subst bE
 have d1: ¬(x.ap.length:Int)<((x.ap.map cd.row).length:Int):=by rw[List.length_map]; omega
 rw[List.drop_length]at aB
 have aW5:x.ap.all jZ=true:=aB.symm
 clear aB af cM ai
 rw[aW5,Bool.true_and]at zy
 (have al:=d1;refine bQ ?_;clear al)
 refine aj.dd (X:=Nat) 0 (fun i=>[(1,.ptr 0 0),(7,.int .i64 (i:Int))]) (fun _=>[(0,35,x.cells)]) (fun _=>[]) (fun i=>i≤x.os.length∧(x.os.drop i).all j6=x.os.all j6) (fun i=>x.os.length-i) ⟨Nat.zero_le _,rfl⟩ ⟨rfl,rfl,trivial⟩ ⟨by simp only[fG]; rfl,trivial⟩ trivial ?_
 rintro i ⟨ai,aB⟩
 try simp only at ai aB ⊢
 simp only[fG]
 cases af:x.os[i]? with
 |some v=>
  have cK:=(List.getElem?_eq_some_iff.1 af).1
  have gN:=List.mem_of_getElem? af
  have d2:(i:Int)<((x.os.map ca.row).length:Int):=by rw[List.length_map]; omega
  have ab9:=hb.o6 v gN
  have fR:=ao1 v.eK (rW v gN)
  have il:=C9 v.peer
  have gl:=ao2 v.args 4 (by omega)
  have mB:=ao2 v.dT 1 (by omega)
  rw[iM af]at aB
  rw[List.all_cons,aW2]at aB
  rcases v with ⟨eK,peer,args,dT⟩
  simp only at fR il gl mB aB
  generalize kR eK=eB at*
  generalize db peer=dU at*
  generalize JM args 4=jj at*
  generalize JM dT 1=kD at*
  (have al:=d2;refine bQ ?_;clear al)
  refine D.P (fR) ?_
  cases eB
  ·rw[Bool.false_and,Bool.false_and]at aB
   rw[zy,←aB,Bool.false_and]at hG
   refine ao ?_
   refine D.r ?_
   exact⟨_,rfl,.av (by rw[hG]; rfl) rfl,trivial,trivial⟩
  refine ao ?_
  refine D.P (il) ?_
  cases dU
  ·rw[Bool.false_and,Bool.and_false,Bool.false_and]at aB
   rw[zy,←aB,Bool.false_and]at hG
   refine ao ?_
   refine D.r ?_
   exact⟨_,rfl,.av (by rw[hG]; rfl) rfl,trivial,trivial⟩
  refine ao ?_
  refine D.P (gl) ?_
  cases jj
  ·rw[Bool.false_and,Bool.and_false,Bool.and_false,Bool.false_and]at aB
   rw[zy,←aB,Bool.false_and]at hG
   refine ao ?_
   refine D.r ?_
   exact⟨_,rfl,.av (by rw[hG]; rfl) rfl,trivial,trivial⟩
  refine ao ?_
  refine D.P (mB) ?_
  cases kD
  ·rw[Bool.and_false,Bool.and_false,Bool.and_false,Bool.false_and]at aB
   rw[zy,←aB,Bool.false_and]at hG
   refine ao ?_
   refine D.r ?_
   exact⟨_,rfl,.av (by rw[hG]; rfl) rfl,trivial,trivial⟩
  rw[Bool.true_and,Bool.true_and,Bool.true_and,Bool.true_and]at aB
  refine ao ?_
  refine aj.gT (i+1) ⟨by omega,aB⟩ ⟨rfl,by simp only[Int.natCast_add]; rfl,trivial⟩ ⟨rfl,trivial⟩ trivial rfl (by simp only[fY,dr,dP,dV,fO,I.cR,b2.bJ,fG,dG,dp,of_flat,go_sem]<;>rfl) (by show x.os.length-(i+1)<x.os.length-i; omega)
 |none=>
 have cM:=List.getElem?_eq_none_iff.1 af
 have bE:i=x.os.length:=by omega
 subst bE
 have d1: ¬(x.os.length:Int)<((x.os.map ca.row).length:Int):=by rw[List.length_map]; omega
 rw[List.drop_length]at aB
 rw[←aB]at zy
 have ZT:py x=true:=zy
 have EX:=Kf yG ZT
 rw[ZT,Bool.true_and]at hG
 (have al:=d1;refine bQ ?_;clear al)
 refine D.P (EX) ?_
 refine ao ?_
 refine D.r ?_
 refine⟨_,rfl,.av ?_ rfl,trivial,trivial⟩
 rw[hG]
 simp only[I.av,I.bool.injEq]
 exact decide_eq_decide.2 (by omega)
end
end Go.bc.T.N
set_option maxRecDepth 100000
namespace Go.bc.T.N
open Go Go.bc Go.Proofs Go.ChangeShapes Go.WideShapes Go.RowKit
theorem Ar:Tryz.prog.bytesOf 9=16:=by kernel_rfl
variable {R:Nat}
section
variable {H:Type}{enc:TypeId×Value→H}{w:World}{base:Nat}{spare:Nat→Bool}{held:Bool}
end
end Go.bc.T.N
namespace Go.bc.T.N
open Go Go.bc Go.Proofs Go.RowKit
set_option maxRecDepth 100000
attribute [local irreducible] Go.bc.aj Go.bc.ae Go.bc.bz
section
attribute [local go_sem] ba.row
def q4 (s:a7):uW→I
 | .ok t r=> .di [.agg t.row,.int .i64 ((s.length-r.length:Nat):Int),.int .i64 0]
 | .err e=> .di [.agg z4,.int .i64 0,.int .i64 e]
theorem r6 (s:a7) (R:uW):(q4 s R).flat=true:=by cases R<;>simp only[q4,I.flat,b3,ba.row,z4,Bool.and_self]
theorem DU {s:a7}: ∃w r:a7,s=w++r∧s.takeWhile iY=w∧s.dropWhile iY=r∧(∀(i:Nat) (c:UInt8),w[i]? =some c→iY c=true)∧(∀(c:UInt8) (y:a7),r=c::y→iY c=false):=by
 refine⟨_,_,(List.takeWhile_append_dropWhile (p:=iY) (l:=s)).symm,rfl,rfl,fun i c h=> ?_,fun c y h=> ?_⟩
 ·have:=W5 h
  simp [iY,vc,this]
 ·induction s with
  |nil=>cases h
  |cons d l cv=>
   rw[List.dropWhile_cons]at h
   split at h
   ·exact cv h
   ·rename_i bw
    cases h
    simpa using bw
theorem FT (s:a7) (ap:s.length≤1000000):Pure Tryz.prog 142 [.str s] (q4 s (vL s)):=by
 obtain⟨w,r,n0,hw,ag,Y0,Y1⟩:=DU (s:=s)
 obtain⟨R,an⟩: ∃R,R=zl w r:=⟨_,rfl⟩
 have bW:vL s=R:=by rw[vL,hw,ag,an]
 have hlen:s.length=w.length+r.length:=by rw[n0,List.length_append]
 rw[bW]
 clear bW hw ag
 refine cF bN Tryz.func142 Df rfl (r6 _ _) ?_
 unfold od Am
 simp(disch:=omega)only[go_sem,simprocAttr]
 refine ao ?_
 refine aj.dd (X:=Nat×Int) (0,0) (fun y=>[(0,.str s),(2,.ptr 0 0),(5,.int .i64 (y.1:Int)),(6,.int .i64 y.2)]) (fun y=>[(0,63,z4)]) (fun _=>[]) (fun y=>y.1≤w.length∧0≤y.2∧y.2≤1099511627776∧(w.length≤6→y.2<10^y.1∧pk (w.drop y.1) y.2=pk w 0)) (fun y=>w.length-y.1) ⟨Nat.zero_le _,Int.le_refl _,by decide,fun _=>⟨by decide,rfl⟩⟩ ⟨rfl,rfl,rfl,rfl,trivial⟩ ⟨rfl,trivial⟩ trivial ?_
 rintro⟨i,v⟩ ⟨ai,r0,By,aB⟩
 simp only at ai r0 By aB ⊢
 by_cases qu:i<w.length
 ·have qD:w[i]? =some w[i]:=List.getElem?_eq_getElem qu
  have tq:=Y0 i _ qD
  have af:s[i]? =some w[i]:=by rw[n0,List.getElem?_append_left qu]; exact qD
  rw[iM qD]at aB
  simp only[pk]at aB
  generalize w[i]=c at*
  have YX:48≤(c.toNat:Int)∧(c.toNat:Int)≤57:=by simpa [iY,vc] using tq
  have Jj:=au2 (c.toNat:Int)
  rw[show vc (c.toNat:Int)=true from tq]at Jj
  have d1:(i:Int)<(s.length:Int):=by omega
  have ar:IntKind.u8.wrap ((c.toNat:Int)-48)=(c.toNat:Int)-48:=SJ (by omega) (by omega)
  have hm:min (10*v+((c.toNat:Int)-48)) 1099511627776≤1099511627776:=Int.min_le_right _ _
  (have al:=d1;refine bQ ?_;clear al)
  refine D.P (Jj) ?_
  (have al:=d1;have z2:=ar;refine e8 ?_;clear al z2)
  refine aj.dK (i+1,min (10*v+((c.toNat:Int)-48)) 1099511627776) ⟨by simp only; omega,by simp only; omega,hm,fun cq=> ?_⟩ ⟨rfl,rfl,by simp only[Int.natCast_add]; rfl,rfl,trivial⟩ ⟨rfl,trivial⟩ trivial rfl rfl (by show w.length-(i+1)<w.length-i; omega)
  obtain⟨y6,aB⟩:=aB cq
  have hp:(10:Int)^i≤100000:=by
   have:(10:Int)^i≤10^5:=by exact_mod_cast Nat.pow_le_pow_right (by decide) (show i≤5 by omega)
   simpa using this
  have bG:(10:Int)^(i+1)=10*10^i:=by rw[Int.pow_succ,Int.mul_comm]
  have Fa:min (10*v+((c.toNat:Int)-48)) 1099511627776=10*v+((c.toNat:Int)-48):=by omega
  simp only
  rw[Fa]
  exact⟨by rw[bG]; omega,aB⟩
 have bE:i=w.length:=by omega
 subst bE
 rw[List.drop_length]at aB
 simp only[pk]at aB
 clear ai qu Y0
 unfold zl at an
 have EC: ∀c y,r=c::y→ki r=true→Pure Tryz.prog 140 [.int .u8 (c.toNat:Int)] (.bool true):=fun c y e h=>by
  subst e
  have Ji:=au1 (c.toNat:Int)
  rw[show uu (c.toNat:Int)=true from h]at Ji
  exact Ji
 have th: ∀c y,r=c::y→ki r=false→Pure Tryz.prog 140 [.int .u8 (c.toNat:Int)] (.bool false):=fun c y e h=>by
  subst e
  have Ji:=au1 (c.toNat:Int)
  rw[show uu (c.toNat:Int)=false from h]at Ji
  exact Ji
 have ov: ∀c y,r=c::y→Pure Tryz.prog 141 [.int .u8 (c.toNat:Int)] (.bool false):=fun c y e=>by
  have Jj:=au2 (c.toNat:Int)
  rw[show vc (c.toNat:Int)=false from Y1 c y e]at Jj
  exact Jj
 have ph: ∀c y,r=c::y→s[w.length]? =some c:=fun c y e=>by rw[n0,e,List.getElem?_append_right (Nat.le_refl _),Nat.sub_self]; rfl
 have xH:=hlen
 have Zw:s.length-r.length=w.length:=by omega
 have pi: ∀q,q=q4 s (.ok ⟨2,[],pk w 0,0⟩ r)→q= .di [.agg [.int .i64 2,.str [],.int .i64 (pk w 0),.int .i64 0],.int .i64 (w.length:Int),.int .i64 0]:=fun q e=>by
  rw[e,q4,Zw]; rfl
 cases w8:ki r with
 |true=>
  rw[if_pos w8]at an
  rcases r with _|⟨c,y⟩
  ·simp [ki]at w8
  have af:=ph c y rfl
  have ah:=zi c
  have Jj:=ov c y rfl
  have Ji:=EC c y rfl w8
  simp only[List.length_cons]at hlen
  have d1:(w.length:Int)<(s.length:Int):=by omega
  (have al:=d1;refine bQ ?_;clear al)
  refine D.P (Jj) ?_
  (have al:=d1;refine bQ ?_;clear al)
  refine D.P (Ji) ?_
  refine ao ?_
  refine D.r ?_
  rw[an]
  exact⟨_,rfl,.av rfl rfl,trivial,trivial⟩
 |false=>
 rw[if_neg (by rw[w8]; decide)]at an
 by_cases cq:6<w.length
 ·rw[if_pos (.inl cq)]at an
  have d6:(6:Int)<(w.length:Int):=by omega
  clear pi
  rcases r with _|⟨c,y⟩
  ·simp only[List.length_nil]at hlen
   have d1: ¬(w.length:Int)<(s.length:Int):=by omega
   (have al:=d1;have z2:=d6;refine e8 ?_;clear al z2)
   refine D.r ?_
   rw[an]
   exact⟨_,rfl,.av rfl rfl,trivial,trivial⟩
  ·have af:=ph c y rfl
   have ah:=zi c
   have Jj:=ov c y rfl
   have Ji:=th c y rfl w8
   simp only[List.length_cons]at hlen
   have d1:(w.length:Int)<(s.length:Int):=by omega
   (have al:=d1;refine bQ ?_;clear al)
   refine D.P (Jj) ?_
   (have al:=d1;refine bQ ?_;clear al)
   refine D.P (Ji) ?_
   clear af
   (have al:=d6;refine bQ ?_;clear al)
   refine D.r ?_
   rw[an]
   exact⟨_,rfl,.av rfl rfl,trivial,trivial⟩
 have d6: ¬(6:Int)<(w.length:Int):=by omega
 replace aB:=aB (by omega)
 by_cases aw:1<w.length∧w.head?=some 48
 ·rw[if_pos (.inr aw)]at an
  have d2:(1:Int)<(w.length:Int):=by omega
  have r0:s[0]? =some 48:=by rw[n0,List.getElem?_append_left (by omega),←List.head?_eq_getElem?]; exact aw.2
  have wN:((48:UInt8).toNat:Int)=48:=rfl
  clear pi
  rcases r with _|⟨c,y⟩
  ·simp only[List.length_nil]at hlen
   have d1: ¬(w.length:Int)<(s.length:Int):=by omega
   (have al:=d1;have z2:=d6;have z3:=d2;refine ji ?_;clear al z2 z3)
   (have al:=wN;refine bQ ?_;clear al)
   refine D.r ?_
   rw[an]
   exact⟨_,rfl,.av rfl rfl,trivial,trivial⟩
  ·have af:=ph c y rfl
   have ah:=zi c
   have Jj:=ov c y rfl
   have Ji:=th c y rfl w8
   simp only[List.length_cons]at hlen
   have d1:(w.length:Int)<(s.length:Int):=by omega
   (have al:=d1;refine bQ ?_;clear al)
   refine D.P (Jj) ?_
   (have al:=d1;refine bQ ?_;clear al)
   refine D.P (Ji) ?_
   clear af
   (have al:=d6;have z2:=d2;have z3:=wN;refine ji ?_;clear al z2 z3)
   refine D.r ?_
   rw[an]
   exact⟨_,rfl,.av rfl rfl,trivial,trivial⟩
 rw[if_neg (fun bh=>bh.elim cq aw)]at an
 by_cases aa:1<w.length
 ·have d2:(1:Int)<(w.length:Int):=by omega
  obtain⟨mT,yT⟩: ∃mT,w[0]? =some mT:=⟨_,List.getElem?_eq_getElem (by omega)⟩
  have r0:s[0]? =some mT:=by rw[n0,List.getElem?_append_left (by omega)]; exact yT
  have d3: ¬(mT.toNat:Int)=48:=fun e=>aw ⟨aa,by
   rw[List.head?_eq_getElem?,yT]
   congr 1
   apply UInt8.toNat_inj.1
   have:(48:UInt8).toNat=48:=rfl
   omega⟩
  rcases r with _|⟨c,y⟩
  ·simp only[List.length_nil]at hlen
   have d1: ¬(w.length:Int)<(s.length:Int):=by omega
   (have al:=d1;have z2:=d6;have z3:=d2;refine ji ?_;clear al z2 z3)
   (have al:=d3;refine bQ ?_;clear al)
   refine D.r ?_
   rw[an]
   exact⟨_,rfl,.av (by rw[pi _ rfl,←aB.2]; rfl) (r6 _ _),trivial,trivial⟩
  ·have af:=ph c y rfl
   have ah:=zi c
   have Jj:=ov c y rfl
   have Ji:=th c y rfl w8
   simp only[List.length_cons]at hlen
   have d1:(w.length:Int)<(s.length:Int):=by omega
   (have al:=d1;refine bQ ?_;clear al)
   refine D.P (Jj) ?_
   (have al:=d1;refine bQ ?_;clear al)
   refine D.P (Ji) ?_
   clear af
   (have al:=d6;have z2:=d2;have z3:=d3;refine ji ?_;clear al z2 z3)
   refine D.r ?_
   rw[an]
   exact⟨_,rfl,.av (by rw[pi _ rfl,←aB.2]; rfl) (r6 _ _),trivial,trivial⟩
 ·have d2: ¬(1:Int)<(w.length:Int):=by omega
  rcases r with _|⟨c,y⟩
  ·simp only[List.length_nil]at hlen
   have d1: ¬(w.length:Int)<(s.length:Int):=by omega
   (have al:=d1;have z2:=d6;have z3:=d2;refine ji ?_;clear al z2 z3)
   refine D.r ?_
   rw[an]
   exact⟨_,rfl,.av (by rw[pi _ rfl,←aB.2]; rfl) (r6 _ _),trivial,trivial⟩
  ·have af:=ph c y rfl
   have ah:=zi c
   have Jj:=ov c y rfl
   have Ji:=th c y rfl w8
   simp only[List.length_cons]at hlen
   have d1:(w.length:Int)<(s.length:Int):=by omega
   (have al:=d1;refine bQ ?_;clear al)
   refine D.P (Jj) ?_
   (have al:=d1;refine bQ ?_;clear al)
   refine D.P (Ji) ?_
   clear af
   (have al:=d6;have z2:=d2;refine e8 ?_;clear al z2)
   refine D.r ?_
   rw[an]
   exact⟨_,rfl,.av (by rw[pi _ rfl,←aB.2]; rfl) (r6 _ _),trivial,trivial⟩
end
section
attribute [local go_sem] ba.row
def jE:a7→a7→Option (a7×a7)
 | _,[]=>none
 |b,c::x=>if c.toNat=34 then some (b,x)
  else if c.toNat=92 then match x with
   |[]=>none
   |d::y=>if d.toNat=34∨d.toNat=92 then jE (b++[d]) y else none
  else if c.toNat<32∨126<c.toNat then none else jE (b++[c]) x
theorem uc (b:a7) (c:UInt8) (x:a7):jE b (c::x)=if c.toNat=34 then some (b,x)
  else if c.toNat=92 then (match x with
   |[]=>none
   |d::y=>if d.toNat=34∨d.toNat=92 then jE (b++[d]) y else none)
  else if c.toNat<32∨126<c.toNat then none else jE (b++[c]) x:=by
 cases x with
 |nil=>simp only[jE]
 |cons d y=>rw[jE]
def qP:Option (a7×a7)→uW
 |none=> .err 3
 |some (t,r)=>if 40<t.length then .err 6 else .ok ⟨3,t,0,0⟩ r
theorem uo: ∀(n:Nat) (b x:a7),x.length≤n→jy b x=qP (jE b x)
 |n,b,[],h=>by simp only[jy,jE,qP]
 |0,b,c::x,h=>by simp at h
 |n+1,b,c::x,h=>by
  simp only[List.length_cons]at h
  rw[aJ8,uc]
  by_cases J:c.toNat=34
  ·rw[if_pos J,if_pos J]
   rfl
  rw[if_neg J,if_neg J]
  by_cases aa:c.toNat=92
  ·rw[if_pos aa,if_pos aa]
   cases x with
   |nil=>rfl
   |cons d y=>
    simp only[List.length_cons]at h
    simp only
    by_cases au:d.toNat=34∨d.toNat=92
    ·rw[if_pos au,if_pos au]
     exact uo n _ _ (by omega)
    ·rw[if_neg au,if_neg au]
     rfl
  rw[if_neg aa,if_neg aa]
  by_cases au:c.toNat<32∨126<c.toNat
  ·rw[if_pos au,if_pos au]
   rfl
  ·rw[if_neg au,if_neg au]
   exact uo n _ _ (by omega)
def r9 (s:a7):Option (a7×a7)→I
 |none=> .di [.str [],.int .i64 0]
 |some (t,r)=> .di [.str t,.int .i64 ((s.length-r.length:Nat):Int)]
theorem B8 (s:a7) (R:Option (a7×a7)):(r9 s R).flat=true:=by cases R<;>simp only[r9,I.flat,b3,Bool.and_self]
theorem wv: ∀(n:Nat) (b x:a7) (t r:a7),x.length≤n→jE b x=some (t,r)→r.length<x.length
 |n,b,[],t,r,h,e=>by simp only[jE]at e; cases e
 |0,b,c::x,t,r,h,e=>by simp at h
 |n+1,b,c::x,t,r,h,e=>by
  simp only[List.length_cons]at h
  rw[uc]at e
  split at e
  ·cases e; simp
  split at e
  ·cases x with
   |nil=>cases e
   |cons d y=>
    simp only[List.length_cons]at h
    simp only at e
    split at e
    ·have:=wv n _ _ _ _ (by omega) e
     simp only[List.length_cons]
     omega
    ·cases e
  split at e
  ·cases e
  ·have:=wv n _ _ _ _ (by omega) e
   simp only[List.length_cons]
   omega
theorem FU (x:a7) (ap:x.length≤1000000):Pure Tryz.prog 143 [.str (34::x)] (r9 (34::x) (jE [] x)):=by
 obtain⟨R,an⟩: ∃R,R=jE [] x:=⟨_,rfl⟩
 rw[←an]
 obtain⟨s,iH⟩: ∃s,s=(34:UInt8)::x:=⟨_,rfl⟩
 have pS:s.length=x.length+1:=by rw[iH]; rfl
 have mo:fT s x 1:=⟨by omega,by rw[iH]; rfl⟩
 rw[←iH]
 refine cF bN Tryz.func143 Dg rfl (B8 _ _) ?_
 unfold lb An
 simp(disch:=omega)only[go_sem,simprocAttr]
 refine ao ?_
 refine aj.dd (X:=a7×a7×Nat) ([],x,1) (fun y=>[(0,.str s),(4,.str y.1),(5,.int .i64 (y.2.2:Int))]) (fun _=>[]) (fun _=>[]) (fun y=>fT s y.2.1 y.2.2∧y.1.length≤y.2.2∧R=jE y.1 y.2.1) (fun y=>y.2.1.length) ⟨mo,Nat.zero_le _,an⟩ ⟨rfl,rfl,rfl,trivial⟩ trivial trivial ?_
 rintro⟨b,y,p⟩ ⟨aZ,hb,an⟩
 simp only at aZ hb an ⊢
 have oY:=aZ.1
 cases y with
 |nil=>
  simp only[List.length_nil]at oY
  simp only[jE]at an
  have d1: ¬(p:Int)<(s.length:Int):=by omega
  (have al:=d1;refine bQ ?_;clear al)
  refine D.r ?_
  rw[an]
  exact⟨_,rfl,.av rfl rfl,trivial,trivial⟩
 |cons c y=>
 have af:=aZ.get
 have ah:=zi c
 have aO:=aZ.tail
 simp only[List.length_cons]at oY
 have d1:(p:Int)<(s.length:Int):=by omega
 rw[uc]at an
 by_cases sU:c.toNat=34
 ·rw[if_pos sU]at an
  have d2:(c.toNat:Int)=34:=by omega
  (have al:=d1;have z2:=d2;refine e8 ?_;clear al z2)
  refine D.r ?_
  rw[an]
  exact⟨_,rfl,.av (by simp only[r9,I.av,jU]; rw[aO.eq]; simp only[Int.natCast_add]; rfl) (B8 _ _),trivial,trivial⟩
 rw[if_neg sU]at an
 have d2: ¬(c.toNat:Int)=34:=by omega
 by_cases Lj:c.toNat=92
 ·rw[if_pos Lj]at an
  have d3:(c.toNat:Int)=92:=by omega
  cases y with
  |nil=>
   simp only[List.length_nil]at oY
   have d4: ¬(p:Int)+1<(s.length:Int):=by omega
   (repeat' first|(apply ae.s rfl;(·simp(disch:=omega)only[go_sem,simprocAttr,d1,d2,d3,d4]<;>with_reducible rfl))|(apply aj.s true true;(·simp(disch:=omega)only[go_sem,simprocAttr,d1,d2,d3,d4]<;>with_reducible rfl))|apply ae.nil|(refine aj.b6 ?_)|(apply ae.eX;(·simp(disch:=omega)only[go_sem,simprocAttr,d1,d2,d3,d4]<;>with_reducible rfl))|(apply ae.eY;(·rfl);(·simp(disch:=omega)only[go_sem,simprocAttr,d1,d2,d3,d4]<;>with_reducible rfl))|(apply ae.gs;(·simp(disch:=omega)only[go_sem,simprocAttr,d1,d2,d3,d4]<;>with_reducible rfl))|((first|apply ae.e3|apply ae.e4|apply ae.e5);(·simp(disch:=omega)only[go_sem,simprocAttr,d1,d2,d3,d4]<;>with_reducible rfl);(·simp(disch:=omega)only[go_sem,simprocAttr,d1,d2,d3,d4]<;>with_reducible rfl);(·assumption);(·omega))|intro h)
   refine D.r ?_
   rw[an]
   exact⟨_,rfl,.av rfl rfl,trivial,trivial⟩
  |cons d y=>
   have bw:=zi d
   have rZ:=aO.tail
   simp only[List.length_cons]at oY
   have d4:(p:Int)+1<(s.length:Int):=by omega
   have pS:(s.take (p+1+1)).drop (p+1)=[d]:=fT.io (u:=[d]) aO
   simp only at an
   (have al:=d1;refine bQ ?_;clear al)
   (have al:=d2;have z2:=d3;have z3:=d4;refine ji ?_;clear al z2 z3)
   clear af
   have af:=aO.get
   by_cases au:d.toNat=34
   ·rw[if_pos (.inl au)]at an
    have d5:(d.toNat:Int)=34:=by omega
    (have al:=d5;refine bQ ?_;clear al)
    (apply ae.uM (p+1) (p+1+1);(·simp(disch:=omega)only[go_sem,simprocAttr]<;>with_reducible rfl);(·simp(disch:=omega)only[go_sem,simprocAttr]<;>with_reducible rfl);(·simp(disch:=omega)only[go_sem,simprocAttr]<;>with_reducible rfl);(·omega);(·omega);(·omega);(·(try simp only[List.length_map]);omega))
    rw[pS]
    refine ao ?_
    refine D.bR ?_
    refine ao ?_
    refine aj.dK (b++[d],y,p+1+1) ⟨rZ,by simp only[List.length_append,List.length_cons,List.length_nil]; omega,an⟩ ⟨rfl,rfl,by simp only[Int.natCast_add]; rfl,trivial⟩ trivial trivial rfl rfl (by show y.length<y.length+1+1; omega)
   have d5: ¬(d.toNat:Int)=34:=by omega
   by_cases bn:d.toNat=92
   ·rw[if_pos (.inr bn)]at an
    have d6:(d.toNat:Int)=92:=by omega
    (have al:=d5;have z2:=d6;refine e8 ?_;clear al z2)
    (apply ae.uM (p+1) (p+1+1);(·simp(disch:=omega)only[go_sem,simprocAttr]<;>with_reducible rfl);(·simp(disch:=omega)only[go_sem,simprocAttr]<;>with_reducible rfl);(·simp(disch:=omega)only[go_sem,simprocAttr]<;>with_reducible rfl);(·omega);(·omega);(·omega);(·(try simp only[List.length_map]);omega))
    rw[pS]
    refine ao ?_
    refine D.bR ?_
    refine ao ?_
    refine aj.dK (b++[d],y,p+1+1) ⟨rZ,by simp only[List.length_append,List.length_cons,List.length_nil]; omega,an⟩ ⟨rfl,rfl,by simp only[Int.natCast_add]; rfl,trivial⟩ trivial trivial rfl rfl (by show y.length<y.length+1+1; omega)
   ·rw[if_neg (fun h=>h.elim au bn)]at an
    have d6: ¬(d.toNat:Int)=92:=by omega
    (have al:=d5;have z2:=d6;refine e8 ?_;clear al z2)
    clear af
    have af:=aZ.get
    (have al:=d3;refine bQ ?_;clear al)
    refine D.r ?_
    rw[an]
    exact⟨_,rfl,.av rfl rfl,trivial,trivial⟩
 ·rw[if_neg Lj]at an
  have d3: ¬(c.toNat:Int)=92:=by omega
  by_cases w6:c.toNat<32
  ·rw[if_pos (.inl w6)]at an
   have d4:(c.toNat:Int)<32:=by omega
   (have al:=d1;refine bQ ?_;clear al)
   (have al:=d2;have z2:=d3;have z3:=d4;refine ji ?_;clear al z2 z3)
   refine D.r ?_
   rw[an]
   exact⟨_,rfl,.av rfl rfl,trivial,trivial⟩
  have d4: ¬(c.toNat:Int)<32:=by omega
  by_cases w5:126<c.toNat
  ·rw[if_pos (.inr w5)]at an
   have d5:(126:Int)<(c.toNat:Int):=by omega
   (have al:=d1;refine bQ ?_;clear al)
   (have al:=d2;have z2:=d3;have z3:=d4;refine ji ?_;clear al z2 z3)
   (have al:=d5;refine bQ ?_;clear al)
   refine D.r ?_
   rw[an]
   exact⟨_,rfl,.av rfl rfl,trivial,trivial⟩
  ·rw[if_neg (fun h=>h.elim w6 w5)]at an
   have d5: ¬(126:Int)<(c.toNat:Int):=by omega
   have pS:(s.take (p+1)).drop p=[c]:=fT.io (u:=[c]) aZ
   (have al:=d1;refine bQ ?_;clear al)
   (have al:=d2;have z2:=d3;have z3:=d4;refine ji ?_;clear al z2 z3)
   (have al:=d5;refine bQ ?_;clear al)
   (apply ae.uM (p) (p+1);(·simp(disch:=omega)only[go_sem,simprocAttr]<;>with_reducible rfl);(·simp(disch:=omega)only[go_sem,simprocAttr]<;>with_reducible rfl);(·simp(disch:=omega)only[go_sem,simprocAttr]<;>with_reducible rfl);(·omega);(·omega);(·omega);(·(try simp only[List.length_map]);omega))
   rw[pS]
   refine ao ?_
   refine D.bR ?_
   refine ao ?_
   refine aj.dK (b++[c],y,p+1) ⟨aO,by simp only[List.length_append,List.length_cons,List.length_nil]; omega,an⟩ ⟨rfl,rfl,by simp only[Int.natCast_add]; rfl,trivial⟩ trivial trivial rfl rfl (by show y.length<y.length+1; omega)
end
section
attribute [local go_sem] ba.row
theorem ub (p:UInt8→Bool){c:UInt8}: ∀ {l:a7},c∈l.takeWhile p→p c=true
 |[],h=>by simp at h
 |d::l,h=>by
  rw[List.takeWhile_cons]at h
  split at h
  ·rename_i bw
   rcases List.mem_cons.1 h with rfl|h
   ·exact bw
   ·exact ub p h
  ·simp at h
theorem wX (p:UInt8→Bool){c:UInt8}{y:a7}: ∀ {l:a7},l.dropWhile p=c::y→p c=false
 |[],h=>by simp at h
 |d::l,h=>by
  rw[List.dropWhile_cons]at h
  split at h
  ·exact wX p h
  ·rename_i bw
   cases h
   simpa using bw
theorem FD {c:UInt8}{x:a7}{p:UInt8→Bool}(h:p c=true):1≤((c::x).takeWhile p).length:=by
 rw[List.takeWhile_cons,if_pos h,List.length_cons]
 omega
theorem G2 (s:a7) (ap:s.length≤1000000) (c:UInt8) (x:a7) (iH:s=c::x) (ek:l1 c=true):Pure Tryz.prog 74 [.str s] (q4 s (vJ s)):=by
 have Z1:1≤(s.takeWhile iO).length:=by rw[iH]; exact FD (ag8 ek)
 have r0:s[0]? =some c:=by rw[iH]; rfl
 have n0:=(List.takeWhile_append_dropWhile (p:=iO) (l:=s)).symm
 have Y0: ∀(i:Nat) (e:UInt8),(s.takeWhile iO)[i]? =some e→iO e=true:=fun i e h=>ub iO (List.mem_of_getElem? h)
 have Y1: ∀(e:UInt8) (y:a7),s.dropWhile iO=e::y→iO e=false:=fun e y h=>wX iO h
 obtain⟨R,an⟩: ∃R,R=vJ s:=⟨_,rfl⟩
 rw[←an]
 unfold vJ at an
 generalize s.takeWhile iO=w at*
 generalize s.dropWhile iO=r at*
 have hlen:s.length=w.length+r.length:=by rw[n0,List.length_append]
 have kM:s.take w.length=w:=by rw[n0,List.take_left]
 have Zw:s.length-r.length=w.length:=by omega
 have Jh:=OR (c.toNat:Int)
 rw[show xr (c.toNat:Int)=true from ek]at Jh
 have ov: ∀e y,r=e::y→Pure Tryz.prog 140 [.int .u8 (e.toNat:Int)] (.bool false):=fun e y h=>by
  have Ji:=au1 (e.toNat:Int)
  rw[show uu (e.toNat:Int)=false from Y1 e y h]at Ji
  exact Ji
 have ph: ∀e y,r=e::y→s[w.length]? =some e:=fun e y h=>by rw[n0,h,List.getElem?_append_right (Nat.le_refl _),Nat.sub_self]; rfl
 clear iH ek
 refine cF bN Tryz.func74 na rfl (r6 _ _) ?_
 unfold kj mr
 simp(disch:=omega)only[go_sem,simprocAttr]
 refine ao ?_
 refine D.P (Jh) ?_
 refine ao ?_
 clear r0
 refine aj.dd (X:=Nat) 1 (fun y=>[(0,.str s),(2,.ptr 0 0),(5,.int .i64 (y:Int))]) (fun y=>[(0,63,z4)]) (fun _=>[]) (fun y=>1≤y∧y≤w.length) (fun y=>w.length-y) ⟨Nat.le_refl _,Z1⟩ ⟨rfl,rfl,rfl,trivial⟩ ⟨rfl,trivial⟩ trivial ?_
 rintro i ⟨E6,ai⟩
 try simp only at ai E6 ⊢
 by_cases qu:i<w.length
 ·have qD:w[i]? =some w[i]:=List.getElem?_eq_getElem qu
  have tq:=Y0 i _ qD
  have af:s[i]? =some w[i]:=by rw[n0,List.getElem?_append_left qu]; exact qD
  generalize w[i]=e at*
  have Ji:=au1 (e.toNat:Int)
  rw[show uu (e.toNat:Int)=true from tq]at Ji
  have d1:(i:Int)<(s.length:Int):=by omega
  clear qD
  (have al:=d1;refine bQ ?_;clear al)
  refine D.P (Ji) ?_
  refine ao ?_
  refine aj.dK (i+1) ⟨by omega,by omega⟩ ⟨rfl,rfl,by simp only[Int.natCast_add]; rfl,trivial⟩ ⟨rfl,trivial⟩ trivial rfl rfl (by show w.length-(i+1)<w.length-i; omega)
 have bE:i=w.length:=by omega
 subst bE
 clear ai qu Y0
 by_cases sD:16<w.length
 ·rw[if_pos sD]at an
  have d6:(16:Int)<(w.length:Int):=by omega
  rcases r with _|⟨e,y⟩
  ·simp only[List.length_nil]at hlen
   have d1: ¬(w.length:Int)<(s.length:Int):=by omega
   (have al:=d1;have z2:=d6;refine e8 ?_;clear al z2)
   refine D.r ?_
   rw[an]
   exact⟨_,rfl,.av rfl rfl,trivial,trivial⟩
  ·have af:=ph e y rfl
   have ah:=zi e
   have Ji:=ov e y rfl
   simp only[List.length_cons]at hlen
   have d1:(w.length:Int)<(s.length:Int):=by omega
   (have al:=d1;refine bQ ?_;clear al)
   refine D.P (Ji) ?_
   (have al:=d6;refine bQ ?_;clear al)
   refine D.r ?_
   rw[an]
   exact⟨_,rfl,.av rfl rfl,trivial,trivial⟩
 ·rw[if_neg sD]at an
  have d6: ¬(16:Int)<(w.length:Int):=by omega
  have pi:q4 s R= .di [.agg [.int .i64 1,.str w,.int .i64 0,.int .i64 0],.int .i64 (w.length:Int),.int .i64 0]:=by rw[an,q4,Zw]; rfl
  rw[pi]
  rcases r with _|⟨e,y⟩
  ·simp only[List.length_nil]at hlen
   have d1: ¬(w.length:Int)<(s.length:Int):=by omega
   (have al:=d1;have z2:=d6;refine e8 ?_;clear al z2)
   (apply ae.aG3 (w.length);(·simp(disch:=omega)only[go_sem,simprocAttr]<;>with_reducible rfl);(·simp(disch:=omega)only[go_sem,simprocAttr]<;>with_reducible rfl);(·omega);(·(try simp only[List.length_map]);omega))
   rw[kM]
   refine ao ?_
   exact D.rx
  ·have af:=ph e y rfl
   have ah:=zi e
   have Ji:=ov e y rfl
   simp only[List.length_cons]at hlen
   have d1:(w.length:Int)<(s.length:Int):=by omega
   (have al:=d1;refine bQ ?_;clear al)
   refine D.P (Ji) ?_
   (have al:=d6;refine bQ ?_;clear al)
   (apply ae.aG3 (w.length);(·simp(disch:=omega)only[go_sem,simprocAttr]<;>with_reducible rfl);(·simp(disch:=omega)only[go_sem,simprocAttr]<;>with_reducible rfl);(·omega);(·(try simp only[List.length_map]);omega))
   rw[kM]
   refine ao ?_
   exact D.rx
theorem Fg (c:UInt8):(qS.map (fun c=>[c])).contains [c]=decide (c∈qS):=by
 rw[Bool.eq_iff_iff]
 simp
theorem Fs (m:a7):gO.contains m=decide (m∈gO):=by
 rw[Bool.eq_iff_iff]
 simp
theorem GS (c:UInt8) (x:a7) (ap:x.length≤900000):Pure Tryz.prog 74 [.str (c::x)] (q4 (c::x) (l9 (c::x))):=by
 obtain⟨s,iH⟩: ∃s,s=c::x:=⟨_,rfl⟩
 have pS:s.length=x.length+1:=by rw[iH]; rfl
 have r0:s[0]? =some c:=by rw[iH]; rfl
 have ah:=zi c
 have Jh:=OR (c.toNat:Int)
 have Jj:=au2 (c.toNat:Int)
 rw[←iH]
 cases ek:l1 c with
 |true=>
  rw[show l9 s=vJ s from by rw[iH,l9,if_pos ek]]
  exact G2 s (by omega) c x iH ek
 |false=>
 rw[show xr (c.toNat:Int)=false from ek]at Jh
 cases Ll:iY c with
 |true=>
  rw[show vc (c.toNat:Int)=true from Ll]at Jj
  have od:=FT s (by omega)
  rw[show l9 s=vL s from by rw[iH,l9,if_neg (by rw[ek]; decide),if_pos Ll]]
  clear iH
  cases bW:vL s with
  |err e=>
   rw[bW]at od
   simp only[q4]at od ⊢
   refine cF bN Tryz.func74 na rfl rfl ?_
   unfold kj mr
   simp(disch:=omega)only[go_sem,simprocAttr]
   refine ao ?_
   refine D.P (Jh) ?_
   refine ao ?_
   refine D.P (Jj) ?_
   refine ao ?_
   refine D.P (od) ?_
   refine ao ?_
   exact D.rx
  |ok t r=>
   rw[bW]at od
   simp only[q4,ba.row]at od ⊢
   refine cF bN Tryz.func74 na rfl rfl ?_
   unfold kj mr
   simp(disch:=omega)only[go_sem,simprocAttr]
   refine ao ?_
   refine D.P (Jh) ?_
   refine ao ?_
   refine D.P (Jj) ?_
   refine ao ?_
   refine D.P (od) ?_
   refine ao ?_
   exact D.rx
 |false=>
 rw[show vc (c.toNat:Int)=false from Ll]at Jj
 by_cases sU:c.toNat=34
 ·have d1:(c.toNat:Int)=34:=by omega
  have Ex:c=34:=UInt8.toNat_inj.1 (by rw[sU]; rfl)
  have lb:=FU x (by omega)
  rw[←Ex,←iH]at lb
  have c4:l9 s=qP (jE [] x):=by rw[iH,l9,if_neg (by rw[ek]; decide),if_neg (by rw[Ll]; decide),if_pos sU,uo _ _ _ (Nat.le_refl _)]
  rw[c4]
  cases p5:jE [] x with
  |none=>
   rw[p5]at lb
   simp only[r9,qP,q4]at lb ⊢
   refine cF bN Tryz.func74 na rfl rfl ?_
   unfold kj mr
   simp(disch:=omega)only[go_sem,simprocAttr]
   refine ao ?_
   refine D.P (Jh) ?_
   refine ao ?_
   refine D.P (Jj) ?_
   (have al:=d1;refine bQ ?_;clear al)
   refine D.P (lb) ?_
   refine ao ?_
   exact D.rx
  |some p=>
   obtain⟨t,r⟩:=p
   have uq:=wv _ _ _ _ _ (Nat.le_refl _) p5
   rw[p5]at lb
   simp only[r9]at lb
   obtain⟨n,a6⟩: ∃n,n=s.length-r.length:=⟨_,rfl⟩
   rw[←a6]at lb
   have d2: ¬(n:Int)=0:=by omega
   by_cases Lf:40<t.length
   ·have d3:(40:Int)<(t.length:Int):=by omega
    simp only[qP,if_pos Lf,q4]
    refine cF bN Tryz.func74 na rfl rfl ?_
    unfold kj mr
    simp(disch:=omega)only[go_sem,simprocAttr]
    refine ao ?_
    refine D.P (Jh) ?_
    refine ao ?_
    refine D.P (Jj) ?_
    (have al:=d1;refine bQ ?_;clear al)
    refine D.P (lb) ?_
    (have al:=d2;have z2:=d3;refine e8 ?_;clear al z2)
    exact D.rx
   ·have d3: ¬(40:Int)<(t.length:Int):=by omega
    simp only[qP,if_neg Lf,q4,ba.row,←a6]
    refine cF bN Tryz.func74 na rfl rfl ?_
    unfold kj mr
    simp(disch:=omega)only[go_sem,simprocAttr]
    refine ao ?_
    refine D.P (Jh) ?_
    refine ao ?_
    refine D.P (Jj) ?_
    (have al:=d1;refine bQ ?_;clear al)
    refine D.P (lb) ?_
    (have al:=d2;have z2:=d3;refine e8 ?_;clear al z2)
    exact D.rx
 have d1: ¬(c.toNat:Int)=34:=by omega
 have ar:=at6 (qS.map (fun c=>[c])) [c] (by decide)
 rw[Fg]at ar
 have rE:s.take 1=[c]:=by rw[iH]; rfl
 have c4:l9 s=ux s:=by rw[iH,l9,if_neg (by rw[ek]; decide),if_neg (by rw[Ll]; decide),if_neg sU]
 rw[c4]
 have rO: ∀h:s.take 2∉gO,ux s=if c∈qS then .ok ⟨4,[c],0,0⟩ x else .err 3:=fun h=>by
  rw[iH]at h ⊢
  rw[ux,if_neg h]
 have xI:s.length-x.length=1:=by omega
 cases x with
 |nil=>
  rw[rO (by rw[iH]; simp [gO])]
  simp only[List.length_nil]at pS
  have d2: ¬(1:Int)<(s.length:Int):=by omega
  by_cases hm:c∈qS
  ·rw[decide_eq_true hm]at ar
   simp only[qS,List.map_cons,List.map_nil,cj]at ar
   rw[if_pos hm]
   simp only[q4,ba.row,xI]
   refine cF bN Tryz.func74 na rfl rfl ?_
   unfold kj mr
   simp(disch:=omega)only[go_sem,simprocAttr]
   refine ao ?_
   refine D.P (Jh) ?_
   refine ao ?_
   refine D.P (Jj) ?_
   (have al:=d1;have z2:=d2;refine e8 ?_;clear al z2)
   (apply ae.aG3 (1);(·simp(disch:=omega)only[go_sem,simprocAttr]<;>with_reducible rfl);(·simp(disch:=omega)only[go_sem,simprocAttr]<;>with_reducible rfl);(·omega);(·(try simp only[List.length_map]);omega))
   rw[rE]
   refine ao ?_
   refine D.P (ar) ?_
   refine ao ?_
   (apply ae.aG3 (1);(·simp(disch:=omega)only[go_sem,simprocAttr]<;>with_reducible rfl);(·simp(disch:=omega)only[go_sem,simprocAttr]<;>with_reducible rfl);(·omega);(·(try simp only[List.length_map]);omega))
   rw[rE]
   refine ao ?_
   exact D.rx
  ·rw[decide_eq_false hm]at ar
   simp only[qS,List.map_cons,List.map_nil,cj]at ar
   rw[if_neg hm]
   simp only[q4]
   refine cF bN Tryz.func74 na rfl rfl ?_
   unfold kj mr
   simp(disch:=omega)only[go_sem,simprocAttr]
   refine ao ?_
   refine D.P (Jh) ?_
   refine ao ?_
   refine D.P (Jj) ?_
   (have al:=d1;have z2:=d2;refine e8 ?_;clear al z2)
   (apply ae.aG3 (1);(·simp(disch:=omega)only[go_sem,simprocAttr]<;>with_reducible rfl);(·simp(disch:=omega)only[go_sem,simprocAttr]<;>with_reducible rfl);(·omega);(·(try simp only[List.length_map]);omega))
   rw[rE]
   refine ao ?_
   refine D.P (ar) ?_
   refine ao ?_
   exact D.rx
 |cons d y=>
  simp only[List.length_cons]at pS
  have d2:(1:Int)<(s.length:Int):=by omega
  have rF:s.take 2=[c,d]:=by rw[iH]; rfl
  have ax:=at6 gO [c,d] (by decide)
  rw[Fs]at ax
  by_cases tY:[c,d]∈gO
  ·rw[decide_eq_true tY]at ax
   simp only[gO,List.map_cons,List.map_nil,cj]at ax
   have an:ux s= .ok ⟨4,[c,d],0,0⟩ y:=by
    have:s.take 2∈gO:=by rw[rF]; exact tY
    rw[iH]at this ⊢
    rw[ux,if_pos this]
    rfl
   have oY:s.length-y.length=2:=by omega
   rw[an]
   simp only[q4,ba.row,oY]
   refine cF bN Tryz.func74 na rfl rfl ?_
   unfold kj mr
   simp(disch:=omega)only[go_sem,simprocAttr]
   refine ao ?_
   refine D.P (Jh) ?_
   refine ao ?_
   refine D.P (Jj) ?_
   (have al:=d1;have z2:=d2;refine e8 ?_;clear al z2)
   (apply ae.aG3 (2);(·simp(disch:=omega)only[go_sem,simprocAttr]<;>with_reducible rfl);(·simp(disch:=omega)only[go_sem,simprocAttr]<;>with_reducible rfl);(·omega);(·(try simp only[List.length_map]);omega))
   rw[rF]
   refine ao ?_
   refine D.P (ax) ?_
   refine ao ?_
   (apply ae.aG3 (2);(·simp(disch:=omega)only[go_sem,simprocAttr]<;>with_reducible rfl);(·simp(disch:=omega)only[go_sem,simprocAttr]<;>with_reducible rfl);(·omega);(·(try simp only[List.length_map]);omega))
   rw[rF]
   refine ao ?_
   exact D.rx
  ·rw[decide_eq_false tY]at ax
   simp only[gO,List.map_cons,List.map_nil,cj]at ax
   rw[rO (by rw[rF]; exact tY)]
   by_cases hm:c∈qS
   ·rw[decide_eq_true hm]at ar
    simp only[qS,List.map_cons,List.map_nil,cj]at ar
    rw[if_pos hm]
    simp only[q4,ba.row,xI]
    refine cF bN Tryz.func74 na rfl rfl ?_
    unfold kj mr
    simp(disch:=omega)only[go_sem,simprocAttr]
    refine ao ?_
    refine D.P (Jh) ?_
    refine ao ?_
    refine D.P (Jj) ?_
    (have al:=d1;have z2:=d2;refine e8 ?_;clear al z2)
    (apply ae.aG3 (2);(·simp(disch:=omega)only[go_sem,simprocAttr]<;>with_reducible rfl);(·simp(disch:=omega)only[go_sem,simprocAttr]<;>with_reducible rfl);(·omega);(·(try simp only[List.length_map]);omega))
    rw[rF]
    refine ao ?_
    refine D.P (ax) ?_
    refine ao ?_
    (apply ae.aG3 (1);(·simp(disch:=omega)only[go_sem,simprocAttr]<;>with_reducible rfl);(·simp(disch:=omega)only[go_sem,simprocAttr]<;>with_reducible rfl);(·omega);(·(try simp only[List.length_map]);omega))
    rw[rE]
    refine ao ?_
    refine D.P (ar) ?_
    refine ao ?_
    (apply ae.aG3 (1);(·simp(disch:=omega)only[go_sem,simprocAttr]<;>with_reducible rfl);(·simp(disch:=omega)only[go_sem,simprocAttr]<;>with_reducible rfl);(·omega);(·(try simp only[List.length_map]);omega))
    rw[rE]
    refine ao ?_
    exact D.rx
   ·rw[decide_eq_false hm]at ar
    simp only[qS,List.map_cons,List.map_nil,cj]at ar
    rw[if_neg hm]
    simp only[q4]
    refine cF bN Tryz.func74 na rfl rfl ?_
    unfold kj mr
    simp(disch:=omega)only[go_sem,simprocAttr]
    refine ao ?_
    refine D.P (Jh) ?_
    refine ao ?_
    refine D.P (Jj) ?_
    (have al:=d1;have z2:=d2;refine e8 ?_;clear al z2)
    (apply ae.aG3 (2);(·simp(disch:=omega)only[go_sem,simprocAttr]<;>with_reducible rfl);(·simp(disch:=omega)only[go_sem,simprocAttr]<;>with_reducible rfl);(·omega);(·(try simp only[List.length_map]);omega))
    rw[rF]
    refine ao ?_
    refine D.P (ax) ?_
    refine ao ?_
    (apply ae.aG3 (1);(·simp(disch:=omega)only[go_sem,simprocAttr]<;>with_reducible rfl);(·simp(disch:=omega)only[go_sem,simprocAttr]<;>with_reducible rfl);(·omega);(·(try simp only[List.length_map]);omega))
    rw[rE]
    refine ao ?_
    refine D.P (ar) ?_
    refine ao ?_
    exact D.rx
end
section
attribute [local go_sem] ba.row
theorem CT {c:UInt8}(h:lS c=true):c.toNat=32∨c.toNat=9∨c.toNat=10∨c.toNat=13:=by
 simp only[lS,Bool.or_eq_true,beq_iff_eq]at h
 rcases h with h|h|h|h<;>(subst h; decide)
theorem CR {c:UInt8}(h:lS c=false): ¬c.toNat=32∧¬c.toNat=9∧¬c.toNat=10∧¬c.toNat=13:=by
 have key: ∀n:Fin 256,lS (UInt8.ofNat n.val)=false→¬n.val=32∧¬n.val=9∧¬n.val=10∧¬n.val=13:=by decide+kernel
 have:=key ⟨c.toNat,c.toNat_lt⟩
 simp only[UInt8.ofNat_toNat]at this
 exact this h
theorem HG (n:Nat):ko n []=[]:=by cases n<;>rfl
theorem Af (s x:a7) (a:Nat) (ap:s.length≤1000000) (ab:fT s x a):Pure Tryz.prog 73 [.str s,.int .i64 (a:Int)] (.int .i64 ((s.length-(ko (x.length+1) x).length:Nat):Int)):=by
 obtain⟨R,an⟩: ∃R,R=ko (x.length+1) x:=⟨_,rfl⟩
 rw[←an]
 refine cF bN Tryz.func73 DK rfl rfl ?_
 unfold oh AR
 simp(disch:=omega)only[go_sem,simprocAttr]
 refine ao ?_
 refine aj.dd (X:=a7×Nat×Nat) (x,a,x.length+1) (fun y=>[(0,.str s),(1,.int .i64 (y.2.1:Int))]) (fun _=>[]) (fun _=>[]) (fun y=>fT s y.1 y.2.1∧y.1.length<y.2.2∧R=ko y.2.2 y.1) (fun y=>y.1.length) ⟨ab,by simp,an⟩ ⟨rfl,rfl,trivial⟩ trivial trivial ?_
 rintro⟨y,p,n⟩ ⟨aZ,a6,an⟩
 simp only at aZ a6 an ⊢
 clear ab
 have oY:=aZ.1
 rcases n with _|n
 ·omega
 cases y with
 |nil=>
  simp only[List.length_nil]at oY
  simp only[ko]at an
  have d1: ¬(p:Int)<(s.length:Int):=by omega
  (have al:=d1;refine bQ ?_;clear al)
  refine D.r ?_
  rw[an]
  exact⟨_,rfl,.av (by rw[List.length_nil,show s.length-0=p by omega]; rfl) rfl,trivial,trivial⟩
 |cons c y=>
 have af:=aZ.get
 have ah:=zi c
 have aO:=aZ.tail
 simp only[List.length_cons]at oY a6
 simp only[ko]at an
 have d1:(p:Int)<(s.length:Int):=by omega
 cases hb:lS c with
 |true=>
  rw[if_pos hb]at an
  rcases CT hb with h|h|h|h
  ·have d0:(c.toNat:Int)=32:=by omega
   (have al:=d1;refine bQ ?_;clear al)
   (have al:=d0;refine bQ ?_;clear al)
   refine aj.dK (y,p+1,n) ⟨aO,by simp only; omega,an⟩ ⟨rfl,by simp only[Int.natCast_add]; rfl,trivial⟩ trivial trivial rfl rfl (by show y.length<y.length+1; omega)
  ·have d0:(c.toNat:Int)=9:=by omega
   have cD: ¬(c.toNat:Int)=32:=by omega
   (have al:=d1;refine bQ ?_;clear al)
   (have al:=cD;have z2:=d0;refine e8 ?_;clear al z2)
   refine aj.dK (y,p+1,n) ⟨aO,by simp only; omega,an⟩ ⟨rfl,by simp only[Int.natCast_add]; rfl,trivial⟩ trivial trivial rfl rfl (by show y.length<y.length+1; omega)
  ·have d0:(c.toNat:Int)=10:=by omega
   have cD: ¬(c.toNat:Int)=32:=by omega
   have li: ¬(c.toNat:Int)=9:=by omega
   (have al:=d1;refine bQ ?_;clear al)
   (have al:=cD;have z2:=li;have z3:=d0;refine ji ?_;clear al z2 z3)
   refine aj.dK (y,p+1,n) ⟨aO,by simp only; omega,an⟩ ⟨rfl,by simp only[Int.natCast_add]; rfl,trivial⟩ trivial trivial rfl rfl (by show y.length<y.length+1; omega)
  ·have d0:(c.toNat:Int)=13:=by omega
   have cD: ¬(c.toNat:Int)=32:=by omega
   have li: ¬(c.toNat:Int)=9:=by omega
   have mA: ¬(c.toNat:Int)=10:=by omega
   (have al:=d1;refine bQ ?_;clear al)
   (have al:=cD;have z2:=li;have z3:=mA;refine ji ?_;clear al z2 z3)
   (have al:=d0;refine bQ ?_;clear al)
   refine aj.dK (y,p+1,n) ⟨aO,by simp only; omega,an⟩ ⟨rfl,by simp only[Int.natCast_add]; rfl,trivial⟩ trivial trivial rfl rfl (by show y.length<y.length+1; omega)
 |false=>
 rw[if_neg (by rw[hb]; decide)]at an
 obtain⟨hi,eB,dU,jj⟩:=CR hb
 have cD: ¬(c.toNat:Int)=32:=by omega
 have li: ¬(c.toNat:Int)=9:=by omega
 have mA: ¬(c.toNat:Int)=10:=by omega
 have MV: ¬(c.toNat:Int)=13:=by omega
 by_cases DX:c.toNat=47
 rotate_left
 ·have n4: ¬(c.toNat:Int)=47:=by omega
  rw[if_neg (by
   intro e
   have bE:=congrArg List.head? e
   simp only[List.take_succ_cons,List.head?_cons,Option.some.injEq]at bE
   exact DX (by rw[bE]; rfl))]at an
  (have al:=d1;refine bQ ?_;clear al)
  (have al:=cD;have z2:=li;have z3:=mA;refine ji ?_;clear al z2 z3)
  (have al:=MV;have z2:=n4;refine e8 ?_;clear al z2)
  refine D.r ?_
  rw[an]
  exact⟨_,rfl,.av (by rw[aZ.eq]; rfl) rfl,trivial,trivial⟩
 have d4:(c.toNat:Int)=47:=by omega
 have vW:c=47:=UInt8.toNat_inj.1 (by rw[DX]; rfl)
 cases y with
 |nil=>
  simp only[List.length_nil]at oY
  rw[if_neg (by simp)]at an
  have d5: ¬(p:Int)+1<(s.length:Int):=by omega
  (have al:=d1;refine bQ ?_;clear al)
  (have al:=cD;have z2:=li;have z3:=mA;refine ji ?_;clear al z2 z3)
  (have al:=MV;have z2:=d4;have z3:=d5;refine ji ?_;clear al z2 z3)
  refine D.r ?_
  rw[an]
  exact⟨_,rfl,.av (by rw[aZ.eq]; rfl) rfl,trivial,trivial⟩
 |cons d y=>
 have bw:=zi d
 simp only[List.length_cons]at oY a6
 have d5:(p:Int)+1<(s.length:Int):=by omega
 by_cases ad9:d.toNat=47
 rotate_left
 ·have Fy: ¬(d.toNat:Int)=47:=by omega
  rw[if_neg (by
   intro e
   simp only[List.take_succ_cons,List.take_zero,List.cons.injEq,and_true]at e
   exact ad9 (by rw[e.2]; rfl))]at an
  (have al:=d1;refine bQ ?_;clear al)
  (have al:=cD;have z2:=li;have z3:=mA;refine ji ?_;clear al z2 z3)
  (have al:=MV;have z2:=d4;have z3:=d5;refine ji ?_;clear al z2 z3)
  clear af
  have af:=aO.get
  (have al:=Fy;refine bQ ?_;clear al)
  refine D.r ?_
  rw[an]
  exact⟨_,rfl,.av (by rw[aZ.eq]; rfl) rfl,trivial,trivial⟩
 have d6:(d.toNat:Int)=47:=by omega
 have vY:d=47:=UInt8.toNat_inj.1 (by rw[ad9]; rfl)
 rw[if_pos (by rw[vW,vY]; rfl)]at an
 have xH:vG (c::d::y)=(y.dropWhile (·!=10)).tail:=by
  rw[vW,vY]
  rfl
 rw[xH]at an
 (have al:=d1;refine bQ ?_;clear al)
 (have al:=cD;have z2:=li;have z3:=mA;refine ji ?_;clear al z2 z3)
 (have al:=MV;have z2:=d4;have z3:=d5;refine ji ?_;clear al z2 z3)
 clear af
 have af:=aO.get
 (have al:=d6;refine bQ ?_;clear al)
 clear af
 have EE:=vg (·!=10) y
 refine aj.dd (X:=a7×Nat) (c::d::y,p) (fun z=>[(0,.str s),(1,.int .i64 (z.2:Int))]) (fun _=>[]) (fun _=>[]) (fun z=>fT s z.1 z.2∧z.1.dropWhile (·!=10)=y.dropWhile (·!=10)) (fun z=>z.1.length) ⟨aZ,by rw[vW,vY]; rfl⟩ ⟨rfl,rfl,trivial⟩ trivial trivial ?_
 rintro⟨z,q⟩ ⟨aB,hw⟩
 try simp only at aB hw ⊢
 have yy:=aB.1
 cases z with
 |nil=>
  simp only[List.length_nil]at yy
  rw[←hw]at an
  have d7: ¬(q:Int)<(s.length:Int):=by omega
  (have al:=d7;refine bQ ?_;clear al)
  refine aj.dK ([],q,n) ⟨aB,by simp only[List.length_nil]; omega,by rw[an]; simp [HG]⟩ ⟨rfl,rfl,trivial⟩ trivial trivial rfl rfl (by show 0<y.length+1+1; omega)
 |cons e z=>
 have af:=aB.get
 have he:=zi e
 have Fe:=aB.tail
 simp only[List.length_cons]at yy
 have d7:(q:Int)<(s.length:Int):=by omega
 by_cases rM:e=10
 ·have d8:(e.toNat:Int)=10:=by rw[rM]; rfl
  have Z2:y.dropWhile (·!=10)=e::z:=by
   rw[←hw,List.dropWhile_cons,if_neg (by rw[rM]; decide)]
  rw[Z2,List.tail_cons]at an
  rw[Z2,List.length_cons]at EE
  (have al:=d7;have z2:=d8;refine e8 ?_;clear al z2)
  refine aj.dK (e::z,q,n+1) ⟨aB,by simp only[List.length_cons]; omega,by rw[an,ko,if_pos (by rw[rM]; rfl)]⟩ ⟨rfl,rfl,trivial⟩ trivial trivial rfl rfl (by show z.length+1<y.length+1+1; omega)
 ·have d8: ¬(e.toNat:Int)=10:=fun h=>rM (UInt8.toNat_inj.1 (by show e.toNat=10; omega))
  rw[List.dropWhile_cons,if_pos (by simpa using rM)]at hw
  (have al:=d7;have z2:=d8;refine e8 ?_;clear al z2)
  refine aj.dK (z,q+1) ⟨Fe,hw⟩ ⟨rfl,by simp only[Int.natCast_add]; rfl,trivial⟩ trivial trivial rfl rfl (by show z.length<z.length+1; omega)
end
section
attribute [local go_sem] ba.row oC
theorem Gf (s:a7) (ap:s.length≤900000):Pure Tryz.prog 26 [.str s] (BH (pV s)):=by
 obtain⟨R,an⟩: ∃R,R=pV s:=⟨_,rfl⟩
 rw[←an]
 refine cF bN Tryz.func26 Dy rfl (by cases R<;>simp only[BH,I.flat,b3,oC,fP,Bool.and_self]) ?_
 unfold nm AE
 unfold pV at an
 simp(disch:=omega)only[go_sem,simprocAttr]
 by_cases j7:8000<s.length
 ·rw[if_pos j7]at an
  have d1:(8000:Int)<(s.length:Int):=by omega
  (have al:=d1;refine bQ ?_;clear al)
  refine D.r ?_
  rw[an]
  exact⟨_,rfl,.di (.cons .nil (.cons (.av rfl rfl) (.cons (.av rfl rfl) .nil))),trivial,trivial⟩
 rw[if_neg j7,uw]at an
 have d1: ¬(8000:Int)<(s.length:Int):=by omega
 have oh:=Af s s 0 (by omega) (fT.refl s)
 obtain⟨aL3,Mc⟩:=Cp (s.length+1) s
 obtain⟨BU,L2,EB,_⟩:=(fT.refl s).of Mc
 generalize ko (s.length+1) s=wo at*
 rw[L2]at oh
 clear L2 Mc
 (have al:=d1;refine pu ?_;clear al)
 refine D.P (oh) ?_
 refine yc ?_
 refine aj.rL 5 4 63 rfl (by decide) ?_
 simp(disch:=omega)only[go_sem,simprocAttr]
 refine D.cN true true ?_
 have oo:wo.length≤s.length:=by have:=EB.1; omega
 clear oh d1
 refine aj.dd (X:=List ba×a7×Nat×Nat) ([],wo,BU,s.length) (fun x=>[(0,.str s),(5,.own 0 4 (x.1.map ba.row)),(6,.int .i64 (x.2.2.1:Int))]) (fun _=>[]) (fun x=>[(0,.bJ 63 4 (x.1.map ba.row).length)]) (fun x=>fT s x.2.1 x.2.2.1∧x.1.length≤x.2.2.1∧x.2.1.length≤x.2.2.2∧R=lexB s.length x.2.2.2 x.1 x.2.1) (fun x=>x.2.1.length) ⟨EB,Nat.zero_le _,oo,an⟩ ⟨rfl,rfl,rfl,trivial⟩ trivial ⟨rfl,trivial⟩ ?_
 rintro⟨acc,y,p,n⟩ ⟨aZ,hb,a6,an⟩
 simp only at aZ hb a6 an ⊢
 clear EB oo
 have oY:=aZ.1
 cases y with
 |nil=>
  simp only[List.length_nil]at oY
  simp only[lexB]at an
  have d1: ¬(p:Int)<(s.length:Int):=by omega
  (have al:=d1;refine bQ ?_;clear al)
  refine D.r ?_
  rw[an]
  exact⟨_,rfl,.di (.cons (.av rfl (by simp only[I.flat,oC])) (.cons (.av rfl rfl) (.cons (.av rfl rfl) .nil))),trivial,trivial⟩
 |cons c y=>
 have xe:=aZ.2
 simp only[List.length_cons]at oY
 have d1:(p:Int)<(s.length:Int):=by omega
 simp only[lexB]at an
 rw[aZ.eq]at an
 have kj:=GS c y (by omega)
 obtain⟨T,c4⟩: ∃T,T=l9 (c::y):=⟨_,rfl⟩
 have ZW: ∀t r,T= .ok t r→∃d u,c::y=(d::u)++r:=fun t r h=>Sb (c4▸h)
 have Y8: ∀wR,T= .err wR→wR≠0:=fun wR h=>Sa (c4▸h)
 rw[←c4]at an kj
 clear c4
 (have al:=d1;refine bQ ?_;clear al)
 (apply ae.RU (p);(·simp(disch:=omega)only[go_sem,simprocAttr]<;>with_reducible rfl);(·simp(disch:=omega)only[go_sem,simprocAttr]<;>with_reducible rfl);(·omega);(·(try simp only[List.length_map]);omega))
 rw[xe]
 refine ao ?_
 cases T with
 |err wR=>
  simp only at an
  have d2: ¬wR=0:=Y8 wR rfl
  simp only[q4]at kj
  refine D.P (kj) ?_
  (have al:=d2;refine bQ ?_;clear al)
  refine D.r ?_
  rw[an]
  exact⟨_,rfl,.di (.cons .nil (.cons (.av rfl rfl) (.cons (.av rfl rfl) .nil))),trivial,trivial⟩
 |ok t r=>
  simp only at an
  obtain⟨d,u,hu⟩:=ZW t r rfl
  obtain⟨fR,pR,L5,yZ⟩:=aZ.of hu
  have oh:=Af s r fR (by omega) L5
  obtain⟨x5,Bx⟩:=Cp (r.length+1) r
  obtain⟨il,rW,ZM,oX⟩:=L5.of Bx
  have uq:r.length<(c::y).length:=by rw[hu]; simp only[List.length_append,List.length_cons]; omega
  rcases n with _|n
  ·simp at a6
  rw[uw]at an
  have Me:(ko (r.length+1) r).length≤r.length:=by have:=congrArg List.length Bx; rw[List.length_append]at this; omega
  generalize ko (r.length+1) r=po at*
  rw[rW]at oh
  obtain⟨t1,t2,t3,t4⟩:=t
  simp only[q4,ba.row]at kj
  obtain⟨k,aC⟩: ∃k,k=(c::y).length-r.length:=⟨_,rfl⟩
  rw[←aC]at kj
  have Je:p+k=fR:=by
   have:=congrArg List.length hu
   simp only[List.length_append]at this
   have J:=L5.1
   simp only[List.length_cons]at aC this
   omega
  have hw:IntKind.i64.wrap ((p:Int)+(k:Int))=(fR:Int):=by rw[wrap64 (by omega) (by omega)]; omega
  refine D.P (kj) ?_
  refine ao ?_
  refine D.gL ?_
  (have al:=hw;refine bQ ?_;clear al)
  refine D.P (oh) ?_
  refine ao ?_
  simp only[List.length_cons]at a6 uq yZ
  refine aj.gT (acc++[⟨t1,t2,t3,(p:Int)⟩],po,il,n) ⟨ZM,by simp only[List.length_append,List.length_cons,List.length_nil]; omega,by simp only; omega,an⟩ ⟨rfl,by simp only[List.map_append,List.map_cons,List.map_nil,ba.row]; rfl,rfl,trivial⟩ trivial ⟨by simp only[List.map_append,List.map_cons,List.map_nil,List.length_append]; rfl,trivial⟩ rfl (by simp only[fY,dr,dP,dV,fO,I.cR,b2.bJ,oC,go_sem]<;>rfl) (by show po.length<y.length+1; omega)
end
end Go.bc.T.N
namespace Go.bc
open Go Go.bc.T.N
def om (t:ba):Prop:=(∃s,t.c=dH s∧mx s=true)∨(∃n:Nat,t.c=kr (n:Int)∧n<1000000)∨(∃s,t.c=p6 s∧lM s=true)∨(∃s,t.c=cy s∧(s∈gO∨∃c∈qS,s=[c]))
theorem aE7: ∀(w:a7) (v:Nat),(∀c∈w,iY c=true)→∃n:Nat,pk w (v:Int)=(n:Int)∧n<(v+1)*10^w.length
 |[],v,_=>⟨v,rfl,by simp⟩
 |c::w,v,h=>by
  have bw:48≤(c.toNat:Int)∧(c.toNat:Int)≤57:=by
   have:=h c List.mem_cons_self
   simpa [iY,vc] using this
  obtain⟨n,J,aa⟩:=aE7 w (10*v+(c.toNat-48)) (fun d bw=>h d (List.mem_cons_of_mem _ bw))
  refine⟨n,?_,?_⟩
  ·rw[←J]
   simp only[pk]
   congr 1
   omega
  ·refine Nat.lt_of_lt_of_le aa ?_
   rw[List.length_cons,Nat.pow_succ]
   have:10*v+(c.toNat-48)+1≤(v+1)*10:=by omega
   calc (10*v+(c.toNat-48)+1)*10^w.length≤((v+1)*10)*10^w.length:=Nat.mul_le_mul_right _ this
    _=(v+1)*(10^w.length*10):=by rw[Nat.mul_assoc,Nat.mul_comm 10]
theorem UP: ∀(n:Nat) (b x t r:a7),x.length≤n→b.all eo=true→jE b x=some (t,r)→t.all eo=true
 |n,b,[],t,r,h,hb,e=>by simp only[jE]at e; cases e
 |0,b,c::x,t,r,h,hb,e=>by simp at h
 |n+1,b,c::x,t,r,h,hb,e=>by
  simp only[List.length_cons]at h
  rw[uc]at e
  split at e
  ·cases e; exact hb
  split at e
  ·cases x with
   |nil=>cases e
   |cons d y=>
    simp only[List.length_cons]at h
    simp only at e
    split at e
    ·rename_i bw
     refine UP n _ _ _ _ (by omega) ?_ e
     rw[List.all_append,hb]
     simp only[List.all_cons,List.all_nil,Bool.and_true,Bool.true_and,eo]
     rcases bw with bw|bw<;>simp [bw]
    ·cases e
  split at e
  ·cases e
  ·rename_i ah
   refine UP n _ _ _ _ (by omega) ?_ e
   rw[List.all_append,hb]
   simp only[List.all_cons,List.all_nil,Bool.and_true,Bool.true_and,eo]
   simp only[Bool.and_eq_true,decide_eq_true_eq]
   omega
theorem a16 {c:UInt8}{y:a7}{t:ba}{r:a7}(h:l9 (c::y)= .ok t r):om t:=by
 simp only[l9]at h
 split at h
 ·rename_i aH
  unfold vJ at h
  split at h
  ·cases h
  ·rename_i sD
   cases h
   refine .inl ⟨(c::y).takeWhile iO,rfl,?_⟩
   rw[List.takeWhile_cons,if_pos (ag8 aH)]at sD ⊢
   simp only[mx,Bool.and_eq_true,decide_eq_true_eq]
   refine⟨by omega,aH,List.all_eq_true.2 fun d bw=> ?_⟩
   rcases List.mem_cons.1 bw with rfl|bw
   ·exact ag8 aH
   ·exact ub iO bw
 split at h
 ·unfold vL zl at h
  split at h
  ·cases h
  split at h
  ·cases h
  ·rename_i cq
   cases h
   obtain⟨n,ar,ax⟩:=aE7 ((c::y).takeWhile iY) 0 (fun d bw=>ub iY bw)
   refine .inr (.inl ⟨n,by show ba.mk 2 [] (pk _ 0) 0= _; rw[show (0:Int)=((0:Nat):Int) from rfl,ar]; rfl,?_⟩)
   have j0:((c::y).takeWhile iY).length≤6:=by
    refine Nat.le_of_not_lt fun h=>cq (.inl h)
   have:10^((c::y).takeWhile iY).length≤10^6:=Nat.pow_le_pow_right (by decide) j0
   omega
 split at h
 ·rw[uo _ _ _ (Nat.le_refl _)]at h
  cases p5:jE [] y with
  |none=>rw[p5]at h; cases h
  |some p=>
   obtain⟨b,dn⟩:=p
   rw[p5]at h
   simp only[qP]at h
   split at h
   ·cases h
   ·rename_i Lf
    cases h
    refine .inr (.inr (.inl ⟨b,rfl,?_⟩))
    simp only[lM,Bool.and_eq_true,decide_eq_true_eq]
    exact⟨by omega,UP _ _ _ _ _ (Nat.le_refl _) rfl p5⟩
 ·unfold ux at h
  split at h
  ·rename_i hm
   cases h
   exact .inr (.inr (.inr ⟨_,rfl,.inl hm⟩))
  ·simp only at h
   split at h
   ·rename_i hm
    cases h
    exact .inr (.inr (.inr ⟨_,rfl,.inr ⟨c,hm,rfl⟩⟩))
   ·cases h
theorem am2 (N:Nat): ∀(n:Nat) (acc:List ba) (x:a7) (l:List ba),(∀t∈acc,om t)→qQ N n acc x= .ok l→∀t∈l,om t
 |0,acc,x,l,aP,h=>by simp only[qQ]at h; cases h; exact aP
 |n+1,acc,x,l,aP,h=>by
  rw[uw]at h
  cases aZ:ko (x.length+1) x with
  |nil=>rw[aZ]at h; simp only[lexB]at h; cases h; exact aP
  |cons c y=>
   rw[aZ]at h
   simp only[lexB]at h
   cases c4:l9 (c::y) with
   |err e=>rw[c4]at h; cases h
   |ok t r=>
    rw[c4]at h
    refine am2 N n _ _ _ ?_ h
    intro u hu
    rcases List.mem_append.1 hu with hu|hu
    ·exact aP u hu
    ·simp only[List.mem_singleton]at hu
     subst hu
     have bL:=a16 c4
     exact bL
theorem aX4 {s:a7}{l:List ba}(h:pV s= .ok l): ∀t∈l,om t:=by
 unfold pV at h
 split at h
 ·cases h
 ·exact am2 _ _ _ _ _ (fun t aO=>by cases aO) h
structure hS where
 l:List ba
 at':Int
 e:Int
section
variable (oB:Int)
def vV (S:hS):ba:=match S.l with
 |[]=>⟨0,[],0,oB⟩
 |t:: _=>t
def sg (e:Int) (S:hS):hS:=⟨[],if S.e=0 then (vV oB S).vj else S.at',if S.e=0 then e else S.e⟩
def hS.ds (S:hS):hS:=⟨S.l.tail,S.at',S.e⟩
def cX (s:a7) (S:hS):hS:=if eQ s S.l=true then S.ds else sg oB 3 S
def w2 (S:hS):a7:=match S.l with
 |[]=>[]
 |t:: _=>t.text
def CO (S:hS):Int:=match S.l with
 |[]=>0
 |t:: _=>t.val
def ju (S:hS):a7×hS:=if nP S.l=true then (w2 S,S.ds) else ([],sg oB 3 S)
def jL (cz ai:Int) (S:hS):Int×hS:=if qN 2 S.l=true then (if CO S<cz∨ai<CO S then (0,sg oB 2 S) else (CO S,S.ds)) else (0,sg oB 3 S)
def ks (S:hS):Int×hS:=if eQ [45] S.l=true then (-(jL oB 0 999999 S.ds).1,(jL oB 0 999999 S.ds).2) else jL oB 0 999999 S
def AK:Nat→a7→hS→Option (a7×hS)
 |0,_,_=>none
 |n+1,s,S=>if eQ [46] S.l=true then AK n (s++([46]++(ju oB S.ds).1)) (ju oB S.ds).2 else some (s,S)
def KU (n:Nat) (S:hS):Option (a7×hS):=AK oB n (ju oB S).1 (ju oB S).2
mutual
def D0:Nat→hS→Option (ad×hS)
 |0,_=>none
 |n+1,S=>
  if qN 2 S.l=true then some (.mk 1 [] [] [] (jL oB 0 1000 S).1 [],(jL oB 0 1000 S).2)
  else if qN 3 S.l=true then some (.mk 2 [] [] (w2 S) 0 [],S.ds)
  else if eQ [108,101,110] S.l=true then (wk n 1 (cX oB [40] S.ds)).bind fun q=>some (.mk 4 [] [] [] 0 [q.1],cX oB [41] q.2)
  else if eQ [40] S.l=true then (wk n 1 S.ds).bind fun q=>some (q.1,cX oB [41] q.2)
  else if eQ [45] S.l=true then (D0 n S.ds).bind fun q=>some (.mk 5 [45] [] [] 0 [q.1],q.2)
  else if eQ [33] S.l=true then (D0 n S.ds).bind fun q=>some (.mk 5 [33] [] [] 0 [q.1],q.2)
  else some (.mk 3 [] (ju oB S).1 [] 0 [],(ju oB S).2)
def wk:Nat→Int→hS→Option (ad×hS)
 |0,_,_=>none
 |n+1,k,S=>(D0 n S).bind fun q=>AJ n k q.1 q.2
def AJ:Nat→Int→ad→hS→Option (ad×hS)
 |0,_,_,_=>none
 |n+1,k,x,S=>if qN 4 S.l=true then (if cV (w2 S)<k then some (x,S) else (wk n (cV (w2 S)+1) S.ds).bind fun q=>AJ n k (.mk 6 (w2 S) [] [] 0 [x,q.1]) q.2) else some (x,S)
end
mutual
def vf:Nat→hS→Option (List ac×hS)
 |0,_=>none
 |n+1,S=>z7 n [] (cX oB [123] S)
def z7:Nat→List ac→hS→Option (List ac×hS)
 |0,_,_=>none
 |n+1,acc,S=>if S.e=0 then (if eQ [125] S.l=true then some (acc,S.ds) else (I9 n S).bind fun q=>z7 n (acc++[q.1]) q.2) else some (acc,S)
def I9:Nat→hS→Option (ac×hS)
 |0,_=>none
 |n+1,S=>if eQ [105,102] S.l=true then DL n S.ds
  else if eQ [119,104,105,108,101] S.l=true then (wk oB n 1 S.ds).bind fun q=>(vf n (jL oB 1 50 (cX oB [116,105,109,101,115] q.2)).2).bind fun b=>some (.mk 3 [] q.1 (jL oB 1 50 (cX oB [116,105,109,101,115] q.2)).1 b.1 [],b.2)
  else (wk oB n 1 (cX oB [61] (ju oB S).2)).bind fun q=>some (.mk 1 (ju oB S).1 q.1 0 [] [],cX oB [59] q.2)
def DL:Nat→hS→Option (ac×hS)
 |0,_=>none
 |n+1,S=>(wk oB n 1 S).bind fun q=>(vf n q.2).bind fun b=>
  if eQ [101,108,115,101] b.2.l=true then
   (if eQ [105,102] b.2.ds.l=true then (DL n b.2.ds.ds).bind fun y=>some (.mk 2 [] q.1 0 b.1 [y.1],y.2)
   else (vf n b.2.ds).bind fun c=>some (.mk 2 [] q.1 0 b.1 c.1,c.2))
  else some (.mk 2 [] q.1 0 b.1 [],b.2)
end
def y7 (S:hS):(Int×Int×Int)×hS:=
 if eQ [116,101,120,116] S.l=true then ((2,(jL oB 0 999999 S.ds).1,(jL oB 0 999999 (cX oB [46,46] (jL oB 0 999999 S.ds).2)).1),(jL oB 0 999999 (cX oB [46,46] (jL oB 0 999999 S.ds).2)).2)
 else ((1,(ks oB (cX oB [105,110,116] S)).1,(ks oB (cX oB [46,46] (ks oB (cX oB [105,110,116] S)).2)).1),(ks oB (cX oB [46,46] (ks oB (cX oB [105,110,116] S)).2)).2)
def vi (S:hS):(Int×Int×a7)×hS:=if qN 3 S.l=true then ((2,0,w2 S),S.ds) else ((1,(ks oB S).1,[]),(ks oB S).2)
def Ft (w:a7) (s:Int×Int×Int) (i:Int×Int×a7):cb:=⟨w,s.1,s.2.1,s.2.2,i.1,i.2.1,i.2.2⟩
def Ja (S:hS):cb×hS:=
 (Ft (ju oB S).1 (y7 oB (cX oB [58] (ju oB S).2)).1 (vi oB (cX oB [61] (y7 oB (cX oB [58] (ju oB S).2)).2)).1,cX oB [59] (vi oB (cX oB [61] (y7 oB (cX oB [58] (ju oB S).2)).2)).2)
def Ew:Nat→List a7→hS→Option (List a7×hS)
 |0,_,_=>none
 |n+1,acc,S=>if eQ [44] S.l=true then Ew n (acc++[(ju oB S.ds).1]) (ju oB S.ds).2 else some (acc,S)
def Of (n:Nat) (S:hS):Option (List a7×hS):=if eQ [41] S.l=true then some ([],S.ds) else (Ew oB n [(ju oB S).1] (ju oB S).2).bind fun q=>some (q.1,cX oB [41] q.2)
def J2 (n:Nat) (S:hS):Option (cd×hS):=
 (KU oB n S).bind fun m=>(Of oB n (cX oB [40] m.2)).bind fun ps=>(vf oB n (ju oB (cX oB [102,114,111,109] ps.2)).2).bind fun b=>some (⟨m.1,(ju oB (cX oB [102,114,111,109] ps.2)).1,ps.1,b.1⟩,b.2)
def Ed:Nat→List ad→hS→Option (List ad×hS)
 |0,_,_=>none
 |n+1,acc,S=>if eQ [44] S.l=true then (wk oB n 1 S.ds).bind fun q=>Ed n (acc++[q.1]) q.2 else some (acc,S)
def Oc (n:Nat) (S:hS):Option (List ad×hS):=if eQ [41] S.l=true then some ([],S.ds) else (wk oB n 1 S).bind fun x=>(Ed oB n [x.1] x.2).bind fun q=>some (q.1,cX oB [41] q.2)
def Jc (n:Nat) (S:hS):Option (List ad×hS):=if eQ [119,104,101,114,101] S.l=true then (wk oB n 1 S.ds).bind fun q=>some ([q.1],q.2) else some ([],S)
def J7 (n:Nat) (S:hS):Option (ca×hS):=
 (KU oB n S).bind fun m=>(Oc oB n (cX oB [40] m.2)).bind fun a=>(Jc oB n (ju oB (cX oB [116,111] a.2)).2).bind fun w=>some (⟨m.1,(ju oB (cX oB [116,111] a.2)).1,a.1,w.1⟩,cX oB [59] w.2)
def zd:Nat→List cb→hS→Option (List cb×hS)
 |0,_,_=>none
 |n+1,acc,S=>if eQ [118,97,114] S.l=true then zd n (acc++[(Ja oB S.ds).1]) (Ja oB S.ds).2 else some (acc,S)
def so (n:Nat):Nat→List cd→List ca→hS→Option ((List cd×List ca)×hS)
 |0,_,_,_=>none
 |m+1,ap,os,S=>if S.e=0 then (if eQ [125] S.l=true then some ((ap,os),S.ds)
  else if eQ [111,110] S.l=true then (J2 oB n S.ds).bind fun h=>so n m (ap++[h.1]) os h.2
  else if eQ [111,102,102,101,114] S.l=true then (J7 oB n S.ds).bind fun o=>so n m ap (os++[o.1]) o.2
  else so n m ap os (sg oB 3 S)) else some ((ap,os),S)
end
section
variable (en:Int)
def okV (t:ba):Prop:=0≤t.val∧t.val≤999999
abbrev ra (l:List ba):hS:=⟨l,0,0⟩
abbrev s9 (p e:Int):hS:=⟨[],p,e⟩
def J9 {α:Type}:dL α→Option (α×hS)→Prop
 | .ok a r,o=>(∀t∈r,okV t)∧o=some (a,ra r)
 | .err p e,o=>e≠0∧∃a,o=some (a,s9 p e)
 | .out,_=>True
def K {α:Type}(f:List ba→dL α) (g:hS→Option (α×hS)):Prop:=(∀l,(∀t∈l,okV t)→J9 (f l) (g (ra l)))∧∀p e,e≠0→∃a,g (s9 p e)=some (a,s9 p e)
def Ok {α:Type}(b:List ba→Bool) (f:List ba→dL α) (g:hS→Option (α×hS)):Prop:=∀t l,b (t::l)=true→(∀u∈t::l,okV u)→J9 (f (t::l)) (g (ra (t::l)))
variable {en}
theorem K.tail {α:Type}{f:List ba→dL α}{g:hS→Option (α×hS)}(h:K f g){b:List ba→Bool}:Ok b (fun l=>f l.tail) (fun S=>g S.ds):=fun t l _ af=>h.1 l fun u hu=>af u (List.mem_cons_of_mem _ hu)
theorem K.ret {α:Type}(a:α):K (fun l=> .ok a l) (fun S=>some (a,S)):=⟨fun l af=>⟨af,rfl⟩,fun p e _=>⟨a,rfl⟩⟩
theorem J9.bind {α β:Type}{R:dL α}{o:Option (α×hS)}{F:α→List ba→dL β}{H:α→hS→Option (β×hS)}(h:J9 R o) (eC: ∀a,K (F a) (H a)):J9 (R.bind F) (o.bind fun q=>H q.1 q.2):=by
 cases R with
 |out=>exact trivial
 |ok a r=>
  obtain⟨J,aa⟩:=h
  rw[aa]
  exact (eC a).1 r J
 |err p e=>
  obtain⟨J,a,aa⟩:=h
  rw[aa]
  obtain⟨b,hb⟩:=(eC a).2 p e J
  exact⟨J,b,hb⟩
theorem K.bind {α β:Type}{f:List ba→dL α}{g:hS→Option (α×hS)}{F:α→List ba→dL β}{H:α→hS→Option (β×hS)}(h:K f g) (eC: ∀a,K (F a) (H a)):K (fun l=>(f l).bind (F)) (fun S=>(g S).bind fun q=>H q.1 q.2):=by
 refine⟨fun l af=>(h.1 l af).bind eC,fun p e he=> ?_⟩
 obtain⟨a,aP⟩:=h.2 p e he
 obtain⟨b,hb⟩:=(eC a).2 p e he
 exact⟨b,by simp only[aP,Option.bind_some,hb]⟩
theorem K.cond {α:Type}{b:List ba→Bool}(aw:b []=false){f q0:List ba→dL α}{g g':hS→Option (α×hS)}(J:Ok b f g) (aa:K q0 g'):K (fun l=>if b l=true then f l else q0 l) (fun S=>if b S.l=true then g S else g' S):=by
 refine⟨fun l af=> ?_,fun p e he=> ?_⟩
 ·cases l with
  |nil=>
   simp only[aw]
   exact aa.1 [] af
  |cons t l=>
   show J9 (if b (t::l)=true then _ else _) (if b (t::l)=true then _ else _)
   split
   ·rename_i hb
    exact J t l hb af
   ·exact aa.1 _ af
 ·obtain⟨a,aP⟩:=aa.2 p e he
  exact⟨a,by simp only[aw]; exact aP⟩
theorem K.of {α:Type}{f f0:List ba→dL α}{g g0:hS→Option (α×hS)}(h: ∀l,f l=f0 l) (ij: ∀S,g S=g0 S) (k:K f0 g0):K f g:=⟨fun l af=>by rw[h,ij]; exact k.1 l af,fun p e he=>by obtain⟨a,aP⟩:=k.2 p e he; exact⟨a,by rw[ij,aP]⟩⟩
theorem DE (e:Int){p cC:Int}(h:cC≠0):sg en e (s9 p cC)=s9 p cC:=by
 simp only[sg,if_neg h]
theorem J1 (e:Int) (l:List ba):sg en e (ra l)=s9 (yD en l) e:=by
 simp only[sg,if_true,vV]
 cases l<;>rfl
theorem Hu (s:a7):K (gm en s) (fun S=>some ((),cX en s S)):=by
 refine⟨fun l af=> ?_,fun p e he=>⟨(),by simp only[cX,eQ,Bool.false_eq_true,if_false,DE 3 he]⟩⟩
 dsimp only
 unfold gm cX
 by_cases ap:eQ s l=true
 rotate_left
 ·rw[if_neg ap,if_neg (show ¬eQ s (ra l).l=true from ap),J1]
  exact⟨by decide,(),rfl⟩
 ·rw[if_pos ap,if_pos (show eQ s (ra l).l=true from ap)]
  exact⟨fun t aO=>af t (List.mem_of_mem_tail aO),rfl⟩
theorem N3:K (jO en) (fun S=>some (ju en S)):=by
 refine⟨fun l af=> ?_,fun p e he=>⟨[],by simp only[ju,nP,Bool.false_eq_true,if_false,DE 3 he]⟩⟩
 dsimp only
 unfold jO ju
 cases l with
 |nil=>exact⟨by decide,[],by rw[if_neg (by simp [nP]),J1]⟩
 |cons t l=>
  cases h:nP (t::l) with
  |false=>
   rw[if_neg (by decide),if_neg (by decide),J1]
   exact⟨by decide,[],rfl⟩
  |true=>
   rw[if_pos rfl,if_pos rfl]
   have aC:t.kind=1:=by simp only[nP,Bool.and_eq_true,decide_eq_true_eq]at h; exact h.1
   rw[jN]
   simp only[if_pos aC,dL.bind]
   exact⟨fun u hu=>af u (List.mem_cons_of_mem _ hu),rfl⟩
theorem Up {cz ai:Int}{t:ba}{l:List ba}(k:t.kind=2) (h: ¬(t.val<cz∨ai<t.val)):jL en cz ai (ra (t::l))=(t.val,ra l):=by
 unfold jL
 rw[if_pos (show qN 2 (ra (t::l)).l=true from by simp [qN,k]),if_neg (show ¬(CO (ra (t::l))<cz∨ai<CO (ra (t::l))) from h)]
 rfl
theorem aD5 {cz ai:Int}{t:ba}{l:List ba}(k:t.kind=2) (h:t.val<cz∨ai<t.val):jL en cz ai (ra (t::l))=(0,s9 t.vj 2):=by
 unfold jL
 rw[if_pos (show qN 2 (ra (t::l)).l=true from by simp [qN,k]),if_pos (show (CO (ra (t::l))<cz∨ai<CO (ra (t::l))) from h),J1]
 rfl
theorem QC {cz ai:Int}{l:List ba}(k:qN 2 l=false):jL en cz ai (ra l)=(0,s9 (yD en l) 3):=by
 unfold jL
 rw[if_neg (show ¬qN 2 (ra l).l=true from by rw[show qN 2 (ra l).l=qN 2 l from rfl,k]; decide),J1]
theorem SE {α:Type}(F:Int→α):K (fun l=>(jN en 2 l).bind fun t r=> .ok (F t.val) r) (fun S=>some (F (jL en 0 999999 S).1,(jL en 0 999999 S).2)):=by
 refine⟨fun l af=> ?_,fun p e he=>⟨F 0,by simp only[jL,qN,Bool.false_eq_true,if_false,DE 3 he]⟩⟩
 dsimp only
 cases l with
 |nil=>
  rw[QC rfl]
  exact⟨by decide,_,rfl⟩
 |cons t l=>
  obtain⟨v0,v1⟩:=af t List.mem_cons_self
  simp only[jN]
  by_cases h:t.kind=2
  ·rw[if_pos h,Up h (by omega)]
   exact⟨fun u hu=>af u (List.mem_cons_of_mem _ hu),rfl⟩
  ·rw[if_neg h,QC (by simp [qN,h])]
   exact⟨by decide,_,rfl⟩
theorem aY3 {α:Type}(F:Int→α):K (fun l=>(mD en l).bind fun a r=> .ok (F a) r) (fun S=>some (F (ks en S).1,(ks en S).2)):=by
 have hw: ∀l:List ba,(∀t∈l,okV t)→(jN en 2 l).bind (fun t r=>(dL.ok (IntKind.i64.wrap (0-t.val)) r:dL Int))=(jN en 2 l).bind fun t r=> .ok (-t.val) r:=by
  intro l af
  cases l with
  |nil=>rfl
  |cons t l=>
   obtain⟨v0,v1⟩:=af t List.mem_cons_self
   simp only[jN]
   split
   ·simp only[dL.bind]
    rw[wrap64 (by omega) (by omega)]
    congr 1
    omega
   ·rfl
 refine⟨fun l af=> ?_,fun p e he=>⟨F 0,by simp only[ks,eQ,Bool.false_eq_true,if_false,jL,qN,DE 3 he]⟩⟩
 dsimp only
 unfold mD ks
 cases h:eQ [45] l with
 |true=>
  rw[if_pos rfl,if_pos rfl]
  have ZY: ∀t∈l.tail,okV t:=fun t aO=>af t (List.mem_of_mem_tail aO)
  rw[hw _ ZY]
  have:=(SE (en:=en) fun v=>F (-v)).1 l.tail ZY
  have e:((jN en 2 l.tail).bind fun t r=>(dL.ok (-t.val) r:dL Int)).bind (fun a r=> .ok (F a) r)=(jN en 2 l.tail).bind fun t r=> .ok (F (-t.val)) r:=by
   cases jN en 2 l.tail<;>rfl
  rw[e]
  exact this
 |false=>
  rw[if_neg (by decide),if_neg (by decide)]
  have:=(SE (en:=en) F).1 l af
  have e:((jN en 2 l).bind fun t r=>(dL.ok t.val r:dL Int)).bind (fun a r=> .ok (F a) r)=(jN en 2 l).bind fun t r=> .ok (F t.val) r:=by
   cases jN en 2 l<;>rfl
  rw[e]
  exact this
theorem an0: ∀(n:Nat) (s:a7),K (l6 en n s) (AK en (n+4) s)
 |0,s=>⟨fun l af=>trivial,fun p e he=>⟨s,by rw[AK,if_neg (by simp [eQ])]⟩⟩
 |n+1,s=>K.of (fun l=>rfl) (fun S=>by rw[show n+1+4=(n+4)+1 from rfl,AK]; rfl) (K.cond (b:=eQ [46]) rfl (K.bind (H:=fun w=>AK en (n+4) (s++([46]++w))) N3 fun w=>an0 n _).tail (K.ret s))
theorem an1 (n:Nat):K (nU en n) (KU en (n+4)):=K.bind (H:=fun w=>AK en (n+4) w) N3 fun w=>an0 n w
theorem aY6 (n:Nat) (l:List ba):ht en (n+1) l=
  if qN 2 l=true then (if u7 l=true then .err (yD en l) 2 else (jN en 2 l).bind fun t r=> .ok (.mk 1 [] [] [] t.val []) r)
  else if qN 3 l=true then (jN en 3 l).bind fun t r=> .ok (.mk 2 [] [] t.text 0 []) r
  else if eQ [108,101,110] l=true then (gm en [40] l.tail).bind fun _ r=>(gY en n 1 r).bind fun x r=>(gm en [41] r).bind fun _ r=> .ok (.mk 4 [] [] [] 0 [x]) r
  else if eQ [40] l=true then (gY en n 1 l.tail).bind fun x r=>(gm en [41] r).bind fun _ r=> .ok x r
  else if eQ [45] l=true then (ht en n l.tail).bind fun x r=> .ok (.mk 5 [45] [] [] 0 [x]) r
  else if eQ [33] l=true then (ht en n l.tail).bind fun x r=> .ok (.mk 5 [33] [] [] 0 [x]) r
  else (jO en l).bind fun w r=> .ok (.mk 3 [] w [] 0 []) r:=by
 rw[ht]
 cases l with
 |nil=>rfl
 |cons t l=>
  by_cases bA:t.kind=2
  ·have a: ∀s,eQ s (t::l)=false:=fun s=>by simp [eQ,bA]
   have b:nP (t::l)=false:=by simp [nP,bA]
   have c:qN 3 (t::l)=false:=by simp [qN,bA]
   have d:qN 2 (t::l)=true:=by simp [qN,bA]
   simp only[a,b,c,d,Bool.false_eq_true,if_false,if_true]
  by_cases cO:t.kind=3
  ·have a: ∀s,eQ s (t::l)=false:=fun s=>by simp [eQ,cO]
   have b:nP (t::l)=false:=by simp [nP,cO]
   have c:qN 3 (t::l)=true:=by simp [qN,cO]
   have d:qN 2 (t::l)=false:=by simp [qN,cO]
   simp only[a,b,c,d,Bool.false_eq_true,if_false,if_true]
  have c:qN 3 (t::l)=false:=by simp [qN,cO]
  have d:qN 2 (t::l)=false:=by simp [qN,bA]
  have f:u7 (t::l)=false:=by simp [u7,bA]
  have g:(jN en 2 (t::l)).bind (fun t r=>(dL.ok (.mk 1 [] [] [] t.val []) r:dL ad))= .err t.vj 3:=by
   rw[jN]
   simp only[if_neg bA,dL.bind]
  simp only[c,d,f,g,Bool.false_eq_true,if_false]
  have h:(if nP (t::l)=true then (jO en (t::l)).bind fun w r=>(dL.ok (.mk 3 [] w [] 0 []) r:dL ad) else .err t.vj 3)=(jO en (t::l)).bind fun w r=> .ok (.mk 3 [] w [] 0 []) r:=by
   cases hw:nP (t::l) with
   |true=>simp only[if_true]
   |false=>
    simp only[Bool.false_eq_true,if_false,jO,hw,dL.bind,yD]
  rw[h]
  by_cases ar:t.text=[40]
  ·have:eQ [108,101,110] (t::l)=false:=by simp [eQ,ar]
   simp only[this,Bool.false_eq_true,if_false]
  ·have:eQ [40] (t::l)=false:=by simp [eQ,ar]
   simp only[this,Bool.false_eq_true,if_false]
theorem KN: ∀n,K (ht en n) (D0 en (n+4))∧(∀k,K (gY en n k) (wk en (n+4) k))∧(∀k x,K (jw en n k x) (AJ en (n+4) k x))
 |0=>by
  have D3: ∀n p e,e≠0→∃a,D0 en (n+1) (s9 p e)=some (a,s9 p e):=fun n p e he=>⟨.mk 3 [] [] [] 0 [],by
   rw[D0]
   simp only[qN,eQ,Bool.false_eq_true,if_false,ju,nP,DE 3 he]⟩
  have ek: ∀n k x p e,AJ en (n+1) k x (s9 p e)=some (x,s9 p e):=fun n k x p e=>by
   rw[AJ]
   simp only[qN,Bool.false_eq_true,if_false]
  refine⟨⟨fun l af=>by rw[ht]; trivial,fun p e he=>D3 3 p e he⟩,fun k=>⟨fun l af=>by rw[gY]; trivial,fun p e he=> ?_⟩,fun k x=>⟨fun l af=>by rw[jw]; trivial,fun p e he=>⟨x,ek 3 k x p e⟩⟩⟩
  obtain⟨a,aP⟩:=D3 2 p e he
  exact⟨a,by rw[wk,aP,Option.bind_some,ek]⟩
 |n+1=>by
  obtain⟨J,aa,au⟩:=KN n
  refine⟨?_,fun k=> ?_,fun k x=> ?_⟩
  ·refine K.of (fun l=>aY6 n l) (fun S=>by rw[show n+1+4=(n+4)+1 from rfl,D0]) ?_
   refine K.cond (b:=qN 2) rfl ?_ (K.cond (b:=qN 3) rfl ?_ (K.cond (b:=eQ [108,101,110]) rfl ?_ (K.cond (b:=eQ [40]) rfl ?_ (K.cond (b:=eQ [45]) rfl ?_ (K.cond (b:=eQ [33]) rfl ?_ ?_)))))
   ·intro t l hb af
    obtain⟨v0,v1⟩:=af t List.mem_cons_self
    have bA:t.kind=2:=by simpa [qN] using hb
    dsimp only
    by_cases c:1000<t.val
    ·rw[if_pos (show u7 (t::l)=true by simp [u7,bA,c]),aD5 bA (.inr c)]
     exact⟨by decide,_,rfl⟩
    ·rw[if_neg (show ¬u7 (t::l)=true by simp [u7,bA]; omega),Up bA (by omega)]
     simp only[jN,if_pos bA]
     exact⟨fun u hu=>af u (List.mem_cons_of_mem _ hu),rfl⟩
   ·intro t l hb af
    have cO:t.kind=3:=by simpa [qN] using hb
    simp only[jN,w2]
    rw[if_pos cO]
    exact⟨fun u hu=>af u (List.mem_cons_of_mem _ hu),rfl⟩
   ·exact (K.bind (H:=fun _ S=>(wk en (n+4) 1 S).bind fun q=>some (ad.mk 4 [] [] [] 0 [q.1],cX en [41] q.2)) (Hu [40]) fun _=>K.bind (H:=fun x S=>some (ad.mk 4 [] [] [] 0 [x],cX en [41] S)) (aa 1) fun x=>K.bind (H:=fun _ S=>some (ad.mk 4 [] [] [] 0 [x],S)) (Hu [41]) fun _=>K.ret _).tail
   ·exact (K.bind (H:=fun x S=>some (x,cX en [41] S)) (aa 1) fun x=>K.bind (H:=fun _ S=>some (x,S)) (Hu [41]) fun _=>K.ret _).tail
   ·exact (K.bind (H:=fun x S=>some (ad.mk 5 [45] [] [] 0 [x],S)) J fun x=>K.ret _).tail
   ·exact (K.bind (H:=fun x S=>some (ad.mk 5 [33] [] [] 0 [x],S)) J fun x=>K.ret _).tail
   ·exact K.bind (H:=fun w S=>some (ad.mk 3 [] w [] 0 [],S)) N3 fun w=>K.ret _
  ·exact K.of (fun l=>by rw[gY]) (fun S=>by rw[show n+1+4=(n+4)+1 from rfl,wk]) (K.bind (H:=fun x S=>AJ en (n+4) k x S) J fun x=>au k x)
  ·refine⟨fun l af=> ?_,fun p e he=>⟨x,by rw[show n+1+4=(n+4)+1 from rfl,AJ]; simp only[qN,Bool.false_eq_true,if_false]⟩⟩
   rw[show n+1+4=(n+4)+1 from rfl,AJ]
   cases l with
   |nil=>rw[jw]; exact⟨af,rfl⟩
   |cons t l=>
    rw[jw]
    dsimp only
    by_cases c1:t.kind=4
    ·rw[if_pos c1,if_pos (show qN 4 (ra (t::l)).l=true by simp [qN,c1])]
     by_cases c2:cV t.text<k
     ·rw[if_pos c2,if_pos (show cV (w2 (ra (t::l)))<k from c2)]
      exact⟨af,rfl⟩
     ·rw[if_neg c2,if_neg (show ¬cV (w2 (ra (t::l)))<k from c2)]
      exact ((aa (cV t.text+1)).1 l fun u hu=>af u (List.mem_cons_of_mem _ hu)).bind (H:=fun y S=>AJ en (n+4) k (.mk 6 t.text [] [] 0 [x,y]) S) fun y=>au k _
    ·rw[if_neg c1,if_neg (show ¬qN 4 (ra (t::l)).l=true by simp [qN,c1])]
     exact⟨af,rfl⟩
theorem an5: ∀n,K (iP en n) (vf en (n+4))∧(∀acc,K (jK en n acc) (z7 en (n+4) acc))∧K (je en n) (I9 en (n+4))∧K (iQ en n) (DL en (n+4))
 |0=>by
  have dc:=fun (n:Nat) (p e:Int) (he:e≠0)=>((KN (en:=en) n).2.1 1).2 p e he
  have ek: ∀n acc p e,e≠0→z7 en (n+1) acc (s9 p e)=some (acc,s9 p e):=fun n acc p e he=>by rw[z7,if_neg he]
  have dX: ∀n p e,e≠0→vf en (n+2) (s9 p e)=some ([],s9 p e):=fun n p e he=>by
   rw[vf,cX]
   simp only[eQ,Bool.false_eq_true,if_false,DE 3 he]
   exact ek n [] p e he
  have ab: ∀k p e,e≠0→∃a,wk en (k+2) 1 (s9 p e)=some (a,s9 p e):=fun k p e he=>⟨.mk 3 [] [] [] 0 [],by
   rw[wk,D0]
   simp only[qN,eQ,Bool.false_eq_true,if_false,ju,nP,DE 3 he,Option.bind_some]
   rw[AJ]
   simp only[qN,Bool.false_eq_true,if_false]⟩
  refine⟨⟨fun l af=>by rw[iP]; trivial,fun p e he=>⟨[],dX 2 p e he⟩⟩,fun acc=>⟨fun l af=>by rw[jK]; trivial,fun p e he=>⟨acc,ek 3 acc p e he⟩⟩,⟨fun l af=>by rw[je]; trivial,fun p e he=> ?_⟩,⟨fun l af=>by rw[iQ]; trivial,fun p e he=> ?_⟩⟩
  ·obtain⟨a,aP⟩:=ab 1 p e he
   refine⟨.mk 1 [] a 0 [] [],?_⟩
   rw[I9]
   simp only[eQ,Bool.false_eq_true,if_false,ju,nP,DE 3 he,cX]
   rw[aP,Option.bind_some]
   show some (ac.mk 1 [] a 0 [] [],sg en 3 (s9 p e))= _
   rw[DE 3 he]
  ·obtain⟨a,aP⟩:=ab 1 p e he
   refine⟨.mk 2 [] a 0 [] [],?_⟩
   rw[DL,aP,Option.bind_some,dX 1 p e he,Option.bind_some]
   simp only[eQ,Bool.false_eq_true,if_false]
 |n+1=>by
  obtain⟨J,aa,au,bn⟩:=an5 n
  have dc:=(KN (en:=en) n).2.1 1
  refine⟨?_,fun acc=> ?_,?_,?_⟩
  ·exact K.of (fun l=>by rw[iP]) (fun S=>by rw[show n+1+4=(n+4)+1 from rfl,vf]; rfl) (K.bind (H:=fun _ S=>z7 en (n+4) [] S) (Hu [123]) fun _=>aa [])
  ·refine⟨fun l af=> ?_,fun p e he=>⟨acc,by rw[show n+1+4=(n+4)+1 from rfl,z7,if_neg he]⟩⟩
   have aC:K (fun l=>if eQ [125] l=true then .ok acc l.tail else (je en n l).bind fun x r=>jK en n (acc++[x]) r) (fun S=>if eQ [125] S.l=true then some (acc,S.ds) else (I9 en (n+4) S).bind fun q=>z7 en (n+4) (acc++[q.1]) q.2):=K.cond (b:=eQ [125]) rfl (K.ret acc).tail (K.bind (H:=fun x S=>z7 en (n+4) (acc++[x]) S) au fun x=>aa _)
   rw[jK,show n+1+4=(n+4)+1 from rfl,z7,if_pos rfl]
   exact aC.1 l af
  ·refine K.of (fun l=>by rw[je]) (fun S=>by rw[show n+1+4=(n+4)+1 from rfl,I9]) ?_
   refine K.cond (b:=eQ [105,102]) rfl bn.tail (K.cond (b:=eQ [119,104,105,108,101]) rfl ?_ ?_)
   ·refine (K.bind (H:=fun x S=>(vf en (n+4) (jL en 1 50 (cX en [116,105,109,101,115] S)).2).bind fun b=>some (ac.mk 3 [] x (jL en 1 50 (cX en [116,105,109,101,115] S)).1 b.1 [],b.2)) dc fun x=>K.bind (H:=fun _ S=>(vf en (n+4) (jL en 1 50 S).2).bind fun b=>some (ac.mk 3 [] x (jL en 1 50 S).1 b.1 [],b.2)) (Hu [116,105,109,101,115]) fun _=> ?_).tail
    have hb:=fun t=>K.bind (F:=fun b r=>dL.ok (ac.mk 3 [] x t b []) r) (H:=fun b S=>some (ac.mk 3 [] x t b [],S)) J fun b=>K.ret _
    refine⟨fun l af=> ?_,fun p e he=> ?_⟩
    ·dsimp only
     cases l with
     |nil=>
      rw[QC rfl,if_neg (by simp [u6])]
      obtain⟨a,aP⟩:=(hb 0).2 (yD en []) 3 (by decide)
      exact⟨by decide,a,aP⟩
     |cons t l=>
      by_cases bA:t.kind=2
      ·by_cases c:t.val<1∨50<t.val
       ·rw[if_pos (by simp [u6,bA,c]),aD5 bA c]
        obtain⟨a,aP⟩:=(hb 0).2 t.vj 2 (by decide)
        exact⟨by decide,a,aP⟩
       ·rw[if_neg (by simp [u6,bA]; omega),Up bA c]
        simp only[jN,if_pos bA,dL.bind]
        exact (hb t.val).1 l fun u hu=>af u (List.mem_cons_of_mem _ hu)
      ·rw[if_neg (by simp [u6,bA]),QC (by simp [qN,bA])]
       simp only[jN,if_neg bA,dL.bind]
       obtain⟨a,aP⟩:=(hb 0).2 t.vj 3 (by decide)
       exact⟨by decide,a,aP⟩
    ·dsimp only
     simp only[jL,qN,Bool.false_eq_true,if_false,DE 3 he]
     exact (hb 0).2 p e he
   ·exact K.bind (H:=fun w S=>(wk en (n+4) 1 (cX en [61] S)).bind fun q=>some (ac.mk 1 w q.1 0 [] [],cX en [59] q.2)) N3 fun w=>K.bind (H:=fun _ S=>(wk en (n+4) 1 S).bind fun q=>some (ac.mk 1 w q.1 0 [] [],cX en [59] q.2)) (Hu [61]) fun _=>K.bind (H:=fun x S=>some (ac.mk 1 w x 0 [] [],cX en [59] S)) dc fun x=>K.bind (H:=fun _ S=>some (ac.mk 1 w x 0 [] [],S)) (Hu [59]) fun _=>K.ret _
  ·refine K.of (fun l=>by rw[iQ]) (fun S=>by rw[show n+1+4=(n+4)+1 from rfl,DL]) ?_
   refine K.bind (H:=fun x S=>(vf en (n+4) S).bind fun b=>if eQ [101,108,115,101] b.2.l=true then (if eQ [105,102] b.2.ds.l=true then (DL en (n+4) b.2.ds.ds).bind fun y=>some (ac.mk 2 [] x 0 b.1 [y.1],y.2) else (vf en (n+4) b.2.ds).bind fun c=>some (ac.mk 2 [] x 0 b.1 c.1,c.2)) else some (ac.mk 2 [] x 0 b.1 [],b.2)) dc fun x=> ?_
   refine K.bind (H:=fun b S=>if eQ [101,108,115,101] S.l=true then (if eQ [105,102] S.ds.l=true then (DL en (n+4) S.ds.ds).bind fun y=>some (ac.mk 2 [] x 0 b [y.1],y.2) else (vf en (n+4) S.ds).bind fun c=>some (ac.mk 2 [] x 0 b c.1,c.2)) else some (ac.mk 2 [] x 0 b [],S)) J fun b=> ?_
   have ai:K (fun l=>if eQ [105,102] l=true then (iQ en n l.tail).bind fun y r=> .ok (ac.mk 2 [] x 0 b [y]) r else (iP en n l).bind fun c r=> .ok (ac.mk 2 [] x 0 b c) r) (fun S=>if eQ [105,102] S.l=true then (DL en (n+4) S.ds).bind fun y=>some (ac.mk 2 [] x 0 b [y.1],y.2) else (vf en (n+4) S).bind fun c=>some (ac.mk 2 [] x 0 b c.1,c.2)):=K.cond (b:=eQ [105,102]) rfl (K.bind (H:=fun y S=>some (ac.mk 2 [] x 0 b [y],S)) bn fun y=>K.ret _).tail (K.bind (H:=fun c S=>some (ac.mk 2 [] x 0 b c,S)) J fun c=>K.ret _)
   exact K.cond (b:=eQ [101,108,115,101]) rfl ai.tail (K.ret _)
end
section
variable {en:Int}
theorem K.pair {α β:Type}{f:List ba→dL α}{g:hS→α×hS}{F:α→List ba→dL β}{H:α→hS→Option (β×hS)}(h:K f (fun S=>some (g S))) (eC: ∀a,K (F a) (H a)):K (fun l=>(f l).bind (F)) (fun S=>H (g S).1 (g S).2):=K.of (fun l=>rfl) (fun S=>rfl) (K.bind (H:=H) h eC)
theorem aP4 {α:Type}(R:dL α):(R.bind fun a r=> .ok a r)=R:=by cases R<;>rfl
theorem am7 {β:Type}{F:Int→List ba→dL β}{H:Int→hS→Option (β×hS)}(eC: ∀a,K (F a) (H a)):K (fun l=>(jN en 2 l).bind fun t r=>F t.val r) (fun S=>H (jL en 0 999999 S).1 (jL en 0 999999 S).2):=by
 refine K.of (f0:=fun l=>((jN en 2 l).bind fun t r=>(dL.ok t.val r:dL Int)).bind F) (fun l=> ?_) (fun S=>rfl) (K.pair (SE fun v=>v) eC)
 cases jN en 2 l<;>rfl
theorem SG {β:Type}{F:Int→List ba→dL β}{H:Int→hS→Option (β×hS)}(eC: ∀a,K (F a) (H a)):K (fun l=>(mD en l).bind F) (fun S=>H (ks en S).1 (ks en S).2):=by
 refine K.of (f0:=fun l=>((mD en l).bind fun a r=>(dL.ok a r:dL Int)).bind F) (fun l=> ?_) (fun S=>rfl) (K.pair (aY3 fun v=>v) eC)
 rw[aP4]
theorem w3 {β:Type}(s:a7){F:Unit→List ba→dL β}{H:hS→Option (β×hS)}(eC:K (F ()) H):K (fun l=>(gm en s l).bind F) (fun S=>H (cX en s S)):=K.pair (g:=fun S=>((),cX en s S)) (H:=fun _ S=>H S) (Hu s) fun _=>eC
theorem HJ {β:Type}{F:a7→List ba→dL β}{H:a7→hS→Option (β×hS)}(eC: ∀w,K (F w) (H w)):K (fun l=>(jO en l).bind F) (fun S=>H (ju en S).1 (ju en S).2):=K.pair N3 eC
theorem aY0 {β:Type}{F:a7→List ba→dL β}{H:a7→hS→Option (β×hS)}(eC: ∀w,K (F w) (H w)):Ok (qN 3) (fun l=>(jN en 3 l).bind fun t r=>F t.text r) (fun S=>H (w2 S) S.ds):=by
 intro t l hb af
 have cO:t.kind=3:=by simpa [qN] using hb
 simp only[jN,if_pos cO,dL.bind]
 exact (eC t.text).1 l fun u hu=>af u (List.mem_cons_of_mem _ hu)
theorem aY4:K (r8 en) (fun S=>some (y7 en S)):=by
 refine K.of (fun l=>rfl) (fun S=> ?_) (K.cond (b:=eQ [116,101,120,116]) (g:=fun S=>some ((2,(jL en 0 999999 S.ds).1,(jL en 0 999999 (cX en [46,46] (jL en 0 999999 S.ds).2)).1),(jL en 0 999999 (cX en [46,46] (jL en 0 999999 S.ds).2)).2)) (g':=fun S=>some ((1,(ks en (cX en [105,110,116] S)).1,(ks en (cX en [46,46] (ks en (cX en [105,110,116] S)).2)).1),(ks en (cX en [46,46] (ks en (cX en [105,110,116] S)).2)).2)) rfl ?_ ?_)
 ·simp only[y7]
  split<;>rfl
 ·have h:K (fun l=>(jN en 2 l).bind fun a r=>(gm en [46,46] r).bind fun _ r=>(jN en 2 r).bind fun b r=>(dL.ok (2,a.val,b.val) r:dL (Int×Int×Int))) (fun S=>some ((2,(jL en 0 999999 S).1,(jL en 0 999999 (cX en [46,46] (jL en 0 999999 S).2)).1),(jL en 0 999999 (cX en [46,46] (jL en 0 999999 S).2)).2)):=
   am7 (F:=fun a r=>(gm en [46,46] r).bind fun _ r=>(jN en 2 r).bind fun b r=> .ok (2,a,b.val) r) (H:=fun a S=>some ((2,a,(jL en 0 999999 (cX en [46,46] S)).1),(jL en 0 999999 (cX en [46,46] S)).2)) fun a=>w3 [46,46] (F:=fun _ r=>(jN en 2 r).bind fun b r=> .ok (2,a,b.val) r) (H:=fun S=>some ((2,a,(jL en 0 999999 S).1),(jL en 0 999999 S).2)) (am7 (F:=fun b r=> .ok (2,a,b) r) (H:=fun b S=>some ((2,a,b),S)) fun b=>K.ret (2,a,b))
  exact h.tail
 ·exact w3 [105,110,116] (F:=fun _ r=>(mD en r).bind fun a r=>(gm en [46,46] r).bind fun _ r=>(mD en r).bind fun b r=> .ok (1,a,b) r) (H:=fun S=>some ((1,(ks en S).1,(ks en (cX en [46,46] (ks en S).2)).1),(ks en (cX en [46,46] (ks en S).2)).2)) (SG (F:=fun a r=>(gm en [46,46] r).bind fun _ r=>(mD en r).bind fun b r=> .ok (1,a,b) r) (H:=fun a S=>some ((1,a,(ks en (cX en [46,46] S)).1),(ks en (cX en [46,46] S)).2)) fun a=>w3 [46,46] (F:=fun _ r=>(mD en r).bind fun b r=> .ok (1,a,b) r) (H:=fun S=>some ((1,a,(ks en S).1),(ks en S).2)) (SG (F:=fun b r=> .ok (1,a,b) r) (H:=fun b S=>some ((1,a,b),S)) fun b=>K.ret (1,a,b)))
theorem aX9:K (r7 en) (fun S=>some (vi en S)):=by
 refine K.of (fun l=>rfl) (fun S=> ?_) (K.cond (b:=qN 3) (g:=fun S=>some ((2,0,w2 S),S.ds)) (g':=fun S=>some ((1,(ks en S).1,[]),(ks en S).2)) rfl ?_ ?_)
 ·simp only[vi]
  split<;>rfl
 ·exact aY0 (H:=fun w S=>some ((2,0,w),S)) fun w=>K.ret (2,0,w)
 ·exact SG (H:=fun v S=>some ((1,v,[]),S)) fun v=>K.ret (1,v,[])
theorem aY7:K (qW en) (fun S=>some (Ja en S)):=by
 refine HJ (H:=fun w S=>some (Ft w (y7 en (cX en [58] S)).1 (vi en (cX en [61] (y7 en (cX en [58] S)).2)).1,cX en [59] (vi en (cX en [61] (y7 en (cX en [58] S)).2)).2)) fun w=> ?_
 refine w3 [58] (H:=fun S=>some (Ft w (y7 en S).1 (vi en (cX en [61] (y7 en S).2)).1,cX en [59] (vi en (cX en [61] (y7 en S).2)).2)) ?_
 refine K.pair (g:=fun S=>y7 en S) (H:=fun s S=>some (Ft w s (vi en (cX en [61] S)).1,cX en [59] (vi en (cX en [61] S)).2)) aY4 fun s=> ?_
 refine w3 [61] (H:=fun S=>some (Ft w s (vi en S).1,cX en [59] (vi en S).2)) ?_
 refine K.pair (g:=fun S=>vi en S) (H:=fun i S=>some (Ft w s i,cX en [59] S)) aX9 fun i=> ?_
 exact w3 [59] (H:=fun S=>some (Ft w s i,S)) (K.ret (Ft w s i))
theorem am9: ∀(n:Nat) (acc:List a7),K (lm en n acc) (Ew en (n+4) acc)
 |0,acc=>⟨fun l af=>trivial,fun p e he=>⟨acc,by rw[Ew,if_neg (by simp [eQ])]⟩⟩
 |n+1,acc=>K.of (fun l=>rfl) (fun S=>by rw[show n+1+4=(n+4)+1 from rfl,Ew]) (K.cond (b:=eQ [44]) rfl (HJ (H:=fun w S=>Ew en (n+4) (acc++[w]) S) fun w=>am9 n _).tail (K.ret acc))
theorem aY2 (n:Nat):K (nn en n) (Of en (n+4)):=K.of (fun l=>rfl) (fun S=>rfl) (K.cond (b:=eQ [41]) rfl (K.ret []).tail (HJ (H:=fun w S=>(Ew en (n+4) [w] S).bind fun q=>some (q.1,cX en [41] q.2)) fun w=>K.bind (H:=fun ps S=>some (ps,cX en [41] S)) (am9 n [w]) fun ps=>w3 [41] (H:=fun S=>some (ps,S)) (K.ret ps)))
theorem aX8 (n:Nat):K (nk en n) (J2 en (n+4)):=by
 refine K.bind (H:=fun m S=>(Of en (n+4) (cX en [40] S)).bind fun ps=>(vf en (n+4) (ju en (cX en [102,114,111,109] ps.2)).2).bind fun b=>some ((⟨m,(ju en (cX en [102,114,111,109] ps.2)).1,ps.1,b.1⟩:cd),b.2)) (an1 n) fun m=> ?_
 refine w3 [40] (H:=fun S=>(Of en (n+4) S).bind fun ps=>(vf en (n+4) (ju en (cX en [102,114,111,109] ps.2)).2).bind fun b=>some ((⟨m,(ju en (cX en [102,114,111,109] ps.2)).1,ps.1,b.1⟩:cd),b.2)) ?_
 refine K.bind (H:=fun ps S=>(vf en (n+4) (ju en (cX en [102,114,111,109] S)).2).bind fun b=>some ((⟨m,(ju en (cX en [102,114,111,109] S)).1,ps,b.1⟩:cd),b.2)) (aY2 n) fun ps=> ?_
 refine w3 [102,114,111,109] (H:=fun S=>(vf en (n+4) (ju en S).2).bind fun b=>some ((⟨m,(ju en S).1,ps,b.1⟩:cd),b.2)) ?_
 refine HJ (H:=fun p S=>(vf en (n+4) S).bind fun b=>some ((⟨m,p,ps,b.1⟩:cd),b.2)) fun p=> ?_
 exact K.bind (H:=fun b S=>some ((⟨m,p,ps,b⟩:cd),S)) (an5 n).1 fun b=>K.ret _
theorem am5: ∀(n:Nat) (acc:List ad),K (ll en n acc) (Ed en (n+4) acc)
 |0,acc=>⟨fun l af=>trivial,fun p e he=>⟨acc,by rw[Ed,if_neg (by simp [eQ])]⟩⟩
 |n+1,acc=>K.of (fun l=>rfl) (fun S=>by rw[show n+1+4=(n+4)+1 from rfl,Ed]) (K.cond (b:=eQ [44]) rfl (K.bind (H:=fun w S=>Ed en (n+4) (acc++[w]) S) ((KN n).2.1 1) fun w=>am5 n _).tail (K.ret acc))
theorem aX7 (n:Nat):K (nj en n) (Oc en (n+4)):=K.of (fun l=>rfl) (fun S=>rfl) (K.cond (b:=eQ [41]) rfl (K.ret []).tail (K.bind (H:=fun w S=>(Ed en (n+4) [w] S).bind fun q=>some (q.1,cX en [41] q.2)) ((KN n).2.1 1) fun w=>K.bind (H:=fun ps S=>some (ps,cX en [41] S)) (am5 n [w]) fun ps=>w3 [41] (H:=fun S=>some (ps,S)) (K.ret ps)))
theorem aY8 (n:Nat):K (ox en n) (Jc en (n+4)):=K.of (fun l=>rfl) (fun S=>rfl) (K.cond (b:=eQ [119,104,101,114,101]) rfl (K.bind (H:=fun w S=>some ([w],S)) ((KN n).2.1 1) fun w=>K.ret [w]).tail (K.ret []))
theorem aY1 (n:Nat):K (nl en n) (J7 en (n+4)):=by
 refine K.bind (H:=fun m S=>(Oc en (n+4) (cX en [40] S)).bind fun a=>(Jc en (n+4) (ju en (cX en [116,111] a.2)).2).bind fun w=>some ((⟨m,(ju en (cX en [116,111] a.2)).1,a.1,w.1⟩:ca),cX en [59] w.2)) (an1 n) fun m=> ?_
 refine w3 [40] (H:=fun S=>(Oc en (n+4) S).bind fun a=>(Jc en (n+4) (ju en (cX en [116,111] a.2)).2).bind fun w=>some ((⟨m,(ju en (cX en [116,111] a.2)).1,a.1,w.1⟩:ca),cX en [59] w.2)) ?_
 refine K.bind (H:=fun a S=>(Jc en (n+4) (ju en (cX en [116,111] S)).2).bind fun w=>some ((⟨m,(ju en (cX en [116,111] S)).1,a,w.1⟩:ca),cX en [59] w.2)) (aX7 n) fun a=> ?_
 refine w3 [116,111] (H:=fun S=>(Jc en (n+4) (ju en S).2).bind fun w=>some ((⟨m,(ju en S).1,a,w.1⟩:ca),cX en [59] w.2)) ?_
 refine HJ (H:=fun p S=>(Jc en (n+4) S).bind fun w=>some ((⟨m,p,a,w.1⟩:ca),cX en [59] w.2)) fun p=> ?_
 refine K.bind (H:=fun w S=>some ((⟨m,p,a,w⟩:ca),cX en [59] S)) (aY8 n) fun w=> ?_
 exact w3 [59] (H:=fun S=>some ((⟨m,p,a,w⟩:ca),S)) (K.ret _)
theorem an7 (n:Nat): ∀(m:Nat) (acc:List cb),K (lp en n m acc) (zd en (m+4) acc)
 |0,acc=>⟨fun l af=>trivial,fun p e he=>⟨acc,by rw[zd,if_neg (by simp [eQ])]⟩⟩
 |m+1,acc=>K.of (fun l=>rfl) (fun S=>by rw[show m+1+4=(m+4)+1 from rfl,zd]) (K.cond (b:=eQ [118,97,114]) rfl (K.pair (g:=fun S=>Ja en S) (H:=fun w S=>zd en (m+4) (acc++[w]) S) aY7 fun w=>an7 n m _).tail (K.ret acc))
theorem PM (n:Nat): ∀(m:Nat) (ap:List cd) (os:List ca),K (ln en n m ap os) (so en (n+4) (m+4) ap os)
 |0,ap,os=>⟨fun l af=>trivial,fun p e he=>⟨(ap,os),by rw[so,if_neg he]⟩⟩
 |m+1,ap,os=>by
  have hp:=PM n m ap os
  have B7: ∀p e,e≠0→so en (n+4) (m+4) ap os (s9 p e)=some ((ap,os),s9 p e):=fun p e he=>by rw[show m+4=(m+3)+1 from rfl,so,if_neg he]
  have aC:K (fun l=>if eQ [125] l=true then .ok (ap,os) l.tail else if eQ [111,110] l=true then (nk en n l.tail).bind fun h r=>ln en n m (ap++[h]) os r else (gm en [111,102,102,101,114] l).bind fun _ r=>(nl en n r).bind fun o r=>ln en n m ap (os++[o]) r) (fun S=>if eQ [125] S.l=true then some ((ap,os),S.ds) else if eQ [111,110] S.l=true then (J2 en (n+4) S.ds).bind fun h=>so en (n+4) (m+4) (ap++[h.1]) os h.2 else if eQ [111,102,102,101,114] S.l=true then (J7 en (n+4) S.ds).bind fun o=>so en (n+4) (m+4) ap (os++[o.1]) o.2 else so en (n+4) (m+4) ap os (sg en 3 S)):=by
   refine K.cond (b:=eQ [125]) rfl (K.ret (ap,os)).tail (K.cond (b:=eQ [111,110]) rfl (K.bind (H:=fun h S=>so en (n+4) (m+4) (ap++[h]) os S) (aX8 n) fun h=>PM n m _ _).tail ?_)
   have aq:=K.bind (F:=fun o r=>ln en n m ap (os++[o]) r) (H:=fun o S=>so en (n+4) (m+4) ap (os++[o]) S) (aY1 (en:=en) n) fun o=>PM n m _ _
   refine⟨fun l af=> ?_,fun p e he=>⟨(ap,os),?_⟩⟩
   ·dsimp only
    unfold gm
    by_cases h:eQ [111,102,102,101,114] l=true
    ·rw[if_pos h,if_pos (show eQ [111,102,102,101,114] (ra l).l=true from h)]
     exact aq.1 l.tail fun t aO=>af t (List.mem_of_mem_tail aO)
    ·rw[if_neg h,if_neg (show ¬eQ [111,102,102,101,114] (ra l).l=true from h),J1,B7 _ _ (by decide)]
     exact⟨by decide,_,rfl⟩
   ·dsimp only
    rw[if_neg (show ¬eQ [111,102,102,101,114] (s9 p e).l=true by simp [eQ]),DE 3 he]
    exact B7 p e he
  refine⟨fun l af=> ?_,fun p e he=>⟨(ap,os),by rw[show m+1+4=(m+4)+1 from rfl,so,if_neg he]⟩⟩
  have:=aC.1 l af
  rw[show m+1+4=(m+4)+1 from rfl,so,if_pos rfl]
  exact this
end
def Ur (oB:Int) (n:Nat) (S:hS):Option (e9×hS):=
 (zd oB n [] (cX oB [123] (ju oB (cX oB [111,102] (ju oB (cX oB [112,108,97,121,115] (ju oB (cX oB [115,101,114,118,105,99,101] S)).2)).2)).2)).bind fun ay=>
 (so oB n n [] [] ay.2).bind fun p=>some (⟨(ju oB (cX oB [115,101,114,118,105,99,101] S)).1,(ju oB (cX oB [112,108,97,121,115] (ju oB (cX oB [115,101,114,118,105,99,101] S)).2)).1,(ju oB (cX oB [111,102] (ju oB (cX oB [112,108,97,121,115] (ju oB (cX oB [115,101,114,118,105,99,101] S)).2)).2)).1,ay.1,p.1.1,p.1.2⟩,if p.2.l=[] then p.2 else sg oB 3 p.2)
theorem aY5 {en:Int}(n:Nat):K (lo en n) (Ur en (n+4)):=by
 refine w3 [115,101,114,118,105,99,101] (H:=fun S=>(zd en (n+4) [] (cX en [123] (ju en (cX en [111,102] (ju en (cX en [112,108,97,121,115] (ju en S).2)).2)).2)).bind fun ay=>(so en (n+4) (n+4) [] [] ay.2).bind fun p=>some ((⟨(ju en S).1,(ju en (cX en [112,108,97,121,115] (ju en S).2)).1,(ju en (cX en [111,102] (ju en (cX en [112,108,97,121,115] (ju en S).2)).2)).1,ay.1,p.1.1,p.1.2⟩:e9),if p.2.l=[] then p.2 else sg en 3 p.2)) ?_
 refine HJ (H:=fun a S=>(zd en (n+4) [] (cX en [123] (ju en (cX en [111,102] (ju en (cX en [112,108,97,121,115] S)).2)).2)).bind fun ay=>(so en (n+4) (n+4) [] [] ay.2).bind fun p=>some ((⟨a,(ju en (cX en [112,108,97,121,115] S)).1,(ju en (cX en [111,102] (ju en (cX en [112,108,97,121,115] S)).2)).1,ay.1,p.1.1,p.1.2⟩:e9),if p.2.l=[] then p.2 else sg en 3 p.2)) fun a=> ?_
 refine w3 [112,108,97,121,115] (H:=fun S=>(zd en (n+4) [] (cX en [123] (ju en (cX en [111,102] (ju en S).2)).2)).bind fun ay=>(so en (n+4) (n+4) [] [] ay.2).bind fun p=>some ((⟨a,(ju en S).1,(ju en (cX en [111,102] (ju en S).2)).1,ay.1,p.1.1,p.1.2⟩:e9),if p.2.l=[] then p.2 else sg en 3 p.2)) ?_
 refine HJ (H:=fun b S=>(zd en (n+4) [] (cX en [123] (ju en (cX en [111,102] S)).2)).bind fun ay=>(so en (n+4) (n+4) [] [] ay.2).bind fun p=>some ((⟨a,b,(ju en (cX en [111,102] S)).1,ay.1,p.1.1,p.1.2⟩:e9),if p.2.l=[] then p.2 else sg en 3 p.2)) fun b=> ?_
 refine w3 [111,102] (H:=fun S=>(zd en (n+4) [] (cX en [123] (ju en S).2)).bind fun ay=>(so en (n+4) (n+4) [] [] ay.2).bind fun p=>some ((⟨a,b,(ju en S).1,ay.1,p.1.1,p.1.2⟩:e9),if p.2.l=[] then p.2 else sg en 3 p.2)) ?_
 refine HJ (H:=fun c S=>(zd en (n+4) [] (cX en [123] S)).bind fun ay=>(so en (n+4) (n+4) [] [] ay.2).bind fun p=>some ((⟨a,b,c,ay.1,p.1.1,p.1.2⟩:e9),if p.2.l=[] then p.2 else sg en 3 p.2)) fun c=> ?_
 refine w3 [123] (H:=fun S=>(zd en (n+4) [] S).bind fun ay=>(so en (n+4) (n+4) [] [] ay.2).bind fun p=>some ((⟨a,b,c,ay.1,p.1.1,p.1.2⟩:e9),if p.2.l=[] then p.2 else sg en 3 p.2)) ?_
 refine K.bind (H:=fun ay S=>(so en (n+4) (n+4) [] [] S).bind fun p=>some ((⟨a,b,c,ay,p.1.1,p.1.2⟩:e9),if p.2.l=[] then p.2 else sg en 3 p.2)) (an7 n n []) fun ay=> ?_
 refine K.bind (H:=fun p S=>some ((⟨a,b,c,ay,p.1,p.2⟩:e9),if S.l=[] then S else sg en 3 S)) (PM n n [] []) fun p=> ?_
 refine⟨fun l af=> ?_,fun aR7 e he=>⟨⟨a,b,c,ay,p.1,p.2⟩,by dsimp only; rw[if_pos rfl]⟩⟩
 cases l with
 |nil=>exact⟨af,rfl⟩
 |cons t l=>
  dsimp only
  rw[if_neg (by simp),J1]
  exact⟨by decide,_,rfl⟩
end Go.bc
namespace Go.bc.T.N
open Go Go.bc Go.Proofs Go.RowKit
set_option maxRecDepth 100000
attribute [local irreducible] Go.bc.aj Go.bc.ae Go.bc.bz
section
def pY (oB:Int) (S:hS):List I:=[.ay 4 (S.l.map ba.row),.int .i64 oB,.int .i64 S.at',.int .i64 S.e]
abbrev jS (oB:Int) (S:hS):a1:=a1.of 1 0 [(0,87,pY oB S)] []
attribute [local go_sem] pY ba.row oC
theorem D.mi {dD:Program}{anns:List I}{l:List bP}{env:Env}{c:a1}{K:Env→a1→Prop}{Rp:I→a1→Prop}{d size:Nat}{x:aK}{r:List I}{rows:List (List I)}(aC:ae dD anns l ((d,.ay size rows)::env) c K Rp) (ab:bp env x= .ay size (r::rows):=by simp (disch:=omega) only[go_sem,simprocAttr]<;>with_reducible rfl):ae dD anns (⟨some d,none,.h9 size x (some (.c (.int .i64 1))) none none⟩::l) env c K Rp:=
 ae.aG5 1 (a14 ab) rfl rfl (by simp only[List.length_cons]; omega) aC
theorem HK (oB:Int) (S:hS):bz Tryz.prog 92 [.ptr 0 0] (jS oB S) (fJ (.agg (vV oB S).row) [(0,87,pY oB S)] []):=by
 obtain⟨l,a,e⟩:=S
 cases l with
 |nil=>
  refine bz.intro bN Tryz.func92 Vt ?_
  unfold mv Un
  simp(disch:=omega)only[go_sem,simprocAttr]
  refine ao ?_
  refine D.r ?_
  exact⟨rfl,⟨rfl,trivial⟩,trivial⟩
 |cons t l=>
  have d1: ¬(((l.map ba.row).length+1:Nat):Int)=0:=by omega
  refine bz.intro bN Tryz.func92 Vt ?_
  unfold mv Un
  simp(disch:=omega)only[go_sem,simprocAttr]
  (have al:=d1;refine bQ ?_;clear al)
  refine D.r ?_
  exact⟨rfl,⟨rfl,trivial⟩,trivial⟩
theorem Ik (oB:Int) (S:hS): ∃k x v f,vV oB S=⟨k,x,v,f⟩:=⟨_,_,_,_,rfl⟩
theorem JY (oB e:Int) (S:hS):bz Tryz.prog 39 [.ptr 0 0,.int .i64 e] (jS oB S) (fJ (.di []) [(0,87,pY oB (sg oB e S))] []):=by
 have mv:=HK oB S
 unfold sg
 obtain⟨k,x,v,f,a6⟩:=Ik oB S
 rw[a6]at mv ⊢
 obtain⟨l,a,bE⟩:=S
 simp only
 by_cases h:bE=0
 ·rw[if_pos h,if_pos h]
  subst h
  refine bz.intro bN Tryz.func39 Vj ?_
  unfold FK Ul
  simp(disch:=omega)only[go_sem,simprocAttr]
  refine ao ?_
  refine D.F ⟨[0],[]⟩ (mv) ?_
  refine ao ?_
  refine aj.aH8 0 0 4 rfl rfl ?_
  simp(disch:=omega)only[go_sem,simprocAttr]
  refine D.r ?_
  exact⟨rfl,⟨rfl,trivial⟩,trivial⟩
 ·rw[if_neg h,if_neg h]
  refine bz.intro bN Tryz.func39 Vj ?_
  unfold FK Ul
  simp(disch:=omega)only[go_sem,simprocAttr]
  (have al:=h;refine bQ ?_;clear al)
  refine aj.aH8 0 0 4 rfl rfl ?_
  simp(disch:=omega)only[go_sem,simprocAttr]
  refine D.r ?_
  exact⟨rfl,⟨rfl,trivial⟩,trivial⟩
theorem aX1 (oB:Int) (s:a7) (S:hS):eQ s S.l=(decide ((vV oB S).text=s)&&(decide ((vV oB S).kind=4)||decide ((vV oB S).kind=1))):=by
 unfold eQ vV
 cases S.l with
 |nil=>simp
 |cons t l=>rfl
theorem Tn (oB:Int) (s:a7) (S:hS):bz Tryz.prog 93 [.ptr 0 0,.str s] (jS oB S) (fJ (.bool (eQ s S.l)) [(0,87,pY oB S)] []):=by
 have mv:=HK oB S
 rw[aX1 oB]
 obtain⟨k,x,v,f,a6⟩:=Ik oB S
 rw[a6]at mv ⊢
 simp only
 by_cases bn:k=4
 ·refine bz.intro bN Tryz.func93 QX ?_
  unfold E5 QA
  simp(disch:=omega)only[go_sem,simprocAttr]
  refine ao ?_
  refine D.F ⟨[0],[]⟩ (mv) ?_
  (have al:=bn;refine bQ ?_;clear al)
  refine D.r ?_
  rw[bn]
  exact⟨by simp,⟨rfl,trivial⟩,trivial⟩
 by_cases J:k=1
 ·refine bz.intro bN Tryz.func93 QX ?_
  unfold E5 QA
  simp(disch:=omega)only[go_sem,simprocAttr]
  refine ao ?_
  refine D.F ⟨[0],[]⟩ (mv) ?_
  (have al:=J;refine bQ ?_;clear al)
  refine D.r ?_
  rw[J]
  exact⟨by simp,⟨rfl,trivial⟩,trivial⟩
 ·refine bz.intro bN Tryz.func93 QX ?_
  unfold E5 QA
  simp(disch:=omega)only[go_sem,simprocAttr]
  refine ao ?_
  refine D.F ⟨[0],[]⟩ (mv) ?_
  (have al:=bn;have z2:=J;refine e8 ?_;clear al z2)
  refine D.r ?_
  exact⟨by simp [bn,J],⟨rfl,trivial⟩,trivial⟩
theorem wj (oB:Int) (s:a7) (S:hS):bz Tryz.prog 35 [.ptr 0 0,.str s] (jS oB S) (fJ (.bool (eQ s S.l)) [(0,87,pY oB (if eQ s S.l=true then S.ds else S))] []):=by
 have E5:=Tn oB s S
 cases h:eQ s S.l with
 |false=>
  rw[h]at E5
  rw[if_neg (by decide)]
  refine bz.intro bN Tryz.func35 Vh ?_
  unfold wO Ui
  simp(disch:=omega)only[go_sem,simprocAttr]
  refine ao ?_
  refine D.F ⟨[0],[]⟩ (E5) ?_
  refine ao ?_
  refine D.r ?_
  exact⟨rfl,⟨rfl,trivial⟩,trivial⟩
 |true=>
  rw[h]at E5
  rw[if_pos rfl]
  obtain⟨l,a,e⟩:=S
  cases l with
  |nil=>simp [eQ]at h
  |cons t l=>
   refine bz.intro bN Tryz.func35 Vh ?_
   unfold wO Ui
   simp(disch:=omega)only[go_sem,simprocAttr]
   refine ao ?_
   refine D.F ⟨[0],[]⟩ (E5) ?_
   refine ao ?_
   refine D.mi ?_
   refine ao ?_
   refine D.r ?_
   exact⟨rfl,⟨rfl,trivial⟩,trivial⟩
theorem rb (oB:Int) (s:a7) (S:hS):bz Tryz.prog 33 [.ptr 0 0,.str s] (jS oB S) (fJ (.di []) [(0,87,pY oB (cX oB s S))] []):=by
 have wO:=wj oB s S
 unfold cX
 cases h:eQ s S.l with
 |false=>
  rw[h,if_neg (by decide)]at wO
  rw[if_neg (by decide)]
  have FK:=JY oB 3 S
  refine bz.intro bN Tryz.func33 Vg ?_
  unfold LH TP
  simp(disch:=omega)only[go_sem,simprocAttr]
  refine ao ?_
  refine D.F ⟨[0],[]⟩ (wO) ?_
  refine ao ?_
  refine D.F ⟨[0],[]⟩ (FK) ?_
  refine ao ?_
  refine D.r ?_
  exact⟨rfl,⟨rfl,trivial⟩,trivial⟩
 |true=>
  rw[h,if_pos rfl]at wO
  rw[if_pos rfl]
  refine bz.intro bN Tryz.func33 Vg ?_
  unfold LH TP
  simp(disch:=omega)only[go_sem,simprocAttr]
  refine ao ?_
  refine D.F ⟨[0],[]⟩ (wO) ?_
  refine ao ?_
  refine D.r ?_
  exact⟨rfl,⟨rfl,trivial⟩,trivial⟩
theorem B9 (oB:Int) (S:hS):bz Tryz.prog 34 [.ptr 0 0] (jS oB S) (fJ (.str (ju oB S).1) [(0,87,pY oB (ju oB S).2)] []):=by
 have mv:=HK oB S
 have FK:=JY oB 3 S
 have w8:nP S.l=(decide ((vV oB S).kind=1)&&db (vV oB S).text):=by
  unfold nP vV
  cases S.l with
  |nil=>simp
  |cons t l=>rfl
 unfold ju
 have c4:nP S.l=true→∃t l,S.l=t::l∧vV oB S=t:=fun h=>by
  cases aH:S.l with
  |nil=>rw[aH]at h; simp [nP]at h
  |cons t l=>exact⟨t,l,rfl,by unfold vV; rw[aH]⟩
 obtain⟨k,x,v,f,a6⟩:=Ik oB S
 rw[a6]at mv w8 c4
 simp only at w8
 have JD:=C9 x
 by_cases J:k=1
 rotate_left
 ·rw[if_neg (by rw[w8]; simp [J])]
  refine bz.intro bN Tryz.func34 QU ?_
  unfold AS Qg
  simp(disch:=omega)only[go_sem,simprocAttr]
  refine ao ?_
  refine D.F ⟨[0],[]⟩ (mv) ?_
  (have al:=J;refine bQ ?_;clear al)
  refine D.F ⟨[0],[]⟩ (FK) ?_
  refine ao ?_
  refine D.r ?_
  exact⟨rfl,⟨rfl,trivial⟩,trivial⟩
 cases hw:db x with
 |false=>
  rw[hw]at JD
  rw[if_neg (by rw[w8,hw]; simp)]
  refine bz.intro bN Tryz.func34 QU ?_
  unfold AS Qg
  simp(disch:=omega)only[go_sem,simprocAttr]
  refine ao ?_
  refine D.F ⟨[0],[]⟩ (mv) ?_
  (have al:=J;refine bQ ?_;clear al)
  refine D.P (JD) ?_
  refine ao ?_
  refine D.F ⟨[0],[]⟩ (FK) ?_
  refine ao ?_
  refine D.r ?_
  exact⟨rfl,⟨rfl,trivial⟩,trivial⟩
 |true=>
  rw[hw]at JD
  have aZ:nP S.l=true:=by rw[w8,hw,J]; rfl
  rw[if_pos aZ]
  obtain⟨t,l,aH,aO⟩:=c4 aZ
  obtain⟨jd,a,e⟩:=S
  simp only at aH
  subst aH aO
  refine bz.intro bN Tryz.func34 QU ?_
  unfold AS Qg
  simp(disch:=omega)only[go_sem,simprocAttr]
  refine ao ?_
  refine D.F ⟨[0],[]⟩ (mv) ?_
  (have al:=J;refine bQ ?_;clear al)
  refine D.P (JD) ?_
  refine ao ?_
  refine D.mi ?_
  refine ao ?_
  refine D.r ?_
  exact⟨rfl,⟨rfl,trivial⟩,trivial⟩
theorem KO (oB cz ai:Int) (S:hS):bz Tryz.prog 94 [.ptr 0 0,.int .i64 cz,.int .i64 ai] (jS oB S) (fJ (.int .i64 (jL oB cz ai S).1) [(0,87,pY oB (jL oB cz ai S).2)] []):=by
 have mv:=HK oB S
 have cw:=JY oB 3 S
 have ax:=JY oB 2 S
 have w8:qN 2 S.l=decide ((vV oB S).kind=2):=by
  unfold qN vV
  cases S.l with
  |nil=>simp
  |cons t l=>rfl
 have c4:qN 2 S.l=true→∃t l,S.l=t::l∧vV oB S=t:=fun h=>by
  cases aH:S.l with
  |nil=>rw[aH]at h; simp [qN]at h
  |cons t l=>exact⟨t,l,rfl,by unfold vV; rw[aH]⟩
 unfold jL
 obtain⟨k,x,v,f,a6⟩:=Ik oB S
 rw[a6]at mv w8 c4
 simp only at w8
 by_cases aa:k=2
 rotate_left
 ·rw[if_neg (by rw[w8]; simp [aa])]
  refine bz.intro bN Tryz.func94 Ov ?_
  unfold Ca Ob
  simp(disch:=omega)only[go_sem,simprocAttr]
  refine ao ?_
  refine D.F ⟨[0],[]⟩ (mv) ?_
  (have al:=aa;refine bQ ?_;clear al)
  refine D.F ⟨[0],[]⟩ (cw) ?_
  refine ao ?_
  refine D.r ?_
  exact⟨rfl,⟨rfl,trivial⟩,trivial⟩
 have aZ:qN 2 S.l=true:=by rw[w8,aa]; rfl
 rw[if_pos aZ]
 obtain⟨t,l,aH,aO⟩:=c4 aZ
 have af:CO S=v:=by subst aO; unfold CO; rw[aH]
 rw[af]
 by_cases Mz:v<cz
 ·rw[if_pos (.inl Mz)]
  refine bz.intro bN Tryz.func94 Ov ?_
  unfold Ca Ob
  simp(disch:=omega)only[go_sem,simprocAttr]
  refine ao ?_
  refine D.F ⟨[0],[]⟩ (mv) ?_
  (have al:=aa;have z2:=Mz;refine e8 ?_;clear al z2)
  refine D.F ⟨[0],[]⟩ (ax) ?_
  refine ao ?_
  refine D.r ?_
  exact⟨rfl,⟨rfl,trivial⟩,trivial⟩
 by_cases PJ:ai<v
 ·rw[if_pos (.inr PJ)]
  refine bz.intro bN Tryz.func94 Ov ?_
  unfold Ca Ob
  simp(disch:=omega)only[go_sem,simprocAttr]
  refine ao ?_
  refine D.F ⟨[0],[]⟩ (mv) ?_
  (have al:=aa;have z2:=Mz;have z3:=PJ;refine ji ?_;clear al z2 z3)
  refine D.F ⟨[0],[]⟩ (ax) ?_
  refine ao ?_
  refine D.r ?_
  exact⟨rfl,⟨rfl,trivial⟩,trivial⟩
 rw[if_neg (fun h=>h.elim Mz PJ)]
 obtain⟨jd,a,e⟩:=S
 simp only at aH
 subst aH
 refine bz.intro bN Tryz.func94 Ov ?_
 unfold Ca Ob
 simp(disch:=omega)only[go_sem,simprocAttr]
 refine ao ?_
 refine D.F ⟨[0],[]⟩ (mv) ?_
 (have al:=aa;have z2:=Mz;have z3:=PJ;refine ji ?_;clear al z2 z3)
 refine D.mi ?_
 refine ao ?_
 refine D.r ?_
 exact⟨rfl,⟨rfl,trivial⟩,trivial⟩
theorem a10 (oB cz ai:Int) (S:hS) (h:cz≤0) (aa:0≤ai):cz≤(jL oB cz ai S).1∧(jL oB cz ai S).1≤ai:=by
 unfold jL
 split
 ·split
  ·exact⟨h,aa⟩
  ·exact⟨by show cz≤CO S; omega,by show CO S≤ai; omega⟩
 ·exact⟨h,aa⟩
theorem PP (oB:Int) (S:hS):bz Tryz.prog 95 [.ptr 0 0] (jS oB S) (fJ (.int .i64 (ks oB S).1) [(0,87,pY oB (ks oB S).2)] []):=by
 have wO:=wj oB [45] S
 unfold ks
 cases h:eQ [45] S.l with
 |false=>
  rw[h,if_neg (by decide)]at wO
  rw[if_neg (by decide)]
  have Ca:=KO oB 0 999999 S
  refine bz.intro bN Tryz.func95 Vu ?_
  unfold Rv Uo
  simp(disch:=omega)only[go_sem,simprocAttr]
  refine ao ?_
  refine D.F ⟨[0],[]⟩ (wO) ?_
  refine ao ?_
  refine D.F ⟨[0],[]⟩ (Ca) ?_
  refine ao ?_
  refine D.r ?_
  exact⟨rfl,⟨rfl,trivial⟩,trivial⟩
 |true=>
  rw[h,if_pos rfl]at wO
  rw[if_pos rfl]
  have Ca:=KO oB 0 999999 S.ds
  obtain⟨aw,J⟩:=a10 oB 0 999999 S.ds (by decide) (by decide)
  generalize jL oB 0 999999 S.ds=R at*
  refine bz.intro bN Tryz.func95 Vu ?_
  unfold Rv Uo
  simp(disch:=omega)only[go_sem,simprocAttr]
  refine ao ?_
  refine D.F ⟨[0],[]⟩ (wO) ?_
  refine ao ?_
  refine D.F ⟨[0],[]⟩ (Ca) ?_
  refine ao ?_
  refine D.r ?_
  exact⟨by rw[Int.zero_sub],⟨rfl,trivial⟩,trivial⟩
theorem QD (oB:Int) (S:hS):(ju oB S).1.length≤16:=by
 unfold ju
 split
 ·rename_i h
  show (w2 S).length≤16
  unfold w2
  cases aH:S.l with
  |nil=>simp
  |cons t l=>
   rw[aH]at h
   simp only[nP,Bool.and_eq_true,decide_eq_true_eq]at h
   exact tz h.2
 ·simp
theorem ao8 (oB:Int): ∀(n:Nat) (S:hS) (w:a7) (G5:hS),n≤1000000→KU oB n S=some (w,G5)→bz Tryz.prog 98 [.ptr 0 0] (jS oB S) (fJ (.str w) [(0,87,pY oB G5)] []):=by
 intro n S w G5 a6 h
 have AS:=B9 oB S
 have aH:=QD oB S
 unfold KU at h
 generalize ju oB S=W at*
 obtain⟨wi,Kb⟩:=W
 simp only at aH h AS
 refine bz.intro bN Tryz.func98 aV4 ?_
 unfold Yz aD3
 simp(disch:=omega)only[go_sem,simprocAttr]
 refine ao ?_
 refine D.F ⟨[0],[]⟩ (AS) ?_
 refine ao ?_
 refine aj.dd (X:=Nat×a7×hS) (n,wi,Kb) (fun y=>[(0,.ptr 0 0),(3,.str y.2.1)]) (fun y=>[(0,87,pY oB y.2.2)]) (fun _=>[]) (fun y=>y.1≤n∧y.2.1.length+17*y.1≤16+17*n∧AK oB y.1 y.2.1 y.2.2=some (w,G5)) (fun y=>y.1) ⟨Nat.le_refl _,by simp only; omega,h⟩ ⟨rfl,rfl,trivial⟩ ⟨rfl,trivial⟩ trivial ?_
 rintro⟨k,v,T⟩ ⟨aC,af,h⟩
 simp only at aC af h ⊢
 have wO:=wj oB [46] T
 rcases k with _|k
 ·simp only[AK]at h
  cases h
 rw[AK]at h
 cases c4:eQ [46] T.l with
 |false=>
  rw[c4,if_neg (by decide)]at wO h
  cases h
  refine ao ?_
  refine D.F ⟨[0],[]⟩ (wO) ?_
  refine ao ?_
  refine D.r ?_
  exact⟨rfl,⟨rfl,trivial⟩,trivial⟩
 |true=>
  rw[c4,if_pos rfl]at wO h
  have AS:=B9 oB T.ds
  have aH:=QD oB T.ds
  generalize ju oB T.ds=W at*
  obtain⟨pn,nE⟩:=W
  simp only at aH h AS
  refine ao ?_
  refine D.F ⟨[0],[]⟩ (wO) ?_
  refine ao ?_
  refine D.F ⟨[0],[]⟩ (AS) ?_
  refine ao ?_
  refine D.bR ?_
  refine ao ?_
  refine D.bR ?_
  refine ao ?_
  refine aj.dK (k,v++([46]++pn),nE) ⟨by omega,by simp only[List.length_append,List.length_cons,List.length_nil]; omega,h⟩ ⟨rfl,rfl,trivial⟩ ⟨rfl,trivial⟩ trivial rfl rfl (by show k<k+1; omega)
end
section
attribute [local go_sem] pY ba.row oC ad.ct ad.b9 ad.de
theorem Jd {v:I}(h:v.flat=true):kC v v:= .av (GL v h) h
theorem nq {α β:Type}{o:Option α}{f:α→Option β}{b:β}(h:o.bind f=some b): ∃a,o=some a∧f a=some b:=by
 cases o with
 |none=>cases h
 |some a=>exact⟨a,rfl,h⟩
theorem aj7 {s:a7}{S:hS}(h:eQ s S.l=true): ∃t l,S.l=t::l∧t.text=s:=by
 cases aH:S.l with
 |nil=>rw[aH]at h; simp [eQ]at h
 |cons t l=>
  rw[aH]at h
  simp only[eQ,Bool.and_eq_true,decide_eq_true_eq]at h
  exact⟨t,l,rfl,h.1⟩
theorem MZ (oB:Int){j:Int}(bq:j≠0) (S:hS):qN j S.l=decide ((vV oB S).kind=j):=by
 unfold qN vV
 cases S.l with
 |nil=>simp [bq.symm]
 |cons t l=>rfl
theorem Pe (oB:Int){S:hS}{t:ba}{l:List ba}(h:S.l=t::l):vV oB S=t∧w2 S=t.text∧S.ds=⟨l,S.at',S.e⟩:=by
 unfold vV w2 hS.ds
 rw[h]
 exact⟨rfl,rfl,rfl⟩
abbrev z51:List I:=[.int .i64 0,.str [],.str [],.str [],.int .i64 0,.aV]
theorem DA (oB:Int): ∀N n,n≤N→(∀S x G5,D0 oB n S=some (x,G5)→bz Tryz.prog 158 [.ptr 0 0] (jS oB S) (fJ (.agg x.row) [(0,87,pY oB G5)] []))∧(∀k S x G5,wk oB n k S=some (x,G5)→bz Tryz.prog 100 [.ptr 0 0,.int .i64 k] (jS oB S) (fJ (.agg x.row) [(0,87,pY oB G5)] []))
 |N,0,_=>⟨fun S x G5 h=>(by rw[D0]at h; cases h),fun k S x G5 h=>(by rw[wk]at h; cases h)⟩
 |0,n+1,h=>by omega
 |N+1,n+1,bW=>by
  refine⟨fun S x G5 h=>bz.rw ?_ (by simp only[I.flat,ad.de]),fun k S x G5 h=>bz.rw ?_ (by simp only[I.flat,ad.de])⟩
  ·have mv:=HK oB S
   rw[D0]at h
   have bA:=MZ oB (j:=2) (by decide) S
   have cO:=MZ oB (j:=3) (by decide) S
   obtain⟨k,wD,v,f,a6⟩:=Ik oB S
   have Ff: ∀t l,S.l=t::l→t=⟨k,wD,v,f⟩:=fun t l aH=>by rw[←(Pe oB aH).1,a6]
   rw[a6]at mv bA cO
   simp only at bA cO
   by_cases aa:k=2
   ·rw[bA,if_pos (by simp [aa])]at h
    cases h
    have Ca:=KO oB 0 1000 S
    refine bz.intro bN Tryz.func158 Jf ?_
    unfold Fz Ij
    simp(disch:=omega)only[go_sem,simprocAttr]
    refine ao ?_
    refine D.F ⟨[0],[]⟩ (mv) ?_
    (have al:=aa;refine bQ ?_;clear al)
    refine D.F ⟨[0],[]⟩ (Ca) ?_
    refine ao ?_
    refine D.r ?_
    exact⟨_,rfl,CH _ _ _ _ _,⟨rfl,trivial⟩,trivial⟩
   rw[bA,if_neg (by simp [aa])]at h
   by_cases au:k=3
   ·rw[cO,if_pos (by simp [au])]at h
    cases h
    have aC:qN 3 S.l=true:=by rw[cO,au]; rfl
    obtain⟨jd,a,e⟩:=S
    cases jd with
    |nil=>simp [qN]at aC
    |cons t l=>
    obtain rfl:=Ff t l rfl
    refine bz.intro bN Tryz.func158 Jf ?_
    unfold Fz Ij
    simp(disch:=omega)only[go_sem,simprocAttr]
    refine ao ?_
    refine D.F ⟨[0],[]⟩ (mv) ?_
    (have al:=aa;have z2:=au;refine e8 ?_;clear al z2)
    refine D.mi ?_
    refine ao ?_
    refine D.r ?_
    exact⟨_,rfl,CH _ _ _ _ _,⟨rfl,trivial⟩,trivial⟩
   rw[cO,if_neg (by simp [au])]at h
   have yz:=wj oB [108,101,110] S
   cases ek:eQ [108,101,110] S.l with
   |true=>
    rw[ek,if_pos rfl]at h yz
    obtain⟨⟨y,kN⟩,aZ,h⟩:=nq h
    cases h
    have LH:=rb oB [40] S.ds
    have f100:=(DA oB N n (by omega)).2 1 _ y kN aZ
    have Q1:=rb oB [41] kN
    generalize cX oB [40] S.ds=nE at*
    generalize cX oB [41] kN=sp at*
    obtain⟨sv,CK,x7,uU,x8,CJ⟩:=y
    simp(disch:=omega)only[go_sem,simprocAttr]at f100
    refine bz.intro bN Tryz.func158 Jf ?_
    unfold Fz Ij
    simp(disch:=omega)only[go_sem,simprocAttr]
    refine ao ?_
    refine D.F ⟨[0],[]⟩ (mv) ?_
    (have al:=aa;have z2:=au;refine e8 ?_;clear al z2)
    refine D.F ⟨[0],[]⟩ (yz) ?_
    refine ao ?_
    refine D.F ⟨[0],[]⟩ (LH) ?_
    refine ao ?_
    refine D.F ⟨[0],[]⟩ (f100) ?_
    refine ao ?_
    refine D.F ⟨[0],[]⟩ (Q1) ?_
    refine ao ?_
    refine D.r ?_
    exact⟨_,rfl,Jd (by simp only[I.flat,b3,fP,ad.b9,Bool.and_self]),⟨rfl,trivial⟩,trivial⟩
   |false=>
   rw[ek,if_neg (by decide)]at h yz
   have Xj:=wj oB [40] S
   cases CG:eQ [40] S.l with
   |true=>
    rw[CG,if_pos rfl]at h Xj
    obtain⟨⟨y,kN⟩,aZ,h⟩:=nq h
    cases h
    have f100:=(DA oB N n (by omega)).2 1 _ y kN aZ
    have Q1:=rb oB [41] kN
    generalize cX oB [41] kN=sp at*
    obtain⟨sv,CK,x7,uU,x8,CJ⟩:=y
    simp(disch:=omega)only[go_sem,simprocAttr]at f100
    refine bz.intro bN Tryz.func158 Jf ?_
    unfold Fz Ij
    simp(disch:=omega)only[go_sem,simprocAttr]
    refine ao ?_
    refine D.F ⟨[0],[]⟩ (mv) ?_
    (have al:=aa;have z2:=au;refine e8 ?_;clear al z2)
    refine D.F ⟨[0],[]⟩ (yz) ?_
    refine ao ?_
    refine D.F ⟨[0],[]⟩ (Xj) ?_
    refine ao ?_
    refine D.F ⟨[0],[]⟩ (f100) ?_
    refine ao ?_
    refine D.F ⟨[0],[]⟩ (Q1) ?_
    refine ao ?_
    refine D.r ?_
    exact⟨_,rfl,Jd (by simp only[I.flat,b3,fP,ad.b9,Bool.and_self]),⟨rfl,trivial⟩,trivial⟩
   |false=>
   rw[CG,if_neg (by decide)]at h Xj
   have LJ:=Tn oB [45] S
   have AT:=Tn oB [33] S
   cases rO:eQ [45] S.l with
   |true=>
    rw[rO,if_pos rfl]at h
    rw[rO]at LJ
    obtain⟨⟨y,kN⟩,aZ,h⟩:=nq h
    cases h
    have f158:=(DA oB N n (by omega)).1 _ y kN aZ
    obtain⟨t,l,aH,aO⟩:=aj7 rO
    obtain⟨jd,a,e⟩:=S
    simp only at aH
    subst aH
    obtain rfl:=Ff t l rfl
    simp only at aO
    subst aO
    obtain⟨sv,CK,x7,uU,x8,CJ⟩:=y
    simp(disch:=omega)only[go_sem,simprocAttr]at f158
    refine bz.intro bN Tryz.func158 Jf ?_
    unfold Fz Ij
    simp(disch:=omega)only[go_sem,simprocAttr]
    refine ao ?_
    refine D.F ⟨[0],[]⟩ (mv) ?_
    (have al:=aa;have z2:=au;refine e8 ?_;clear al z2)
    refine D.F ⟨[0],[]⟩ (yz) ?_
    refine ao ?_
    refine D.F ⟨[0],[]⟩ (Xj) ?_
    refine ao ?_
    refine D.F ⟨[0],[]⟩ (LJ) ?_
    refine ao ?_
    refine D.mi ?_
    refine ao ?_
    (apply ae.a8 (b:=0) (T:=87) (h:=bz.pM (p:=⟨[0],[]⟩) (f158) rfl rfl rfl (by repeat first|exact trivial|refine⟨rfl,?_⟩) (by repeat first|exact trivial|refine⟨rfl,?_⟩) (by simp(disch:=omega)only[go_sem,simprocAttr]<;>rfl) (by simp(disch:=omega)only[go_sem,simprocAttr]<;>rfl) rfl);(·simp(disch:=omega)only[go_sem,simprocAttr]<;>rfl);(·simp(disch:=omega)only[go_sem,simprocAttr]<;>with_reducible rfl);(·rfl);(·simp(disch:=omega)only[go_sem,simprocAttr]<;>rfl);(·first|rfl|(simp(disch:=omega)only[go_sem,simprocAttr]<;>rfl));(·intro s ap;simp only[List.mem_singleton]at ap;subst ap;exact⟨_,_,_,rfl,rfl,rfl,by simp(disch:=omega)only[go_sem,simprocAttr]<;>rfl⟩))
    simp(disch:=omega)only[go_sem,simprocAttr]
    refine ao ?_
    refine D.r ?_
    exact⟨_,rfl,Jd (by simp only[I.flat,b3,fP,ad.b9,Bool.and_self]),⟨rfl,trivial⟩,trivial⟩
   |false=>
   rw[rO,if_neg (by decide)]at h
   rw[rO]at LJ
   cases Mt:eQ [33] S.l with
   |true=>
    rw[Mt,if_pos rfl]at h
    rw[Mt]at AT
    obtain⟨⟨y,kN⟩,aZ,h⟩:=nq h
    cases h
    have f158:=(DA oB N n (by omega)).1 _ y kN aZ
    obtain⟨t,l,aH,aO⟩:=aj7 Mt
    obtain⟨jd,a,e⟩:=S
    simp only at aH
    subst aH
    obtain rfl:=Ff t l rfl
    simp only at aO
    subst aO
    obtain⟨sv,CK,x7,uU,x8,CJ⟩:=y
    simp(disch:=omega)only[go_sem,simprocAttr]at f158
    refine bz.intro bN Tryz.func158 Jf ?_
    unfold Fz Ij
    simp(disch:=omega)only[go_sem,simprocAttr]
    refine ao ?_
    refine D.F ⟨[0],[]⟩ (mv) ?_
    (have al:=aa;have z2:=au;refine e8 ?_;clear al z2)
    refine D.F ⟨[0],[]⟩ (yz) ?_
    refine ao ?_
    refine D.F ⟨[0],[]⟩ (Xj) ?_
    refine ao ?_
    refine D.F ⟨[0],[]⟩ (LJ) ?_
    refine ao ?_
    refine D.F ⟨[0],[]⟩ (AT) ?_
    refine ao ?_
    refine D.mi ?_
    refine ao ?_
    (apply ae.a8 (b:=0) (T:=87) (h:=bz.pM (p:=⟨[0],[]⟩) (f158) rfl rfl rfl (by repeat first|exact trivial|refine⟨rfl,?_⟩) (by repeat first|exact trivial|refine⟨rfl,?_⟩) (by simp(disch:=omega)only[go_sem,simprocAttr]<;>rfl) (by simp(disch:=omega)only[go_sem,simprocAttr]<;>rfl) rfl);(·simp(disch:=omega)only[go_sem,simprocAttr]<;>rfl);(·simp(disch:=omega)only[go_sem,simprocAttr]<;>with_reducible rfl);(·rfl);(·simp(disch:=omega)only[go_sem,simprocAttr]<;>rfl);(·first|rfl|(simp(disch:=omega)only[go_sem,simprocAttr]<;>rfl));(·intro s ap;simp only[List.mem_singleton]at ap;subst ap;exact⟨_,_,_,rfl,rfl,rfl,by simp(disch:=omega)only[go_sem,simprocAttr]<;>rfl⟩))
    simp(disch:=omega)only[go_sem,simprocAttr]
    refine ao ?_
    refine D.r ?_
    exact⟨_,rfl,Jd (by simp only[I.flat,b3,fP,ad.b9,Bool.and_self]),⟨rfl,trivial⟩,trivial⟩
   |false=>
   rw[Mt,if_neg (by decide)]at h
   rw[Mt]at AT
   cases h
   have AS:=B9 oB S
   generalize ju oB S=W at*
   refine bz.intro bN Tryz.func158 Jf ?_
   unfold Fz Ij
   simp(disch:=omega)only[go_sem,simprocAttr]
   refine ao ?_
   refine D.F ⟨[0],[]⟩ (mv) ?_
   (have al:=aa;have z2:=au;refine e8 ?_;clear al z2)
   refine D.F ⟨[0],[]⟩ (yz) ?_
   refine ao ?_
   refine D.F ⟨[0],[]⟩ (Xj) ?_
   refine ao ?_
   refine D.F ⟨[0],[]⟩ (LJ) ?_
   refine ao ?_
   refine D.F ⟨[0],[]⟩ (AT) ?_
   refine ao ?_
   refine D.F ⟨[0],[]⟩ (AS) ?_
   refine ao ?_
   refine D.r ?_
   exact⟨_,rfl,CH _ _ _ _ _,⟨rfl,trivial⟩,trivial⟩
  ·rw[wk]at h
   obtain⟨⟨mN,Kb⟩,aw,h⟩:=nq h
   simp only at h
   have f158:=(DA oB N n (by omega)).1 S mN Kb aw
   have aj5:=D1 mN
   obtain⟨eb,ef,ed,eg,ee,ec,ab⟩:=aj5
   rw[ab]at f158
   simp(disch:=omega)only[go_sem,simprocAttr]at f158
   refine bz.intro bN Tryz.func100 aP5 ?_
   unfold Vv ap2
   simp(disch:=omega)only[go_sem,simprocAttr]
   refine ao ?_
   refine D.F ⟨[0],[]⟩ (f158) ?_
   refine ao ?_
   refine aj.dd (X:=Nat×ad×hS) (n,mN,Kb) (fun y=>[(0,.ptr 0 0),(1,.int .i64 k),(4,.ptr 1 0),(5,.ptr 2 0)]) (fun y=>[(0,87,pY oB y.2.2),(1,51,z51),(2,51,y.2.1.row)]) (fun _=>[]) (fun y=>y.1≤n∧AJ oB y.1 k y.2.1 y.2.2=some (x,G5)) (fun y=>y.1) ⟨Nat.le_refl _,h⟩ ⟨rfl,rfl,rfl,rfl,trivial⟩ ⟨rfl,rfl,by rw[ab]; simp only[ad.ct]; rfl,trivial⟩ trivial ?_
   clear h aw ab f158
   rintro⟨m,y,T⟩ ⟨hm,h⟩
   simp only at hm h ⊢
   rcases m with _|m
   ·rw[AJ]at h
    cases h
   rw[AJ]at h
   have mv:=HK oB T
   have fC:=MZ oB (j:=4) (by decide) T
   obtain⟨Fw,wD,v,f,a6⟩:=Ik oB T
   have Ff: ∀t l,T.l=t::l→t=⟨Fw,wD,v,f⟩:=fun t l aH=>by rw[←(Pe oB aH).1,a6]
   rw[a6]at mv fC
   simp only at fC
   have Ke:=PN wD
   have hp:=uG wD
   obtain⟨sv,CK,x7,uU,x8,CJ,rfl⟩:=D1 y
   simp only[ad.ct]
   by_cases bn:Fw=4
   rotate_left
   ·rw[fC,if_neg (by simp [bn])]at h
    cases h
    refine ao ?_
    refine D.F ⟨[0],[]⟩ (mv) ?_
    refine ao ?_
    refine D.P (Ke) ?_
    (have al:=bn;refine bQ ?_;clear al)
    refine D.r ?_
    exact⟨_,rfl,wm (.mk sv CK x7 uU x8 CJ) (by simp only[ad.ct]),⟨rfl,trivial⟩,trivial⟩
   have aC:qN 4 T.l=true:=by rw[fC,bn]; rfl
   clear fC
   subst bn
   rw[if_pos aC]at h
   obtain⟨jd,a,e⟩:=T
   cases jd with
   |nil=>simp [qN]at aC
   |cons t l=>
   obtain rfl:=Ff t l rfl
   have aQ1:w2 ⟨⟨4,wD,v,f⟩::l,a,e⟩=wD:=rfl
   rw[aQ1]at h
   by_cases cK:cV wD<k
   ·rw[if_pos cK]at h
    cases h
    refine ao ?_
    refine D.F ⟨[0],[]⟩ (mv) ?_
    refine ao ?_
    refine D.P (Ke) ?_
    (have al:=cK;refine bQ ?_;clear al)
    refine D.r ?_
    exact⟨_,rfl,wm (.mk sv CK x7 uU x8 CJ) (by simp only[ad.ct]),⟨rfl,trivial⟩,trivial⟩
   rw[if_neg cK]at h
   obtain⟨⟨w,u0⟩,hw,h⟩:=nq h
   simp only at h
   have f100:=(DA oB N m (by omega)).2 _ _ w u0 hw
   obtain⟨av,QI,QH,wt,wn,a27,rfl⟩:=D1 w
   simp(disch:=omega)only[go_sem,simprocAttr]at f100
   refine ao ?_
   refine D.F ⟨[0],[]⟩ (mv) ?_
   refine ao ?_
   refine D.P (Ke) ?_
   (have al:=cK;refine bQ ?_;clear al)
   refine D.mi ?_
   refine ao ?_
   (apply ae.a8 (b:=0) (T:=87) (h:=bz.pM (p:=⟨[0],[]⟩) (f100) rfl rfl rfl (by repeat first|exact trivial|refine⟨rfl,?_⟩) (by repeat first|exact trivial|refine⟨rfl,?_⟩) (by simp(disch:=omega)only[go_sem,simprocAttr]<;>rfl) (by simp(disch:=omega)only[go_sem,simprocAttr]<;>rfl) rfl);(·simp(disch:=omega)only[go_sem,simprocAttr]<;>rfl);(·simp(disch:=omega)only[go_sem,simprocAttr]<;>with_reducible rfl);(·rfl);(·simp(disch:=omega)only[go_sem,simprocAttr]<;>rfl);(·first|rfl|(simp(disch:=omega)only[go_sem,simprocAttr]<;>rfl));(·intro s ap;simp only[List.mem_cons,List.not_mem_nil,or_false]at ap;rcases ap with rfl|rfl<;>exact⟨_,_,_,rfl,rfl,rfl,by simp(disch:=omega)only[go_sem,simprocAttr]<;>rfl⟩))
   simp(disch:=omega)only[go_sem,simprocAttr]
   refine ao ?_
   refine aj.gT (m,.mk 6 wD [] [] 0 [.mk sv CK x7 uU x8 CJ,.mk av QI QH wt wn a27],u0) ⟨by simp only; omega,h⟩ ⟨rfl,rfl,rfl,rfl,trivial⟩ ⟨rfl,rfl,by simp only[ad.ct,List.map_cons,List.map_nil]; rfl,trivial⟩ trivial rfl (by simp only[fY,dr,dP,dV,fO,I.cR,b2.bJ,oC,go_sem]<;>rfl) (by show m<m+1; omega)
end
section
attribute [local go_sem] pY ba.row oC ad.ct ad.b9 ad.de ac.ct ac.b9 ac.de
theorem Ux (x:ac): ∃k m eb ef ed eg ee ec t a b,x= .mk k m (.mk eb ef ed eg ee ec) t a b:=by
 rcases x with ⟨k,m,⟨eb,ef,ed,eg,ee,ec⟩,t,a,b⟩
 exact⟨_,_,_,_,_,_,_,_,_,_,_,rfl⟩
theorem KV {k:Int}{m:a7}{eb:Int}{ef ed eg:a7}{ee:Int}{ec:List ad}{t:Int}{A B ya qb:I}(fa:kC A ya) (dX:kC B qb):kC (.agg [.int .i64 k,.str m,.int .i64 eb,.str ef,.str ed,.str eg,.int .i64 ee,.ay 6 (ec.map ad.row),.int .i64 t,A,B]) (.agg [.int .i64 k,.str m,.int .i64 eb,.str ef,.str ed,.str eg,.int .i64 ee,.ay 6 (ec.map ad.row),.int .i64 t,ya,qb]):=
 .agg (.cons (.av rfl rfl) (.cons (.av rfl rfl) (.cons (.av rfl rfl) (.cons (.av rfl rfl) (.cons (.av rfl rfl) (.cons (.av rfl rfl) (.cons (.av rfl rfl) (.cons (Jd (by simp only[I.flat,ad.b9])) (.cons (.av rfl rfl) (.cons fa (.cons dX .nil)))))))))))
theorem Fx (l:List ac):kC (.ay 11 (l.map ac.row)) (.ay 11 (l.map ac.row)):=Jd (by simp only[I.flat,ac.b9])
theorem JZ (oB:Int): ∀N n,n≤N→N≤1000000→(∀S b G5,vf oB n S=some (b,G5)→bz Tryz.prog 99 [.ptr 0 0] (jS oB S) (fJ (.ay 11 (b.map ac.row)) [(0,87,pY oB G5)] []))∧(∀S x G5,I9 oB n S=some (x,G5)→bz Tryz.prog 157 [.ptr 0 0] (jS oB S) (fJ (.agg x.row) [(0,87,pY oB G5)] []))∧(∀S x G5,DL oB n S=some (x,G5)→bz Tryz.prog 192 [.ptr 0 0] (jS oB S) (fJ (.agg x.row) [(0,87,pY oB G5)] []))
 |N,0,_,_=>⟨fun S x G5 h=>(by rw[vf]at h; cases h),fun S x G5 h=>(by rw[I9]at h; cases h),fun S x G5 h=>(by rw[DL]at h; cases h)⟩
 |0,n+1,h,_=>by omega
 |N+1,n+1,bW,rO=>by
  refine⟨fun S b G5 h=>bz.rw ?_ (by simp only[I.flat,ac.b9]),fun S x G5 h=>bz.rw ?_ (by simp only[I.flat,ac.de]),fun S x G5 h=>bz.rw ?_ (by simp only[I.flat,ac.de])⟩
  ·rw[vf]at h
   have f33:=rb oB [123] S
   generalize cX oB [123] S=Kb at*
   refine bz.intro bN Tryz.func99 aV5 ?_
   unfold YA aD4
   simp(disch:=omega)only[go_sem,simprocAttr]
   refine ao ?_
   refine D.F ⟨[0],[]⟩ (f33) ?_
   refine yc ?_
   refine aj.rL 3 11 165 rfl (by decide) ?_
   simp(disch:=omega)only[go_sem,simprocAttr]
   refine ao ?_
   refine aj.dd (X:=Nat×List ac×hS) (n,[],Kb) (fun y=>[(0,.ptr 0 0),(3,.own 0 11 (y.2.1.map ac.row))]) (fun y=>[(0,87,pY oB y.2.2)]) (fun y=>[(0,.bJ 165 11 (y.2.1.map ac.row).length)]) (fun y=>y.2.1.length+y.1≤n∧z7 oB y.1 y.2.1 y.2.2=some (b,G5)) (fun y=>y.1) ⟨by simp,h⟩ ⟨rfl,rfl,trivial⟩ ⟨rfl,trivial⟩ ⟨rfl,trivial⟩ ?_
   clear h f33
   rintro⟨m,acc,T⟩ ⟨hm,h⟩
   simp only at hm h ⊢
   rcases m with _|m
   ·rw[z7]at h
    cases h
   rw[z7]at h
   by_cases he:T.e=0
   rotate_left
   ·rw[if_neg he]at h
    cases h
    (have al:=he;refine bQ ?_;clear al)
    refine D.r ?_
    exact⟨_,rfl,.av rfl (by simp only[I.flat,ac.b9]),⟨rfl,trivial⟩,trivial⟩
   rw[if_pos he]at h
   have f35:=wj oB [125] T
   obtain⟨jd,a,e⟩:=T
   simp only at he
   subst he
   cases c4:eQ [125] (hS.mk jd a 0).l with
   |true=>
    rw[c4,if_pos rfl]at h f35
    cases h
    refine ao ?_
    refine D.F ⟨[0],[]⟩ (f35) ?_
    refine ao ?_
    refine D.r ?_
    exact⟨_,rfl,.av rfl (by simp only[I.flat,ac.b9]),⟨rfl,trivial⟩,trivial⟩
   |false=>
    rw[c4,if_neg (by decide)]at h f35
    obtain⟨⟨w,u0⟩,hw,h⟩:=nq h
    simp only at h
    have f157:=(JZ oB N m (by omega) (by omega)).2.1 _ w u0 hw
    obtain⟨k,m1,eb,ef,ed,eg,ee,ec,t,fN,eB,rfl⟩:=Ux w
    simp(disch:=omega)only[go_sem,simprocAttr]at f157
    refine ao ?_
    refine D.F ⟨[0],[]⟩ (f35) ?_
    refine ao ?_
    refine D.F ⟨[0],[]⟩ (f157) ?_
    refine ao ?_
    refine D.gL ?_
    refine ao ?_
    refine aj.gT (m,acc++[.mk k m1 (.mk eb ef ed eg ee ec) t fN eB],u0) ⟨by simp only[List.length_append,List.length_cons,List.length_nil]; omega,h⟩ ⟨rfl,by simp only[List.map_append,List.map_cons,List.map_nil,ac.ct,ad.ct,List.cons_append,List.nil_append]; rfl,trivial⟩ ⟨rfl,trivial⟩ ⟨by simp only[List.map_append,List.map_cons,List.map_nil,List.length_append]; rfl,trivial⟩ rfl (by simp only[fY,dr,dP,dV,fO,I.cR,b2.bJ,oC,go_sem]<;>rfl) (by show m<m+1; omega)
  ·rw[I9]at h
   have AZ:=wj oB [105,102] S
   cases w8:eQ [105,102] S.l with
   |true=>
    rw[w8,if_pos rfl]at h AZ
    have f192:=(JZ oB N n (by omega) (by omega)).2.2 _ x G5 h
    obtain⟨k,m1,eb,ef,ed,eg,ee,ec,t,fN,eB,rfl⟩:=Ux x
    simp(disch:=omega)only[go_sem,simprocAttr]at f192
    refine bz.intro bN Tryz.func157 QK ?_
    unfold Oy PS
    simp(disch:=omega)only[go_sem,simprocAttr]
    refine ao ?_
    refine D.F ⟨[0],[]⟩ (AZ) ?_
    refine ao ?_
    refine D.F ⟨[0],[]⟩ (f192) ?_
    refine ao ?_
    refine D.r ?_
    exact⟨_,rfl,KV (Fx _) (Fx _),⟨rfl,trivial⟩,trivial⟩
   |false=>
   rw[w8,if_neg (by decide)]at h AZ
   have O9:=wj oB [119,104,105,108,101] S
   cases yM:eQ [119,104,105,108,101] S.l with
   |true=>
    rw[yM,if_pos rfl]at h O9
    obtain⟨⟨y,kN⟩,aZ,h⟩:=nq h
    simp only at h
    obtain⟨⟨c,sp⟩,ah,h⟩:=nq h
    cases h
    have f100:=(DA oB n n (Nat.le_refl _)).2 1 _ y kN aZ
    have f33:=rb oB [116,105,109,101,115] kN
    generalize cX oB [116,105,109,101,115] kN=w4 at*
    have f94:=KO oB 1 50 w4
    generalize jL oB 1 50 w4=Q at*
    have f99:=(JZ oB N n (by omega) (by omega)).1 _ c sp ah
    obtain⟨sv,CK,x7,uU,x8,CJ,rfl⟩:=D1 y
    simp(disch:=omega)only[go_sem,simprocAttr]at f100
    refine bz.intro bN Tryz.func157 QK ?_
    unfold Oy PS
    simp(disch:=omega)only[go_sem,simprocAttr]
    refine ao ?_
    refine D.F ⟨[0],[]⟩ (AZ) ?_
    refine ao ?_
    refine D.F ⟨[0],[]⟩ (O9) ?_
    refine ao ?_
    refine D.F ⟨[0],[]⟩ (f100) ?_
    refine ao ?_
    refine D.F ⟨[0],[]⟩ (f33) ?_
    refine ao ?_
    refine D.F ⟨[0],[]⟩ (f94) ?_
    refine ao ?_
    refine D.F ⟨[0],[]⟩ (f99) ?_
    refine ao ?_
    refine D.r ?_
    exact⟨_,rfl,KV (Fx _) .nil,⟨rfl,trivial⟩,trivial⟩
   |false=>
   rw[yM,if_neg (by decide)]at h O9
   obtain⟨⟨y,kN⟩,aZ,h⟩:=nq h
   cases h
   have f34:=B9 oB S
   generalize ju oB S=W at*
   have f33:=rb oB [61] W.2
   generalize cX oB [61] W.2=nE at*
   have f100:=(DA oB n n (Nat.le_refl _)).2 1 _ y kN aZ
   have Kp:=rb oB [59] kN
   generalize cX oB [59] kN=sp at*
   obtain⟨sv,CK,x7,uU,x8,CJ,rfl⟩:=D1 y
   simp(disch:=omega)only[go_sem,simprocAttr]at f100
   refine bz.intro bN Tryz.func157 QK ?_
   unfold Oy PS
   simp(disch:=omega)only[go_sem,simprocAttr]
   refine ao ?_
   refine D.F ⟨[0],[]⟩ (AZ) ?_
   refine ao ?_
   refine D.F ⟨[0],[]⟩ (O9) ?_
   refine ao ?_
   refine D.F ⟨[0],[]⟩ (f34) ?_
   refine ao ?_
   refine D.F ⟨[0],[]⟩ (f33) ?_
   refine ao ?_
   refine D.F ⟨[0],[]⟩ (f100) ?_
   refine ao ?_
   refine D.F ⟨[0],[]⟩ (Kp) ?_
   refine ao ?_
   refine D.r ?_
   exact⟨_,rfl,KV .nil .nil,⟨rfl,trivial⟩,trivial⟩
  ·rw[DL]at h
   obtain⟨⟨y,nE⟩,aZ,h⟩:=nq h
   simp only at h
   obtain⟨⟨c,kN⟩,ah,h⟩:=nq h
   simp only at h
   have f100:=(DA oB n n (Nat.le_refl _)).2 1 _ y nE aZ
   have f99:=(JZ oB N n (by omega) (by omega)).1 _ c kN ah
   have L1:=wj oB [101,108,115,101] kN
   obtain⟨sv,CK,x7,uU,x8,CJ,rfl⟩:=D1 y
   simp(disch:=omega)only[go_sem,simprocAttr]at f100
   cases dc:eQ [101,108,115,101] kN.l with
   |false=>
    rw[dc,if_neg (by decide)]at h L1
    cases h
    refine bz.intro bN Tryz.func192 QT ?_
    unfold OH PY
    simp(disch:=omega)only[go_sem,simprocAttr]
    refine ao ?_
    refine D.F ⟨[0],[]⟩ (f100) ?_
    refine ao ?_
    refine D.F ⟨[0],[]⟩ (f99) ?_
    refine ao ?_
    refine D.F ⟨[0],[]⟩ (L1) ?_
    refine ao ?_
    refine D.r ?_
    exact⟨_,rfl,KV (Fx _) .nil,⟨rfl,trivial⟩,trivial⟩
   |true=>
   rw[dc,if_pos rfl]at h L1
   have AZ:=wj oB [105,102] kN.ds
   cases w8:eQ [105,102] kN.ds.l with
   |true=>
    rw[w8,if_pos rfl]at h AZ
    obtain⟨⟨w,sp⟩,hw,h⟩:=nq h
    cases h
    have f192:=(JZ oB N n (by omega) (by omega)).2.2 _ w sp hw
    obtain⟨k,m1,eb,ef,ed,eg,ee,ec,t,fN,eB,rfl⟩:=Ux w
    simp(disch:=omega)only[go_sem,simprocAttr]at f192
    refine bz.intro bN Tryz.func192 QT ?_
    unfold OH PY
    simp(disch:=omega)only[go_sem,simprocAttr]
    refine ao ?_
    refine D.F ⟨[0],[]⟩ (f100) ?_
    refine ao ?_
    refine D.F ⟨[0],[]⟩ (f99) ?_
    refine ao ?_
    refine D.F ⟨[0],[]⟩ (L1) ?_
    refine ao ?_
    refine D.F ⟨[0],[]⟩ (AZ) ?_
    refine ao ?_
    refine D.F ⟨[0],[]⟩ (f192) ?_
    refine ao ?_
    refine D.r ?_
    exact⟨_,rfl,KV (Fx _) (Jd (by simp only[I.flat,fP,b3,ad.b9,ac.b9,Bool.and_self])),⟨rfl,trivial⟩,trivial⟩
   |false=>
    rw[w8,if_neg (by decide)]at h AZ
    obtain⟨⟨w,sp⟩,hw,h⟩:=nq h
    cases h
    have aV8:=(JZ oB N n (by omega) (by omega)).1 _ w sp hw
    refine bz.intro bN Tryz.func192 QT ?_
    unfold OH PY
    simp(disch:=omega)only[go_sem,simprocAttr]
    refine ao ?_
    refine D.F ⟨[0],[]⟩ (f100) ?_
    refine ao ?_
    refine D.F ⟨[0],[]⟩ (f99) ?_
    refine ao ?_
    refine D.F ⟨[0],[]⟩ (L1) ?_
    refine ao ?_
    refine D.F ⟨[0],[]⟩ (AZ) ?_
    refine ao ?_
    refine D.F ⟨[0],[]⟩ (aV8) ?_
    refine ao ?_
    refine D.r ?_
    exact⟨_,rfl,KV (Fx _) (Fx _),⟨rfl,trivial⟩,trivial⟩
end
section
attribute [local go_sem] pY ba.row oC cb.row dG Ft
theorem ao7 (n:Int):Pure Tryz.prog 97 [.int .i64 n] (.agg [.int .i64 1,.int .i64 n,.str []]):=by
 refine cF bN Tryz.func97 aV3 rfl rfl ?_
 unfold Yv aD2
 simp(disch:=omega)only[go_sem,simprocAttr]
 refine ao ?_
 exact D.rx
theorem aZ9 (oB:Int) (S:hS):bz Tryz.prog 36 [.ptr 0 0] (jS oB S) (fJ (.agg (Ja oB S).1.row) [(0,87,pY oB (Ja oB S).2)] []):=by
 have f34:=B9 oB S
 unfold Ja
 generalize ju oB S=W at*
 have f33:=rb oB [58] W.2
 generalize cX oB [58] W.2=nE at*
 have qw:=wj oB [116,101,120,116] nE
 cases c4:eQ [116,101,120,116] nE.l
 case true=>
  rw[c4,if_pos rfl]at qw
  have ap:y7 oB nE=((2,(jL oB 0 999999 nE.ds).1,(jL oB 0 999999 (cX oB [46,46] (jL oB 0 999999 nE.ds).2)).1),(jL oB 0 999999 (cX oB [46,46] (jL oB 0 999999 nE.ds).2)).2):=by unfold y7; rw[if_pos c4]
  rw[ap]
  clear ap
  have JW:=KO oB 0 999999 nE.ds
  generalize jL oB 0 999999 nE.ds=A at*
  have fd:=rb oB [46,46] A.2
  generalize cX oB [46,46] A.2=sp at*
  have E7:=KO oB 0 999999 sp
  generalize jL oB 0 999999 sp=B at*
  obtain⟨b,w4⟩:=B
  simp only at E7 ⊢
  have ii:=rb oB [61] w4
  generalize cX oB [61] w4=la at*
  have f92:=HK oB la
  have cO:=MZ oB (j:=3) (by decide) la
  obtain⟨Fw,wD,v,f,a6⟩:=Ik oB la
  have Ff: ∀t l,la.l=t::l→t=⟨Fw,wD,v,f⟩:=fun t l aH=>by rw[←(Pe oB aH).1,a6]
  rw[a6]at f92 cO
  simp only at cO
  by_cases au:Fw=3
  ·have aC:qN 3 la.l=true:=by rw[cO,au]; rfl
   have ai:vi oB la=((2,0,w2 la),la.ds):=by unfold vi; rw[if_pos aC]
   rw[ai]
   clear ai cO
   subst au
   obtain⟨jd,a,e⟩:=la
   cases jd with
   |nil=>simp [qN]at aC
   |cons t l=>
   obtain rfl:=Ff t l rfl
   have f96:=Tp wD
   have JX:=rb oB [59] (hS.ds ⟨⟨3,wD,v,f⟩::l,a,e⟩)
   generalize R1:cX oB [59] (hS.ds ⟨⟨3,wD,v,f⟩::l,a,e⟩)=Om at*
   clear R1
   refine bz.intro bN Tryz.func36 Ot ?_
   unfold LI Oa
   simp(disch:=omega)only[go_sem,simprocAttr]
   refine ao ?_
   refine D.F ⟨[0],[]⟩ (f34) ?_
   refine ao ?_
   refine D.F ⟨[0],[]⟩ (f33) ?_
   refine ao ?_
   refine D.F ⟨[0],[]⟩ (qw) ?_
   refine ao ?_
   refine D.F ⟨[0],[]⟩ (JW) ?_
   refine ao ?_
   refine D.F ⟨[0],[]⟩ (fd) ?_
   refine ao ?_
   refine D.F ⟨[0],[]⟩ (E7) ?_
   refine ao ?_
   refine D.F ⟨[0],[]⟩ (ii) ?_
   refine ao ?_
   refine D.F ⟨[0],[]⟩ (f92) ?_
   refine ao ?_
   refine D.mi ?_
   refine ao ?_
   refine D.P (f96) ?_
   refine ao ?_
   refine D.F ⟨[0],[]⟩ (JX) ?_
   refine ao ?_
   refine D.r ?_
   exact⟨rfl,⟨rfl,trivial⟩,trivial⟩
  ·have aC: ¬qN 3 la.l=true:=by rw[cO]; simp [au]
   have ai:vi oB la=((1,(ks oB la).1,[]),(ks oB la).2):=by unfold vi; rw[if_neg aC]
   rw[ai]
   clear ai cO
   have f95:=PP oB la
   generalize ks oB la=V at*
   have f97:=ao7 V.1
   have JX:=rb oB [59] V.2
   generalize cX oB [59] V.2=Om at*
   refine bz.intro bN Tryz.func36 Ot ?_
   unfold LI Oa
   simp(disch:=omega)only[go_sem,simprocAttr]
   refine ao ?_
   refine D.F ⟨[0],[]⟩ (f34) ?_
   refine ao ?_
   refine D.F ⟨[0],[]⟩ (f33) ?_
   refine ao ?_
   refine D.F ⟨[0],[]⟩ (qw) ?_
   refine ao ?_
   refine D.F ⟨[0],[]⟩ (JW) ?_
   refine ao ?_
   refine D.F ⟨[0],[]⟩ (fd) ?_
   refine ao ?_
   refine D.F ⟨[0],[]⟩ (E7) ?_
   refine ao ?_
   refine D.F ⟨[0],[]⟩ (ii) ?_
   refine ao ?_
   refine D.F ⟨[0],[]⟩ (f92) ?_
   (have al:=au;refine bQ ?_;clear al)
   refine D.F ⟨[0],[]⟩ (f95) ?_
   refine ao ?_
   refine D.P (f97) ?_
   refine ao ?_
   refine D.F ⟨[0],[]⟩ (JX) ?_
   refine ao ?_
   refine D.r ?_
   exact⟨rfl,⟨rfl,trivial⟩,trivial⟩
 case false=>
  rw[c4,if_neg (by decide)]at qw
  have ap:y7 oB nE=((1,(ks oB (cX oB [105,110,116] nE)).1,(ks oB (cX oB [46,46] (ks oB (cX oB [105,110,116] nE)).2)).1),(ks oB (cX oB [46,46] (ks oB (cX oB [105,110,116] nE)).2)).2):=by unfold y7; rw[if_neg (by rw[c4]; decide)]
  rw[ap]
  clear ap
  have Zb:=rb oB [105,110,116] nE
  generalize cX oB [105,110,116] nE=kN at*
  have JW:=PP oB kN
  generalize ks oB kN=A at*
  have fd:=rb oB [46,46] A.2
  generalize cX oB [46,46] A.2=sp at*
  have E7:=PP oB sp
  generalize ks oB sp=B at*
  obtain⟨b,w4⟩:=B
  simp only at E7 ⊢
  have ii:=rb oB [61] w4
  generalize cX oB [61] w4=la at*
  have f92:=HK oB la
  have cO:=MZ oB (j:=3) (by decide) la
  obtain⟨Fw,wD,v,f,a6⟩:=Ik oB la
  have Ff: ∀t l,la.l=t::l→t=⟨Fw,wD,v,f⟩:=fun t l aH=>by rw[←(Pe oB aH).1,a6]
  rw[a6]at f92 cO
  simp only at cO
  by_cases au:Fw=3
  ·have aC:qN 3 la.l=true:=by rw[cO,au]; rfl
   have ai:vi oB la=((2,0,w2 la),la.ds):=by unfold vi; rw[if_pos aC]
   rw[ai]
   clear ai cO
   subst au
   obtain⟨jd,a,e⟩:=la
   cases jd with
   |nil=>simp [qN]at aC
   |cons t l=>
   obtain rfl:=Ff t l rfl
   have f96:=Tp wD
   have JX:=rb oB [59] (hS.ds ⟨⟨3,wD,v,f⟩::l,a,e⟩)
   generalize R1:cX oB [59] (hS.ds ⟨⟨3,wD,v,f⟩::l,a,e⟩)=Om at*
   clear R1
   refine bz.intro bN Tryz.func36 Ot ?_
   unfold LI Oa
   simp(disch:=omega)only[go_sem,simprocAttr]
   refine ao ?_
   refine D.F ⟨[0],[]⟩ (f34) ?_
   refine ao ?_
   refine D.F ⟨[0],[]⟩ (f33) ?_
   refine ao ?_
   refine D.F ⟨[0],[]⟩ (qw) ?_
   refine ao ?_
   refine D.F ⟨[0],[]⟩ (Zb) ?_
   refine ao ?_
   refine D.F ⟨[0],[]⟩ (JW) ?_
   refine ao ?_
   refine D.F ⟨[0],[]⟩ (fd) ?_
   refine ao ?_
   refine D.F ⟨[0],[]⟩ (E7) ?_
   refine ao ?_
   refine D.F ⟨[0],[]⟩ (ii) ?_
   refine ao ?_
   refine D.F ⟨[0],[]⟩ (f92) ?_
   refine ao ?_
   refine D.mi ?_
   refine ao ?_
   refine D.P (f96) ?_
   refine ao ?_
   refine D.F ⟨[0],[]⟩ (JX) ?_
   refine ao ?_
   refine D.r ?_
   exact⟨rfl,⟨rfl,trivial⟩,trivial⟩
  ·have aC: ¬qN 3 la.l=true:=by rw[cO]; simp [au]
   have ai:vi oB la=((1,(ks oB la).1,[]),(ks oB la).2):=by unfold vi; rw[if_neg aC]
   rw[ai]
   clear ai cO
   have f95:=PP oB la
   generalize ks oB la=V at*
   have f97:=ao7 V.1
   have JX:=rb oB [59] V.2
   generalize cX oB [59] V.2=Om at*
   refine bz.intro bN Tryz.func36 Ot ?_
   unfold LI Oa
   simp(disch:=omega)only[go_sem,simprocAttr]
   refine ao ?_
   refine D.F ⟨[0],[]⟩ (f34) ?_
   refine ao ?_
   refine D.F ⟨[0],[]⟩ (f33) ?_
   refine ao ?_
   refine D.F ⟨[0],[]⟩ (qw) ?_
   refine ao ?_
   refine D.F ⟨[0],[]⟩ (Zb) ?_
   refine ao ?_
   refine D.F ⟨[0],[]⟩ (JW) ?_
   refine ao ?_
   refine D.F ⟨[0],[]⟩ (fd) ?_
   refine ao ?_
   refine D.F ⟨[0],[]⟩ (E7) ?_
   refine ao ?_
   refine D.F ⟨[0],[]⟩ (ii) ?_
   refine ao ?_
   refine D.F ⟨[0],[]⟩ (f92) ?_
   (have al:=au;refine bQ ?_;clear al)
   refine D.F ⟨[0],[]⟩ (f95) ?_
   refine ao ?_
   refine D.P (f97) ?_
   refine ao ?_
   refine D.F ⟨[0],[]⟩ (JX) ?_
   refine ao ?_
   refine D.r ?_
   exact⟨rfl,⟨rfl,trivial⟩,trivial⟩
end
section
attribute [local go_sem] pY ba.row oC ad.ct ad.b9 ad.de ac.ct ac.b9 ac.de cj eN fZ gJ dp of_flat
theorem U0 {t n:Nat}{rows:List (List I)}(h:fP rows=true):kC (.own t n rows) (.ay n rows):= .av rfl h
theorem a00 (oB:Int) (n:Nat) (S:hS) (x:cd) (G5:hS) (a6:n≤1000000) (h:J2 oB n S=some (x,G5)):bz Tryz.prog 37 [.ptr 0 0] (jS oB S) (fJ (.agg x.row) [(0,87,pY oB G5)] []):=by
 refine bz.rw ?_ (by simp only[fZ,b3,I.flat,eN,ac.b9,Bool.and_self])
 unfold J2 at h
 obtain⟨⟨m,nE⟩,hm,h⟩:=nq h
 simp only at h
 obtain⟨⟨ps,sp⟩,rX,h⟩:=nq h
 simp only at h
 obtain⟨⟨b,la⟩,hb,h⟩:=nq h
 cases h
 have f98:=ao8 oB n S m nE a6 hm
 have f33:=rb oB [40] nE
 generalize cX oB [40] nE=kN at*
 have JO:=rb oB [102,114,111,109] sp
 generalize cX oB [102,114,111,109] sp=w4 at*
 have f34:=B9 oB w4
 generalize ju oB w4=W at*
 have f99:=(JZ oB n n (Nat.le_refl _) a6).1 _ b la hb
 have f35:=wj oB [41] kN
 unfold Of at rX
 cases c4:eQ [41] kN.l with
 |true=>
  rw[c4,if_pos rfl]at rX f35
  cases rX
  refine bz.intro bN Tryz.func37 Vi ?_
  unfold Q2 Uj
  simp(disch:=omega)only[go_sem,simprocAttr]
  refine ao ?_
  refine D.F ⟨[0],[]⟩ (f98) ?_
  refine ao ?_
  refine D.F ⟨[0],[]⟩ (f33) ?_
  refine ao ?_
  refine D.F ⟨[0],[]⟩ (f35) ?_
  refine ao ?_
  refine D.F ⟨[0],[]⟩ (JO) ?_
  refine ao ?_
  refine D.F ⟨[0],[]⟩ (f34) ?_
  refine ao ?_
  refine D.F ⟨[0],[]⟩ (f99) ?_
  refine ao ?_
  refine D.r ?_
  exact⟨_,rfl,.agg (.cons (.av rfl rfl) (.cons (.av rfl rfl) (.cons .nil (.cons (Fx _) .nil)))),⟨rfl,trivial⟩,trivial⟩
 |false=>
  rw[c4,if_neg (by decide)]at rX f35
  obtain⟨⟨q,T⟩,bG,rX⟩:=nq rX
  cases rX
  have YZ:=B9 oB kN
  generalize ju oB kN=V at*
  have Kp:=rb oB [41] T
  refine bz.intro bN Tryz.func37 Vi ?_
  unfold Q2 Uj
  simp(disch:=omega)only[go_sem,simprocAttr]
  refine ao ?_
  refine D.F ⟨[0],[]⟩ (f98) ?_
  refine ao ?_
  refine D.F ⟨[0],[]⟩ (f33) ?_
  refine ao ?_
  refine D.F ⟨[0],[]⟩ (f35) ?_
  refine bK ?_
  refine aj.oU 2 2 1 9 rfl rfl (by decide) ?_
  simp(disch:=omega)only[go_sem,simprocAttr]
  refine ao ?_
  (apply ae.a8 (b:=0) (T:=87) (h:=bz.pM (p:=⟨[0],[]⟩) (YZ) rfl rfl rfl (by repeat first|exact trivial|refine⟨rfl,?_⟩) (by repeat first|exact trivial|refine⟨rfl,?_⟩) (by simp(disch:=omega)only[go_sem,simprocAttr]<;>rfl) (by simp(disch:=omega)only[go_sem,simprocAttr]<;>rfl) rfl);(·simp(disch:=omega)only[go_sem,simprocAttr]<;>rfl);(·simp(disch:=omega)only[go_sem,simprocAttr]<;>with_reducible rfl);(·rfl);(·simp(disch:=omega)only[go_sem,simprocAttr]<;>rfl);(·first|rfl|(simp(disch:=omega)only[go_sem,simprocAttr]<;>rfl));(·intro s ap;simp only[List.mem_singleton]at ap;subst ap;exact⟨_,_,_,rfl,rfl,rfl,by simp(disch:=omega)only[go_sem,simprocAttr]<;>rfl⟩))
  simp(disch:=omega)only[go_sem,simprocAttr]
  refine ao ?_
  refine D.gL ?_
  refine ao ?_
  refine aj.dd (X:=Nat×List a7×hS) (n,[V.1],V.2) (fun y=>[(0,.ptr 0 0),(2,.ptr 1 0),(3,.ptr 2 0)]) (fun y=>[(0,87,pY oB y.2.2),(1,99,[.str [],.str [],.aV,.aV]),(2,99,[.str m,.str [],.own 0 1 (y.2.1.map cj),.aV])]) (fun y=>[(0,.bJ 9 1 (y.2.1.map cj).length)]) (fun y=>y.2.1.length+y.1≤n+1∧Ew oB y.1 y.2.1 y.2.2=some (q,T)) (fun y=>y.1) ⟨by simp only[List.length_cons,List.length_nil]; omega,bG⟩ ⟨rfl,rfl,rfl,trivial⟩ ⟨rfl,rfl,rfl,trivial⟩ ⟨rfl,trivial⟩ ?_
  clear bG f98 f33 f35 YZ
  rintro⟨k,acc,tL⟩ ⟨aC,h⟩
  simp only at aC h ⊢
  rcases k with _|k
  ·rw[Ew]at h
   cases h
  rw[Ew]at h
  have xy:=wj oB [44] tL
  cases hC:eQ [44] tL.l with
  |true=>
   rw[hC,if_pos rfl]at h xy
   have aV7:=B9 oB tL.ds
   generalize ju oB tL.ds=pv at*
   refine ao ?_
   refine D.F ⟨[0],[]⟩ (xy) ?_
   refine ao ?_
   (apply ae.a8 (b:=0) (T:=87) (h:=bz.pM (p:=⟨[0],[]⟩) (aV7) rfl rfl rfl (by repeat first|exact trivial|refine⟨rfl,?_⟩) (by repeat first|exact trivial|refine⟨rfl,?_⟩) (by simp(disch:=omega)only[go_sem,simprocAttr]<;>rfl) (by simp(disch:=omega)only[go_sem,simprocAttr]<;>rfl) rfl);(·simp(disch:=omega)only[go_sem,simprocAttr]<;>rfl);(·simp(disch:=omega)only[go_sem,simprocAttr]<;>with_reducible rfl);(·rfl);(·simp(disch:=omega)only[go_sem,simprocAttr]<;>rfl);(·first|rfl|(simp(disch:=omega)only[go_sem,simprocAttr]<;>rfl));(·intro s ap;simp only[List.mem_singleton]at ap;subst ap;exact⟨_,_,_,rfl,rfl,rfl,by simp(disch:=omega)only[go_sem,simprocAttr]<;>rfl⟩))
   simp(disch:=omega)only[go_sem,simprocAttr]
   refine ao ?_
   refine D.gL ?_
   refine ao ?_
   refine aj.dK (k,acc++[pv.1],pv.2) ⟨by simp only[List.length_append,List.length_cons,List.length_nil]; omega,h⟩ ⟨rfl,rfl,rfl,trivial⟩ ⟨rfl,rfl,by simp only[List.map_append,List.map_cons,List.map_nil,cj]; rfl,trivial⟩ ⟨by simp only[List.map_append,List.map_cons,List.map_nil,List.length_append]; rfl,trivial⟩ rfl rfl (by show k<k+1; omega)
  |false=>
   rw[hC,if_neg (by decide)]at h xy
   cases h
   refine ao ?_
   refine D.F ⟨[0],[]⟩ (xy) ?_
   refine ao ?_
   refine D.F ⟨[0],[]⟩ (Kp) ?_
   refine ao ?_
   refine D.F ⟨[0],[]⟩ (JO) ?_
   refine ao ?_
   refine D.F ⟨[0],[]⟩ (f34) ?_
   refine ao ?_
   refine D.F ⟨[0],[]⟩ (f99) ?_
   refine ao ?_
   refine D.r ?_
   exact⟨_,rfl,.agg (.cons (.av rfl rfl) (.cons (.av rfl rfl) (.cons (U0 (eN _)) (.cons (Fx _) .nil)))),⟨rfl,trivial⟩,trivial⟩
end
section
attribute [local go_sem] pY ba.row oC ad.ct ad.b9 ad.de ac.ct ac.b9 ac.de cj eN fZ gJ dp of_flat
theorem aH9 (k:Int) (o m t:a7) (n:Int) (l:List ad):kC (.ay 6 [[.int .i64 k,.str o,.str m,.str t,.int .i64 n,.ay 6 (l.map ad.row)]]) (.ay 6 [[.int .i64 k,.str o,.str m,.str t,.int .i64 n,.ay 6 (l.map ad.row)]]):=Jd (by simp only[I.flat,fP,b3,ad.b9,Bool.and_self])
theorem a26 (k:Int) (o m t:a7) (n:Int) (l:List ad):kC (.ay 6 [[.int .i64 k,.str o,.str m,.str t,.int .i64 n,.ay 6 (l.map ad.row)]]) (.ay 6 ([ad.mk k o m t n l].map ad.row)):=by
 simp only[List.map_cons,List.map_nil,ad.ct]
 exact aH9 k o m t n l
theorem YR (l:List ad):fP (l.map ad.row)=true:=by simp only[ad.b9]
theorem a01 (oB:Int) (n:Nat) (S:hS) (x:ca) (G5:hS) (a6:n≤1000000) (h:J7 oB n S=some (x,G5)):bz Tryz.prog 38 [.ptr 0 0] (jS oB S) (fJ (.agg x.row) [(0,87,pY oB G5)] []):=by
 refine bz.rw ?_ (by simp only[gJ,b3,I.flat,ad.b9,Bool.and_self])
 unfold J7 at h
 obtain⟨⟨m,nE⟩,hm,h⟩:=nq h
 simp only at h
 obtain⟨⟨n3,sp⟩,rX,h⟩:=nq h
 simp only at h
 obtain⟨⟨wn,la⟩,hb,h⟩:=nq h
 cases h
 have f98:=ao8 oB n S m nE a6 hm
 have f33:=rb oB [40] nE
 generalize cX oB [40] nE=kN at*
 have JO:=rb oB [116,111] sp
 generalize cX oB [116,111] sp=w4 at*
 have f34:=B9 oB w4
 generalize ju oB w4=W at*
 have O4:=rb oB [59] la
 generalize cX oB [59] la=Om at*
 have f35:=wj oB [41] kN
 unfold Jc at hb
 have FL:=wj oB [119,104,101,114,101] W.2
 unfold Oc at rX
 have dc:=fun k S y G5 h=>(DA oB n n (Nat.le_refl _)).2 k S y G5 h
 cases c4:eQ [41] kN.l with
 |true=>
  rw[c4,if_pos rfl]at rX f35
  cases rX
  cases yM:eQ [119,104,101,114,101] W.2.l with
  |false=>
   rw[yM,if_neg (by decide)]at hb FL
   cases hb
   refine bz.intro bN Tryz.func38 QV ?_
   unfold OQ Qr
   simp(disch:=omega)only[go_sem,simprocAttr]
   refine ao ?_
   refine D.F ⟨[0],[]⟩ (f98) ?_
   refine ao ?_
   refine D.F ⟨[0],[]⟩ (f33) ?_
   refine ao ?_
   refine D.F ⟨[0],[]⟩ (f35) ?_
   refine ao ?_
   refine D.F ⟨[0],[]⟩ (JO) ?_
   refine ao ?_
   refine D.F ⟨[0],[]⟩ (f34) ?_
   refine ao ?_
   refine D.F ⟨[0],[]⟩ (FL) ?_
   refine ao ?_
   refine D.F ⟨[0],[]⟩ (O4) ?_
   refine ao ?_
   refine D.r ?_
   exact⟨_,rfl,.agg (.cons (.av rfl rfl) (.cons (.av rfl rfl) (.cons .nil (.cons .nil .nil)))),⟨rfl,trivial⟩,trivial⟩
  |true=>
   rw[yM,if_pos rfl]at hb FL
   obtain⟨⟨y,aO2⟩,aZ,hb⟩:=nq hb
   cases hb
   have LO:=dc 1 _ y _ aZ
   obtain⟨sv,CK,x7,uU,x8,CJ,rfl⟩:=D1 y
   simp(disch:=omega)only[go_sem,simprocAttr]at LO
   refine bz.intro bN Tryz.func38 QV ?_
   unfold OQ Qr
   simp(disch:=omega)only[go_sem,simprocAttr]
   refine ao ?_
   refine D.F ⟨[0],[]⟩ (f98) ?_
   refine ao ?_
   refine D.F ⟨[0],[]⟩ (f33) ?_
   refine ao ?_
   refine D.F ⟨[0],[]⟩ (f35) ?_
   refine ao ?_
   refine D.F ⟨[0],[]⟩ (JO) ?_
   refine ao ?_
   refine D.F ⟨[0],[]⟩ (f34) ?_
   refine ao ?_
   refine D.F ⟨[0],[]⟩ (FL) ?_
   refine ao ?_
   refine D.F ⟨[0],[]⟩ (LO) ?_
   refine ao ?_
   refine D.F ⟨[0],[]⟩ (O4) ?_
   refine ao ?_
   refine D.r ?_
   exact⟨_,rfl,.agg (.cons (.av rfl rfl) (.cons (.av rfl rfl) (.cons .nil (.cons (aH9 _ _ _ _ _ _) .nil)))),⟨rfl,trivial⟩,trivial⟩
 |false=>
  rw[c4,if_neg (by decide)]at rX f35
  obtain⟨⟨a0,mi⟩,Zv,rX⟩:=nq rX
  simp only at rX
  obtain⟨⟨q,T⟩,bG,rX⟩:=nq rX
  cases rX
  have RF:=dc 1 _ a0 mi Zv
  have Kp:=rb oB [41] T
  obtain⟨aP1,aP2,am,at',Td,Al,rfl⟩:=D1 a0
  simp(disch:=omega)only[go_sem,simprocAttr]at RF
  refine bz.intro bN Tryz.func38 QV ?_
  unfold OQ Qr
  simp(disch:=omega)only[go_sem,simprocAttr]
  refine ao ?_
  refine D.F ⟨[0],[]⟩ (f98) ?_
  refine ao ?_
  refine D.F ⟨[0],[]⟩ (f33) ?_
  refine ao ?_
  refine D.F ⟨[0],[]⟩ (f35) ?_
  refine bK ?_
  refine aj.oU 2 2 6 51 rfl rfl (by decide) ?_
  simp(disch:=omega)only[go_sem,simprocAttr]
  refine ao ?_
  (apply ae.a8 (b:=0) (T:=87) (h:=bz.pM (p:=⟨[0],[]⟩) (RF) rfl rfl rfl (by repeat first|exact trivial|refine⟨rfl,?_⟩) (by repeat first|exact trivial|refine⟨rfl,?_⟩) (by simp(disch:=omega)only[go_sem,simprocAttr]<;>rfl) (by simp(disch:=omega)only[go_sem,simprocAttr]<;>rfl) rfl);(·simp(disch:=omega)only[go_sem,simprocAttr]<;>rfl);(·simp(disch:=omega)only[go_sem,simprocAttr]<;>with_reducible rfl);(·rfl);(·simp(disch:=omega)only[go_sem,simprocAttr]<;>rfl);(·first|rfl|(simp(disch:=omega)only[go_sem,simprocAttr]<;>rfl));(·intro s ap;simp only[List.mem_singleton]at ap;subst ap;exact⟨_,_,_,rfl,rfl,rfl,by simp(disch:=omega)only[go_sem,simprocAttr]<;>rfl⟩))
  simp(disch:=omega)only[go_sem,simprocAttr]
  refine ao ?_
  refine D.gL ?_
  refine ao ?_
  refine aj.dd (X:=Nat×List ad×hS) (n,[.mk aP1 aP2 am at' Td Al],mi) (fun y=>[(0,.ptr 0 0),(2,.ptr 1 0),(3,.ptr 2 0)]) (fun y=>[(0,87,pY oB y.2.2),(1,66,[.str [],.str [],.aV,.aV]),(2,66,[.str m,.str [],.own 0 6 (y.2.1.map ad.row),.aV])]) (fun y=>[(0,.bJ 51 6 (y.2.1.map ad.row).length)]) (fun y=>y.2.1.length+y.1≤n+1∧Ed oB y.1 y.2.1 y.2.2=some (q,T)) (fun y=>y.1) ⟨by simp only[List.length_cons,List.length_nil]; omega,bG⟩ ⟨rfl,rfl,rfl,trivial⟩ ⟨rfl,rfl,by simp only[List.map_cons,List.map_nil,ad.ct]; rfl,trivial⟩ ⟨rfl,trivial⟩ ?_
  clear bG f98 f33 f35 RF Zv
  rintro⟨k,acc,tL⟩ ⟨aC,h⟩
  simp only at aC h ⊢
  rcases k with _|k
  ·rw[Ed]at h
   cases h
  rw[Ed]at h
  have xy:=wj oB [44] tL
  cases hC:eQ [44] tL.l with
  |true=>
   rw[hC,if_pos rfl]at h xy
   obtain⟨⟨v,u0⟩,af,h⟩:=nq h
   simp only at h
   have YV:=(DA oB k k (Nat.le_refl _)).2 1 _ v u0 af
   obtain⟨aG6,a25,aH4,aH7,a23,a19,rfl⟩:=D1 v
   simp(disch:=omega)only[go_sem,simprocAttr]at YV
   refine ao ?_
   refine D.F ⟨[0],[]⟩ (xy) ?_
   refine ao ?_
   (apply ae.a8 (b:=0) (T:=87) (h:=bz.pM (p:=⟨[0],[]⟩) (YV) rfl rfl rfl (by repeat first|exact trivial|refine⟨rfl,?_⟩) (by repeat first|exact trivial|refine⟨rfl,?_⟩) (by simp(disch:=omega)only[go_sem,simprocAttr]<;>rfl) (by simp(disch:=omega)only[go_sem,simprocAttr]<;>rfl) rfl);(·simp(disch:=omega)only[go_sem,simprocAttr]<;>rfl);(·simp(disch:=omega)only[go_sem,simprocAttr]<;>with_reducible rfl);(·rfl);(·simp(disch:=omega)only[go_sem,simprocAttr]<;>rfl);(·first|rfl|(simp(disch:=omega)only[go_sem,simprocAttr]<;>rfl));(·intro s ap;simp only[List.mem_singleton]at ap;subst ap;exact⟨_,_,_,rfl,rfl,rfl,by simp(disch:=omega)only[go_sem,simprocAttr]<;>rfl⟩))
   simp(disch:=omega)only[go_sem,simprocAttr]
   refine ao ?_
   refine D.gL ?_
   refine ao ?_
   refine aj.dK (k,acc++[.mk aG6 a25 aH4 aH7 a23 a19],u0) ⟨by simp only[List.length_append,List.length_cons,List.length_nil]; omega,h⟩ ⟨rfl,rfl,rfl,trivial⟩ ⟨rfl,rfl,by simp only[List.map_append,List.map_cons,List.map_nil,ad.ct]; rfl,trivial⟩ ⟨by simp only[List.map_append,List.map_cons,List.map_nil,List.length_append]; rfl,trivial⟩ rfl rfl (by show k<k+1; omega)
  |false=>
   rw[hC,if_neg (by decide)]at h xy
   cases h
   cases yM:eQ [119,104,101,114,101] W.2.l with
   |false=>
    rw[yM,if_neg (by decide)]at hb FL
    cases hb
    refine ao ?_
    refine D.F ⟨[0],[]⟩ (xy) ?_
    refine ao ?_
    refine D.F ⟨[0],[]⟩ (Kp) ?_
    refine ao ?_
    refine D.F ⟨[0],[]⟩ (JO) ?_
    refine ao ?_
    refine D.F ⟨[0],[]⟩ (f34) ?_
    refine ao ?_
    refine D.F ⟨[0],[]⟩ (FL) ?_
    refine ao ?_
    refine D.F ⟨[0],[]⟩ (O4) ?_
    refine ao ?_
    refine D.r ?_
    exact⟨_,rfl,.agg (.cons (.av rfl rfl) (.cons (.av rfl rfl) (.cons (U0 (YR _)) (.cons .nil .nil)))),⟨rfl,trivial⟩,trivial⟩
   |true=>
    rw[yM,if_pos rfl]at hb FL
    obtain⟨⟨y,aO2⟩,aZ,hb⟩:=nq hb
    cases hb
    have LO:=dc 1 _ y _ aZ
    obtain⟨sv,CK,x7,uU,x8,CJ,rfl⟩:=D1 y
    simp(disch:=omega)only[go_sem,simprocAttr]at LO
    refine ao ?_
    refine D.F ⟨[0],[]⟩ (xy) ?_
    refine ao ?_
    refine D.F ⟨[0],[]⟩ (Kp) ?_
    refine ao ?_
    refine D.F ⟨[0],[]⟩ (JO) ?_
    refine ao ?_
    refine D.F ⟨[0],[]⟩ (f34) ?_
    refine ao ?_
    refine D.F ⟨[0],[]⟩ (FL) ?_
    refine ao ?_
    refine D.F ⟨[0],[]⟩ (LO) ?_
    refine ao ?_
    refine D.F ⟨[0],[]⟩ (O4) ?_
    refine ao ?_
    refine D.r ?_
    exact⟨_,rfl,.agg (.cons (.av rfl rfl) (.cons (.av rfl rfl) (.cons (U0 (YR _)) (.cons (a26 _ _ _ _ _ _) .nil)))),⟨rfl,trivial⟩,trivial⟩
end
section
attribute [local go_sem] pY ba.row oC ad.ct ad.b9 ad.de ac.ct ac.b9 ac.de cj eN fZ gJ dp of_flat cb.row dG
section
variable {oB:Int}
theorem aD6: ∀(n:Nat) (s:a7) (S:hS) (w:a7) (G5:hS),AK oB n s S=some (w,G5)→w.length≤s.length+17*n
 |0,s,S,w,G5,h=>by rw[AK]at h; cases h
 |n+1,s,S,w,G5,h=>by
  rw[AK]at h
  split at h
  ·have:=aD6 n _ _ _ _ h
   have aa:=QD oB S.ds
   simp only[List.length_append,List.length_cons,List.length_nil]at this
   omega
  ·cases h
   omega
theorem aD7 {n:Nat}{S:hS}{w:a7}{G5:hS}(h:KU oB n S=some (w,G5)):w.length≤16+17*n:=by
 have:=aD6 n _ _ _ _ h
 have aa:=QD oB S
 omega
theorem a09 {n:Nat}{S:hS}{x:cd}{G5:hS}(h:J2 oB n S=some (x,G5)):x.eK.length≤16+17*n:=by
 unfold J2 at h
 obtain⟨⟨m,nE⟩,hm,h⟩:=nq h
 obtain⟨⟨ps,sp⟩,_,h⟩:=nq h
 obtain⟨⟨b,la⟩,_,h⟩:=nq h
 cases h
 exact aD7 hm
theorem a11 {n:Nat}{S:hS}{x:ca}{G5:hS}(h:J7 oB n S=some (x,G5)):x.eK.length≤16+17*n:=by
 unfold J7 at h
 obtain⟨⟨m,nE⟩,hm,h⟩:=nq h
 obtain⟨⟨ps,sp⟩,_,h⟩:=nq h
 obtain⟨⟨b,la⟩,_,h⟩:=nq h
 cases h
 exact aD7 hm
end
theorem aX6 {t:ba}(h:om t):okV t:=by
 rcases h with ⟨s,e,ap⟩|⟨n,e,a6⟩|⟨s,e,ap⟩|⟨s,e,ap⟩
 ·have ar:t.val=0:=congrArg ba.val e
  unfold okV
  omega
 ·have ar:t.val=n:=congrArg ba.val e
  unfold okV
  omega
 ·have ar:t.val=0:=congrArg ba.val e
  unfold okV
  omega
 ·have ar:t.val=0:=congrArg ba.val e
  unfold okV
  omega
theorem aD8 {s:a7}{l:List ba}(uj:pV s= .ok l): ∃x G5,Ur (s.length:Int) (3*l.length+2+4) (ra l)=some (x,G5)∧(G5.e=0→oI x∧tb s=if kJ x=true then (x,0,0) else (zH,0,6))∧(G5.e≠0→tb s=(zH,G5.at',G5.e)):=by
 have af: ∀t∈l,okV t:=fun t aO=>aX6 (aX4 uj t aO)
 have dv:=(aY5 (en:=(s.length:Int)) (3*l.length+2)).1 l af
 have j9:=(MH uj).2
 have CG:tb s=BX (s.length:Int) l:=by unfold tb; rw[uj]
 rw[CG]
 unfold BX
 cases mo:lo (s.length:Int) (3*l.length+2) l with
 |out=>exact absurd mo (Oq (Nat.le_refl _))
 |ok x r=>
  rw[mo]at dv
  exact⟨x,ra r,dv.2,fun _=>⟨Oo mo (by omega),rfl⟩,fun h=>absurd rfl h⟩
 |err p e=>
  rw[mo]at dv
  obtain⟨J,a,aa⟩:=dv
  exact⟨a,s9 p e,aa,fun h=>absurd h J,fun _=>rfl⟩
abbrev U2:List I:=[.str [],.str [],.str [],.aV,.aV,.aV]
attribute [local go_sem] U2 mV
theorem aZ1 (s:a7) (ap:s.length≤900000):Pure Tryz.prog 13 [.str s] (xA (tb s)):=by
 have nm:=Gf s ap
 have yU: ∀q:e9×Int×Int,(xA q).flat=true:=fun q=>by simp only[xA,lq,I.flat,b3,dG,dp,of_flat,Bool.and_self]
 cases uj:pV s with
 |err p e=>
  have he:=ah0 uj
  have bG:tb s=(zH,p,e):=by unfold tb; rw[uj]
  rw[uj]at nm
  rw[bG]
  simp only[BH]at nm
  refine cF bN Tryz.func13 Vc rfl (yU _) ?_
  unfold QZ Ty
  simp(disch:=omega)only[go_sem,simprocAttr]
  refine ao ?_
  refine D.P (nm) ?_
  (have al:=he;refine bQ ?_;clear al)
  refine D.r ?_
  exact⟨_,rfl,.di (.cons (.agg GP) (.cons (.av rfl rfl) (.cons (.av rfl rfl) .nil))),trivial,trivial⟩
 |ok l=>
 rw[uj]at nm
 simp only[BH]at nm
 have j9:=(MH uj).2
 obtain⟨x,G5,h,iy,B7⟩:=aD8 uj
 obtain⟨n,a6⟩: ∃n,n=3*l.length+2+4:=⟨_,rfl⟩
 rw[←a6]at h
 have ah7:n≤1000000:=by omega
 clear uj j9 a6
 obtain⟨oB,dm⟩: ∃oB:Int,oB=(s.length:Int):=⟨_,rfl⟩
 rw[←dm]at h
 unfold Ur at h
 obtain⟨⟨ay,Vb⟩,aj2,h⟩:=nq h
 simp only at h
 obtain⟨⟨p,fK⟩,hp,h⟩:=nq h
 simp only[Option.some.injEq,Prod.mk.injEq]at h
 obtain⟨ab,z6⟩:=h
 have g1:=rb oB [115,101,114,118,105,99,101] (ra l)
 generalize cX oB [115,101,114,118,105,99,101] (ra l)=nE at*
 have pn:=B9 oB nE
 generalize ju oB nE=Lg at*
 have g2:=rb oB [112,108,97,121,115] Lg.2
 generalize cX oB [112,108,97,121,115] Lg.2=kN at*
 have mc:=B9 oB kN
 generalize ju oB kN=Lr at*
 have g3:=rb oB [111,102] Lr.2
 generalize cX oB [111,102] Lr.2=sp at*
 have Oh:=B9 oB sp
 generalize ju oB sp=Ls at*
 have g4:=rb oB [123] Ls.2
 generalize cX oB [123] Ls.2=w4 at*
 refine cF bN Tryz.func13 Vc rfl (yU _) ?_
 unfold QZ Ty
 simp(disch:=omega)only[go_sem,simprocAttr]
 refine ao ?_
 refine D.P (nm) ?_
 refine ao ?_
 rw[←dm]
 refine D.F ⟨[1],[]⟩ (g1) ?_
 refine ao ?_
 refine D.F ⟨[1],[]⟩ (pn) ?_
 refine ao ?_
 refine D.F ⟨[1],[]⟩ (g2) ?_
 refine ao ?_
 refine D.F ⟨[1],[]⟩ (mc) ?_
 refine ao ?_
 refine D.F ⟨[1],[]⟩ (g3) ?_
 refine ao ?_
 refine D.F ⟨[1],[]⟩ (Oh) ?_
 refine ao ?_
 refine D.F ⟨[1],[]⟩ (g4) ?_
 refine yc ?_
 refine aj.oU 2 3 7 95 rfl rfl (by decide) ?_
 simp(disch:=omega)only[go_sem,simprocAttr]
 refine aj.oU 2 4 4 99 rfl rfl (by decide) ?_
 simp(disch:=omega)only[go_sem,simprocAttr]
 refine aj.oU 2 5 4 66 rfl rfl (by decide) ?_
 simp(disch:=omega)only[go_sem,simprocAttr]
 refine ao ?_
 --REST
 refine aj.dd (X:=Nat×List cb×hS) (n,[],w4) (fun y=>[(0,.str s),(2,.ptr 0 0),(8,.ptr 1 0),(9,.ptr 2 0)]) (fun y=>[(0,35,U2),(1,87,pY oB y.2.2),(2,35,[.str Lg.1,.str Lr.1,.str Ls.1,.own 0 7 (y.2.1.map cb.row),.own 1 4 (([]:List cd).map cd.row),.own 2 4 (([]:List ca).map ca.row)])]) (fun y=>[(0,.bJ 95 7 (y.2.1.map cb.row).length),(1,.bJ 99 4 (([]:List cd).map cd.row).length),(2,.bJ 66 4 (([]:List ca).map ca.row).length)]) (fun y=>y.2.1.length+y.1≤n∧zd oB y.1 y.2.1 y.2.2=some (ay,Vb)) (fun y=>y.1) ⟨by simp,aj2⟩ ⟨rfl,rfl,rfl,rfl,trivial⟩ ⟨rfl,rfl,rfl,trivial⟩ ⟨rfl,rfl,rfl,trivial⟩ ?_
 clear g1 g2 g3 g4 pn mc Oh aj2 nm
 rintro⟨k,acc,T⟩ ⟨aC,h⟩
 simp only at aC h ⊢
 rcases k with _|k
 ·rw[zd]at h
  cases h
 rw[zd]at h
 have f35:=wj oB [118,97,114] T
 cases c4:eQ [118,97,114] T.l with
 |true=>
  rw[c4,if_pos rfl]at h f35
  have f36:=aZ9 oB T.ds
  generalize Ja oB T.ds=V at*
  obtain⟨⟨v1,v2,v3,v4,v5,v6,a17⟩,u0⟩:=V
  simp only at h f36
  simp(disch:=omega)only[go_sem,simprocAttr]at f36
  refine ao ?_
  refine D.F ⟨[1],[]⟩ (f35) ?_
  refine ao ?_
  (apply ae.a8 (b:=1) (T:=87) (h:=bz.pM (p:=⟨[1],[]⟩) (f36) rfl rfl rfl (by repeat first|exact trivial|refine⟨rfl,?_⟩) (by repeat first|exact trivial|refine⟨rfl,?_⟩) (by simp(disch:=omega)only[go_sem,simprocAttr]<;>rfl) (by simp(disch:=omega)only[go_sem,simprocAttr]<;>rfl) rfl);(·simp(disch:=omega)only[go_sem,simprocAttr]<;>rfl);(·simp(disch:=omega)only[go_sem,simprocAttr]<;>with_reducible rfl);(·rfl);(·simp(disch:=omega)only[go_sem,simprocAttr]<;>rfl);(·first|rfl|(simp(disch:=omega)only[go_sem,simprocAttr]<;>rfl));(·intro s ap;simp only[List.mem_singleton]at ap;subst ap;exact⟨_,_,_,rfl,rfl,rfl,by simp(disch:=omega)only[go_sem,simprocAttr]<;>rfl⟩))
  simp(disch:=omega)only[go_sem,simprocAttr]
  refine ao ?_
  refine D.gL ?_
  refine ao ?_
  refine aj.dK (k,acc++[⟨v1,v2,v3,v4,v5,v6,a17⟩],u0) ⟨by simp only[List.length_append,List.length_cons,List.length_nil]; omega,h⟩ ⟨rfl,rfl,rfl,rfl,trivial⟩ ⟨rfl,rfl,by simp only[List.map_append,List.map_cons,List.map_nil,cb.row]; rfl,trivial⟩ ⟨by simp only[List.map_append,List.map_cons,List.map_nil,List.length_append]; rfl,rfl,rfl,trivial⟩ rfl rfl (by show k<k+1; omega)
 |false=>
 rw[c4,if_neg (by decide)]at h f35
 cases h
 refine ao ?_
 refine D.F ⟨[1],[]⟩ (f35) ?_
 refine ao ?_
 have uD:ay.length≤1000000:=by omega
 refine aj.dd (X:=Nat×List cd×List ca×hS) (n,[],[],Vb) (fun y=>[(0,.str s),(2,.ptr 0 0),(8,.ptr 1 0),(9,.ptr 2 0)]) (fun y=>[(0,35,U2),(1,87,pY oB y.2.2.2),(2,35,[.str Lg.1,.str Lr.1,.str Ls.1,.own 0 7 (ay.map cb.row),.own 1 4 (y.2.1.map cd.row),.own 2 4 (y.2.2.1.map ca.row)])]) (fun y=>[(0,.bJ 95 7 (ay.map cb.row).length),(1,.bJ 99 4 (y.2.1.map cd.row).length),(2,.bJ 66 4 (y.2.2.1.map ca.row).length)]) (fun y=>y.2.1.length+y.1≤n∧y.2.2.1.length+y.1≤n∧(∀h∈y.2.1,h.eK.length≤16+17*n)∧(∀o∈y.2.2.1,o.eK.length≤16+17*n)∧so oB n y.1 y.2.1 y.2.2.1 y.2.2.2=some (p,fK)) (fun y=>y.1) ⟨by simp,by simp,fun h hm=>(by cases hm),fun o hm=>(by cases hm),hp⟩ ⟨rfl,rfl,rfl,rfl,trivial⟩ ⟨rfl,rfl,rfl,trivial⟩ ⟨rfl,rfl,rfl,trivial⟩ ?_
 clear aC c4 f35 hp
 rintro⟨j,o0,PK,T⟩ ⟨R2,R5,MC,MN,h⟩
 simp only at R2 R5 MC MN h ⊢
 rcases j with _|j
 ·rw[so]at h
  cases h
 rw[so]at h
 by_cases Y5:T.e=0
 rotate_left
 ·rw[if_neg Y5]at h
  cases h
  clear R2 R5
  subst ab
  obtain⟨jd,a,e⟩:=fK
  simp only at Y5
  cases jd with
  |cons t0 jd=>
   rw[if_neg (by simp)]at z6
   have f39:=JY oB 3 ⟨t0::jd,a,e⟩
   have he:G5.e≠0:=by
    rw[←z6]
    simp only[sg]
    split
    ·decide
    ·assumption
   rw[B7 he]
   rw[z6]at f39
   clear z6 iy B7
   have d1:(0:Int)<(((jd.map ba.row).length+1:Nat):Int):=by omega
   (have al:=Y5;refine bQ ?_;clear al)
   (have al:=d1;refine bQ ?_;clear al)
   refine D.F ⟨[1],[]⟩ (f39) ?_
   (have al:=he;refine bQ ?_;clear al)
   refine D.r ?_
   exact⟨_,rfl,.di (.cons (.agg GP) (.cons (.av rfl rfl) (.cons (.av rfl rfl) .nil))),trivial,trivial⟩
  |nil=>
   rw[if_pos rfl]at z6
   subst z6
   rw[B7 Y5]
   clear iy B7
   (have al:=Y5;refine bQ ?_;clear al)
   (have al:=Y5;refine bQ ?_;clear al)
   refine D.r ?_
   exact⟨_,rfl,.di (.cons (.agg GP) (.cons (.av rfl rfl) (.cons (.av rfl rfl) .nil))),trivial,trivial⟩
 rw[if_pos Y5]at h
 have D2:=wj oB [125] T
 cases fa:eQ [125] T.l with
 |true=>
  rw[fa,if_pos rfl]at h D2
  cases h
  obtain⟨N0,Lu,KD⟩:=T
  simp only at Y5
  subst Y5
  clear R2 R5 fa
  obtain⟨Y,fV⟩: ∃Y,Y=hS.ds ⟨N0,Lu,0⟩:=⟨_,rfl⟩
  rw[←fV]at D2 z6
  clear fV
  subst ab
  obtain⟨jd,a,e⟩:=Y
  cases jd with
  |cons t0 jd=>
   rw[if_neg (by simp)]at z6
   have f39:=JY oB 3 ⟨t0::jd,a,e⟩
   have he:G5.e≠0:=by
    rw[←z6]
    simp only[sg]
    split
    ·decide
    ·assumption
   rw[B7 he]
   rw[z6]at f39
   clear z6 iy B7
   have d1:(0:Int)<(((jd.map ba.row).length+1:Nat):Int):=by omega
   refine ao ?_
   refine D.F ⟨[1],[]⟩ (D2) ?_
   (have al:=d1;refine bQ ?_;clear al)
   refine D.F ⟨[1],[]⟩ (f39) ?_
   (have al:=he;refine bQ ?_;clear al)
   refine D.r ?_
   exact⟨_,rfl,.di (.cons (.agg GP) (.cons (.av rfl rfl) (.cons (.av rfl rfl) .nil))),trivial,trivial⟩
  |nil=>
   rw[if_pos rfl]at z6
   subst z6
   by_cases he:e=0
   rotate_left
   ·rw[B7 he]
    clear iy B7
    refine ao ?_
    refine D.F ⟨[1],[]⟩ (D2) ?_
    (have al:=he;refine bQ ?_;clear al)
    refine D.r ?_
    exact⟨_,rfl,.di (.cons (.agg GP) (.cons (.av rfl rfl) (.cons (.av rfl rfl) .nil))),trivial,trivial⟩
   subst he
   obtain⟨dX,CG⟩:=iy rfl
   have FH:=aZ8 _ dX (fun h hm=>Nat.le_trans (MC h hm) (by omega)) (fun o hm=>Nat.le_trans (MN o hm) (by omega))
   rw[CG]
   clear iy B7 CG
   rw[lq]at FH
   cases aY:kJ ⟨Lg.1,Lr.1,Ls.1,ay,o0,PK⟩ with
   |false=>
    rw[aY]at FH
    rw[if_neg (by decide)]
    refine ao ?_
    refine D.F ⟨[1],[]⟩ (D2) ?_
    refine ao ?_
    refine D.P (FH) ?_
    refine ao ?_
    refine D.r ?_
    exact⟨_,rfl,.di (.cons (.agg GP) (.cons (.av rfl rfl) (.cons (.av rfl rfl) .nil))),trivial,trivial⟩
   |true=>
    rw[aY]at FH
    rw[if_pos rfl]
    refine ao ?_
    refine D.F ⟨[1],[]⟩ (D2) ?_
    refine ao ?_
    refine D.P (FH) ?_
    refine ao ?_
    refine D.r ?_
    exact⟨_,rfl,.di (.cons (.av rfl (by simp only[lq,I.flat,b3,dG,dp,of_flat,Bool.and_self])) (.cons (.av rfl rfl) (.cons (.av rfl rfl) .nil))),trivial,trivial⟩
 |false=>
 rw[fa,if_neg (by decide)]at h D2
 have xy:=wj oB [111,110] T
 cases qC:eQ [111,110] T.l with
 |true=>
  rw[qC,if_pos rfl]at h xy
  obtain⟨⟨w,u0⟩,hw,bL⟩:=nq h
  simp only at bL
  clear h
  have f37:=a00 oB n _ w u0 ah7 hw
  have Z4:=a09 hw
  obtain⟨N0,Lu,KD⟩:=T
  simp only at Y5
  subst Y5
  rw[fZ]at f37
  refine ao ?_
  refine D.F ⟨[1],[]⟩ (D2) ?_
  refine ao ?_
  refine D.F ⟨[1],[]⟩ (xy) ?_
  refine ao ?_
  (apply ae.a8 (b:=1) (T:=87) (h:=bz.pM (p:=⟨[1],[]⟩) (f37) rfl rfl rfl (by repeat first|exact trivial|refine⟨rfl,?_⟩) (by repeat first|exact trivial|refine⟨rfl,?_⟩) (by simp(disch:=omega)only[go_sem,simprocAttr]<;>rfl) (by simp(disch:=omega)only[go_sem,simprocAttr]<;>rfl) rfl);(·simp(disch:=omega)only[go_sem,simprocAttr]<;>rfl);(·simp(disch:=omega)only[go_sem,simprocAttr]<;>with_reducible rfl);(·rfl);(·simp(disch:=omega)only[go_sem,simprocAttr]<;>rfl);(·first|rfl|(simp(disch:=omega)only[go_sem,simprocAttr]<;>rfl));(·intro s ap;simp only[List.mem_singleton]at ap;subst ap;exact⟨_,_,_,rfl,rfl,rfl,by simp(disch:=omega)only[go_sem,simprocAttr]<;>rfl⟩))
  simp(disch:=omega)only[go_sem,simprocAttr]
  refine ao ?_
  refine D.gL ?_
  refine ao ?_
  refine aj.dK (j,o0++[w],PK,u0) ⟨by simp only[List.length_append,List.length_cons,List.length_nil]; omega,by simp only; omega,fun h hm=>(List.mem_append.1 hm).elim (MC h) (fun hm=>(by rw[List.mem_singleton.1 hm]; exact Z4)),MN,bL⟩ ⟨rfl,rfl,rfl,rfl,trivial⟩ ⟨rfl,rfl,by simp only[List.map_append,List.map_cons,List.map_nil,fZ]; rfl,trivial⟩ ⟨rfl,by simp only[List.map_append,List.map_cons,List.map_nil,List.length_append]; rfl,rfl,trivial⟩ rfl rfl (by show j<j+1; omega)
 |false=>
 rw[qC,if_neg (by decide)]at h xy
 have O5:=wj oB [111,102,102,101,114] T
 cases eC:eQ [111,102,102,101,114] T.l with
 |true=>
  rw[eC,if_pos rfl]at h O5
  obtain⟨⟨w,u0⟩,hw,bL⟩:=nq h
  simp only at bL
  clear h
  have f38:=a01 oB n _ w u0 ah7 hw
  have Z4:=a11 hw
  obtain⟨N0,Lu,KD⟩:=T
  simp only at Y5
  subst Y5
  rw[gJ]at f38
  refine ao ?_
  refine D.F ⟨[1],[]⟩ (D2) ?_
  refine ao ?_
  refine D.F ⟨[1],[]⟩ (xy) ?_
  refine ao ?_
  refine D.F ⟨[1],[]⟩ (O5) ?_
  refine ao ?_
  (apply ae.a8 (b:=1) (T:=87) (h:=bz.pM (p:=⟨[1],[]⟩) (f38) rfl rfl rfl (by repeat first|exact trivial|refine⟨rfl,?_⟩) (by repeat first|exact trivial|refine⟨rfl,?_⟩) (by simp(disch:=omega)only[go_sem,simprocAttr]<;>rfl) (by simp(disch:=omega)only[go_sem,simprocAttr]<;>rfl) rfl);(·simp(disch:=omega)only[go_sem,simprocAttr]<;>rfl);(·simp(disch:=omega)only[go_sem,simprocAttr]<;>with_reducible rfl);(·rfl);(·simp(disch:=omega)only[go_sem,simprocAttr]<;>rfl);(·first|rfl|(simp(disch:=omega)only[go_sem,simprocAttr]<;>rfl));(·intro s ap;simp only[List.mem_singleton]at ap;subst ap;exact⟨_,_,_,rfl,rfl,rfl,by simp(disch:=omega)only[go_sem,simprocAttr]<;>rfl⟩))
  simp(disch:=omega)only[go_sem,simprocAttr]
  refine ao ?_
  refine D.gL ?_
  refine ao ?_
  refine aj.dK (j,o0,PK++[w],u0) ⟨by simp only; omega,by simp only[List.length_append,List.length_cons,List.length_nil]; omega,MC,fun h hm=>(List.mem_append.1 hm).elim (MN h) (fun hm=>(by rw[List.mem_singleton.1 hm]; exact Z4)),bL⟩ ⟨rfl,rfl,rfl,rfl,trivial⟩ ⟨rfl,rfl,by simp only[List.map_append,List.map_cons,List.map_nil,gJ]; rfl,trivial⟩ ⟨rfl,rfl,by simp only[List.map_append,List.map_cons,List.map_nil,List.length_append]; rfl,trivial⟩ rfl rfl (by show j<j+1; omega)
 |false=>
  rw[eC,if_neg (by decide)]at h O5
  have f39:=JY oB 3 T
  obtain⟨N0,Lu,KD⟩:=T
  simp only at Y5
  subst Y5
  generalize sg oB 3 ⟨N0,Lu,0⟩=u0 at*
  refine ao ?_
  refine D.F ⟨[1],[]⟩ (D2) ?_
  refine ao ?_
  refine D.F ⟨[1],[]⟩ (xy) ?_
  refine ao ?_
  refine D.F ⟨[1],[]⟩ (O5) ?_
  refine ao ?_
  refine D.F ⟨[1],[]⟩ (f39) ?_
  refine ao ?_
  refine aj.dK (j,o0,PK,u0) ⟨by simp only; omega,by simp only; omega,MC,MN,h⟩ ⟨rfl,rfl,rfl,rfl,trivial⟩ ⟨rfl,rfl,rfl,trivial⟩ ⟨rfl,rfl,rfl,trivial⟩ rfl rfl (by show j<j+1; omega)
end
end Go.bc.T.N
