/- Part of a proof; own work. -/
import Derived.Test.YtlemhelnmidpfaaGreatDoorProg
import Derived.KernelRfl
import Derived.Test.YtlemhelnmidpfaaGreatDoorQS17
set_option linter.unusedVariables false
set_option linter.unusedSimpArgs false
set_option maxHeartbeats 8000000
namespace Go.aO.T.N
open Go Go.aO Go.Proofs
set_option maxRecDepth 1000000
def gn:bm:=
 ag [bO 2] (aK (ag [bn 10 18 [],gV 11 10] (a1 11 (a6 [bO 2]) .skip)) (aK (ag [J 12 0,cm 13 12,aF 14 .gtr ek (an 8)] (a1 14 (a6 [ir 2]) .skip)) (ag [ap 15 (.da 9 1 2 [.str []] [(0,bZ [97]),(1,bZ [98])]),ap 16 (.build [.str [],.aD,.int .i64 0,.aD,.aD] [(0,1,bZ [109])]),ap 17 (.da 72 5 1 [.str [],.aD,.int .i64 0,.aD,.aD] [(0,fV)]),ap 18 (.build [.int .i64 0,.int .i64 0,.int .i64 0] [(0,1,an 0),(1,1,an 1)]),ap 19 (.build [.int .i64 0,.int .i64 0,.int .i64 0,.int .i64 0,.int .i64 0,.bool false] [(1,3,fD),(4,1,an 1)]),ap 20 (.da 76 6 1 [.int .i64 0,.int .i64 0,.int .i64 0,.int .i64 0,.int .i64 0,.bool false] [(0,eW)]),ap 21 (.build [.str [],.aD,.aD,.int .i64 0,.int .i64 0,.int .i64 0,.aD,.aD] [(0,1,bZ [80]),(1,1,en),(2,1,fy),(3,1,an 2),(5,1,an 1),(6,1,ga)]),ap 3 (.alloc 32 [.str [],.aD,.aD,.int .i64 0,.int .i64 0,.int .i64 0,.aD,.aD]),cn 8 3 fW] (ag [bq 4 (.c .aD)] (aK (ag [bq 5 (an 0)] (.block 0 (.loop (aK (ag [J 22 5,J 23 0,cm 24 23,aF 25 .lss gl fu] (a1 25 .skip (.exit 0))) (aK (.block 1 (bV [ap 28 (.build [.int .i64 0,.str [],.str [],.str [],.int .i64 0,.aD] [(0,1,an 1),(4,1,an 1)]),J 29 0,J 30 5,ct 31 1 hW jO,aH 32 31,ap 33 (.conv .i64 jc),aF 34 .rem gK (an 50),aF 35 .add (an 1) iJ,J 36 4,ap 37 (.build [.int .i64 0,.str [],.int .i64 0,.str [],.str [],.str [],.int .i64 0,.aD,.int .i64 0,.aD,.aD] [(0,1,an 3),(2,6,gY),(8,1,jj),(9,1,gZ)]),ap 38 (.da 82 11 1 [.int .i64 0,.str [],.int .i64 0,.str [],.str [],.str [],.int .i64 0,.aD,.int .i64 0,.aD,.aD] [(0,iW)]),J 4 38])) (bV [J 26 5,aF 27 .add gX (an 1),J 5 27])))))) (ag [J 40 4,ap 41 (.build [.str [],.str [],.aD,.aD] [(0,1,bZ [109]),(1,1,bZ [97]),(3,1,jP)]),ap 42 (.da 84 4 1 [.str [],.str [],.aD,.aD] [(0,iw)]),ap 43 (.build [.str [],.str [],.str [],.aD,.aD,.aD] [(0,1,bZ [83]),(1,1,bZ [98]),(2,1,bZ [80]),(4,1,lf)]),bD 44 8 3,bn 45 20 [jG,jl],J 39 45,ap 46 (.extract 0 jk),ap 47 (.extract 1 jk),ap 6 (.alloc 40 [.str [],.int .i64 0,.aD,.aD,.aD,.aD]),cn 6 6 kF,J 7 47] (aK (ag [J 48 0,cm 49 48,aF 50 .gtr mJ (an 4)] (a1 50 (a6 [J 51 7,aF 52 .eql kG (an 6),J 53 52,bG 54 53 true 5 6,bP 55 53 true 54,bS 56 53 true (.len lg),cv 57 53 true .eql mc (an 0),bN 58 na lM cP,J 2 58]) .skip)) (ag [bq 8 (an 0)] (aK (ag [bq 9 (an 0)] (.block 2 (.loop (aK (ag [J 59 9,aE 60 5 6,aH 61 60,cm 62 61,aF 63 .lss mK pI] (a1 63 .skip (.exit 2))) (aK (.block 3 (ag [aE 66 5 6,aH 67 66,J 68 9,ct 69 3 nK ud,aE 70 0 69,aH 71 70,aF 72 .eql nM (an 21)] (a1 72 (bV [J 73 8,aF 74 .add pL (an 1),J 8 74]) .skip))) (bV [J 64 9,aF 65 .add nJ (an 1),J 9 65])))))) (a6 [J 75 7,aF 76 .eql qo (an 0),J 77 76,dh 78 77 true 8,dh 79 77 true 0,bS 80 77 true (.len xa),cv 81 77 true .eql yD xb,bN 82 pN s5 cP,J 83 82,bG 84 83 true 5 6,bP 85 83 true 84,bS 86 83 true (.len Al),dh 87 83 true 0,bS 88 83 true (.len CK),cv 89 83 true .mul (an 5) Am,cv 90 83 true .add yE (an 1),cv 91 83 true .eql vH An,bN 92 vF Ao cP,J 2 92]))))))))))
def mI:List bc:=[.t 2]
theorem k6:bR Tryz.prog Tryz.f5 1 gn mI=true:=by kernel_rfl
def sa:bm:=
 ag [bO 0] (ag [ap 7 (.da 9 1 2 [.str []] [(0,bZ [97]),(1,bZ [98])]),ap 8 (.build [.str [],.aD,.int .i64 0,.aD,.aD] [(0,1,bZ [109])]),ap 9 (.da 72 5 1 [.str [],.aD,.int .i64 0,.aD,.aD] [(0,dG)]),ap 10 (.build [.int .i64 0,.int .i64 0,.int .i64 0] [(0,1,an 0),(1,1,an 1)]),ap 11 (.build [.int .i64 0,.int .i64 0,.int .i64 0,.int .i64 0,.int .i64 0,.bool false] [(1,3,fU),(4,1,an 1)]),ap 12 (.da 76 6 1 [.int .i64 0,.int .i64 0,.int .i64 0,.int .i64 0,.int .i64 0,.bool false] [(0,dY)]),ap 13 (.build [.str [],.aD,.aD,.int .i64 0,.int .i64 0,.int .i64 0,.aD,.aD] [(0,1,bZ [80]),(1,1,dx),(2,1,eC),(3,1,an 2),(5,1,an 1),(6,1,dP)]),ap 1 (.alloc 32 [.str [],.aD,.aD,.int .i64 0,.int .i64 0,.int .i64 0,.aD,.aD]),cn 8 1 ek] (ag [ap 14 (.build [.int .i64 0,.int .i64 0,.int .i64 0] [(0,1,an 1),(2,1,an 9)]),bn 15 24 [an 0],ap 16 (.build [.str [],.int .i64 0,.int .i64 0,.int .i64 0,.int .i64 0,.int .i64 0,.str []] [(0,1,bZ [107]),(1,3,fx),(4,3,en)]),ap 17 (.da 146 7 1 [.str [],.int .i64 0,.int .i64 0,.int .i64 0,.int .i64 0,.int .i64 0,.str []] [(0,fV)]),ap 18 (.build [.str [],.str [],.str [],.aD,.aD,.aD] [(0,1,bZ [83]),(1,1,bZ [97]),(2,1,bZ [80]),(3,1,fy)]),ap 2 (.alloc 48 [.str [],.str [],.str [],.aD,.aD,.aD]),cn 6 2 fD] (ag [ap 19 (.build [.int .i64 0,.str [],.str [],.str [],.int .i64 0,.aD] [(0,1,an 1),(4,1,an 2)]),ap 20 (.build [.int .i64 0,.str [],.str [],.str [],.int .i64 0,.aD] [(0,1,an 3),(2,1,bZ [107])]),ap 21 (.da 80 6 2 [.int .i64 0,.str [],.str [],.str [],.int .i64 0,.aD] [(0,eW),(1,ga)]),ap 22 (.build [.int .i64 0,.str [],.str [],.str [],.int .i64 0,.aD] [(0,1,an 6),(1,1,bZ [62]),(5,1,fW)]),ap 23 (.da 80 6 1 [.int .i64 0,.str [],.str [],.str [],.int .i64 0,.aD] [(0,gl)]),ap 24 (.build [.str [],.str [],.aD,.aD] [(0,1,bZ [109]),(1,1,bZ [98]),(3,1,fI)]),ap 25 (.da 148 4 1 [.str [],.str [],.aD,.aD] [(0,fu)]),aE 26 5 2,cn 1 26 gb] (ag [bD 28 6 2,bD 29 8 1,bn 30 20 [gY,hW],J 27 30,ap 31 (.extract 0 e6),ap 32 (.extract 1 e6),ap 3 (.alloc 40 [.str [],.int .i64 0,.aD,.aD,.aD,.aD]),cn 6 3 hX,J 4 32] (ag [ap 33 (.build [.int .i64 0,.int .i64 0,.str []] [(0,1,an 3)]),ap 34 (.build [.int .i64 0,.int .i64 0,.str []] [(0,1,an 1),(1,1,an 2)]),ap 35 (.build [.int .i64 0,.int .i64 0,.str []] [(0,1,an 13)]),ap 36 (.build [.int .i64 0,.int .i64 0,.str []] [(0,1,an 24)]),ap 37 (.build [.int .i64 0,.int .i64 0,.str []] [(0,1,an 24)]),ap 38 (.da 64 3 5 [.int .i64 0,.int .i64 0,.str []] [(0,gK),(1,iJ),(2,jj),(3,gZ),(4,iW)]),J 5 38] (aK (ag [J 39 4,aF 40 .neq jk (an 0),J 41 40,bG 42 41 false 5 3,bP 43 41 false 42,bS 44 41 false (.len jG),dh 45 41 false 5,bS 46 41 false (.len ka),cv 47 41 false .neq jl kF,bN 48 iw dA ma,J 49 48,bG 50 49 false 4 3,bP 51 49 false 50,bS 52 49 false (.len kG),cv 53 49 false .neq kX (an 1),bN 54 mJ dA na,J 55 54,bG 56 55 false 4 3,bP 57 55 false 56,bS 58 55 false (.gy 4 lM (an 0)),bS 59 55 false (.load true 4 kH),bS 60 55 false (.build [.int .i64 0,.int .i64 0,.int .i64 0,.int .i64 0] [(0,1,an 1),(1,1,an 0),(2,1,an 0),(3,1,an 4)]),bS 61 55 false (.j1 true 62 [.i .i64,.i .i64,.i .i64,.i .i64] mK nI),bN 62 lg dA lh] (a1 62 (a6 [bO 0]) .skip)) (aK (ag [bq 6 (an 0)] (.block 0 (.loop (aK (ag [J 63 6,J 64 5,cm 65 64,aF 66 .lss od pJ] (a1 66 .skip (.exit 0))) (aK (.block 1 (aK (.region [aE 69 5 3,aH 70 69,J 71 6,ct 72 3 nL nM,bD 73 3 72,J 74 5,J 75 6,ct 76 3 pM qo,bD 77 3 76,ap 78 (.j1 true 64 [.i .i64,.i .i64,.s] pL pN)] true) (a1 78 (a6 [bO 0]) .skip))) (bV [J 67 6,aF 68 .add nK (an 1),J 6 68])))))) (a6 [ir 0]))))))))
def sL:List bc:=[.t 0]
theorem xx:bR Tryz.prog Tryz.f18 0 sa sL=true:=by kernel_rfl
def kO:bm:=
 ag [ap 2 (.alloc 89 [.int .i64 0,.int .i64 0,.str []])] (a6 [J 3 0,ap 4 (.build [.int .i64 0,.int .i64 0,.str []] [(0,1,an 1),(1,1,e7)]),cn 3 2 iv])
def sM:List bc:=[.cell true 3 2]
theorem xy:bR Tryz.prog Tryz.f24 1 kO sM=true:=by kernel_rfl
end Go.aO.T.N
namespace Go.aO.T.N
open Go Go.aO Go.Proofs Go.RowKit
set_option maxRecDepth 100000
attribute [local irreducible] Go.aO.av Go.aO.au Go.aO.aY
section
set_option maxRecDepth 1000000
attribute [local go_sem] al.cr ai.cr al.ch ai.ch b6 cR eH eS dp of_flat ba.row db gQ eZ
attribute [local go_sem] eE et er eG ds dw df cH Fd.row dn dz cD.row dr.row bs.row hB ie dI eI fR bK.row
def lO:b3:=⟨[83],[97],[80],[⟨[107],1,0,9,1,0,[]⟩],[],[⟨[109],[98],[],[.mk 6 [62] [] [] 0 [.mk 1 [] [] [] 2 [],.mk 3 [] [107] [] 0 []]]⟩]⟩
def fj:cd:=⟨[80],[[97],[98]],[⟨[109],[],0,[],[]⟩],2,0,1,[⟨0,0,1,0,1,false⟩],[]⟩
theorem yC:jw lO:=by
 refine⟨(fun h hm=>by cases hm),(fun h hm=>by cases hm),fun o hm=> ?_,by decide,by decide,by decide⟩
 simp only[lO,List.mem_cons,List.not_mem_nil,or_false]at hm
 subst hm
 decide
theorem wz:kp fj:=by
 refine⟨by decide,by decide,by decide,by decide,fun d hm=> ?_⟩
 simp only[fj,List.mem_cons,List.not_mem_nil,or_false]at hm
 subst hm
 decide
theorem xA:jy lO fj=(⟨[83],0,[⟨[107],1,0,9,1,0,[]⟩],[],[(1,0,0,4)],[⟨3,0,[]⟩,⟨1,2,[]⟩,⟨13,0,[]⟩,⟨24,0,[]⟩,⟨24,0,[]⟩]⟩,0):=by kernel_rfl
theorem xe (n:Int):Pure Tryz.prog 24 [.int .i64 n] (.agg [.int .i64 1,.int .i64 n,.str []]):=by
 refine cM bb Tryz.func24 xy rfl rfl ?_
 unfold kO sM
 simp(disch:=omega)only[go_sem,simprocAttr]
 refine aj ?_
 exact D.rx
theorem wy:bh (.agg [.str [80],.af 1 [[.str [97]],[.str [98]]],.af 5 [[.str [109],.aD,.int .i64 0,.aD,.aD]],.int .i64 2,.int .i64 0,.int .i64 1,.af 6 [[.int .i64 0,.int .i64 0,.int .i64 1,.int .i64 0,.int .i64 1,.bool false]],.aD]) fj.cQ:=
 qt (bu (bh.refl _) (bu (bh.refl _) (bu (mj (.cons (bu (bh.refl _) (bu bh.nil (bu (bh.refl _) (bu bh.nil (bu bh.nil gG))))) .nil)) (bu (bh.refl _) (bu (bh.refl _) (bu (bh.refl _) (bu (bh.refl _) (bu bh.nil gG))))))))
theorem yN:bh (.agg [.str [83],.str [97],.str [80],.af 7 [[.str [107],.int .i64 1,.int .i64 0,.int .i64 9,.int .i64 1,.int .i64 0,.str []]],.aD,.af 4 [[.str [109],.str [98],.aD,.af 6 [[.int .i64 6,.str [62],.str [],.str [],.int .i64 0,.af 6 [[.int .i64 1,.str [],.str [],.str [],.int .i64 2,.aD],[.int .i64 3,.str [],.str [107],.str [],.int .i64 0,.aD]]]]]]]) lO.cQ:=by
 have h: ∀k n m,eo [.int .i64 k,.str [],.str m,.str [],.int .i64 n,.aD] [.int .i64 k,.str [],.str m,.str [],.int .i64 n,.af 6 []]:=fun k n m=>bu (bh.refl _) (bu (bh.refl _) (bu (bh.refl _) (bu (bh.refl _) (bu (bh.refl _) (bu bh.nil gG)))))
 exact qt (bu (bh.refl _) (bu (bh.refl _) (bu (bh.refl _) (bu (bh.refl _) (bu bh.nil (bu (mj (.cons (bu (bh.refl _) (bu (bh.refl _) (bu bh.nil (bu (mj (.cons (bu (bh.refl _) (bu (bh.refl _) (bu (bh.refl _) (bu (bh.refl _) (bu (bh.refl _) (bu (mj (.cons (h _ _ _) (.cons (h _ _ _) .nil))) gG)))))) .nil)) gG)))) .nil)) gG))))))
theorem yJ:Pure Tryz.prog 18 [] (.bool true):=by
 have fS:=(ug lO fj yC wz).le (bu yN (bu wy gG))
 rw[xA]at fS
 have kO:=xe 0
 simp only[gL.cQ,gL.cells,List.map_cons,List.map_nil]at fS
 simp(disch:=omega)only[go_sem,simprocAttr]at fS
 refine cM bb Tryz.func18 xx rfl rfl ?_
 unfold sa sL
 simp(disch:=omega)only[go_sem,simprocAttr]
 refine aj ?_
 refine D.P (kO) ?_
 refine aj ?_
 refine D.P (fS) ?_
 refine aj ?_
 refine av.c5 (X:=Nat) 0 (fun i=>[(3,.ptr 2 0),(5,.af 3 [[.int .i64 3,.int .i64 0,.str []],[.int .i64 1,.int .i64 2,.str []],[.int .i64 13,.int .i64 0,.str []],[.int .i64 24,.int .i64 0,.str []],[.int .i64 24,.int .i64 0,.str []]]),(6,.int .i64 (i:Int))]) (fun _=>[(2,40,[.str [83],.int .i64 0,.af 7 [[.str [107],.int .i64 1,.int .i64 0,.int .i64 9,.int .i64 1,.int .i64 0,.str []]],.af 3 [],.af 4 [[.int .i64 1,.int .i64 0,.int .i64 0,.int .i64 4]],.af 3 [[.int .i64 3,.int .i64 0,.str []],[.int .i64 1,.int .i64 2,.str []],[.int .i64 13,.int .i64 0,.str []],[.int .i64 24,.int .i64 0,.str []],[.int .i64 24,.int .i64 0,.str []]]])]) (fun _=>[]) (fun i=>i≤5) (fun i=>5-i) (Nat.zero_le _) ⟨rfl,rfl,rfl,trivial⟩ ⟨rfl,trivial⟩ trivial ?_
 intro i ad
 match i,ad with
 |0,_=>
  refine aj ?_
  refine av.dO 1 (by decide) ⟨rfl,rfl,rfl,trivial⟩ ⟨rfl,trivial⟩ trivial rfl rfl (by decide)
 |1,_=>
  refine aj ?_
  refine av.dO 2 (by decide) ⟨rfl,rfl,rfl,trivial⟩ ⟨rfl,trivial⟩ trivial rfl rfl (by decide)
 |2,_=>
  refine aj ?_
  refine av.dO 3 (by decide) ⟨rfl,rfl,rfl,trivial⟩ ⟨rfl,trivial⟩ trivial rfl rfl (by decide)
 |3,_=>
  refine aj ?_
  refine av.dO 4 (by decide) ⟨rfl,rfl,rfl,trivial⟩ ⟨rfl,trivial⟩ trivial rfl rfl (by decide)
 |4,_=>
  refine aj ?_
  refine av.dO 5 (by decide) ⟨rfl,rfl,rfl,trivial⟩ ⟨rfl,trivial⟩ trivial rfl rfl (by decide)
 |5,_=>
  refine aj ?_
  exact D.rx
 |n+6,h=>omega
end
section
def gd (p q:Nat) (l:List bK):Prop:=∀i∈l,i.op≠24∧(i.op=19∨i.op=20∨i.op=22→(p:Int)≤i.n∧i.n≤(q:Int))
inductive iL:Nat→List Int→List bK→Prop
 |nil {p:Nat}:iL p [] []
 |cons {p:Nat}{body:List bK}{E:List Int}{c:List bK}(h:gd p (p+body.length) body) (t:iL (p+(body.length+1)) E c):iL p ((p:Int)::E) (body++ins 24 0::c)
end
section
attribute [local go_sem] al.cr ai.cr al.ch ai.ch b6 cR eH eS dp of_flat ba.row db gQ eZ
attribute [local go_sem] eE et er eG ds dw df cH Fd.row dn dz cD.row dr.row bs.row hB ie dI eI fR bK.row
def oL:ba:=⟨[122,122,122,122,122,122,122,122,122,122,122,122,122,122,122,122],1,0,1,1,0,[]⟩
theorem vO (l:List ba):eN (l.map ba.row++[[.str [122,122,122,122,122,122,122,122,122,122,122,122,122,122,122,122],.int .i64 1,.int .i64 0,.int .i64 1,.int .i64 1,.int .i64 0,.str []]])=true:=by
 have h:=db (l++[oL])
 rw[List.map_append]at h
 exact h
attribute [local go_sem] vO
end
section
set_option maxRecDepth 1000000
def xf:al:= .mk 1 [] [] [] 1 []
def iF:List Int→List ai
 |[]=>[]
 |t::l=>[.mk 3 [] xf t (iF l) []]
def kI (l:List Int):b3:=⟨[83],[98],[80],[],[⟨[109],[97],[],iF l⟩],[]⟩
theorem Ii: ∀l:List Int,ai.bz (iF l)=2*l.length
 |[]=>rfl
 |t::l=>by simp only[iF,ai.bz,ai.bJ,xf,al.bJ,al.bz,Ii l,List.length_cons]; omega
theorem QL: ∀l:List Int,(∀t∈l,1≤t∧t≤50)→k7 (iF l)=true
 |[],_=>rfl
 |t::l,h=>by
  have U:=h t (by simp)
  have bB:=QL l fun u hu=>h u (by simp [hu])
  have ab:jo xf=true:=by kernel_rfl
  simp only[iF,k7,ky,bB,ab,Bool.and_true,gp,show ¬(3:Int)=1 by decide,show ¬(3:Int)=2 by decide,if_false,if_true,Bool.and_eq_true,decide_eq_true_eq,List.length_nil,and_true,true_and]
  omega
theorem QK: ∀l:List Int,kr (iF l)≤l.length+1
 |[]=>by simp [iF,kr]
 |t::l=>by
  have bB:=QK l
  have ab:oR xf=1:=by kernel_rfl
  simp only[iF,kr,oq,ab,List.length_cons]
  omega
theorem QH (ck:dL): ∀l:List Int,jN ck (iF l)= .ok ()
 |[]=>by simp only[iF,jN]
 |t::l=>by
  have bB:=QH ck l
  simp only[iF,jN,o6,show ¬(3:Int)=1 by decide,show ¬(3:Int)=2 by decide,if_false,if_true,bB,xf,kk,k8]
  rfl
theorem QJ: ∀(l:List Int) (d:Nat),d≤4→gO d (iF l)=decide (4<d+l.length)
 |[],d,h=>by
  simp only[iF,gO,List.length_nil]
  exact (decide_eq_false (by omega)).symm
 |t::l,d,h=>by
  simp only[iF,gO,AY,show ¬(3:Int)=1 by decide,show ¬(3:Int)=2 by decide,if_false,Bool.or_false,List.length_cons]
  by_cases bl:d=4
  ·subst bl
   simp
  ·rw[QJ l (d+1) (by omega),decide_eq_false bl,Bool.false_or]
   exact decide_eq_decide.2 (by omega)
def pS (l:List bK):Nat:=l.countP fun i=>decide (i.op=21)
theorem QI (cx:fJ): ∀(l:List Int) (p:Nat),(dS cx p (iF l)).length=5*l.length∧pS (dS cx p (iF l))=l.length
 |[],p=>by simp [iF,dS,pS]
 |t::l,p=>by
  have ab:c3 cx xf=[ins 1 1]:=by simp [xf,c3]
  obtain⟨U,aa⟩:=QI cx l (p+1+1+1)
  simp only[iF,dS,hT,show ¬(3:Int)=1 by decide,show ¬(3:Int)=2 by decide,if_false,ab,List.append_nil,List.length_cons,List.length_append,List.length_nil]
  unfold pS at aa ⊢
  refine⟨by rw[U]; omega,?_⟩
  simp only[List.countP_cons,List.countP_append,List.countP_nil,aa,ins]
  simp
theorem be5 (l:List Int) (h:l.length≤8):jw (kI l):=by
 refine⟨fun y aV=> ?_,fun y aV=> ?_,(fun o ao=>by cases ao),Nat.zero_le _,(by show 1≤1000000; decide),Nat.zero_le _⟩
 ·simp only[kI,List.mem_cons,List.not_mem_nil,or_false]at aV
  subst aV
  simp only[Ii]
  omega
 ·simp only[kI,List.mem_cons,List.not_mem_nil,or_false]at aV
  subst aV
  exact Nat.zero_le _
theorem ag4:s6 fj=true:=by kernel_rfl
theorem be7 (l:List Int) (h:l.length≤8) (ht: ∀t∈l,1≤t∧t≤50):n3 (kI l)=true:=by
 have U:=QL l ht
 have aa:=QK l
 have hp:vq (kI l)=true:=by kernel_rfl
 have a8:pr ⟨[109],[97],[],iF l⟩=true:=by
  have ar:rJ [109]=true:=by kernel_rfl
  have ax:io [97]=true:=by kernel_rfl
  have bU:(iF l).all ky=true:=by rw[←xP]; exact U
  have dl:(iF l).all (fun x=>decide (oq x≤10))=true:=by
   cases l with
   |nil=>rfl
   |cons t l=>
    simp only[iF,kr]at aa
    simp only[iF,List.all_cons,List.all_nil,Bool.and_true,decide_eq_true_eq]
    simp only[List.length_cons]at h aa
    omega
  simp only[pr,ar,ax,bU,dl,List.length_nil,List.all_nil,Bool.and_true,Bool.true_and]
  rfl
 have dX:(qx (kI l)).length≤8000:=by
  have k:=(IL (ai.bz (iF l))).2 (iF l) 2 (Nat.le_refl _) U (by omega)
  rw[Ii]at k
  have e:qx (kI l)=gC 0 [[115,101,114,118,105,99,101,32],[83],[32,112,108,97,121,115,32],[98],[32,111,102,32],[80],[32,123]]++(gC 1 [[111,110,32],[109],[40],Lib.join [] [44,32],[41,32,102,114,111,109,32],[97],[32,123]]++ai.gW 2 (iF l)++gC 1 [[125]])++gC 0 [[125]]:=by
   simp only[qx,kI,List.map_cons,List.map_nil,List.flatten_nil,List.flatten_cons,List.append_nil,mA]
  rw[e]
  have j:(Lib.join [] [44,32]:bF).length=0:=rfl
  simp only[List.length_append,tX,List.flatten_cons,List.flatten_nil,List.append_nil,List.length_cons,List.length_nil,j]
  omega
 simp only[n3,hp,Bool.true_and,Bool.and_eq_true,decide_eq_true_eq]
 refine⟨?_,dX⟩
 simp only[rX,kI,List.all_cons,List.all_nil,a8,Bool.and_self]
theorem be9 (l:List Int):pE (kI l) fj= .ok ():=by
 refine IG rfl (by show 0≤eJ fj.cC [98]; decide) rfl ?_ rfl
 simp only[kI,mP]
 have: ∀ck:dL,ck.g=fj→ck.bM=1→ck.x.vars=[]→ki ck [] ⟨[109],[97],[],iF l⟩= .ok ():=by
  rintro⟨x,g,r,ps⟩ U aa ay
  simp only at U aa ay
  subst U aa
  have hm:qL ⟨x,fj,1,ps⟩ [109] [97] true= .ok ⟨[109],[],0,[],[]⟩:=by rfl
  simp only[ki,hm,cY.bind,List.any_nil,List.length_nil,oE]
  simp only[gh,Bool.not_false,if_true,decide_true]
  exact QH _ l
 rw[this _ rfl (by rfl) rfl]
 rfl
theorem be6 (l:List Int) (h:l.length≤8) (ht: ∀t∈l,1≤t∧t≤50):(4<l.length∧jy (kI l) fj=(EL,6))∨(l.length≤4∧∃P:gL,jy (kI l) fj=(P,0)∧P.code.length=5*l.length+1∧pS P.code=l.length):=by
 have aq:(kf (kI l) fj).2=0:=zb.2 ⟨be7 l h ht,ag4,be9 l⟩
 obtain⟨bf,bi⟩:=QI ⟨[],[],[]⟩ l 0
 have aw:kl fj [109]=[]:=by rfl
 have a8:ly (kI l) (kl fj [109]) 0 ⟨[109],[97],[],iF l⟩=dS ⟨[],[],[]⟩ 0 (iF l)++[ins 24 0]:=by rw[aw]; rfl
 have xZ:iZ (kI l) fj=dS ⟨[],[],[]⟩ 0 (iF l)++[ins 24 0]:=by
  have ar:(kI l).hs=[⟨[109],[97],[],iF l⟩]:=rfl
  have ax:(kI l).os=[]:=rfl
  simp only[iZ,ar,ax,dM,hq,a8,List.append_nil]
  rw[if_neg (by simp)]
 have pu:(dM (kI l) fj 0 (kI l).hs).2.2=decide (4<l.length):=by
  have ar:(kI l).hs=[⟨[109],[97],[],iF l⟩]:=rfl
  simp only[ar,dM,Bool.or_false]
  rw[QJ l 0 (by omega),Nat.zero_add]
 have hlen:(iZ (kI l) fj).length=5*l.length+1:=by rw[xZ]; simp [bf]
 have hb:pS (iZ (kI l) fj)=l.length:=by
  rw[xZ]
  unfold pS at bi ⊢
  rw[List.countP_append,bi]
  rfl
 unfold jy
 rw[if_pos aq,pu]
 by_cases bl:4<l.length
 ·rw[if_pos (.inr (decide_eq_true bl))]
  exact .inl ⟨bl,rfl⟩
 ·rw[if_neg (by rw[decide_eq_false bl]; simp; omega)]
  exact .inr ⟨by omega,_,rfl,hlen,hb⟩
end
section
set_option maxRecDepth 1000000
attribute [local go_sem] al.cr ai.cr al.ch ai.ch b6 cR eH eS dp of_flat ba.row db gQ eZ
attribute [local go_sem] eE et er eG ds dw df cH Fd.row dn dz cD.row dr.row bs.row hB ie dI eI fR bK.row
def kc (n:Int):List I:=[.int .u8 n]
theorem tu (l:List Int):eN (l.map kc)=true:=lW (fun _=>rfl) l
def tt:List Int→I
 |[]=> .aD
 |t::l=> .af 11 [[.int .i64 3,.str [],.int .i64 1,.str [],.str [],.str [],.int .i64 1,.aD,.int .i64 t,tt l,.aD]]
theorem Lc: ∀l:List Int,(tt l).flat=true
 |[]=>rfl
 |t::l=>by simp only[tt,I.flat,eN,b7,Lc l,Bool.and_self]
theorem Ld (l:List Int):tt l= .aD∨∃rows,tt l= .af 11 rows∧eN rows=true:=by
 cases l with
 |nil=>exact .inl rfl
 |cons t l=>exact .inr ⟨_,rfl,Lc (t::l)⟩
theorem Le: ∀l:List Int,bh (tt l) (.af 11 ((iF l).map ai.row))
 |[]=>bh.nil
 |t::l=>by
  have bB:=Le l
  simp only[iF,xf,List.map_cons,List.map_nil,ai.cr,al.cr,List.cons_append,List.nil_append]
  exact mj (.cons (bu (bh.refl _) (bu (bh.refl _) (bu (bh.refl _) (bu (bh.refl _) (bu (bh.refl _) (bu (bh.refl _) (bu (bh.refl _) (bu bh.nil (bu (bh.refl _) (bu bB (bu bh.nil gG))))))))))) .nil)
theorem be8 (l:List Int):bh (.agg [.str [83],.str [98],.str [80],.aD,.af 4 [[.str [109],.str [97],.aD,tt l]],.aD]) (kI l).cQ:=by
 rw[lK]
 simp only[kI,List.map_cons,List.map_nil,eH]
 exact qt (bu (bh.refl _) (bu (bh.refl _) (bu (bh.refl _) (bu bh.nil (bu (mj (.cons (bu (bh.refl _) (bu (bh.refl _) (bu bh.nil (bu (Le l) gG)))) .nil)) (bu bh.nil gG))))))
attribute [local go_sem] kc tu
def sZ (n:Int):Int:=1+n.tmod 50
theorem Vf {n:Int}(h:0≤n):1≤sZ n∧sZ n≤50∧0≤n.tmod 50∧n.tmod 50<50:=by
 unfold sZ
 rw[Int.tmod_eq_emod_of_nonneg h]
 omega
theorem WJ {l:List bK}{i:Nat}{w:bK}(h:l[i]? =some w):pS (l.take (i+1))=pS (l.take i)+if w.op=21 then 1 else 0:=by
 unfold pS
 rw[List.take_add_one,h,List.countP_append]
 congr 1
 by_cases hw:w.op=21<;>simp [hw]
theorem vI (bQ:List Int) (aC:bQ.length≤140737488355328) (hb: ∀n∈bQ,0≤n∧n<256):Pure Tryz.prog 5 [.af 1 (bQ.map kc)] (.bool true):=by
 have rr:=yJ
 have gF:((bQ.map kc).length:Int)=(bQ.length:Int):=by rw[List.length_map]
 refine cM bb Tryz.func5 k6 (by simp only[b7,I.flat,tu,Bool.and_self]) rfl ?_
 unfold gn mI
 by_cases rs:bQ.length≤8
 rotate_left
 ·have d1:(8:Int)<(bQ.length:Int):=by omega
  simp(disch:=omega)only[go_sem,simprocAttr]
  refine aj ?_
  refine D.P (rr) ?_
  (have ah:=gF;have z2:=d1;refine eM ?_;clear ah z2)
  exact D.rx
 have d1: ¬(8:Int)<(bQ.length:Int):=by omega
 simp(disch:=omega)only[go_sem,simprocAttr]
 refine aj ?_
 refine D.P (rr) ?_
 (have ah:=gF;have z2:=d1;refine eM ?_;clear ah z2)
 refine av.c5 (X:=Nat) 0 (fun i=>[(0,.af 1 (bQ.map kc)),(3,.ptr 0 0),(4,tt ((bQ.take i).map sZ).reverse),(5,.int .i64 (i:Int))]) (fun _=>[(0,32,[.str [80],.af 1 [[.str [97]],[.str [98]]],.af 5 [[.str [109],.aD,.int .i64 0,.aD,.aD]],.int .i64 2,.int .i64 0,.int .i64 1,.af 6 [[.int .i64 0,.int .i64 0,.int .i64 1,.int .i64 0,.int .i64 1,.bool false]],.aD])]) (fun _=>[]) (fun i=>i≤bQ.length) (fun i=>bQ.length-i) (Nat.zero_le _) ⟨rfl,rfl,rfl,rfl,trivial⟩ ⟨rfl,trivial⟩ trivial ?_
 intro i ad
 try simp only at ad ⊢
 cases ae:bQ[i]? with
 |some n=>
  have cB:=(List.getElem?_eq_some_iff.1 ae).1
  have d2:(i:Int)<(bQ.length:Int):=by omega
  obtain⟨uZ,zE⟩:=hb n (List.mem_of_getElem? ae)
  obtain⟨fz,iM,kL,qu⟩:=Vf uZ
  have ei:((bQ.take (i+1)).map sZ).reverse=sZ n::((bQ.take i).map sZ).reverse:=by
   rw[List.take_add_one,ae]
   simp
  generalize fa:((bQ.take i).map sZ).reverse=B at ei
  rcases Ld B with jB|⟨rows,jB,_⟩
  ·rw[jB]
   (have ah:=gF;have z2:=d2;refine eM ?_;clear ah z2)
   refine av.dO (i+1) (by omega) ⟨rfl,rfl,by simp only[ei,tt,jB,sZ]; rfl,by simp only[Int.natCast_add]; rfl,trivial⟩ ⟨rfl,trivial⟩ trivial rfl rfl (by show bQ.length-(i+1)<bQ.length-i; omega)
  ·rw[jB]
   (have ah:=gF;have z2:=d2;refine eM ?_;clear ah z2)
   refine av.dO (i+1) (by omega) ⟨rfl,rfl,by simp only[ei,tt,jB,sZ]; rfl,by simp only[Int.natCast_add]; rfl,trivial⟩ ⟨rfl,trivial⟩ trivial rfl rfl (by show bQ.length-(i+1)<bQ.length-i; omega)
 |none=>
 have cg:=List.getElem?_eq_none_iff.1 ae
 have cA:i=bQ.length:=by omega
 subst cA
 rw[List.take_length]
 have d2: ¬(bQ.length:Int)<(bQ.length:Int):=by omega
 obtain⟨vE,Ep⟩: ∃vE,vE=(bQ.map sZ).reverse:=⟨_,rfl⟩
 have bl3:vE.length=bQ.length:=by rw[Ep]; simp
 have al3: ∀t∈vE,1≤t∧t≤50:=fun t ht=>by
  rw[Ep,List.mem_reverse]at ht
  obtain⟨n,aW,rfl⟩:=List.mem_map.1 ht
  have:=Vf (hb n aW).1
  exact⟨this.1,this.2.1⟩
 rw[←Ep]
 have fS:=(ug (kI vE) fj (be5 vE (by omega)) wz).le (bu (be8 vE) (bu wy gG))
 have am1:=be6 vE (by omega) al3
 clear Ep ae cg ad
 have Pz:=Ld vE
 rcases am1 with ⟨bl,hC⟩|⟨bl,P,hC,aj3,aj4⟩
 ·rw[hC]at fS
  simp only[gL.cQ,gL.cells,EL,List.map_nil]at fS
  have d3:(4:Int)<(bQ.length:Int):=by omega
  rcases Pz with jB|⟨rows,jB,tO⟩
  all_goals
   rw[jB]at fS ⊢
   (have ah:=gF;have z2:=d2;refine eM ?_;clear ah z2)
   first|refine D.P fS ?_|refine D.P fS ?_ (hf:=by simp (disch:=omega) only[go_sem,simprocAttr,tO]<;>rfl)
   (have ah:=gF;have z2:=d3;refine eM ?_;clear ah z2)
   exact D.rx
 rw[hC]at fS
 simp only[gL.cQ,gL.cells]at fS
 have d3: ¬(4:Int)<(bQ.length:Int):=by omega
 have pO:((P.code.map bK.row).length:Int)=(P.code.length:Int):=by rw[List.length_map]
 generalize P.code=code at*
 have nw:code.length≤1000:=by omega
 rcases Pz with jB|⟨rows,jB,tO⟩
 all_goals
  rw[jB]at fS ⊢
  (have ah:=gF;have z2:=d2;refine eM ?_;clear ah z2)
  first|refine D.P fS ?_|refine D.P fS ?_ (hf:=by simp (disch:=omega) only[go_sem,simprocAttr,tO]<;>rfl)
  (have ah:=gF;have z2:=d3;refine eM ?_;clear ah z2)
  refine av.c5 (X:=Nat) 0 (fun i=>[(0,.af 1 (bQ.map kc)),(6,.ptr 1 0),(7,.int .i64 0),(8,.int .i64 (pS (code.take i):Int)),(9,.int .i64 (i:Int))]) (fun _=>[(1,40,[.str P.name,.int .i64 P.bM,.af 7 (P.vars.map ba.row),.af 3 (P.hs.map dI),.af 4 (P.os.map eI),.af 3 (code.map bK.row)])]) (fun _=>[]) (fun i=>i≤code.length∧pS (code.take i)≤i) (fun i=>code.length-i) ⟨Nat.zero_le _,Nat.le_refl _⟩ ⟨rfl,rfl,rfl,rfl,rfl,trivial⟩ ⟨rfl,trivial⟩ trivial ?_
  rintro i ⟨ad,Pl⟩
  try simp only at ad Pl ⊢
  cases ae:code[i]? with
  |some w=>
   have cB:=(List.getElem?_eq_some_iff.1 ae).1
   have d4:(i:Int)<(code.length:Int):=by omega
   have ei:=WJ ae
   generalize fa:pS (code.take i)=B at ei Pl
   generalize wC:pS (code.take (i+1))=bg7 at ei
   by_cases hw:w.op=21
   ·rw[if_pos hw]at ei
    (have ah:=pO;have z2:=d4;have z3:=hw;refine dE ?_;clear ah z2 z3)
    refine av.dO (i+1) ⟨by omega,by rw[wC]; omega⟩ ⟨rfl,rfl,rfl,by simp only[Env.get,wC,ei,Int.natCast_add]; rfl,by simp only[Int.natCast_add]; rfl,trivial⟩ ⟨rfl,trivial⟩ trivial rfl rfl (by show code.length-(i+1)<code.length-i; omega)
   ·rw[if_neg hw]at ei
    (have ah:=pO;have z2:=d4;have z3:=hw;refine dE ?_;clear ah z2 z3)
    refine av.dO (i+1) ⟨by omega,by rw[wC]; omega⟩ ⟨rfl,rfl,rfl,by simp only[Env.get,wC,ei,Nat.add_zero]; rfl,by simp only[Int.natCast_add]; rfl,trivial⟩ ⟨rfl,trivial⟩ trivial rfl rfl (by show code.length-(i+1)<code.length-i; omega)
  |none=>
  have cg:=List.getElem?_eq_none_iff.1 ae
  have cA:i=code.length:=by omega
  subst cA
  rw[List.take_length]at*
  have d4: ¬(code.length:Int)<(code.length:Int):=by omega
  have d5:(pS code:Int)=(bQ.length:Int):=by omega
  have d6:(code.length:Int)=5*(bQ.length:Int)+1:=by omega
  clear aj3 aj4
  (have ah:=gF;have z2:=pO;have z3:=d4;refine dE ?_;clear ah z2 z3)
  (have ah:=gF;have z2:=pO;have z3:=And.intro d5 d6;refine dE ?_;clear ah z2 z3)
  exact D.rx
end
section
set_option maxRecDepth 1000000
attribute [local go_sem] al.cr ai.cr al.ch ai.ch b6 cR eH eS dp of_flat ba.row db gQ eZ
attribute [local go_sem] eE et er eG ds dw df cH Fd.row dn dz cD.row dr.row bs.row hB ie dI eI fR bK.row
def je:cd:=⟨[80],[[97],[98]],[⟨[109],[⟨[120],1,0,9⟩],0,[],[]⟩],2,0,1,[⟨0,0,1,0,1,false⟩],[]⟩
end
end Go.aO.T.N
set_option maxRecDepth 100000
namespace Go.aO.T.N
open Go Go.aO Go.Proofs Go.ChangeShapes Go.WideShapes Go.RowKit
theorem ad5:Cx Tryz.prog [5]=true:=by kernel_rfl
theorem vx:iV Tryz.prog [5] 8 5=some [.dD (.i .u8)]:=by kernel_rfl
theorem aS8:iV Tryz.prog [5] 8 65=some [.hJ 5]:=by kernel_rfl
theorem Zi:Tryz.prog.cellsOf 5=1:=by kernel_rfl
theorem r0:Tryz.prog.bytesOf 5=1:=by kernel_rfl
variable {R:Nat}
theorem bo4: ∀(n:Nat) (r:List I),kq Tryz.prog [5] R n 5 r→∃z:Int,r=kc z∧0≤z∧z<256
 |0,_,h=>h.elim
 |n+1,r,h=>by
  obtain⟨aT,U,aa⟩:=h
  rw[vx]at U
  cases U
  simp only[h7,gM.ok]at aa
  obtain⟨_,_,rfl,⟨z,rfl,aG⟩,rfl⟩:=aa
  refine⟨z,rfl,?_⟩
  simp only[Lit.wf,Bool.and_eq_true,decide_eq_true_eq,show IntKind.u8.min=0 by rfl,show IntKind.u8.max=255 by rfl]at aG
  omega
section
variable {H:Type}{enc:TypeId×Value→H}{w:World}{base:Nat}{spare:Nat→Bool}{held:Bool}
theorem aF5 {v:Value}{x:DataW H}{p:List MemPlace}{r:Reach}{gS:Nat}(aG: ∀n∈DataW.weights Tryz.prog 65 x,n≤R) (ae:Value.okWide Tryz.prog w r gS 65 v) (h:DataW.Trod enc Tryz.prog w base spare held 65 v x p) (ak:R≤140737488355328):
  ∃q:List Int,((q.length≤140737488355328∧∀n∈q,0≤n∧n<256)∧True)∧∀m:Mem,m.w=w→m.H=aA.none→aP m (.af 1 (q.map kc)) v:=by
 obtain⟨n,rows,⟨⟨U,aa⟩,_⟩,ay⟩:=aT4 ad5 Tryz.underlying65 aS8 aG ae h
 rw[r0]at U
 obtain⟨q,rfl,bw⟩:=mY (f:=kc) (p:=fun z=>0≤z∧z<256) fun r hm=>bo4 n r (aa r hm)
 rw[List.length_map]at U
 refine⟨q,⟨⟨by omega,bw⟩,trivial⟩,?_⟩
 rw[Zi]at ay
 exact ay
end
end Go.aO.T.N
namespace Go.aO.T.N
open Go Go.aO Go.Proofs Go.RowKit
set_option maxRecDepth 100000
attribute [local irreducible] Go.aO.av Go.aO.au Go.aO.aY
section
theorem bc9 (bQ:List Int) (h:bQ.length≤140737488355328∧∀n∈bQ,0≤n∧n<256):Pure Tryz.prog 5 [.af 1 (bQ.map kc)] (.bool true):=vI bQ h.1 h.2
end
end Go.aO.T.N
