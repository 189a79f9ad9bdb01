/- Part of a proof; own work. -/
import Derived.Test.YtlemhelnmidpfaaGreatDoorProg
import Derived.Test.YtlemhelnmidpfaaGreatDoorRS16
set_option linter.unusedVariables false
set_option linter.unusedSimpArgs false
open List renaming length_append→bb7,length_drop→bl7,length_take→be9,length_nil→bc4,length_map→bb5,length_cons→bb9
open Nat renaming le_of_ble_eq_true→bh6,reduceBEq→bl3,reduceAdd→bl4
namespace Go.ba
open Go
theorem bl9 {α:Type}{f:α→List I}{m:List α}{p:Nat}{w:α}(h:m[p]? =some w):(m.map f)[p]? =some (f w):=by rw[List.getElem?_map,h]; rfl
end Go.ba

set_option maxHeartbeats 16000000
namespace Go.ba
open Go
theorem bm4 {row:List I}{k:Nat}(av:k<row.length) (v:I) (A B:List I):gg (A++(row++B)) (A.length+k) [v]=gg (A++(row++B)) A.length (row.set k v):=by
 unfold gg
 have ap:(A++(row++B)).take (A.length+k)=A++row.take k:=by
  rw[List.take_length_add_append,List.take_append_of_le_length (by omega)]
 have ay:(A++(row++B)).drop (A.length+k+[v].length)=row.drop (k+1)++B:=by
  rw[show A.length+k+[v].length=A.length+(k+1) by simp [Nat.add_assoc],List.drop_length_add_append,List.drop_append_of_le_length (by omega)]
 have b1:(A++(row++B)).take A.length=A:=by rw[List.take_append_of_le_length (Nat.le_refl _),List.take_length]
 have dC:(A++(row++B)).drop (A.length+(row.set k v).length)=B:=by
  rw[List.length_set,List.drop_length_add_append,List.drop_left]
 rw[ap,ay,b1,dC,List.set_eq_take_append_cons_drop,if_pos av]
 simp only[List.append_assoc,List.cons_append,List.nil_append]
theorem bj4 {rows:List (List I)}{p size k:Nat}{row:List I}{v:I}(ao: ∀r∈rows,r.length=size) (ac:rows[p]? =some row) (av:k<size):chunks size rows.length (gg rows.flatten (p*size+k) [v])=rows.set p (row.set k v):=by
 obtain⟨U,aa⟩:=Ev ao ac
 have xo:=ao row (List.mem_of_getElem? ac)
 have e:rows.flatten=rows.flatten.take (p*size)++(row++rows.flatten.drop (p*size+size)):=by
  conv=>lhs; rw[←List.take_append_drop (p*size) rows.flatten,←List.take_append_drop size (rows.flatten.drop (p*size)),aa,List.drop_drop]
 have el:(rows.flatten.take (p*size)).length=p*size:=by rw[List.length_take]; omega
 have:=bm4 (row:=row) (k:=k) (by omega) v (rows.flatten.take (p*size)) (rows.flatten.drop (p*size+size))
 rw[←e,el]at this
 rw[this]
 exact Mp ao ac (by rw[List.length_set,xo])
section
variable {cY:Program}{env:Env}{c:aN}{anns:List I}{l:List bK}{K:Env→aN→Prop}{Rp:I→aN→Prop}{x y i:aJ}{T t aU d p size k bB off:Nat}{rows:List (List I)}{row:List I}
theorem D.YV (h:al cY anns l ((d,.mp t aU (k+off))::env) c K Rp) (ab:bl env x= .mp t aU k:=by simp (disch:=omega) only[go_sem,simprocAttr]<;>with_reducible rfl) (aL:c.H.tok t=some (.bC T size aU rows):=by simp (disch:=omega) only[go_sem,simprocAttr]<;>with_reducible rfl):al cY anns (⟨some d,none,.js off x⟩::l) env c K Rp:=by
 refine al.u rfl (v:= .mp t aU (k+off)) (c1:=c) ?_ h
 simp only[eu,lx,fe,ab,aL,bM.bC,beq_self_eq_true,cond_true,Option.map_some]
theorem D.aN3 {v:I}(ac:rows[p]? =some row) (ao: ∀r∈rows,r.length=size) (av:k<size) (h:al cY anns l env (c.ck t (.bC T size aU (rows.set p (row.set k v)))) K Rp) (ab:bl env x= .mp t aU (p*size+k):=by simp (disch:=omega) only[go_sem,simprocAttr]<;>with_reducible rfl) (aL:c.H.tok t=some (.bC T size aU rows):=by simp (disch:=omega) only[go_sem,simprocAttr]<;>with_reducible rfl) (a8:bl env y=v:=by simp (disch:=omega) only[go_sem,simprocAttr]<;>with_reducible rfl) (ad:(v.ea&&v.one)=true:=by simp (disch:=omega) only[go_sem,simprocAttr]<;>rfl) (an:v.cells=[v]:=by rfl):al cY anns (⟨none,none,.store 1 x y⟩::l) env c K Rp:=by
 obtain⟨U,aa⟩:=Ev ao ac
 have aG:rows.flatten.length=rows.length*size:=CE ao
 simp only[Bool.and_eq_true]at ad
 refine al.Tk rfl (v:= .undef) (c1:=c.ck t (.bC T size aU (rows.set p (row.set k v)))) ?_ h
 have ap:p*size+k+1≤rows.length*size:=by omega
 simp only[eu,lx,ab,a8,yx,aL,bM.bC,beq_self_eq_true,ad.1,ad.2,an,List.length_cons,List.length_nil,Nat.zero_add,List.all_cons,List.all_nil,aG,Bool.and_self,Bool.true_and,Bool.and_true,yo ap,cond_true]
 rw[bj4 ao ac av]
end
end Go.ba
set_option maxRecDepth 100000
namespace Go.ba.T.N
open Go Go.ba Go.Proofs
set_option maxRecDepth 1000000
abbrev bp2:aJ:= .t 175
abbrev bm8:aJ:= .t 176
abbrev bm9:aJ:= .t 177
abbrev bn0:aJ:= .t 178
abbrev bn1:aJ:= .t 179
abbrev bn2:aJ:= .t 180
abbrev bp3:aJ:= .t 181
abbrev bn3:aJ:= .t 182
abbrev bn4:aJ:= .t 183
abbrev bp4:aJ:= .t 184
abbrev bp5:aJ:= .t 185
abbrev bp6:aJ:= .t 186
abbrev bn5:aJ:= .t 187
abbrev bn6:aJ:= .t 188
abbrev bn7:aJ:= .t 189
abbrev bn8:aJ:= .t 190
abbrev bp7:aJ:= .t 191
abbrev bi2:aJ:= .t 192
abbrev bn9:aJ:= .t 193
abbrev bo0:aJ:= .t 194
abbrev bo1:aJ:= .t 195
abbrev bp8:aJ:= .t 196
abbrev bp9:aJ:= .t 197
abbrev bq0:aJ:= .t 198
abbrev bo2:aJ:= .t 199
def Lq:bp:=
 ah [aE 2 (.box 26 eI),aE 3 (.box 32 jB),b8 4] (a7 [b5 5 6 2,bE 6 44 [dN],J 7 6,cc 8 7 true (.load true 8 eQ),dX 9 7 true 45 [ds],bF 10 dy eE cB,J 4 10])
def Rz:List bf:=[.t 4]
theorem Ws:bL Tryz.prog Tryz.f30 2 Lq Rz=true:=by kernel_rfl
def LX:bp:=
 ah [aE 1 (.box 32 eI),b8 2] (a7 [aH 3 3 1,aK 4 3,aB 5 .leq hY (ax 40),J 6 5,bz 7 6 true 6 1,bI 8 6 true 7,cc 9 6 true (.len ds),b9 10 6 true .leq eE (ax 80),bF 11 dO fl cB,J 12 11,bz 13 12 true 7 1,bI 14 12 true 13,cc 15 12 true (.len fr),b9 16 12 true .leq dH (ax 40),bF 17 dU gq cB,J 18 17,bz 19 18 true 1 1,bI 20 18 true 19,cc 21 18 true (.len gL),b9 22 18 true .leq gM (ax 10),bF 23 gh gr cB,J 24 23,bz 25 24 true 2 1,bI 26 24 true 25,dX 27 24 true 120 [ik],bF 28 ga fO cB,J 2 28])
def R8:List bf:=[.t 2]
theorem W3:bL Tryz.prog Tryz.f45 1 LX R8=true:=by kernel_rfl
def Kc:bp:=
 ah [b8 2] (ah [bq 3 (ax 0)] (aO (ah [bq 4 (ax 0)] (.block 0 (.loop (aO (ah [J 5 4,J 6 0,cK 7 6,aB 8 .lss dN dy] (aZ 8 .skip (.exit 0))) (aO (.block 1 (.region [J 11 3,J 12 0,J 13 4,cE 14 5 dU ee,aH 15 1 14,aK 16 15,cK 17 16,J 18 0,J 19 4,cE 20 5 gh e8,aH 21 3 20,aH 22 0 21,aK 23 22,cK 24 23,aB 25 .add fC ga,J 26 0,J 27 4,cE 28 5 ik fO,aH 29 3 28,aH 30 1 29,aK 31 30,cK 32 31,aB 33 .add hA jn,aB 34 .add dp iw,J 3 34] true)) (bQ [J 9 4,aB 10 .add eE (ax 1),J 4 10])))))) (a7 [J 35 0,cK 36 35,aB 37 .leq iO (ax 60),J 38 37,cX 39 38 true 3,b9 40 38 true .leq ln (ax 100),bF 41 lm kI cB,J 2 41])))
def Qh:List bf:=[.t 2]
theorem Vc:bL Tryz.prog Tryz.f120 1 Kc Qh=true:=by kernel_rfl
def Lk:bp:=
 ah [b8 0] (ah [aE 10 (.et 9 1 2 [.str []] [(0,bs [97]),(1,bs [98])]),aE 11 (.build [.int .i64 0,.int .i64 0,.int .i64 0] [(0,1,ax 1),(2,1,ax 9)]),aE 12 (.build [.str [],.int .i64 0,.int .i64 0,.int .i64 0] [(0,1,bs [120]),(1,3,dp)]),aE 13 (.et 131 4 1 [.str [],.int .i64 0,.int .i64 0,.int .i64 0] [(0,dU)]),aE 14 (.build [.str [],.bi,.int .i64 0,.bi,.bi] [(0,1,bs [109]),(1,1,ee)]),aE 15 (.et 72 5 1 [.str [],.bi,.int .i64 0,.bi,.bi] [(0,fr)]),aE 16 (.build [.int .i64 0,.int .i64 0,.int .i64 0] [(0,1,ax 0),(1,1,ax 1)]),aE 17 (.build [.int .i64 0,.int .i64 0,.int .i64 0,.int .i64 0,.int .i64 0,.bool false] [(1,3,gq),(4,1,ax 1)]),aE 18 (.et 76 6 1 [.int .i64 0,.int .i64 0,.int .i64 0,.int .i64 0,.int .i64 0,.bool false] [(0,fC)]),aE 19 (.build [.str [],.bi,.bi,.int .i64 0,.int .i64 0,.int .i64 0,.bi,.bi] [(0,1,bs [80]),(1,1,fl),(2,1,dH),(3,1,ax 2),(5,1,ax 1),(6,1,gh)]),aE 1 (.alloc 32 [.str [],.bi,.bi,.int .i64 0,.int .i64 0,.int .i64 0,.bi,.bi]),c8 8 1 e8] (ah [aE 20 (.et 9 1 1 [.str []] [(0,bs [120])]),aE 21 (.build [.int .i64 0,.str [],.str [],.str [],.int .i64 0,.bi] [(0,1,ax 1),(4,1,ax 1)]),aE 22 (.build [.int .i64 0,.str [],.int .i64 0,.str [],.str [],.str [],.int .i64 0,.bi,.int .i64 0,.bi,.bi] [(0,1,ax 1),(1,1,bs [120]),(2,6,gM)]),aE 23 (.et 178 11 1 [.int .i64 0,.str [],.int .i64 0,.str [],.str [],.str [],.int .i64 0,.bi,.int .i64 0,.bi,.bi] [(0,gr)]),aE 24 (.build [.str [],.str [],.bi,.bi] [(0,1,bs [109]),(1,1,bs [97]),(2,1,gL),(3,1,fN)]),aE 25 (.et 113 4 1 [.str [],.str [],.bi,.bi] [(0,ga)]),aE 26 (.build [.str [],.str [],.str [],.bi,.bi,.bi] [(0,1,bs [83]),(1,1,bs [98]),(2,1,bs [80]),(4,1,hA)]),bE 27 21 [ik],aE 2 (.alloc 48 [.str [],.str [],.str [],.bi,.bi,.bi]),c8 6 2 fO] (ah [b5 29 6 2,b5 30 8 1,bE 31 31 [iC,iN],J 28 31,aE 32 (.extract 0 gi),aE 33 (.extract 1 gi),J 3 32,J 4 33] (ah [aH 34 4 2,c8 1 34 (.c .bi)] (ah [b5 36 6 2,b5 37 8 1,bE 38 31 [iO,jV],J 35 38,aE 39 (.extract 0 ki),aE 40 (.extract 1 ki),J 5 39,J 6 40] (ah [b5 41 6 2,b5 42 8 1,bE 43 36 [kJ,l6],J 7 43] (ah [b5 45 6 2,b5 46 8 1,bE 47 33 [lN,lO],J 44 47,aE 48 (.extract 0 kK),aE 49 (.extract 1 kK),J 8 48,J 9 49] (a7 [J 50 3,aB 51 .eql iY (bs [120]),J 52 51,cX 53 52 true 4,b9 54 52 true .eql pA (ax 11),bF 55 lP kj cB,J 56 55,cX 57 56 true 6,b9 58 56 true .eql nc (ax 0),bF 59 j5 kL cB,J 60 59,cX 61 60 true 7,cc 62 60 true (.build [.int .i64 0,.int .i64 0,.int .i64 0] [(0,1,ax 0),(1,1,ax 1)]),cc 63 60 true (.et 74 3 1 [.int .i64 0,.int .i64 0,.int .i64 0] [(0,qd)]),dX 64 60 true 35 [oe,oP],bF 65 nK oQ cB,J 66 65,cX 67 66 true 8,b9 68 66 true .eql pB (ax 1),bF 69 nd q2 cB,J 70 69,cX 71 70 true 9,bF 72 ng og cB,J 0 72]))))))))
def Rt:List bf:=[.t 0]
theorem Wm:bL Tryz.prog Tryz.f29 0 Lk Rt=true:=by kernel_rfl
def wU:bp:=
 ah [b8 4] (aO (ah [J 6 0,cK 7 6,J 8 1,cK 9 8,aB 10 .neq dy eE] (aZ 10 (a7 [b8 4]) .skip)) (aO (ah [bq 5 (ax 0)] (.block 0 (.loop (aO (ah [J 11 5,J 12 0,cK 13 12,aB 14 .lss dp ee] (aZ 14 .skip (.exit 0))) (aO (.block 1 (aO (.region [J 17 0,J 18 5,cE 19 3 fC gh,b5 20 3 19,J 21 1,J 22 5,cE 23 3 gM gr,b5 24 3 23,aE 25 (.nX true 74 [.i .i64,.i .i64,.i .i64] gL ga)] true) (aZ 25 (a7 [b8 4]) .skip))) (bQ [J 15 5,aB 16 .add dH (ax 1),J 5 16])))))) (a7 [kB 4])))
def RS:List bf:=[.t 4]
theorem WL:bL Tryz.prog Tryz.f35 2 wU RS=true:=by kernel_rfl
def yE:bp:=
 ah [aE 2 (.box 48 eI),aE 3 (.box 32 jB),bq 4 (.c .bi)] (aO (ah [b5 15 6 2,b5 16 8 3,bE 17 31 [dH,gq],J 14 17,aE 18 (.extract 0 fr),aE 19 (.extract 1 fr),J 5 18,J 6 19] (ah [J 20 6,aB 21 .neq gL (ax 0)] (aZ 21 (a7 [bq 4 (.c .bi)]) .skip))) (ah [b5 23 6 2,b5 24 8 3,bE 25 33 [fN,ga],J 22 25,aE 26 (.extract 0 gr),aE 27 (.extract 1 gr),J 7 26,J 8 27] (ah [bq 9 (.c .bi)] (aO (ah [aH 28 6 3,aK 29 28,cK 30 29,bq 31 (ax 0)] (.block 0 (.loop (ah [aB 32 .lss hJ iN] (aO (aZ 32 .skip (.exit 0)) (aO (.block 1 (ah [cE 33 6 iC hJ,b5 34 6 33,aE 11 (.alloc 76 [.int .i64 0,.int .i64 0,.int .i64 0,.int .i64 0,.int .i64 0,.bool false]),c8 6 11 iX] (ah [aH 35 1 11,b5 36 3 35,aE 12 (.alloc 74 [.int .i64 0,.int .i64 0,.int .i64 0]),c8 3 12 iO] (ah [aE 37 (.jJ 94 [eQ,dU]),J 13 37] (ah [aH 38 1 12,aK 39 38,J 40 7,aB 41 .eql ln kI,J 42 41,cX 43 42 true 9,cc 44 42 true (.load true 3 dU),dX 45 42 true 95 [jW,kK],cc 46 42 true (.not lN),bF 47 l6 lO cB,J 48 47,bz 49 48 true 4 2,bI 50 48 true 49,cX 51 48 true 13,dX 52 48 true 96 [iY,lo],cc 53 48 true (.not lP),bF 54 nb pA cB] (aZ 54 (bQ [J 55 9,b5 56 3 12,aE 57 (.et 74 3 1 [.int .i64 0,.int .i64 0,.int .i64 0] [(0,j5)]),aE 58 (.append 74 3 24 mD nc),J 9 58]) .skip)))))) (bQ [aB 59 .add hJ (ax 1),J 31 59]))))))) (ah [J 60 9,bE 61 97 [nK,.c (.fn 98 [])]] (a7 [J 62 9,J 4 62]))))))
def RW:List bf:=[.t 4]
theorem WQ:bL Tryz.prog Tryz.f36 2 yE RW=true:=by kernel_rfl
def vb:bp:=
 ah [aE 3 (.box 74 jB),b8 4] (a7 [J 5 0,b5 6 3 3,bE 7 182 [dN,dO],aB 8 .geq dy (ax 0),J 4 8])
def Sg:List bf:=[.t 4]
theorem Xc:bL Tryz.prog Tryz.f95 2 vb Sg=true:=by kernel_rfl
def Kv:bp:=
 ah [aE 3 (.box 74 jB),bq 4 (ax 0)] (aO (ah [J 6 0,cK 7 6,bq 8 (ax 0)] (.block 0 (.loop (ah [aB 9 .lss ds dy] (aO (aZ 9 .skip (.exit 0)) (aO (.block 1 (ah [J 10 8,J 5 10] (aO (.region [b5 11 3 3,J 12 0,J 13 5,cE 14 3 dU ee,b5 15 3 14,aE 16 (.nX false 74 [.i .i64,.i .i64,.i .i64] dp dH)] true) (aZ 16 (a7 [J 17 5,J 4 17]) .skip)))) (bQ [aB 18 .add ds (ax 1),J 8 18]))))))) (a7 [bq 4 (ax (-1))]))
def QB:List bf:=[.t 4]
theorem Vv:bL Tryz.prog Tryz.f182 2 Kv QB=true:=by kernel_rfl
def Bk:bp:=
 ah [J 5 0,cK 6 5,J 4 6] (bQ [J 7 0,J 8 4,J 9 4,aE 10 (.conv .u64 eE),bE 11 185 [fl],J 12 1,bE 13 184 [dy,ax 0,ds,dp,dU]])
def Sh:List bf:=[]
theorem Xd:bL Tryz.prog Tryz.f97 2 Bk Sh=true:=by kernel_rfl
def Kw:bp:=
 ah [kB 10] (ah [kB 11] (.block 0 (.loop (.block 1 (ah [J 21 2,J 22 1,aB 23 .sub gM gr,J 12 23] (aO (ah [J 24 12,aB 25 .leq ga (ax 12)] (aZ 25 (a7 [J 26 0,J 27 1,J 28 2,J 29 4,bE 30 278 [ik,fO,gi,iC]]) .skip)) (aO (ah [J 31 3,aB 32 .eql hJ (ax 0)] (aZ 32 (a7 [J 33 0,J 34 1,J 35 2,J 36 4,bE 37 279 [iw,iX,ki,iO]]) .skip)) (aO (ah [J 38 10,fz 39 38] (aZ 39 (ah [J 40 0,J 41 1,J 42 2,J 43 4,bE 44 280 [kI,kJ,l6,jW]] (bQ [J 45 3,aB 46 .sub lN (ax 1),J 3 46])) .skip)) (ah [J 48 0,J 49 1,J 50 2,J 51 4,bE 52 281 [nb,od,iY,lo],J 47 52,aE 53 (.extract 0 mC),aE 54 (.extract 1 mC),J 13 53,J 14 54] (aO (ah [J 55 14,aB 56 .eql mD (ax 2)] (aZ 56 (ah [J 57 0,J 58 1,J 59 2,J 60 4,bE 61 282 [nc,kL,oO,nK]] (ah [J 62 2,aB 63 .sub qd (ax 1),J 64 13,J 65 1,aB 66 .sub oQ oR,aB 67 .sub oP nd,J 13 67] (bQ [bq 14 (ax 1)]))) .skip)) (aO (ah [J 68 10,J 69 68,cX 70 69 true 11,bF 71 oS ng cB,J 72 71,cX 73 72 true 14,b9 74 72 true .eql oT (ax 1),bF 75 r3 r4 cB] (aZ 75 (ah [J 76 0,J 77 1,J 78 2,J 79 4,bE 80 283 [q3,qe,we,wg]] (aZ 80 .ret .skip)) .skip)) (aO (aO (.region [J 81 1,aB 82 .gtr s5 (ax 0),J 83 82,cX 84 83 true 4,cX 85 83 true 0,cX 86 83 true 1,b9 87 83 true .sub r6 (ax 1),cc 88 83 true (.hV 3 x0 Ah),cc 89 83 true (.load true 3 uC),cX 90 83 true 0,cX 91 83 true 13,cc 92 83 true (.hV 3 Ai uE),cc 93 83 true (.load true 3 x1),cc 94 83 true (.j3 uB [uD,wi]),b9 95 83 true .lss wj (ax 0),cc 96 83 true (.not x2),bF 97 uA Aj cB] true) (aZ 97 (ah [J 98 0,J 99 1,J 100 2,J 101 13,J 102 4,bE 103 284 [CX,Hs,Ab,xX,xY],J 15 103] (ah [J 104 15,J 1 104] (.exit 1))) .skip)) (ah [J 106 0,J 107 1,J 108 2,J 109 13,J 110 4,bE 111 285 [Ae,S5,Af,xZ,CR],J 105 111,aE 112 (.extract 0 Ad),aE 113 (.extract 1 Ad),J 16 112,J 17 113] (ah [J 114 17,J 11 114] (ah [J 115 16,J 116 1,aB 117 .sub Ag Hh,J 118 2,J 119 16,aB 120 .sub Hj Hk,J 18 117,J 19 120] (ah [J 121 12,aB 122 .quo CT (ax 8),J 20 122] (ah [J 123 18,J 124 19,aB 125 .lss S8 CU] (aZ 125 (ah [J 126 18,J 127 20,aB 128 .geq Ta Hl,J 10 128] (ah [J 129 0,J 130 1,J 131 16,J 132 3,J 133 4,bE 134 184 [CV,Hm,Hn,Ho,Hp]] (bQ [J 135 16,aB 136 .add Hq (ax 1),J 1 136]))) (ah [J 137 19,J 138 20,aB 139 .geq Tc Td,J 10 139] (ah [J 140 0,J 141 16,aB 142 .add Tf (ax 1),J 143 2,J 144 3,J 145 4,bE 146 184 [Hr,Tg,Th,Ti,Tj]] (bQ [J 147 16,J 2 147])))))))))))))))))))))
def QC:List bf:=[]
theorem Vw:bL Tryz.prog Tryz.f184 5 Kw QC=true:=by kernel_rfl
def Kx:bp:=
 ah [bq 2 (ax 0)] (aO (.cond cB (a7 [J 3 0,aE 4 (.conv .u32 eQ),bE 5 286 [hY],J 2 5]) .skip) (a7 [J 6 0,bE 7 287 [dO],J 2 7]))
def QD:List bf:=[.t 2]
theorem Vx:bL Tryz.prog Tryz.f185 1 Kx QD=true:=by kernel_rfl
def Lh:bp:=
 ah [bq 2 (ax 0)] (aO (ah [J 3 0,aB 4 .geq eQ (.c (.int .u64 4294967296))] (aZ 4 (ah [J 5 0,aB 6 .shr dN (.c (.int .u64 32)),J 0 6] (bQ [bq 2 (ax 32)])) .skip)) (aO (ah [J 7 0,aB 8 .geq dy (.c (.int .u64 65536))] (aZ 8 (ah [J 9 0,aB 10 .shr eE (.c (.int .u64 16)),J 0 10] (bQ [J 11 2,aB 12 .add dp (ax 16),J 2 12])) .skip)) (aO (ah [J 13 0,aB 14 .geq ee (.c (.int .u64 256))] (aZ 14 (ah [J 15 0,aB 16 .shr dH (.c (.int .u64 8)),J 0 16] (bQ [J 17 2,aB 18 .add fC (ax 8),J 2 18])) .skip)) (a7 [J 19 2,J 20 0,aE 21 (.conv .u8 gL),aE 22 (.fQ (bs [0,1,2,2,3,3,3,3,4,4,4,4,4,4,4,4,5,5,5,5,5,5,5,5,5,5,5,5,5,5,5,5,6,6,6,6,6,6,6,6,6,6,6,6,6,6,6,6,6,6,6,6,6,6,6,6,6,6,6,6,6,6,6,6,7,7,7,7,7,7,7,7,7,7,7,7,7,7,7,7,7,7,7,7,7,7,7,7,7,7,7,7,7,7,7,7,7,7,7,7,7,7,7,7,7,7,7,7,7,7,7,7,7,7,7,7,7,7,7,7,7,7,7,7,7,7,7,7,8,8,8,8,8,8,8,8,8,8,8,8,8,8,8,8,8,8,8,8,8,8,8,8,8,8,8,8,8,8,8,8,8,8,8,8,8,8,8,8,8,8,8,8,8,8,8,8,8,8,8,8,8,8,8,8,8,8,8,8,8,8,8,8,8,8,8,8,8,8,8,8,8,8,8,8,8,8,8,8,8,8,8,8,8,8,8,8,8,8,8,8,8,8,8,8,8,8,8,8,8,8,8,8,8,8,8,8,8,8,8,8,8,8,8,8,8,8,8,8,8,8,8,8,8,8,8,8]) gM),aE 23 (.conv .i64 gr),aB 24 .add e8 fN,J 2 24]))))
def Rq:List bf:=[.t 2]
theorem Wj:bL Tryz.prog Tryz.f287 1 Lh Rq=true:=by kernel_rfl
def Lg:bp:=
 ah [J 10 1,aB 11 .add fl (ax 1),J 8 11] (.block 0 (.loop (aO (ah [J 12 8,J 13 2,aB 14 .lss dU ee] (aZ 14 .skip (.exit 0))) (aO (.block 1 (ah [J 17 8,J 9 17] (.block 2 (.loop (aO (aO (.region [J 18 9,J 19 1,aB 20 .gtr gh e8,J 21 20,cX 22 21 true 3,cX 23 21 true 0,cX 24 21 true 9,cc 25 21 true (.hV 3 fN ga),cc 26 21 true (.load true 3 hA),cX 27 21 true 0,cX 28 21 true 9,b9 29 21 true .sub gi (ax 1),cc 30 21 true (.hV 3 fO iC),cc 31 21 true (.load true 3 iN),cc 32 21 true (.j3 gr [ik,hJ]),b9 33 21 true .lss jn (ax 0),bF 34 gM iw cB] true) (aZ 34 .skip (.exit 2))) (aO (.block 3 (.region [J 37 0,J 38 9,J 39 0,J 40 9,aB 41 .sub kI (ax 1),J 42 0,J 43 9,aB 44 .sub jW (ax 1),cE 45 3 l6 kK,b5 46 3 45,J 47 0,J 48 9,cE 49 3 mC nb,b5 50 3 49,cE 51 3 jV lm,c8 3 51 lO,cE 52 3 ln kJ,c8 3 52 iY] true)) (bQ [J 35 9,aB 36 .sub ki (ax 1),J 9 36]))))))) (bQ [J 15 8,aB 16 .add dH (ax 1),J 8 16])))))
def Ro:List bf:=[]
theorem Wi:bL Tryz.prog Tryz.f278 4 Lg Ro=true:=by kernel_rfl
def bd8:bp:=
 ah [bq 6 (.c .bi)] (ah [bq 7 (.c .bi)] (aO (ah [bq 8 (ax 0)] (.block 0 (.loop (aO (ah [J 10 8,J 11 0,cK 12 11,aB 13 .lss fl dU] (aZ 13 .skip (.exit 0))) (aO (.block 1 (ah [J 16 0,J 17 8,cE 18 11 gq fC,b5 19 11 18,aE 9 (.alloc 178 [.int .i64 0,.str [],.int .i64 0,.str [],.str [],.str [],.int .i64 0,.bi,.int .i64 0,.bi,.bi]),c8 11 9 e8] (aO (ah [aH 20 0 9,aK 21 20,aB 22 .eql gM (ax 1),J 23 22,bz 24 23 true 1 9,bI 25 23 true 24,cX 26 23 true 1,b9 27 23 true .eql hA ik,bF 28 fN fO cB] (aZ 28 (bQ [J 29 2,aH 30 1 9,c8 1 30 iC]) .skip)) (aO (.region [aH 31 2 9,aE 32 (.gb 9 true 6 hJ),J 33 1,J 34 2,fA 35 42 [jn,iw,iX],aH 36 9 9,aE 37 (.gb 9 false 1 iO),J 38 1,J 39 2,fA 40 41 [jV,lm,ln],aH 41 10 9,aE 42 (.gb 9 false 1 kJ),J 43 1,J 44 2,fA 45 41 [l6,jW,kK],aH 46 2 9,qL (.gK 9 [] 6 lO ki),aH 47 9 9,qL (.gK 9 [] 1 mC kI),aH 48 10 9,qL (.gK 9 [] 1 nb lN)] true) (bQ [J 49 7,b5 50 11 9,aE 51 (.et 178 11 1 [.int .i64 0,.str [],.int .i64 0,.str [],.str [],.str [],.int .i64 0,.bi,.int .i64 0,.bi,.bi] [(0,iY)]),aE 52 (.append 178 11 168 od lo),J 7 52]))))) (bQ [J 14 8,aB 15 .add fr (ax 1),J 8 15])))))) (a7 [J 53 7,J 6 53])))
def bi0:List bf:=[.t 6]
theorem bj0:bL Tryz.prog Tryz.f41 3 bd8 bi0=true:=by kernel_rfl
def bc9:bp:=
 ah [aE 3 (.box 120 eI),aE 6 (.alloc 120 [.int .i64 0,.str [],.str [],.str [],.int .i64 0,.bi])] (aO (ah [aH 9 0 3,aK 10 9,aB 11 .eql fl (ax 3),J 12 11,bz 13 12 true 2 3,bI 14 12 true 13,cX 15 12 true 1,b9 16 12 true .eql fr dH,bF 17 dU gq cB] (aZ 17 (bQ [J 18 2,aH 19 2 3,c8 1 19 gh]) .skip)) (ah [bq 7 (.c .bi)] (aO (ah [bq 8 (ax 0)] (.block 0 (.loop (aO (ah [J 20 8,aH 21 5 3,aK 22 21,cK 23 22,aB 24 .lss gL fN] (aZ 24 .skip (.exit 0))) (aO (.block 1 (bQ [J 27 7,aH 28 5 3,aK 29 28,J 30 8,cE 31 6 iC iN,b5 32 6 31,J 33 1,J 34 2,bE 35 42 [jn,iw,iX],aE 36 (.et 120 6 1 [.int .i64 0,.str [],.str [],.str [],.int .i64 0,.bi] [(0,ki)]),aE 37 (.append 120 6 88 fO iO),J 7 37])) (bQ [J 25 8,aB 26 .add hA (ax 1),J 8 26])))))) (ah [J 38 7,aH 39 5 3,c8 1 39 lm] (a7 [b5 40 6 3,c8 6 6 kI])))))
def bi1:List bf:=[.cell true 6 6]
theorem bj1:bL Tryz.prog Tryz.f42 3 bc9 bi1=true:=by kernel_rfl
def bf2:bp:=
 ah [aE 3 (.box 26 eI),aE 4 (.box 32 jB),b8 6] (aO (ah [bE 26 29 [],fz 27 26] (aZ 27 (a7 [b8 6]) .skip)) (aO (ah [b5 28 6 3,b5 29 8 4,bE 30 30 [gi,iC],fz 31 30,J 32 31,bz 33 32 false 3 3,bI 34 32 false 33,cc 35 32 false (.len iX),b9 36 32 false .eql ki (ax 0),bF 37 jn cW iO] (aZ 37 (a7 [kB 6]) .skip)) (aO (aO (.region [b5 39 6 3,fA 40 21 [ln],b5 41 8 4,fA 42 31 [kI,kJ],J 38 42,aE 43 (.extract 0 lm),aE 44 (.extract 1 lm),J 7 43,J 8 44] true) (ah [J 45 8,aB 46 .neq lN (ax 0)] (aZ 46 (a7 [kB 6]) .skip))) (ah [J 47 2,aE 48 (.conv .i64 mC),aH 49 3 3,aK 50 49,cK 51 50,aB 52 .rem nb lo,J 9 52] (ah [aH 53 3 3,aK 54 53,J 55 9,cE 56 7 kj mD,aH 57 0 56,aK 58 57,J 10 58,bq 11 (bs [])] (aO (ah [bq 12 (ax 0)] (.block 0 (.loop (aO (ah [J 59 12,J 60 10,aE 61 (.iV nK),aB 62 .lss oO oe] (aZ 62 .skip (.exit 0))) (aO (.block 1 (bQ [J 65 11,aB 66 .add oR (bs [90]),J 11 66])) (bQ [J 63 12,aB 64 .add oP (ax 1),J 12 64])))))) (aO (ah [bq 13 (ax 0)] (.block 2 (.loop (aO (ah [J 67 13,aH 68 3 3,aK 69 68,cK 70 69,aB 71 .lss pB ng] (aZ 71 .skip (.exit 2))) (aO (.block 3 (ah [aH 74 3 3,aK 75 74,J 76 13,cE 77 7 r5 q3,aH 78 0 77,aK 79 78,J 80 11,aB 81 .eql wg s4] (aZ 81 (a7 [kB 6]) .skip))) (bQ [J 72 13,aB 73 .add r3 (ax 1),J 13 73])))))) (ah [b5 82 6 3,aE 14 (.alloc 26 [.str [],.str [],.str [],.bi,.bi,.bi]),c8 6 14 wh] (ah [aE 83 (.ma 92 7 0 [.str [],.int .i64 0,.int .i64 0,.int .i64 0,.int .i64 0,.int .i64 0,.str []] []),aH 84 3 3,aK 85 84,aE 86 (.mJ 92 7 72 uA x0),aH 87 3 14,c8 1 87 r6] (ah [aH 88 3 14,aK 89 88,J 90 9,J 91 11,aE 92 (.iJ 7 uD Ai),aE 93 (.js 0 x1),c8 1 93 uE] (ah [aH 94 4 14,c8 1 94 (.c .bi),aH 95 5 14,c8 1 95 (.c .bi)] (aO (ah [bq 15 (ax 0)] (.block 4 (.loop (aO (ah [J 96 15,aH 97 4 3,aK 98 97,cK 99 98,aB 100 .lss Aj Hs] (aZ 100 .skip (.exit 4))) (aO (.block 5 (ah [aH 103 4 3,aK 104 103,J 105 15,cE 106 4 Ac Ad,b5 107 4 106,aE 16 (.alloc 113 [.str [],.str [],.bi,.bi]),c8 4 16 S5] (aO (ah [bq 17 (ax 0)] (.block 6 (.loop (aO (ah [J 108 17,aH 109 2 16,aK 110 109,cK 111 110,aB 112 .lss Af Hf] (aZ 112 .skip (.exit 6))) (aO (.block 7 (ah [aH 115 2 16,aK 116 115,J 117 17,cE 118 1 Hh Hi,aK 119 118,J 120 11,aB 121 .eql Hk aQ8] (aZ 121 (a7 [kB 6]) .skip))) (bQ [J 113 17,aB 114 .add CS (ax 1),J 17 114])))))) (ah [aH 122 3 16,aK 123 122,J 124 10,J 125 11,bE 126 41 [S8,CU,S9],aH 127 3 16,c8 1 127 Ta] (bQ [aH 128 4 14,aK 129 128,b5 130 4 16,aE 131 (.et 113 4 1 [.str [],.str [],.bi,.bi] [(0,Hm)]),aE 132 (.append 113 4 80 CV Hn),aH 133 4 14,c8 1 133 Ho]))))) (bQ [J 101 15,aB 102 .add xX (ax 1),J 15 102])))))) (aO (ah [bq 18 (ax 0)] (.block 8 (.loop (aO (ah [J 134 18,aH 135 5 3,aK 136 135,cK 137 136,aB 138 .lss a79 Tc] (aZ 138 .skip (.exit 8))) (aO (.block 9 (ah [aH 141 5 3,aK 142 141,J 143 18,cE 144 4 Tg Th,b5 145 4 144,aE 19 (.alloc 116 [.str [],.str [],.bi,.bi]),c8 4 19 Tj] (ah [bq 20 (.c .bi),bq 21 (.c .bi)] (aO (ah [bq 22 (ax 0)] (.block 10 (.loop (aO (ah [J 146 22,aH 147 2 19,aK 148 147,cK 149 148,aB 150 .lss a81 a82] (aZ 150 .skip (.exit 10))) (aO (.block 11 (bQ [J 153 20,aH 154 2 19,aK 155 154,J 156 22,cE 157 6 a88 aR4,b5 158 6 157,J 159 10,J 160 11,bE 161 42 [aR5,aR6,aR7],aE 162 (.et 120 6 1 [.int .i64 0,.str [],.str [],.str [],.int .i64 0,.bi] [(0,a90)]),aE 163 (.append 120 6 88 a86 aR8),J 20 163])) (bQ [J 151 22,aB 152 .add a84 (ax 1),J 22 152])))))) (aO (ah [bq 23 (ax 0)] (.block 12 (.loop (aO (ah [J 164 23,aH 165 3 19,aK 166 165,cK 167 166,aB 168 .lss aR9 a96] (aZ 168 .skip (.exit 12))) (aO (.block 13 (bQ [J 171 21,aH 172 3 19,aK 173 172,J 174 23,cE 175 6 ba2 ba3,b5 176 6 175,J 177 10,J 178 11,bE 179 42 [bm8,bm9,bn0],aE 180 (.et 120 6 1 [.int .i64 0,.str [],.str [],.str [],.int .i64 0,.bi] [(0,bn1)]),aE 181 (.append 120 6 88 ba0 bn2),J 21 181])) (bQ [J 169 23,aB 170 .add a98 (ax 1),J 23 170])))))) (ah [J 182 20,J 183 21,aH 184 2 19,c8 1 184 bn3,aH 185 3 19,c8 1 185 bn4] (bQ [aH 186 5 14,aK 187 186,b5 188 4 19,aE 189 (.et 116 4 1 [.str [],.str [],.bi,.bi] [(0,bn6)]),aE 190 (.append 116 4 80 bn5 bn7),aH 191 5 14,c8 1 191 bn8]))))))) (bQ [J 139 18,aB 140 .add Te (ax 1),J 18 140])))))) (aO (.region [b5 193 6 14,fA 194 21 [bn9],b5 195 8 4,fA 196 31 [bo0,bo1],J 192 196,aE 197 (.extract 0 bi2),aE 198 (.extract 1 bi2),J 24 197,J 25 198] true) (a7 [J 199 25,aB 200 .eql bo2 (ax 0),J 6 200])))))))))))))))
def bf9:List bf:=[.t 6]
theorem bg6:bL Tryz.prog Tryz.f13 3 bf2 bf9=true:=by kernel_rfl
end Go.ba.T.N
namespace Go.ba
open Go
theorem bl5 {m:Mem}(bd:bW m){t aU qk size:Nat}{rows:List (List I)}{v:Value}(aL:m.H.tok t=some (.bC qk size aU rows)) (ad:aP m (.cV t aU) v):
    bW (m.gt m.w t (.slice none 0 0) (.bC qk size (aU+1) []))∧bV m (m.gt m.w t (.slice none 0 0) (.bC qk size (aU+1) []))∧aP (m.gt m.w t (.slice none 0 0) (.bC qk size (aU+1) [])) (.aq size rows) v:=by
  have g0:Grows0 m m.w t (.bC qk size aU rows) (.slice none 0 0) (.bC qk size (aU+1) []):=⟨rfl,rfl,rfl,Nat.le_refl _,fun _ _ _=>rfl,fun _ _ _ _=>rfl,fun k av=>by simp [Value.ew]at av,Nat.le_refl _,rfl,rfl,Nat.le_succ _,fun e=>by simp [bM.bC]at e⟩
  have ju:qj m m.w t (.bC qk size aU rows) (.slice none 0 0) (.bC qk size (aU+1) []):=⟨g0,[],⟨by simp [bM.bC,bM.len],.inl ⟨rfl,rfl⟩⟩,fun dT h=>by cases h; exact⟨by simp [aR],by simp,by simp⟩⟩
  have r:=bW.gt bd aL ju
  have e:=bV.gt bd aL g0
  refine⟨r,e,?_⟩
  obtain⟨ec,aW,ao,an⟩:=xz bd aL ad
  simp only[aP]
  rcases an with ⟨rfl,rfl⟩|⟨g,p,cap,cur,rfl,bo,U,aa,aD,bA,b6⟩
  ·exact⟨none,0,0,rfl,rfl,⟨Nat.le_refl _,by unfold maxLen; omega⟩,.inl rfl⟩
  ·obtain⟨br,bB,cu,eO⟩:=bd.tok t _ aL
   obtain⟨ci,cM⟩:=eO g (by rw[ec]; rfl)
   have cz:g<m.w.heap.size:=(Array.getElem?_eq_some_iff.1 bo).1
   refine⟨some ⟨g,p,none⟩,rows.length,cap,rfl,rfl,⟨U,aa⟩,.inr ⟨g,p,rfl,dK.of ao (aR.aI e _ _ bA) fun j v bm=>⟨?_,b6 v (List.mem_of_getElem? bm),⟨cz,ci,fun dv dh gB hi=> ?_⟩⟩⟩⟩
   ·show m.w.cell? _= _
    rw[cell_of_row m.w g (p+j) cur qk (0,0) bo]
    have:=bm
    rw[List.getElem?_take]at this
    split at this
    ·rw[List.getElem?_drop]at this
     simpa using this
    ·cases this
   ·simp only[Mem.gt,aA.ck]at gB hi
    by_cases eU:dv=t
    ·rw[if_pos eU]at hi
     simp [Value.ew]at hi
    ·rw[if_neg eU]at gB hi
     exact absurd (cM dv dh gB hi) eU
section
variable {P:Program}{aQ:List bf}{cL t0:Nat}{k:List fs}{Q:Out→aN→Prop}{env:Env}{c:aN}
theorem ar.bj5 (p o size t qk aU:Nat){T:TypeId}{cs:List I}{rows:List (List I)}(hb:c.H.aY p=some (T,cs)) (aj:cs[o]? =some (.cV t aU)) (aL:c.H.tok t=some (.bC qk size aU rows)) (aT:eY rows=true) (h:ar P aQ cL t0 k Q env ((c.ck t (.bC qk size (aU+1) [])).cp p T (cs.set o (.aq size rows)))):ar P aQ cL t0 k Q env c:=fun H0 ez s bb H R a1 bk7 ao he ac ag=>by
  obtain⟨x,cC,ci,cM,dE⟩:=ac.aY p T cs hb
  obtain⟨z,l,f1,f2,f3⟩:=ac.bC aL
  have f4:H.tok z=some (.bC qk size aU rows):=by
    have b1:=(qC _ aT _).1 f3
    rw[f2,b1]
  have mR:cC[o]? =some (.cV z aU):=by
    obtain⟨v,ap,ay⟩:=dE.get o _ aj
    simp only[aM]at ay
    obtain⟨y,b1,rfl⟩:=ay
    rw[f1]at b1
    cases b1
    exact ap
  refine cr.conv (fun ct aC=>ct=bb∧aC=(H.ck z (.bC qk size (aU+1) [])).cp x T (cC.set o (.aq size rows))) ?_ ?_
  ·intro m fL bd
   subst fL
   obtain⟨l,rN,mr,y8⟩:=bd.aY x T cC cM
   obtain⟨v,zg,sJ⟩:=mr.get o _ mR
   obtain⟨cm,ap,v1⟩:=bl5 bd f4 sJ
   have tT:=(aR.aI ap _ _ mr).set o v1
   rw[B5 zg]at tT
   have cA:=bW.iW cm (w':=m.w) (b:=x) (T:=T) cM rfl rfl rfl rfl (fun _ _=>rfl) rN tT y8
   have ay:=bV.iW cm (w':=m.w) (b:=x) (T:=T) (cs:=cC.set o (.aq size rows)) cM rfl rfl rfl rfl (fun _ _=>rfl)
   exact⟨bb,_,_,_,⟨rfl,rfl⟩,cA,ap.trans ay,fun j v ad=>aP.aI (ap.trans ay) _ _ ad⟩
  ·rintro ct aC ⟨rfl,rfl⟩
   refine h H0 ez s _ _ R a1 bk7 ao he ((ac.ck f1 (h8.bC (show cd s [] [] from rfl))).cp ci ?_) ag
   exact bk.SH dE o ((I.lA _ (by simp only[I.flat,aT]) _).2 rfl)
end
end Go.ba
