/- Part of a proof; own work. -/
import Derived.Test.YtlemhelnmidpfaaGreatDoorProg
import Derived.Test.YtlemhelnmidpfaaGreatDoorQS17
set_option linter.unusedVariables false
set_option linter.unusedSimpArgs false
namespace Go.aO.T.N
open Go Go.aO Go.Proofs
set_option maxRecDepth 1000000
def mw:bm:=
 ag [ap 2 (.box 26 eQ),ap 3 (.box 32 gR),bO 4] (aK (ag [bn 10 18 [],gV 11 10] (a1 11 (a6 [bO 4]) .skip)) (aK (ag [bD 12 6 2,bD 13 8 3,bn 14 19 [dP,ek],gV 15 14] (a1 15 (a6 [ir 4]) .skip)) (ag [bD 16 6 2,ap 5 (.alloc 26 [.str [],.str [],.str [],.aD,.aD,.aD]),cn 6 5 fV] (ag [ap 17 (.nV 92 7 0 [.str [],.int .i64 0,.int .i64 0,.int .i64 0,.int .i64 0,.int .i64 0,.str []] []),aE 18 3 2,aH 19 18,ap 20 (.append 92 7 72 fy eW),ap 21 (.build [.int .i64 0,.int .i64 0,.int .i64 0] [(0,1,an 1),(2,1,an 1)]),bn 22 24 [an 0],ap 23 (.build [.str [],.int .i64 0,.int .i64 0,.int .i64 0,.int .i64 0,.int .i64 0,.str []] [(0,1,bZ [122,122,122,122,122,122,122,122,122,122,122,122,122,122,122,122]),(1,3,fW),(4,3,gl)]),ap 24 (.da 92 7 1 [.str [],.int .i64 0,.int .i64 0,.int .i64 0,.int .i64 0,.int .i64 0,.str []] [(0,fI)]),ap 25 (.append 92 7 72 ga fu),aE 26 3 5,cn 1 26 gb] (aK (.region [bD 28 6 2,gD 29 21 [gY],bD 30 8 3,gD 31 20 [hW,jO],J 27 31,ap 32 (.extract 0 e6),ap 33 (.extract 1 e6),ap 6 (.alloc 40 [.str [],.int .i64 0,.aD,.aD,.aD,.aD]),cn 6 6 jc,J 7 33] true) (aK (.region [bD 35 6 5,gD 36 21 [jj],bD 37 8 3,gD 38 20 [gZ,iW],J 34 38,ap 39 (.extract 0 iJ),ap 40 (.extract 1 iJ),ap 8 (.alloc 40 [.str [],.int .i64 0,.aD,.aD,.aD,.aD]),cn 6 8 jk,J 9 40] true) (aK (ag [J 41 7,aF 42 .neq iw (an 0),J 43 42,dh 44 43 false 9,cv 45 43 false .neq jl (an 0),bN 46 jG dA ka] (a1 46 (a6 [ir 4]) .skip)) (aK (ag [aE 47 2 8,aH 48 47,cm 49 48,aE 50 2 6,aH 51 50,cm 52 51,aF 53 .add kX (an 1),aF 54 .neq mJ na] (a1 54 (a6 [bO 4]) .skip)) (ag [aE 55 2 8,aH 56 55,aE 57 2 6,aH 58 57,cm 59 58,ap 60 (.ii 7 mc none (some mK) none),aE 61 2 8,cn 1 61 nI] (a6 [bD 62 6 6,bD 63 6 8,bn 64 25 [pI,od],J 4 64]))))))))))
def sO:List bc:=[.t 4]
theorem ls:bR Tryz.prog Tryz.f6 2 mw sO=true:=by kernel_rfl
def sa:bm:=
 ag [bO 0] (ag [ap 7 (.da 9 1 2 [.str []] [(0,bZ [97]),(1,bZ [98])]),ap 8 (.build [.str [],.aD,.int .i64 0,.aD,.aD] [(0,1,bZ [109])]),ap 9 (.da 72 5 1 [.str [],.aD,.int .i64 0,.aD,.aD] [(0,dG)]),ap 10 (.build [.int .i64 0,.int .i64 0,.int .i64 0] [(0,1,an 0),(1,1,an 1)]),ap 11 (.build [.int .i64 0,.int .i64 0,.int .i64 0,.int .i64 0,.int .i64 0,.bool false] [(1,3,fU),(4,1,an 1)]),ap 12 (.da 76 6 1 [.int .i64 0,.int .i64 0,.int .i64 0,.int .i64 0,.int .i64 0,.bool false] [(0,dY)]),ap 13 (.build [.str [],.aD,.aD,.int .i64 0,.int .i64 0,.int .i64 0,.aD,.aD] [(0,1,bZ [80]),(1,1,dx),(2,1,eC),(3,1,an 2),(5,1,an 1),(6,1,dP)]),ap 1 (.alloc 32 [.str [],.aD,.aD,.int .i64 0,.int .i64 0,.int .i64 0,.aD,.aD]),cn 8 1 ek] (ag [ap 14 (.build [.int .i64 0,.int .i64 0,.int .i64 0] [(0,1,an 1),(2,1,an 9)]),bn 15 24 [an 0],ap 16 (.build [.str [],.int .i64 0,.int .i64 0,.int .i64 0,.int .i64 0,.int .i64 0,.str []] [(0,1,bZ [107]),(1,3,fx),(4,3,en)]),ap 17 (.da 146 7 1 [.str [],.int .i64 0,.int .i64 0,.int .i64 0,.int .i64 0,.int .i64 0,.str []] [(0,fV)]),ap 18 (.build [.str [],.str [],.str [],.aD,.aD,.aD] [(0,1,bZ [83]),(1,1,bZ [97]),(2,1,bZ [80]),(3,1,fy)]),ap 2 (.alloc 48 [.str [],.str [],.str [],.aD,.aD,.aD]),cn 6 2 fD] (ag [ap 19 (.build [.int .i64 0,.str [],.str [],.str [],.int .i64 0,.aD] [(0,1,an 1),(4,1,an 2)]),ap 20 (.build [.int .i64 0,.str [],.str [],.str [],.int .i64 0,.aD] [(0,1,an 3),(2,1,bZ [107])]),ap 21 (.da 80 6 2 [.int .i64 0,.str [],.str [],.str [],.int .i64 0,.aD] [(0,eW),(1,ga)]),ap 22 (.build [.int .i64 0,.str [],.str [],.str [],.int .i64 0,.aD] [(0,1,an 6),(1,1,bZ [62]),(5,1,fW)]),ap 23 (.da 80 6 1 [.int .i64 0,.str [],.str [],.str [],.int .i64 0,.aD] [(0,gl)]),ap 24 (.build [.str [],.str [],.aD,.aD] [(0,1,bZ [109]),(1,1,bZ [98]),(3,1,fI)]),ap 25 (.da 148 4 1 [.str [],.str [],.aD,.aD] [(0,fu)]),aE 26 5 2,cn 1 26 gb] (ag [bD 28 6 2,bD 29 8 1,bn 30 20 [gY,hW],J 27 30,ap 31 (.extract 0 e6),ap 32 (.extract 1 e6),ap 3 (.alloc 40 [.str [],.int .i64 0,.aD,.aD,.aD,.aD]),cn 6 3 hX,J 4 32] (ag [ap 33 (.build [.int .i64 0,.int .i64 0,.str []] [(0,1,an 3)]),ap 34 (.build [.int .i64 0,.int .i64 0,.str []] [(0,1,an 1),(1,1,an 2)]),ap 35 (.build [.int .i64 0,.int .i64 0,.str []] [(0,1,an 13)]),ap 36 (.build [.int .i64 0,.int .i64 0,.str []] [(0,1,an 24)]),ap 37 (.build [.int .i64 0,.int .i64 0,.str []] [(0,1,an 24)]),ap 38 (.da 64 3 5 [.int .i64 0,.int .i64 0,.str []] [(0,gK),(1,iJ),(2,jj),(3,gZ),(4,iW)]),J 5 38] (aK (ag [J 39 4,aF 40 .neq jk (an 0),J 41 40,bG 42 41 false 5 3,bP 43 41 false 42,bS 44 41 false (.len jG),dh 45 41 false 5,bS 46 41 false (.len ka),cv 47 41 false .neq jl kF,bN 48 iw dA ma,J 49 48,bG 50 49 false 4 3,bP 51 49 false 50,bS 52 49 false (.len kG),cv 53 49 false .neq kX (an 1),bN 54 mJ dA na,J 55 54,bG 56 55 false 4 3,bP 57 55 false 56,bS 58 55 false (.gy 4 lM (an 0)),bS 59 55 false (.load true 4 kH),bS 60 55 false (.build [.int .i64 0,.int .i64 0,.int .i64 0,.int .i64 0] [(0,1,an 1),(1,1,an 0),(2,1,an 0),(3,1,an 4)]),bS 61 55 false (.j1 true 62 [.i .i64,.i .i64,.i .i64,.i .i64] mK nI),bN 62 lg dA lh] (a1 62 (a6 [bO 0]) .skip)) (aK (ag [bq 6 (an 0)] (.block 0 (.loop (aK (ag [J 63 6,J 64 5,cm 65 64,aF 66 .lss od pJ] (a1 66 .skip (.exit 0))) (aK (.block 1 (aK (.region [aE 69 5 3,aH 70 69,J 71 6,ct 72 3 nL nM,bD 73 3 72,J 74 5,J 75 6,ct 76 3 pM qo,bD 77 3 76,ap 78 (.j1 true 64 [.i .i64,.i .i64,.s] pL pN)] true) (a1 78 (a6 [bO 0]) .skip))) (bV [J 67 6,aF 68 .add nK (an 1),J 6 68])))))) (a6 [ir 0]))))))))
def sL:List bc:=[.t 0]
theorem xx:bR Tryz.prog Tryz.f18 0 sa sL=true:=by kernel_rfl
def wh:bm:=
 ag [ap 2 (.box 26 eQ),ap 3 (.box 32 gR),bO 4] (a6 [bD 5 6 2,bn 6 44 [dU],J 7 6,bS 8 7 true (.load true 8 e7),fe 9 7 true 45 [dG],bN 10 dx eC cP,J 4 10])
def wZ:List bc:=[.t 4]
theorem AN:bR Tryz.prog Tryz.f19 2 wh wZ=true:=by kernel_rfl
def kO:bm:=
 ag [ap 2 (.alloc 89 [.int .i64 0,.int .i64 0,.str []])] (a6 [J 3 0,ap 4 (.build [.int .i64 0,.int .i64 0,.str []] [(0,1,an 1),(1,1,e7)]),cn 3 2 iv])
def sM:List bc:=[.cell true 3 2]
theorem xy:bR Tryz.prog Tryz.f24 1 kO sM=true:=by kernel_rfl
def A3:bm:=
 ag [ap 2 (.box 40 eQ),ap 3 (.box 40 gR),bO 4] (a6 [aE 5 0 2,aH 6 5,aE 7 0 3,aH 8 7,aF 9 .eql ey dG,J 10 9,bG 11 10 true 1 2,bP 12 10 true 11,bG 13 10 true 1 3,bP 14 10 true 13,cv 15 10 true .eql dP fx,bN 16 fU en cP,J 17 16,bG 18 17 true 2 2,bP 19 17 true 18,bG 20 17 true 2 3,bP 21 17 true 20,fe 22 17 true 67 [eW,fW],bN 23 fy gl cP,J 24 23,bG 25 24 true 3 2,bP 26 24 true 25,bG 27 24 true 3 3,bP 28 24 true 27,fe 29 24 true 68 [gX,gY],bN 30 fu hW cP,J 31 30,bG 32 31 true 4 2,bP 33 31 true 32,bG 34 31 true 4 3,bP 35 31 true 34,fe 36 31 true 69 [gK,jj],bN 37 hX gZ cP,J 38 37,bG 39 38 true 5 2,bP 40 38 true 39,bG 41 38 true 5 3,bP 42 38 true 41,fe 43 38 true 70 [jP,lf],bN 44 j9 jG cP,J 4 44])
def Tp:List bc:=[.t 4]
theorem XX:bR Tryz.prog Tryz.f25 2 A3 Tp=true:=by kernel_rfl
def se:bm:=
 ag [ap 1 (.box 32 eQ),bO 2] (a6 [aE 3 3 1,aH 4 3,aF 5 .leq iv (an 40),J 6 5,bG 7 6 true 6 1,bP 8 6 true 7,bS 9 6 true (.len dG),cv 10 6 true .leq eC (an 80),bN 11 ey fU cP,J 12 11,bG 13 12 true 7 1,bP 14 12 true 13,bS 15 12 true (.len fx),cv 16 12 true .leq en (an 40),bN 17 dP fV cP,J 18 17,bG 19 18 true 1 1,bP 20 18 true 19,bS 21 18 true (.len ga),cv 22 18 true .leq fW (an 10),bN 23 fD gl cP,J 24 23,bG 25 24 true 2 1,bP 26 24 true 25,fe 27 24 true 120 [gX],bN 28 fu e6 cP,J 2 28])
def sN:List bc:=[.t 2]
theorem xz:bR Tryz.prog Tryz.f45 1 se sN=true:=by kernel_rfl
def Of:bm:=
 ag [bO 4] (aK (ag [J 6 0,cm 7 6,J 8 1,cm 9 8,aF 10 .neq dx eC] (a1 10 (a6 [bO 4]) .skip)) (aK (ag [J 11 0,cm 12 11,bq 13 (an 0)] (.block 0 (.loop (ag [aF 14 .lss ek dP] (aK (a1 14 .skip (.exit 0)) (aK (.block 1 (ag [J 15 13,J 5 15] (aK (.region [J 16 0,J 17 5,ct 18 7 fV fy,bD 19 7 18,J 20 1,J 21 5,ct 22 7 ga fW,bD 23 7 22,ap 24 (.j1 true 152 [.s,.i .i64,.i .i64,.i .i64,.i .i64,.i .i64,.s] eW fI)] true) (a1 24 (a6 [bO 4]) .skip)))) (bV [aF 25 .add ek (an 1),J 13 25]))))))) (a6 [ir 4])))
def Ur:List bc:=[.t 4]
theorem YX:bR Tryz.prog Tryz.f67 2 Of Ur=true:=by kernel_rfl
def Og:bm:=
 ag [bO 4] (aK (ag [J 6 0,cm 7 6,J 8 1,cm 9 8,aF 10 .neq dx eC] (a1 10 (a6 [bO 4]) .skip)) (aK (ag [J 11 0,cm 12 11,bq 13 (an 0)] (.block 0 (.loop (ag [aF 14 .lss ek dP] (aK (a1 14 .skip (.exit 0)) (aK (.block 1 (ag [J 15 13,J 5 15] (aK (.region [J 16 0,J 17 5,ct 18 3 fV fy,bD 19 3 18,J 20 1,J 21 5,ct 22 3 ga fW,bD 23 3 22,ap 24 (.j1 true 58 [.i .i64,.i .i64,.i .i64] eW fI)] true) (a1 24 (a6 [bO 4]) .skip)))) (bV [aF 25 .add ek (an 1),J 13 25]))))))) (a6 [ir 4])))
def Us:List bc:=[.t 4]
theorem YY:bR Tryz.prog Tryz.f68 2 Og Us=true:=by kernel_rfl
def Oh:bm:=
 ag [bO 4] (aK (ag [J 6 0,cm 7 6,J 8 1,cm 9 8,aF 10 .neq dx eC] (a1 10 (a6 [bO 4]) .skip)) (aK (ag [J 11 0,cm 12 11,bq 13 (an 0)] (.block 0 (.loop (ag [aF 14 .lss ek dP] (aK (a1 14 .skip (.exit 0)) (aK (.block 1 (ag [J 15 13,J 5 15] (aK (.region [J 16 0,J 17 5,ct 18 4 fV fy,bD 19 4 18,J 20 1,J 21 5,ct 22 4 ga fW,bD 23 4 22,ap 24 (.j1 true 62 [.i .i64,.i .i64,.i .i64,.i .i64] eW fI)] true) (a1 24 (a6 [bO 4]) .skip)))) (bV [aF 25 .add ek (an 1),J 13 25]))))))) (a6 [ir 4])))
def Ut:List bc:=[.t 4]
theorem YZ:bR Tryz.prog Tryz.f69 2 Oh Ut=true:=by kernel_rfl
def Oi:bm:=
 ag [bO 4] (aK (ag [J 6 0,cm 7 6,J 8 1,cm 9 8,aF 10 .neq dx eC] (a1 10 (a6 [bO 4]) .skip)) (aK (ag [J 11 0,cm 12 11,bq 13 (an 0)] (.block 0 (.loop (ag [aF 14 .lss ek dP] (aK (a1 14 .skip (.exit 0)) (aK (.block 1 (ag [J 15 13,J 5 15] (aK (.region [J 16 0,J 17 5,ct 18 3 fV fy,bD 19 3 18,J 20 1,J 21 5,ct 22 3 ga fW,bD 23 3 22,ap 24 (.j1 true 64 [.i .i64,.i .i64,.s] eW fI)] true) (a1 24 (a6 [bO 4]) .skip)))) (bV [aF 25 .add ek (an 1),J 13 25]))))))) (a6 [ir 4])))
def Uu:List bc:=[.t 4]
theorem Y0:bR Tryz.prog Tryz.f70 2 Oi Uu=true:=by kernel_rfl
def r9:bm:=
 ag [bO 2] (ag [bq 3 (an 0)] (aK (ag [bq 4 (an 0)] (.block 0 (.loop (aK (ag [J 5 4,J 6 0,cm 7 6,aF 8 .lss dU dx] (a1 8 .skip (.exit 0))) (aK (.block 1 (.region [J 11 3,J 12 0,J 13 4,ct 14 5 dP ek,aE 15 1 14,aH 16 15,cm 17 16,J 18 0,J 19 4,ct 20 5 fD eW,aE 21 3 20,aE 22 0 21,aH 23 22,cm 24 23,aF 25 .add fy fu,J 26 0,J 27 4,ct 28 5 gX e6,aE 29 3 28,aE 30 1 29,aH 31 30,cm 32 31,aF 33 .add gb jc,aF 34 .add dY gK,J 3 34] true)) (bV [J 9 4,aF 10 .add eC (an 1),J 4 10])))))) (a6 [J 35 0,cm 36 35,aF 37 .leq gZ (an 60),J 38 37,dh 39 38 true 3,cv 40 38 true .leq jk (an 100),bN 41 j9 jP cP,J 2 41])))
def sK:List bc:=[.t 2]
theorem xw:bR Tryz.prog Tryz.f120 1 r9 sK=true:=by kernel_rfl
end Go.aO.T.N
