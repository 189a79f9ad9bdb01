/- Part of a proof; own work. -/
import Derived.Test.YtlemhelnmidpfaaGreatDoorProg
import Derived.Test.YtlemhelnmidpfaaGreatDoorVS16
set_option linter.unusedVariables false
set_option linter.unusedSimpArgs false
open List renaming length_map→aT1,length_drop→bd3,length_cons→aT3,length_take→aX3,length_append→aT2,length_nil→aU1
open Nat renaming le_refl→aT4,reduceBEq→bd1,le_of_ble_eq_true→aZ3,reduceAdd→bd2
open Go.Proofs.Tryz renaming prog→aS9
namespace Go.aX.T.N
open Go Go.aX Go.Proofs
set_option maxRecDepth 1000000
def JD:bu:=
 ar [aG 2 (.box 26 eY),aG 3 (.box 32 iI),cq 4] (bo [cg 5 6 2,bR 6 44 [en],aa 7 6,cx 8 7 true (.load true 8 ft),eW 9 7 true 45 [dH],bX 10 dS fu db,aa 4 10])
def Pg:List bj:=[.t 4]
theorem Tz:b4 aS9 Tryz.f30 2 JD Pg=true:=by kernel_rfl
def J7:bu:=
 ar [aG 1 (.box 32 eY),cq 2] (bo [aP 3 3 1,aR 4 3,aT 5 .leq iL (aB 40),aa 6 5,bO 7 6 true 6 1,bW 8 6 true 7,cx 9 6 true (.len dH),cO 10 6 true .leq fu (aB 80),bX 11 eo gW db,aa 12 11,bO 13 12 true 7 1,bW 14 12 true 13,cx 15 12 true (.len fP),cO 16 12 true .leq ew (aB 40),bX 17 eK hP db,aa 18 17,bO 19 18 true 1 1,bW 20 18 true 19,cx 21 18 true (.len ie),cO 22 18 true .leq iJ (aB 10),bX 23 gX hY db,aa 24 23,bO 25 24 true 2 1,bW 26 24 true 25,eW 27 24 true 120 [jn],bX 28 gY gN db,aa 2 28])
def PN:List bj:=[.t 2]
theorem T8:b4 aS9 Tryz.f45 1 J7 PN=true:=by kernel_rfl
def IH:bu:=
 ar [cq 2] (ar [bE 3 (aB 0)] (a6 (ar [bE 4 (aB 0)] (.block 0 (.loop (a6 (ar [aa 5 4,aa 6 0,c4 7 6,aT 8 .lss en dS] (bt 8 .skip (.exit 0))) (a6 (.block 1 (.region [aa 11 3,aa 12 0,aa 13 4,cX 14 5 eK eZ,aP 15 1 14,aR 16 15,c4 17 16,aa 18 0,aa 19 4,cX 20 5 gX gl,aP 21 3 20,aP 22 0 21,aR 23 22,c4 24 23,aT 25 .add gM gY,aa 26 0,aa 27 4,cX 28 5 jn gN,aP 29 3 28,aP 30 1 29,aR 31 30,c4 32 31,aT 33 .add hZ ke,aT 34 .add dR kf,aa 3 34] true)) (cr [aa 9 4,aT 10 .add fu (aB 1),aa 4 10])))))) (bo [aa 35 0,c4 36 35,aT 37 .leq js (aB 60),aa 38 37,dX 39 38 true 3,cO 40 38 true .leq nb (aB 100),bX 41 mq mr db,aa 2 41])))
def Of:List bj:=[.t 2]
theorem SA:b4 aS9 Tryz.f120 1 IH Of=true:=by kernel_rfl
def Jy:bu:=
 ar [cq 0] (ar [aG 10 (.eu 9 1 2 [.str []] [(0,cH [97]),(1,cH [98])]),aG 11 (.build [.int .i64 0,.int .i64 0,.int .i64 0] [(0,1,aB 1),(2,1,aB 9)]),aG 12 (.build [.str [],.int .i64 0,.int .i64 0,.int .i64 0] [(0,1,cH [120]),(1,3,dR)]),aG 13 (.eu 131 4 1 [.str [],.int .i64 0,.int .i64 0,.int .i64 0] [(0,eK)]),aG 14 (.build [.str [],.bn,.int .i64 0,.bn,.bn] [(0,1,cH [109]),(1,1,eZ)]),aG 15 (.eu 72 5 1 [.str [],.bn,.int .i64 0,.bn,.bn] [(0,fP)]),aG 16 (.build [.int .i64 0,.int .i64 0,.int .i64 0] [(0,1,aB 0),(1,1,aB 1)]),aG 17 (.build [.int .i64 0,.int .i64 0,.int .i64 0,.int .i64 0,.int .i64 0,.bool false] [(1,3,hP),(4,1,aB 1)]),aG 18 (.eu 76 6 1 [.int .i64 0,.int .i64 0,.int .i64 0,.int .i64 0,.int .i64 0,.bool false] [(0,gM)]),aG 19 (.build [.str [],.bn,.bn,.int .i64 0,.int .i64 0,.int .i64 0,.bn,.bn] [(0,1,cH [80]),(1,1,gW),(2,1,ew),(3,1,aB 2),(5,1,aB 1),(6,1,gX)]),aG 1 (.alloc 32 [.str [],.bn,.bn,.int .i64 0,.int .i64 0,.int .i64 0,.bn,.bn]),dm 8 1 gl] (ar [aG 20 (.eu 9 1 1 [.str []] [(0,cH [120])]),aG 21 (.build [.int .i64 0,.str [],.str [],.str [],.int .i64 0,.bn] [(0,1,aB 1),(4,1,aB 1)]),aG 22 (.build [.int .i64 0,.str [],.int .i64 0,.str [],.str [],.str [],.int .i64 0,.bn,.int .i64 0,.bn,.bn] [(0,1,aB 1),(1,1,cH [120]),(2,6,iJ)]),aG 23 (.eu 178 11 1 [.int .i64 0,.str [],.int .i64 0,.str [],.str [],.str [],.int .i64 0,.bn,.int .i64 0,.bn,.bn] [(0,hY)]),aG 24 (.build [.str [],.str [],.bn,.bn] [(0,1,cH [109]),(1,1,cH [97]),(2,1,ie),(3,1,gG)]),aG 25 (.eu 113 4 1 [.str [],.str [],.bn,.bn] [(0,gY)]),aG 26 (.build [.str [],.str [],.str [],.bn,.bn,.bn] [(0,1,cH [83]),(1,1,cH [98]),(2,1,cH [80]),(4,1,hZ)]),bR 27 21 [jn],aG 2 (.alloc 48 [.str [],.str [],.str [],.bn,.bn,.bn]),dm 6 2 gN] (ar [cg 29 6 2,cg 30 8 1,bR 31 31 [kc,kd],aa 28 31,aG 32 (.extract 0 iK),aG 33 (.extract 1 iK),aa 3 32,aa 4 33] (ar [aP 34 4 2,dm 1 34 (.c .bn)] (ar [cg 36 6 2,cg 37 8 1,bR 38 31 [js,lV],aa 35 38,aG 39 (.extract 0 na),aG 40 (.extract 1 na),aa 5 39,aa 6 40] (ar [cg 41 6 2,cg 42 8 1,bR 43 36 [ms,nP],aa 7 43] (ar [cg 45 6 2,cg 46 8 1,bR 47 33 [nc,mv],aa 44 47,aG 48 (.extract 0 k8),aG 49 (.extract 1 k8),aa 8 48,aa 9 49] (bo [aa 50 3,aT 51 .eql jQ (cH [120]),aa 52 51,dX 53 52 true 4,cO 54 52 true .eql rS (aB 11),bX 55 nd mw db,aa 56 55,dX 57 56 true 6,cO 58 56 true .eql pP (aB 0),bX 59 ly mx db,aa 60 59,dX 61 60 true 7,cx 62 60 true (.build [.int .i64 0,.int .i64 0,.int .i64 0] [(0,1,aB 0),(1,1,aB 1)]),cx 63 60 true (.eu 74 3 1 [.int .i64 0,.int .i64 0,.int .i64 0] [(0,rU)]),eW 64 60 true 35 [o5,qN],bX 65 rT qO db,aa 66 65,dX 67 66 true 8,cO 68 66 true .eql qP (aB 1),bX 69 o6 vG db,aa 70 69,dX 71 70 true 9,bX 72 qQ qR db,aa 0 72]))))))))
def Pb:List bj:=[.t 0]
theorem Tu:b4 aS9 Tryz.f29 0 Jy Pb=true:=by kernel_rfl
def wo:bu:=
 ar [cq 4] (a6 (ar [aa 6 0,c4 7 6,aa 8 1,c4 9 8,aT 10 .neq dS fu] (bt 10 (bo [cq 4]) .skip)) (a6 (ar [bE 5 (aB 0)] (.block 0 (.loop (a6 (ar [aa 11 5,aa 12 0,c4 13 12,aT 14 .lss dR eZ] (bt 14 .skip (.exit 0))) (a6 (.block 1 (a6 (.region [aa 17 0,aa 18 5,cX 19 3 gM gX,cg 20 3 19,aa 21 1,aa 22 5,cX 23 3 iJ hY,cg 24 3 23,aG 25 (.ny true 74 [.i .i64,.i .i64,.i .i64] ie gY)] true) (bt 25 (bo [cq 4]) .skip))) (cr [aa 15 5,aT 16 .add ew (aB 1),aa 5 16])))))) (bo [ol 4])))
def Pz:List bj:=[.t 4]
theorem TR:b4 aS9 Tryz.f35 2 wo Pz=true:=by kernel_rfl
def Dp:bu:=
 ar [aG 3 (.box 84 eY),cq 4] (a6 (.region [aP 5 0 3,aR 6 5,aP 7 2 1,aR 8 7,aP 9 2 2,aR 10 9,cX 11 5 dH gW,aP 12 0 11,aR 13 12,aT 14 .eql eo eZ,aa 15 14,bO 16 15 true 1 3,bW 17 15 true 16,bO 18 15 true 1 1,bW 19 15 true 18,bO 20 15 true 0 2,bW 21 15 true 20,cx 22 15 true (.gS 1 gl iJ),bW 23 15 true 22,cO 24 15 true .eql gM gG,bX 25 ew gY db,aa 4 25] true) .ret)
def Fq:List bj:=[.t 4]
theorem Hy:b4 aS9 Tryz.f94 1 Dp Fq=true:=by kernel_rfl
def x7:bu:=
 ar [aG 3 (.box 74 iI),cq 4] (bo [aa 5 0,cg 6 3 3,bR 7 182 [en,eo],aT 8 .geq dS (aB 0),aa 4 8])
def PV:List bj:=[.t 4]
theorem Uh:b4 aS9 Tryz.f95 2 x7 PV=true:=by kernel_rfl
def J2:bu:=
 ar [aG 2 (.box 26 eY),cq 4] (a6 (ar [bE 5 (aB 0)] (.block 0 (.loop (a6 (ar [aa 8 5,aP 9 3 2,aR 10 9,c4 11 10,aT 12 .lss dH dR] (bt 12 .skip (.exit 0))) (a6 (.block 1 (ar [aP 15 3 2,aR 16 15,aa 17 5,cX 18 7 hP gM,aP 19 0 18,aR 20 19,aa 21 1,aT 22 .eql ie iJ] (bt 22 (bo [ol 4]) .skip))) (cr [aa 13 5,aT 14 .add eZ (aB 1),aa 5 14])))))) (a6 (ar [bE 6 (aB 0)] (.block 2 (.loop (a6 (ar [aa 23 6,aP 24 4 2,aR 25 24,c4 26 25,aT 27 .lss gG jn] (bt 27 .skip (.exit 2))) (a6 (.block 3 (ar [bE 7 (aB 0)] (.block 4 (.loop (a6 (ar [aa 30 7,aP 31 4 2,aR 32 31,aa 33 6,cX 34 4 ke kf,aP 35 2 34,aR 36 35,c4 37 36,aT 38 .lss kd lV] (bt 38 .skip (.exit 4))) (a6 (.block 5 (ar [aP 41 4 2,aR 42 41,aa 43 6,cX 44 4 nP mu,aP 45 2 44,aR 46 45,aa 47 7,cX 48 1 mv rQ,aR 49 48,aa 50 1,aT 51 .eql pO jQ] (bt 51 (bo [ol 4]) .skip))) (cr [aa 39 7,aT 40 .add nb (aB 1),aa 7 40]))))))) (cr [aa 28 6,aT 29 .add iK (aB 1),aa 6 29])))))) (bo [cq 4])))
def PJ:List bj:=[.t 4]
theorem T3:b4 aS9 Tryz.f38 2 J2 PJ=true:=by kernel_rfl
def JV:bu:=
 ar [aG 2 (.box 48 eY),aG 3 (.box 32 iI),bE 4 (.c .bn)] (a6 (ar [cg 15 6 2,cg 16 8 3,bR 17 31 [ew,hP],aa 14 17,aG 18 (.extract 0 fP),aG 19 (.extract 1 fP),aa 5 18,aa 6 19] (ar [aa 20 6,aT 21 .neq ie (aB 0)] (bt 21 (bo [bE 4 (.c .bn)]) .skip))) (ar [cg 23 6 2,cg 24 8 3,bR 25 33 [gG,gY],aa 22 25,aG 26 (.extract 0 hY),aG 27 (.extract 1 hY),aa 7 26,aa 8 27] (ar [bE 9 (.c .bn)] (a6 (ar [aP 28 6 3,aR 29 28,c4 30 29,bE 31 (aB 0)] (.block 0 (.loop (ar [aT 32 .lss iX kd] (a6 (bt 32 .skip (.exit 0)) (a6 (.block 1 (ar [cX 33 6 kc iX,cg 34 6 33,aG 11 (.alloc 76 [.int .i64 0,.int .i64 0,.int .i64 0,.int .i64 0,.int .i64 0,.bool false]),dm 6 11 jP] (ar [aP 35 1 11,cg 36 3 35,aG 12 (.alloc 74 [.int .i64 0,.int .i64 0,.int .i64 0]),dm 3 12 js] (ar [aG 37 (.iS 94 [ft,eK]),aa 13 37] (ar [aP 38 1 12,aR 39 38,aa 40 7,aT 41 .eql nb mr,aa 42 41,dX 43 42 true 9,cx 44 42 true (.load true 3 eK),eW 45 42 true 95 [mu,k8],cx 46 42 true (.not nc),bX 47 nP mv db,aa 48 47,bO 49 48 true 4 2,bW 50 48 true 49,dX 51 48 true 13,eW 52 48 true 96 [jQ,lW],cx 53 48 true (.not nd),bX 54 rR rS db] (bt 54 (cr [aa 55 9,cg 56 3 12,aG 57 (.eu 74 3 1 [.int .i64 0,.int .i64 0,.int .i64 0] [(0,ly)]),aG 58 (.lD 74 3 24 ou pP),aa 9 58]) .skip)))))) (cr [aT 59 .add iX (aB 1),aa 31 59]))))))) (ar [aa 60 9,bR 61 97 [rT,.c (.fn 98 [])]] (bo [aa 62 9,aa 4 62]))))))
def PC:List bj:=[.t 4]
theorem TU:b4 aS9 Tryz.f36 2 JV PC=true:=by kernel_rfl
def IZ:bu:=
 ar [aG 3 (.box 74 iI),bE 4 (aB 0)] (a6 (ar [aa 6 0,aG 7 (.hV eo),bE 8 (aB 0)] (.block 0 (.loop (ar [aT 9 .lss dH dS] (a6 (bt 9 .skip (.exit 0)) (a6 (.block 1 (ar [aa 10 8,aa 5 10] (a6 (.region [cg 11 3 3,aa 12 0,aa 13 5,aG 14 (.hE 3 eK eZ),aG 15 (.ib true 3 fP),aG 16 (.ny false 74 [.i .i64,.i .i64,.i .i64] dR ew)] true) (bt 16 (bo [aa 17 5,aa 4 17]) .skip)))) (cr [aT 18 .add dH (aB 1),aa 8 18]))))))) (bo [bE 4 (aB (-1))]))
def OA:List bj:=[.t 4]
theorem SR:b4 aS9 Tryz.f182 2 IZ OA=true:=by kernel_rfl
def Da:bu:=
 ar [aG 2 (.box 26 eY),aG 3 (.box 32 iI),cq 4] (a6 (ar [bR 15 29 [],gD 16 15] (bt 16 (bo [cq 4]) .skip)) (a6 (ar [cg 17 6 2,cg 18 8 3,bR 19 30 [gM,gX],gD 20 19] (bt 20 (bo [ol 4]) .skip)) (ar [cg 21 6 2,bR 22 21 [iJ],aG 5 (.alloc 48 [.str [],.str [],.str [],.bn,.bn,.bn]),dm 6 5 hY] (a6 (ar [cg 24 6 5,cg 25 8 3,bR 26 31 [gY,hZ],aa 23 26,aG 27 (.extract 0 gG),aG 28 (.extract 1 gG),aa 6 27,aa 7 28] (ar [aa 29 7,aT 30 .neq kc (aB 0)] (bt 30 (bo [cg 31 6 5,cg 32 8 3,bR 33 36 [iX,ke],c4 34 33,aT 35 .eql jP (aB 0),aa 4 35]) .skip))) (ar [cg 36 6 5,cg 37 8 3,bR 38 36 [js,lV],aa 8 38] (a6 (ar [bE 9 (aB 0)] (.block 0 (.loop (a6 (ar [aa 39 9,aa 40 8,c4 41 40,aT 42 .lss nb ms] (bt 42 .skip (.exit 0))) (a6 (.block 1 (a6 (a6 (.region [aa 45 8,aa 46 9,cX 47 3 nc mv,aP 48 2 47,aR 49 48,aT 50 .lss pO (aB 0),aa 51 50,dX 52 51 false 8,dX 53 51 false 9,cx 54 51 false (.gS 3 nd rS),bO 55 51 false 2 54,bW 56 51 false 55,bO 57 51 false 2 3,bW 58 51 false 57,cx 59 51 false (.len mx),cO 60 51 false .geq ly qM,bX 61 lW dG rT,aa 62 61,dX 63 62 false 8,dX 64 62 false 9,cx 65 62 false (.gS 3 qN qO),bO 66 62 false 0 65,bW 67 62 false 66,cO 68 62 false .lss qP (aB 0),bX 69 rU dG vG,aa 70 69,dX 71 70 false 8,dX 72 70 false 9,cx 73 70 false (.gS 3 qR vH),bO 74 70 false 0 73,bW 75 70 false 74,bO 76 70 false 1 3,bW 77 70 false 76,cx 78 70 false (.len vJ),cO 79 70 false .geq xq FX,bX 80 qQ dG BY] true) (bt 80 (bo [cq 4]) .skip)) (a6 (.region [aP 81 2 3,aR 82 81,aa 83 8,aa 84 9,cX 85 3 xr xt,aP 86 2 85,aR 87 86,cX 88 5 BZ QN,cg 89 5 88,aG 10 (.alloc 72 [.str [],.bn,.int .i64 0,.bn,.bn]),dm 5 10 B0] true) (a6 (.region [aP 90 0 10,aR 91 90,aP 92 1 3,aR 93 92,aa 94 8,aa 95 9,cX 96 3 F1 F2,aP 97 0 96,aR 98 97,cX 99 1 B1 QQ,aR 100 99,aG 101 (.build [.str [],.str [],.bn,.bn] [(0,1,FZ),(1,1,QE)]),aG 11 (.alloc 84 [.str [],.str [],.bn,.bn]),dm 4 11 QF] true) (a6 (ar [bE 12 (aB 0)] (.block 2 (.loop (a6 (ar [aa 102 12,aP 103 1 10,aR 104 103,c4 105 104,aT 106 .lss FW QG] (bt 106 .skip (.exit 2))) (a6 (.block 3 (.region [aP 109 2 11,aR 110 109,aG 111 (.eu 9 1 4 [.str []] [(0,cH [112,48,112]),(1,cH [112,49,112]),(2,cH [112,50,112]),(3,cH [112,51,112])]),aa 112 12,aT 113 .rem QH (aB 4),cX 114 1 az4 QI,aR 115 114,aG 116 (.eu 9 1 1 [.str []] [(0,QJ)]),aG 117 (.append 9 1 16 az3 az5),aP 118 2 11,dm 1 118 QK] true)) (cr [aa 107 12,aT 108 .add az1 (aB 1),aa 12 108])))))) (cr [aP 119 4 5,aR 120 119,cg 121 4 11,aG 122 (.eu 84 4 1 [.str [],.str [],.bn,.bn] [(0,az7)]),aG 123 (.append 84 4 80 az6 az8),aP 124 4 5,dm 1 124 az9])))))) (cr [aa 43 9,aT 44 .add mu (aB 1),aa 9 44])))))) (a6 (ar [cg 125 6 5,bR 126 40 [aA0],gD 127 126,aa 128 127,cx 129 128 false (.load true 6 zy),eW 130 128 false 38 [aA2,cH [112,48,112]],bX 131 aA1 dG aA3,aa 132 131,cx 133 132 false (.load true 6 zy),eW 134 132 false 38 [aA5,cH [112,49,112]],bX 135 aA4 dG aA6,aa 136 135,cx 137 136 false (.load true 6 zy),eW 138 136 false 38 [aA8,cH [112,50,112]],bX 139 aA7 dG aA9,aa 140 139,cx 141 140 false (.load true 6 zy),eW 142 140 false 38 [aB1,cH [112,51,112]],bX 143 aB0 dG aB2] (bt 143 (bo [ol 4]) .skip)) (ar [cg 145 6 5,cg 146 8 3,bR 147 31 [aB3,aB4],aa 144 147,aG 148 (.extract 0 QL),aG 149 (.extract 1 QL),aa 13 148,aa 14 149] (bo [aa 150 14,aT 151 .eql aB5 (aB 0),aa 152 151,cx 153 152 true (.load true 6 en),cx 154 152 true (.load true 8 ft),eW 155 152 true 36 [aB7,aB8],cx 156 152 true (.len aB9),cO 157 152 true .eql aC0 (aB 0),bX 158 aB6 aC1 db,aa 4 158])))))))))
def Fc:List bj:=[.t 4]
theorem Ag:b4 aS9 Tryz.f12 2 Da Fc=true:=by kernel_rfl
end Go.aX.T.N
namespace Go.aX
open Go
section
variable {P:Program}{aN:List bj}{cF t0:Nat}{k:List e7}{Q:Out→aJ→Prop}{env:Env}{c:aJ}
theorem ay.Wl (j size T:Nat) (bq:env.get j= .bn) (aW:size≠0) (h:ay P aN cF t0 k Q ((j,.cz c.bf 0)::env) (c.fw (.bc T size 0 []))):ay P aN cF t0 k Q env c:=fun H0 dN s a7 H R bb aF an he ab ac=>by
  refine ci.conv (fun cd av=> ∃t,H.tok t=none∧cd=(j,.cz t 0)::a7∧av=H.b7 t (.bc T size 0 [])) ?_ ?_
  ·intro m hH aZ
   subst hH
   obtain⟨cb,aj,v1⟩:=Mz aZ (T:=T) aW
   refine⟨_,_,_,_,⟨m.T,qL aZ,rfl,rfl⟩,cb,aj,fun i w hw=> ?_⟩
   simp only[Env.get]
   cases ae:j==i with
   |true=>
    have:j=i:=by simpa using ae
    subst this
    have bm:=he j
    rw[bq]at bm
    simp only[aI]at bm
    rw[bm]at hw
    simp only[aK]at hw
    subst hw
    exact v1
   |false=>exact aK.aC aj _ _ hw
  ·rintro cd av ⟨t,h1,rfl,rfl⟩
   refine h H0 dN ⟨s.b,s.t++[t]⟩ _ _ R bb aF (an.trans (bl.jJ s t)) ?_ (ab.fw (gm.bc (s:=s) (T:=T) (size:=size) (ver:=0) (rows:=[]) (rows':=[]) rfl) h1) ac
   refine (he.mono (bl.jJ s t)).put (d:=some j) ?_
   simp only[aI]
   exact⟨t,by rw[ab.bf]; exact mE,rfl⟩
end
theorem RD {m:Mem}(aZ:bG m){dc ver T size g p cap:Nat}{rows rows':List (List I)}{cur cur':Array Value}{w':World}{xs:List Value}(rD:aK m (.cz dc ver) (.slice (some ⟨g,p,none⟩) rows.length cap)) (aF:m.H.tok dc=some (.bc T size ver rows)) (bm:m.w.heap[g]? =some (.cells cur T (0,0)))
    (hlen:rows'.length=rows.length) (an: ∀r∈rows',r.length=size) (h1:w'.os=m.w.os) (J:w'.tape=m.w.tape) (aA:w'.output=m.w.output) (bz:m.w.heap.size≤w'.heap.size) (bZ: ∀b,b<m.w.heap.size→b≠g→w'.heap[b]? =m.w.heap[b]?)
    (ef:w'.heap[g]? =some (.cells cur' T (0,0))) (wA:cur'.size=cur.size) (tB:(cur'.toList.drop p).take (rows.length*size)=xs) (DL:aM m rows'.flatten xs) (af: ∀u∈xs,u.oneCell'=true):
    bG (m.gt w' dc (m.L dc) (.bc T size ver rows'))∧bH m (m.gt w' dc (m.L dc) (.bc T size ver rows')):=by
  obtain⟨dK,aW,aN7,ah⟩:=tP aZ aF rD
  rcases ah with ⟨e,_⟩|⟨g',ad2,CL,aL3,e,mN,hq,py,tD,qs,hr⟩
  ·simp at e
  simp only[Value.slice.injEq,Option.some.injEq,Addr.mk.injEq]at e
  obtain⟨⟨rfl,rfl,_⟩,_,rfl⟩:=e
  rw[bm]at mN
  simp only[Option.some.injEq,Obj.cells.injEq,and_true]at mN
  subst mN
  have hD:(m.L dc).dV=some g:=by rw[dK]; rfl
  have g0:Grows0 m w' dc (.bc T size ver rows) (m.L dc) (.bc T size ver rows'):=
    ⟨h1,J,aA,bz,fun x hk dP=>bZ x hk (fun e=>dP (by rw[hD,e])),fun x c hk ah=>by simp [bB.bc]at ah,fun x hk=> .inl hk,aT4 _,rfl,rfl,aT4 _,fun _=>rfl⟩
  have aC:=bH.gt aZ aF g0
  have li:xs.length=rows.length*size:=by
    have Lu:p+rows.length*size≤cur.size:=Nat.le_trans (Nat.add_le_add_left (Nat.mul_le_mul_right _ hq) _) tD
    rw[←tB]
    simp
    omega
  have h9:ov m w' dc (.bc T size ver rows) (m.L dc) (.bc T size ver rows'):=by
    refine⟨g0,xs,⟨?_,.inr ⟨g,p,cap,cur',?_,ef,?_,py,by rw[wA]; exact tD,?_⟩⟩,fun ap8 a8=> ?_⟩
    ·simp only[bB.bc,bB.len,hlen]; exact li
    ·rw[dK]; simp only[bB.bc,bB.len,hlen]
    ·simp only[bB.bc,bB.len,hlen]; exact hq
    ·simp only[bB.bc,bB.len,hlen]; exact tB
    ·cases a8
     exact⟨aM.aC aC _ _ DL,an,af⟩
  exact⟨bG.gt aZ aF h9,aC⟩
def xK (j n:Nat):List I→List I→Prop
  |[],ds=>ds=[]
  |a::az,ds=> ∃d Aw,ds=d::Aw∧((a.aQ=d∧d.flat=true)∨∃size rows,a= .own j size rows∧d= .own n size rows∧eD rows=true)∧xK j n az Aw
theorem Rb {s s2:bl}{j n x:Nat}(bq:s.t[j]? =some x) (bb:s2.t[n]? =some x): ∀(az ds l:List I),xK j n az ds→bd s az l→∃fp,dD l fp∧bd s2 ds fp
  |[],ds,l,h,aE=>by
   simp only[xK]at h
   simp only[bd]at aE
   subst h aE
   exact⟨[],dD.rN _,by simp only[bd]⟩
  |a::az,ds,l,h,aE=>by
   simp only[xK]at h
   simp only[bd]at aE
   obtain⟨d,Aw,rfl,h1,J⟩:=h
   obtain⟨v,ak,rfl,v1,v2⟩:=aE
   obtain⟨fp,aj,aq⟩:=Rb bq bb az Aw ak J v2
   rcases h1 with ⟨rfl,aO⟩|⟨size,rows,rfl,rfl,aO⟩
   ·exact⟨a.aQ::fp,by simp only[dD]; exact⟨_,_,rfl,fun m y bg=>xx a v v1 aO y bg,aj⟩,by simp only[bd]; exact⟨_,_,rfl,(I.j1 _ aO _).2 rfl,aq⟩⟩
   ·simp only[aI]at v1
    obtain⟨y,r,br,rfl,cy⟩:=v1
    rw[bq]at br
    cases br
    obtain rfl:=(nB _ aO _).1 cy
    refine⟨.own x size r::fp,by simp only[dD]; exact⟨_,_,rfl,cR.refl _,aj⟩,by simp only[bd,aI]; exact⟨_,_,rfl,⟨x,r,bb,rfl,(nB _ aO _).2 rfl⟩,aq⟩⟩
theorem aY.EM {P:Program}{f:FuncId}{al dA:List I}{c:aJ}{Q:Out→aJ→Prop}{j T size k:Nat}{ds:List I}(h:aY P f al .new Q) (aO:b9 al=true) (aL:jt dA=al) (bs: ∀o c1,Q o c1→∃cs,o= .ret (.agg cs)∧xK j c.bf cs ds∧c1.H.tok j=some (.bP T size k)):aY P f dA c (lB (.agg ds) (c.fw (.bP T size k))):=fun H0 s ha H DR a8=>by
  subst aL
  have hp:=h H ⟨[],[]⟩ _ H ((lM _ aO _).2 rfl) (ea.start H)
  have u6:iu P f ha H fun o' av=> ∃bF o c1,bl.dU ⟨[],[]⟩ bF∧Q o c1∧jy bF o o'∧ea H bF c1 av:=fun m ak hH aZ ad=>hp m ak hH aZ ((B3 _ _ DR aO).BO ad)
  refine u6.mono fun o av ⟨bF,eS,c1,eG,a2,a3,a4⟩=> ?_
  obtain⟨cs,rfl,rW,nh⟩:=bs _ _ a2
  cases o with
  |dW w=>simp only[jy]at a3
  |ret w=>
  simp only[jy,aI]at a3
  obtain⟨l,rfl,aE⟩:=a3
  obtain⟨x,o',t1,t2,t3,t4,t5,t6,t7⟩:=a4.tok j _ nh
  have af:o'= .bP T size k:=by
    obtain⟨aO8,aP0,on,aO9,Nk⟩:=o'
    simp only[bB.bP]at t3 t4 t5 t6 t7 ⊢
    subst t3 t4 t5 t6 t7
    rfl
  subst af
  have U:=(a4.jK j x t1).1
  obtain⟨fp,aj,aq⟩:=Rb (s2:=⟨s.b,s.t++[x]⟩) t1 (by rw[a8.bf]; exact mE) cs ds l rW aE
  refine⟨.ret (.agg fp),H.b7 x (.bP T size k),xO aj,⟨fun b y hb=>a4.base.aV b y hb,fun t y aF=> ?_⟩,⟨s.b,s.t++[x]⟩,.ret (.agg ds),_,bl.jJ s x,⟨rfl,rfl⟩,?_,a8.fw gm.bP U⟩
  ·simp only[aw.b7]at aF
   by_cases e:t=x
   ·rw[if_pos e]at aF
    rw[e,t2]
    exact aF
   ·rw[if_neg e]at aF
    exact a4.base.tok t y aF
  ·simp only[jy,aI]
   exact⟨fp,rfl,aq⟩
end Go.aX
