/- Part of a proof; own work. -/
import Derived.Test.YtjkbgcgljnldeaaGreatDoorWS13
set_option linter.unusedVariables false
set_option linter.unusedSimpArgs false
set_option maxHeartbeats 8000000
namespace Go.bc.T.N
open Go Go.bc Go.Proofs Go.RowKit
set_option maxRecDepth 100000
attribute [local irreducible] Go.bc.aj Go.bc.ae Go.bc.bz
section
attribute [local go_sem] ad.ct ac.ct ad.b9 ac.b9 cj eN fZ gJ dp of_flat
attribute [local go_sem] cb.row dG fG mV
theorem aY9 {s:a7}{x:e9}{p:Int}(h:tb s=(x,p,0)):kJ x=true:=by
 cases uj:pV s with
 |err p e=>
  have he:=ah0 uj
  unfold tb at h
  rw[uj]at h
  cases h
  exact absurd rfl he
 |ok l=>
  obtain⟨cY,G5,_,J,aa⟩:=aD8 uj
  by_cases he:G5.e=0
  ·have au:=(J he).2
   rw[h]at au
   split at au
   ·cases au; assumption
   ·cases au
  ·have au:=aa he
   rw[h]at au
   simp only[Prod.mk.injEq]at au
   exact absurd au.2.2.symm he
theorem ep (ui:Pure Tryz.prog 11 [] (.bool true)) (s:a7):Pure Tryz.prog 3 [.str s] (.bool true):=by
 by_cases J:8100<s.length
 ·have d1:(8100:Int)<(s.length:Int):=by omega
  refine cF bN Tryz.func3 gg rfl rfl ?_
  unfold cw cJ
  simp(disch:=omega)only[go_sem,simprocAttr]
  refine ao ?_
  refine D.P (ui) ?_
  (have al:=d1;refine bQ ?_;clear al)
  exact D.rx
 have d1: ¬(8100:Int)<(s.length:Int):=by omega
 have f12:=Fo s (by omega)
 have f13:=aZ1 s (by omega)
 have dX:=ap9 s
 obtain⟨⟨x,p,e⟩,bG⟩: ∃q,q=tb s:=⟨_,rfl⟩
 rw[←bG]at f12 f13 dX
 simp only at dX
 have f15:=aZ6 x dX
 have f14:=a08 x x dX
 rw[R4]at f14
 have f16:=B5 x dX
 simp only[xA]at f12 f13
 rw[lq]at*
 by_cases he:e=0
 ·subst he
  rw[aY9 bG.symm]at f16
  refine cF bN Tryz.func3 gg rfl rfl ?_
  unfold cw cJ
  simp(disch:=omega)only[go_sem,simprocAttr]
  refine ao ?_
  refine D.P (ui) ?_
  (have al:=d1;refine bQ ?_;clear al)
  refine D.P (f12) ?_
  refine ao ?_
  refine D.P (f13) ?_
  refine bK ?_
  (repeat (apply aj.s true true;(·simp(disch:=omega)only[go_sem,simprocAttr,]<;>with_reducible rfl)))
  refine aj.fs (anns:=[(.agg [.str x.name,.str x.hD,.str x.hA,.ay 7 (x.vars.map cb.row),.ay 4 (x.ap.map cd.row),.ay 4 (x.os.map ca.row)]),.bool true,.bool true]) ?_
  refine bK ?_
  refine D.df (f15) ?_
  refine bK ?_
  refine D.df (f14) ?_
  refine bK ?_
  refine D.df (f16) ?_
  refine ao ?_
  exact D.rx
 ·refine cF bN Tryz.func3 gg rfl rfl ?_
  unfold cw cJ
  simp(disch:=omega)only[go_sem,simprocAttr]
  refine ao ?_
  refine D.P (ui) ?_
  (have al:=d1;refine bQ ?_;clear al)
  refine D.P (f12) ?_
  refine ao ?_
  refine D.P (f13) ?_
  refine bK ?_
  (repeat (apply aj.s true true;(·simp(disch:=omega)only[go_sem,simprocAttr,]<;>with_reducible rfl)))
  refine aj.fs (anns:=[(.agg [.str x.name,.str x.hD,.str x.hA,.ay 7 (x.vars.map cb.row),.ay 4 (x.ap.map cd.row),.ay 4 (x.os.map ca.row)]),.bool true,.undef]) ?_
  refine bK ?_
  refine D.df (f15) ?_
  refine bK ?_
  refine D.df (f14) ?_
  (have al:=he;refine bQ ?_;clear al)
  exact D.rx
theorem a02 (a:ByteArray):Pure Tryz.prog 3 [.str a.data.toList] (.bool true):=ep as6 _
end
end Go.bc.T.N
