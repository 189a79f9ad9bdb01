/- Part of a proof; own work. -/
import Derived.Below
import Derived.Deep.Slices
import Derived.Deep.Fields
import Derived.ChangeSame
import Derived.WideShapes
import Derived.OpenShut
import Derived.SizedLaws
import Derived.Test.YtjkbgcgljnldeaaGreatDoorVS4
set_option linter.unusedVariables false
set_option linter.unusedSimpArgs false
namespace Go.bc
open Go Go.ChangeShapes Go.WideShapes Go.Deep Go.RowKit
theorem V2 {P:Program}{f:FuncId}{args:List I}{r:I}(h:Pure P f args r) (w:World) (ay:List Value) (aY:nv w) (aP: ∀m:Mem,m.w=w→m.H=aA.none→aS m args ay):
  Calls P f ⟨ay⟩ w fun e w'=>(∃v,e= .returned v∧∃m:Mem,aR m r v)∧Below w.heap.size w w':=by
 have:=h aA.none ⟨w,aA.none,fun _=> .nilFunc,0⟩ ay rfl ⟨fun b T cs hb=>by simp [aA.none]at hb,fun t i ai=>by simp [aA.none]at ai,aY,fun p hp=>⟨rfl,fun t i ai=>by simp [aA.none]at ai⟩⟩ (aP _ rfl rfl)
 refine this.mono fun e w' ⟨o,aF,gb,cQ,g1,g2,g3,g4,g5⟩=> ?_
 subst g4
 simp only[rl]at g3
 obtain⟨v,ar,ax⟩:=g3
 exact⟨⟨v,ar,_,ax⟩,⟨g2.os,g2.tape,g2.output,g2.size,fun b hb=>(g2.block b hb rfl (fun t i ai=>by simp [aA.none]at ai)).1⟩⟩
section
variable {H:Type}{enc:TypeId×Value→H}{P:Program}{w:World}{base:Nat}{spare:Nat→Bool}{held:Bool}
inductive aO0 where
 |ey (k:lQ)
 |io (cu:List lQ)
 deriving DecidableEq
end
theorem l8 {α:Type}{f:α→List I}: ∀ {rows:List (List I)},(∀r∈rows,∃v,r=f v)→∃xs:List α,rows=xs.map f
 |[],_=>⟨[],rfl⟩
 |r::aL,h=>by
  obtain⟨v,af⟩:=h r (by simp)
  obtain⟨xs,ab⟩:=l8 (rows:=aL) fun r ag=>h r (by simp [ag])
  exact⟨v::xs,by rw[af,ab]; rfl⟩
end Go.bc
namespace Go.bc
open Go Go.ChangeShapes Go.WideShapes Go.Deep Go.RowKit
inductive tK where
 |ey (k:lQ)
 |io (cu:List tK)
section
variable {H:Type}{enc:TypeId×Value→H}{P:Program}{w:World}{base:Nat}{spare:Nat→Bool}{held:Bool}
end
inductive iq where
 |ey (k:lQ)
 |io (e:TypeId)
section
variable {H:Type}{enc:TypeId×Value→H}{P:Program}{E:List TypeId}{R:Nat}{w:World}{base:Nat}{spare:Nat→Bool}{held:Bool}
end
end Go.bc
