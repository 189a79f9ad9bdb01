/- Part of a proof; own work. -/
import Derived.Lib.ItoaNum
import Derived.Lib.LaidTab
import Derived.Stop.LaidErr
import Derived.MakeChecks
import Derived.HandedShaped
import Derived.SizedLaws
import Derived.JoinedCond
import Derived.Test.YtlemhelnmidpfaaGreatDoorRows
import Derived.Test.YtlemhelnmidpfaaGreatDoorRS15
set_option linter.unusedVariables false
set_option linter.unusedSimpArgs false
open List renaming length_append→bb7,length_drop→bl7,length_take→be9,length_nil→bc4,length_map→bb5,length_cons→bb9
open Nat renaming le_of_ble_eq_true→bh6,reduceBEq→bl3,reduceAdd→bl4
open Go.Proofs.Tryz renaming prog→bb4
namespace Go.Proofs.YtlemhelnmidpfaaGreatDoor
open Go.ChangeShapes Go.WideShapes Go.ChangeAt Go.RowKit
section
variable {H:Type}{enc:TypeId×Value→H}
end
theorem Bz:Tryz.prog.globalNamed "internal/strconv.uint64pow10" =some 0:=by kernel_rfl
theorem Zd:(Tryz.prog.globals[0]?).map (·.type)=some 461:=by kernel_rfl
theorem Xw:Tryz.prog.cellsOf 461=20:=by kernel_rfl
theorem Xv:Tryz.prog.cellsOf 365=1:=by kernel_rfl
theorem aI1:(((begin bb4 (fun _ _=>0) default).world.heap[0]?).bind Obj.row?).map (·.2)=some 461:=by kernel_rfl
theorem Zv:0<Tryz.prog.globals.size:=of_decide_eq_true (by kernel_rfl)
theorem UK {W:World}{g t:Nat}(ao:W.ShapedOpen bb4) (bo:g<Tryz.prog.globals.size) (h:(((begin bb4 (fun _ _=>0) default).world.heap[g]?).bind Obj.row?).map (·.2)=some t){name:String}(a1:Tryz.prog.globalNamed name=some g){cs:Array Value}(ad:W.var? bb4 name=some cs):W.heap[g]? =some (.cells cs t (0,0)):=by
 obtain⟨⟨zero,dv⟩,U,aa⟩:=Option.map_eq_some_iff.1 h
 simp only at aa
 subst aa
 obtain⟨cC,aD,_⟩:=ao.1 g zero dv bo U
 unfold World.var? at ad
 rw[a1]at ad
 simp only[Option.bind_some,aD,Option.some.injEq]at ad
 rw[aD,ad]
theorem Zi {W:World}(ao:W.ShapedOpen bb4) (h:laidMetH bb4 vJ W):Go.ba.l7 W:=by
 rw[MakeChecks.laidMetH_plain _ _ _ (by kernel_rfl)]at h
 have aa:laidMet bb4 (("internal/strconv.uint64pow10",Lib.tabData .u64 Lib.pow10Tab)::[("unicode/utf8.acceptRanges",Rows.laid_unicode_utf8_acceptRanges),("unicode/utf8.first",Rows.laid_unicode_utf8_first)]) W:=h.tail.tail
 have v3:Lib.TabIs bb4 W "internal/strconv.uint64pow10" .u64 Lib.pow10Tab:=Lib.tabIs_of_head Bz Zd Tryz.underlying461 Tryz.underlying365 Xv Xw aa
 have jZ:=UK ao Zv aI1 Bz v3
 intro p hp
 simp only[Go.ba.yM,List.mem_cons,List.not_mem_nil,or_false]at hp
 subst hp
 exact⟨_,jZ,461,_,rfl⟩
mutual
theorem DT {H:Type}: ∀d:DataW H,Go.ba.jc d≤Rows.uptoBulk d
 | .lit l=>by cases l<;>simp [Go.ba.jc,Rows.uptoBulk]
 | .nil=>by simp [Go.ba.jc,Rows.uptoBulk]
 | .ptr d=>by simp [Go.ba.jc,Rows.uptoBulk]
 | .slice qy spare=>by
  have:=A6 qy
  have:=A6 spare
  simp only[Go.ba.jc,Rows.uptoBulk]
  omega
 | .agg parts=>by
  have:=A6 parts
  simp only[Go.ba.jc,Rows.uptoBulk]
  omega
 | .iface _ d=>by simp [Go.ba.jc,Rows.uptoBulk]
 | .map entries=>by simp [Go.ba.jc,Rows.uptoBulk]
 | .held _=>by simp [Go.ba.jc,Rows.uptoBulk]
theorem A6 {H:Type}: ∀l:List (DataW H),Go.ba.mj l≤Rows.uptoBulkAll l
 |[]=>by simp [Go.ba.mj,Rows.uptoBulkAll]
 |d::r=>by
  have:=DT d
  have:=A6 r
  simp only[Go.ba.mj,Rows.uptoBulkAll]
  omega
end
section
variable {H:Type}{enc:TypeId×Value→H}
theorem aH6 {a:Assume}{C:Checked}{os:Os}{f:FuncId}{fn:Func}{s:ChangeSpec}{conds:List PathCond}{apart fresh handsOn again:Bool}{X:World→Array Value→Prop}
  (ZJ: ∀(w w':World) (args:Array Value),w.heap=w'.heap→X w args→X w' args)
  (own:ownKnob C.prog.godebug=none) (started:os.Started) (as9:C.prog.inits.idxOf? f=none) (xk:C.prog.funcs[f]? =some fn)
  (witness: ∃(w:World) (tape:Tape) (i:Input),w.os=os∧(w.forCall tape i).Shaped C.prog∧i.vars=[]∧Input.okWide C.prog (w.forCall tape i) .any w.heap.size f i∧
   (((Rows.OpenSpec.upto s).pre enc C.prog fn conds apart (w.forCall tape i).memory i.args∧X (w.forCall tape i).memory i.args)∧sizedMet enc C.prog fn (Rows.OpenSpec.upto s) apart (w.forCall tape i).memory i.args)∧a.holds C.prog (lone (Frame.enter C.prog f i.args .normal) [] (w.forCall tape i)))
  (contract: ∀(W:World) (base:Nat) (args:Array Value) (jd gs:List (DataW H)) (before:List MemPlace),
   (∀(j:Nat) t v,fn.params[j]? =some t→args[j]? =some v→Value.okWide C.prog W .any base t v)→
   DataW.Whole enc C.prog fn.params.toList s.vars apart W args.toList jd gs before→
   (DataW.weightsEach C.prog (fn.params.toList++s.plain.varTypes C.prog) (jd++gs)).all (·≤reachBytes)=true→
   Rows.uptoBulkAll (jd++gs)≤1048576→
   X W args→W.ShapedOpen C.prog→
   Calls C.prog f args W fun e Df=> ∃v,e= .returned v∧s.post enc C.prog fn apart fresh handsOn again W args v Df):
  ReturnsInHanded a C os f .any (fun w args=>((Rows.OpenSpec.upto s).pre enc C.prog fn conds apart w args∧X w args)∧sizedMet enc C.prog fn (Rows.OpenSpec.upto s) apart w args) (s.post enc C.prog fn apart fresh handsOn again):=by
 refine returnsInHanded_of_calls own started as9 witness ?_
 intro w tape i _ Ft _ ir xn _
 obtain⟨_,_,_,Y6,ab4,_,_,_,_,xr⟩:=ir
 obtain rfl:Y6=fn:=Option.some.inj (ab4.symm.trans xk)
 obtain⟨⟨⟨jd,gs,before,hw,_,av⟩,ab⟩,aw⟩:=xn
 have oG:Rows.uptoBulkAll (jd++gs)≤1048576:=of_decide_eq_true av
 have Fv:=DataW.Whole.of_heap (w':=w.forCall tape i) (by rfl) hw
 refine (contract (w.forCall tape i) w.heap.size i.args jd gs before xr Fv (aw.weights hw) oG (ZJ _ _ _ (by rfl) ab) Ft).mono fun e Df ⟨v,he,hp⟩=> ?_
 subst he
 exact ChangeSpec.post_blind hp
def F7 (enc:TypeId×Value→H) (P:Program) (f:Func) (s:ChangeSpec) (conds:List PathCond) (apart:Bool) (w:World) (args:Array Value) (j0:Nat):Bool:=
 match DataW.whole enc P w f.params.toList s.vars apart args.toList j0 with
 |some x=>conds.all (PathCond.test P ⟨f.params.toList,x.1,s.plain.varTypes P,x.2.1⟩)&&decide (Rows.uptoBulkAll (x.1++x.2.1)≤1048576)
 |none=>false
theorem ay0 {P:Program}{w:World}{f:Func}{s:ChangeSpec}{conds:List PathCond}{apart:Bool}{args:Array Value}{j0:Nat}(h:F7 enc P f s conds apart w args j0=true):(Rows.OpenSpec.upto s).pre enc P f conds apart w args:=by
 unfold F7 at h
 split at h
 ·rename_i x ab
  rw[Bool.and_eq_true]at h
  exact⟨x.1,x.2.1,x.2.2,DataW.Whole_of_whole ab,h.1,h.2⟩
 ·cases h
theorem aZ5 {C:Checked}{os:Os}{f:FuncId}{fn:Func}{s:ChangeSpec}{conds:List PathCond}{apart:Bool}{X:World→Array Value→Prop}(modest:Bool) (uI:World) (args:Array Value) (j0:Nat) (BU:uI.os=os)
  (Ft:(uI.forCall (fun _ _=>0) ⟨#[],args,[]⟩).Shaped C.prog)
  (ir:Input.okWideB C.prog (uI.forCall (fun _ _=>0) ⟨#[],args,[]⟩) f ⟨#[],args,[]⟩=true)
  (xn:F7 enc C.prog fn s conds apart (uI.forCall (fun _ _=>0) ⟨#[],args,[]⟩).memory args j0=true)
  (dq:s.sizedB enc C.prog fn apart (uI.forCall (fun _ _=>0) ⟨#[],args,[]⟩).memory args j0=true)
  (ab:X (uI.forCall (fun _ _=>0) ⟨#[],args,[]⟩).memory args):
  ∃(w:World) (tape:Tape) (i:Input),w.os=os∧(w.forCall tape i).Shaped C.prog∧i.vars=[]∧Input.okWide C.prog (w.forCall tape i) .any w.heap.size f i∧
   (((Rows.OpenSpec.upto s).pre enc C.prog fn conds apart (w.forCall tape i).memory i.args∧X (w.forCall tape i).memory i.args)∧sizedMet enc C.prog fn (Rows.OpenSpec.upto s) apart (w.forCall tape i).memory i.args)∧({modest:=modest}:Assume).holds C.prog (lone (Frame.enter C.prog f i.args .normal) [] (w.forCall tape i)):=
 ⟨uI,fun _ _=>0,⟨#[],args,[]⟩,BU,Ft,(Input.okWide_of_okWideB (base:=0) ir).1,(Input.okWide_of_okWideB ir).2,⟨⟨ay0 xn,ab⟩,sizedMet_of_sizedB dq⟩,by
  simp only[Assume.holds]
  exact⟨by simp,by simp,fun _=>Modest.zero,by simp,by simp⟩⟩
end
end Go.Proofs.YtlemhelnmidpfaaGreatDoor
