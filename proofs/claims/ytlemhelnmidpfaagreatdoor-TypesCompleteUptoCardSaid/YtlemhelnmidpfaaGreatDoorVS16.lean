/- Part of a proof; own work. -/
import Derived.Lib.ItoaNum
import Derived.Lib.LaidTab
import Derived.Stop.LaidErr
import Derived.MakeChecks
import Derived.HandedShaped
import Derived.SizedLaws
import Derived.JoinedCond
import Derived.Test.YtlemhelnmidpfaaGreatDoorRows
import Derived.Test.YtlemhelnmidpfaaGreatDoorVS15
set_option linter.unusedVariables false
set_option linter.unusedSimpArgs false
open List renaming length_map→aT1,length_drop→bd3,length_cons→aT3,length_take→aX3,length_append→aT2,length_nil→aU1
open Nat renaming reduceBEq→bd1,le_of_ble_eq_true→aZ3,reduceAdd→bd2
open Go.Proofs.Tryz renaming prog→aS9
namespace Go.Proofs.YtlemhelnmidpfaaGreatDoor
open Go.ChangeShapes Go.WideShapes Go.ChangeAt Go.RowKit
section
variable {H:Type}{enc:TypeId×Value→H}
end
theorem AP:Tryz.prog.globalNamed "internal/strconv.uint64pow10" =some 0:=by kernel_rfl
theorem Wh:(Tryz.prog.globals[0]?).map (·.type)=some 461:=by kernel_rfl
theorem UA:Tryz.prog.cellsOf 461=20:=by kernel_rfl
theorem Uz:Tryz.prog.cellsOf 365=1:=by kernel_rfl
theorem ap7:(((begin aS9 (fun _ _=>0) default).world.heap[0]?).bind Obj.row?).map (·.2)=some 461:=by kernel_rfl
theorem Wx:0<Tryz.prog.globals.size:=of_decide_eq_true (by kernel_rfl)
theorem Sf {W:World}{g t:Nat}(an:W.ShapedOpen aS9) (bm:g<Tryz.prog.globals.size) (h:(((begin aS9 (fun _ _=>0) default).world.heap[g]?).bind Obj.row?).map (·.2)=some t){name:String}(bb:Tryz.prog.globalNamed name=some g){cs:Array Value}(ad:W.var? aS9 name=some cs):W.heap[g]? =some (.cells cs t (0,0)):=by
 obtain⟨⟨zero,dk⟩,h1,J⟩:=Option.map_eq_some_iff.1 h
 simp only at J
 subst J
 obtain⟨cn,aA,_⟩:=an.1 g zero dk bm h1
 unfold World.var? at ad
 rw[bb]at ad
 simp only[Option.bind_some,aA,Option.some.injEq]at ad
 rw[aA,ad]
theorem Wn {W:World}(an:W.ShapedOpen aS9) (h:laidMetH aS9 vl W):Go.aX.lz W:=by
 rw[MakeChecks.laidMetH_plain _ _ _ (by kernel_rfl)]at h
 have J:laidMet aS9 (("internal/strconv.uint64pow10",Lib.tabData .u64 Lib.pow10Tab)::[("unicode/utf8.acceptRanges",Rows.laid_unicode_utf8_acceptRanges),("unicode/utf8.first",Rows.laid_unicode_utf8_first)]) W:=h.tail.tail
 have v3:Lib.TabIs aS9 W "internal/strconv.uint64pow10" .u64 Lib.pow10Tab:=Lib.tabIs_of_head AP Wh Tryz.underlying461 Tryz.underlying365 Uz UA J
 have lE:=Sf an Wx ap7 AP v3
 intro p hp
 simp only[Go.aX.yd,List.mem_cons,List.not_mem_nil,or_false]at hp
 subst hp
 exact⟨_,lE,461,_,rfl⟩
mutual
theorem CY {H:Type}: ∀d:DataW H,Go.aX.ik d≤Rows.uptoBulk d
 | .lit l=>by cases l<;>simp [Go.aX.ik,Rows.uptoBulk]
 | .nil=>by simp [Go.aX.ik,Rows.uptoBulk]
 | .ptr d=>by simp [Go.aX.ik,Rows.uptoBulk]
 | .slice qi spare=>by
  have:=Aq qi
  have:=Aq spare
  simp only[Go.aX.ik,Rows.uptoBulk]
  omega
 | .agg parts=>by
  have:=Aq parts
  simp only[Go.aX.ik,Rows.uptoBulk]
  omega
 | .iface _ d=>by simp [Go.aX.ik,Rows.uptoBulk]
 | .map entries=>by simp [Go.aX.ik,Rows.uptoBulk]
 | .held _=>by simp [Go.aX.ik,Rows.uptoBulk]
theorem Aq {H:Type}: ∀l:List (DataW H),Go.aX.lL l≤Rows.uptoBulkAll l
 |[]=>by simp [Go.aX.lL,Rows.uptoBulkAll]
 |d::r=>by
  have:=CY d
  have:=Aq r
  simp only[Go.aX.lL,Rows.uptoBulkAll]
  omega
end
section
variable {H:Type}{enc:TypeId×Value→H}
theorem ap2 {a:Assume}{C:Checked}{os:Os}{f:FuncId}{fn:Func}{s:ChangeSpec}{conds:List PathCond}{apart fresh handsOn again:Bool}{X:World→Array Value→Prop}
  (WL: ∀(w w':World) (args:Array Value),w.heap=w'.heap→X w args→X w' args)
  (own:ownKnob C.prog.godebug=none) (started:os.Started) (ab1:C.prog.inits.idxOf? f=none) (wK:C.prog.funcs[f]? =some fn)
  (witness: ∃(w:World) (tape:Tape) (i:Input),w.os=os∧(w.forCall tape i).Shaped C.prog∧i.vars=[]∧Input.okWide C.prog (w.forCall tape i) .any w.heap.size f i∧
   (((Rows.OpenSpec.upto s).pre enc C.prog fn conds apart (w.forCall tape i).memory i.args∧X (w.forCall tape i).memory i.args)∧sizedMet enc C.prog fn (Rows.OpenSpec.upto s) apart (w.forCall tape i).memory i.args)∧a.holds C.prog (lone (Frame.enter C.prog f i.args .normal) [] (w.forCall tape i)))
  (contract: ∀(W:World) (base:Nat) (args:Array Value) (ds gs:List (DataW H)) (before:List MemPlace),
   (∀(j:Nat) t v,fn.params[j]? =some t→args[j]? =some v→Value.okWide C.prog W .any base t v)→
   DataW.Whole enc C.prog fn.params.toList s.vars apart W args.toList ds gs before→
   (DataW.weightsEach C.prog (fn.params.toList++s.plain.varTypes C.prog) (ds++gs)).all (·≤reachBytes)=true→
   Rows.uptoBulkAll (ds++gs)≤1048576→
   X W args→W.ShapedOpen C.prog→
   Calls C.prog f args W fun e Ck=> ∃v,e= .returned v∧s.post enc C.prog fn apart fresh handsOn again W args v Ck):
  ReturnsInHanded a C os f .any (fun w args=>((Rows.OpenSpec.upto s).pre enc C.prog fn conds apart w args∧X w args)∧sizedMet enc C.prog fn (Rows.OpenSpec.upto s) apart w args) (s.post enc C.prog fn apart fresh handsOn again):=by
 refine returnsInHanded_of_calls own started ab1 witness ?_
 intro w tape i _ Ei _ im wN _
 obtain⟨_,_,_,Wa,Xo,_,_,_,_,yz⟩:=im
 obtain rfl:Wa=fn:=Option.some.inj (Xo.symm.trans wK)
 obtain⟨⟨⟨ds,gs,before,hw,_,hk⟩,U⟩,aD⟩:=wN
 have oc:Rows.uptoBulkAll (ds++gs)≤1048576:=of_decide_eq_true hk
 have Ek:=DataW.Whole.of_heap (w':=w.forCall tape i) (by rfl) hw
 refine (contract (w.forCall tape i) w.heap.size i.args ds gs before yz Ek (aD.weights hw) oc (WL _ _ _ (by rfl) U) Ei).mono fun e Ck ⟨v,he,hp⟩=> ?_
 subst he
 exact ChangeSpec.post_blind hp
def EY (enc:TypeId×Value→H) (P:Program) (f:Func) (s:ChangeSpec) (conds:List PathCond) (apart:Bool) (w:World) (args:Array Value) (jq:Nat):Bool:=
 match DataW.whole enc P w f.params.toList s.vars apart args.toList jq with
 |some x=>conds.all (PathCond.test P ⟨f.params.toList,x.1,s.plain.varTypes P,x.2.1⟩)&&decide (Rows.uptoBulkAll (x.1++x.2.1)≤1048576)
 |none=>false
theorem ag4 {P:Program}{w:World}{f:Func}{s:ChangeSpec}{conds:List PathCond}{apart:Bool}{args:Array Value}{jq:Nat}(h:EY enc P f s conds apart w args jq=true):(Rows.OpenSpec.upto s).pre enc P f conds apart w args:=by
 unfold EY at h
 split at h
 ·rename_i x U
  rw[Bool.and_eq_true]at h
  exact⟨x.1,x.2.1,x.2.2,DataW.Whole_of_whole U,h.1,h.2⟩
 ·cases h
theorem aI4 {C:Checked}{os:Os}{f:FuncId}{fn:Func}{s:ChangeSpec}{conds:List PathCond}{apart:Bool}{X:World→Array Value→Prop}(modest:Bool) (ub:World) (args:Array Value) (jq:Nat) (A5:ub.os=os)
  (Ei:(ub.forCall (fun _ _=>0) ⟨#[],args,[]⟩).Shaped C.prog)
  (im:Input.okWideB C.prog (ub.forCall (fun _ _=>0) ⟨#[],args,[]⟩) f ⟨#[],args,[]⟩=true)
  (wN:EY enc C.prog fn s conds apart (ub.forCall (fun _ _=>0) ⟨#[],args,[]⟩).memory args jq=true)
  (dd:s.sizedB enc C.prog fn apart (ub.forCall (fun _ _=>0) ⟨#[],args,[]⟩).memory args jq=true)
  (U:X (ub.forCall (fun _ _=>0) ⟨#[],args,[]⟩).memory args):
  ∃(w:World) (tape:Tape) (i:Input),w.os=os∧(w.forCall tape i).Shaped C.prog∧i.vars=[]∧Input.okWide C.prog (w.forCall tape i) .any w.heap.size f i∧
   (((Rows.OpenSpec.upto s).pre enc C.prog fn conds apart (w.forCall tape i).memory i.args∧X (w.forCall tape i).memory i.args)∧sizedMet enc C.prog fn (Rows.OpenSpec.upto s) apart (w.forCall tape i).memory i.args)∧({modest:=modest}:Assume).holds C.prog (lone (Frame.enter C.prog f i.args .normal) [] (w.forCall tape i)):=
 ⟨ub,fun _ _=>0,⟨#[],args,[]⟩,A5,Ei,(Input.okWide_of_okWideB (base:=0) im).1,(Input.okWide_of_okWideB im).2,⟨⟨ag4 wN,U⟩,sizedMet_of_sizedB dd⟩,by
  simp only[Assume.holds]
  exact⟨by simp,by simp,fun _=>Modest.zero,by simp,by simp⟩⟩
end
end Go.Proofs.YtlemhelnmidpfaaGreatDoor
