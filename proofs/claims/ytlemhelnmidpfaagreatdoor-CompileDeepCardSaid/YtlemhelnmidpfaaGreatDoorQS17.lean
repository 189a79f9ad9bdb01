/- Part of a proof; own work. -/
import Derived.Lib.ItoaNum
import Derived.Lib.LaidTab
import Derived.Stop.LaidErr
import Derived.MakeChecks
import Derived.HandedShaped
import Derived.SizedLaws
import Derived.JoinedCond
import Derived.Test.YtlemhelnmidpfaaGreatDoorRows
import Derived.Test.YtlemhelnmidpfaaGreatDoorQS16
set_option linter.unusedVariables false
set_option linter.unusedSimpArgs false
namespace Go.Proofs.YtlemhelnmidpfaaGreatDoor
open Go.ChangeShapes Go.WideShapes Go.ChangeAt Go.RowKit
section
variable {H:Type}{enc:TypeId×Value→H}
theorem aR4 {a:Assume}{C:Checked}{os:Os}{f:FuncId}{fn:Func}{s:ChangeSpec}{conds:List PathCond}{apart fresh handsOn again:Bool}{X:World→Array Value→Prop}
  (Bm: ∀(w w':World) (args:Array Value),w.heap=w'.heap→X w args→X w' args)
  (own:ownKnob C.prog.godebug=none) (started:os.Started) (Il:C.prog.inits.idxOf? f=none) (oW:C.prog.funcs[f]? =some fn)
  (witness: ∃(w:World) (tape:Tape) (i:Input),w.os=os∧(w.forCall tape i).Shaped C.prog∧i.vars=[]∧Input.okWide C.prog (w.forCall tape i) .any w.heap.size f i∧
   ((s.pre enc C.prog fn conds apart (w.forCall tape i).memory i.args∧X (w.forCall tape i).memory i.args)∧sizedMet enc C.prog fn (OpenSpec.ofChange s) apart (w.forCall tape i).memory i.args)∧a.holds C.prog (lone (Frame.enter C.prog f i.args .normal) [] (w.forCall tape i)))
  (contract: ∀(W:World) (base:Nat) (args:Array Value) (gv gs:List (DataW H)) (before:List MemPlace),
   (∀(j:Nat) t v,fn.params[j]? =some t→args[j]? =some v→Value.okWide C.prog W .any base t v)→
   DataW.Whole enc C.prog fn.params.toList s.vars apart W args.toList gv gs before→
   (DataW.weightsEach C.prog (fn.params.toList++s.plain.varTypes C.prog) (gv++gs)).all (·≤reachBytes)=true→
   X W args→W.ShapedOpen C.prog→
   Calls C.prog f args W fun e tj=> ∃v,e= .returned v∧s.post enc C.prog fn apart fresh handsOn again W args v tj):
  ReturnsInHanded a C os f .any (fun w args=>(s.pre enc C.prog fn conds apart w args∧X w args)∧sizedMet enc C.prog fn (OpenSpec.ofChange s) apart w args) (s.post enc C.prog fn apart fresh handsOn again):=by
 refine returnsInHanded_of_calls own started Il witness ?_
 intro w tape i _ BE _ iT wK _
 obtain⟨_,_,_,G2,HB,_,_,_,_,l0⟩:=iT
 obtain rfl:G2=fn:=Option.some.inj (HB.symm.trans oW)
 obtain⟨⟨⟨gv,gs,before,hw,_⟩,ab⟩,aG⟩:=wK
 have BH:=DataW.Whole.of_heap (w':=w.forCall tape i) (by rfl) hw
 refine (contract (w.forCall tape i) w.heap.size i.args gv gs before l0 BH (aG.weights hw) (Bm _ _ _ (by rfl) ab) BE).mono fun e tj ⟨v,he,hp⟩=> ?_
 subst he
 exact ChangeSpec.post_blind hp
end
theorem DZ:Tryz.prog.globalNamed "internal/strconv.uint64pow10" =some 0:=by kernel_rfl
theorem ag5:(Tryz.prog.globals[0]?).map (·.type)=some 461:=by kernel_rfl
theorem Zr:Tryz.prog.cellsOf 461=20:=by kernel_rfl
theorem Zq:Tryz.prog.cellsOf 365=1:=by kernel_rfl
theorem aR8:(((begin Tryz.prog (fun _ _=>0) default).world.heap[0]?).bind Obj.row?).map (·.2)=some 461:=by kernel_rfl
theorem ai0:0<Tryz.prog.globals.size:=of_decide_eq_true (by kernel_rfl)
theorem WS {W:World}{g t:Nat}(hs:W.ShapedOpen Tryz.prog) (a7:g<Tryz.prog.globals.size) (h:(((begin Tryz.prog (fun _ _=>0) default).world.heap[g]?).bind Obj.row?).map (·.2)=some t){name:String}(aW:Tryz.prog.globalNamed name=some g){cs:Array Value}(ae:W.var? Tryz.prog name=some cs):W.heap[g]? =some (.cells cs t (0,0)):=by
 obtain⟨⟨zero,dT⟩,U,aa⟩:=Option.map_eq_some_iff.1 h
 simp only at aa
 subst aa
 obtain⟨cE,ay,_⟩:=hs.1 g zero dT a7 U
 unfold World.var? at ae
 rw[aW]at ae
 simp only[Option.bind_some,ay,Option.some.injEq]at ae
 rw[ay,ae]
theorem Bg {W:World}(hs:W.ShapedOpen Tryz.prog) (h:laidMetH Tryz.prog lE W):Go.aO.lR W:=by
 rw[MakeChecks.laidMetH_plain _ _ _ (by kernel_rfl)]at h
 have aa:laidMet Tryz.prog (("internal/strconv.uint64pow10",Lib.tabData .u64 Lib.pow10Tab)::[("unicode/utf8.acceptRanges",Rows.laid_unicode_utf8_acceptRanges),("unicode/utf8.first",Rows.laid_unicode_utf8_first)]) W:=h.tail.tail
 have v3:Lib.TabIs Tryz.prog W "internal/strconv.uint64pow10" .u64 Lib.pow10Tab:=Lib.tabIs_of_head DZ ag5 Tryz.underlying461 Tryz.underlying365 Zq Zr aa
 have kL:=WS hs ai0 aR8 DZ v3
 intro p hp
 simp only[Go.aO.Bh,List.mem_cons,List.not_mem_nil,or_false]at hp
 subst hp
 exact⟨_,kL,461,_,rfl⟩
mutual
theorem uD {H:Type}: ∀d:DataW H,Go.aO.jI d≤Rows.uptoBulk d
 | .lit l=>by cases l<;>simp [Go.aO.jI,Rows.uptoBulk]
 | .nil=>by simp [Go.aO.jI,Rows.uptoBulk]
 | .ptr d=>by simp [Go.aO.jI,Rows.uptoBulk]
 | .slice sg spare=>by
  have:=Dy sg
  have:=Dy spare
  simp only[Go.aO.jI,Rows.uptoBulk]
  omega
 | .agg parts=>by
  have:=Dy parts
  simp only[Go.aO.jI,Rows.uptoBulk]
  omega
 | .iface _ d=>by simp [Go.aO.jI,Rows.uptoBulk]
 | .map entries=>by simp [Go.aO.jI,Rows.uptoBulk]
 | .held _=>by simp [Go.aO.jI,Rows.uptoBulk]
theorem Dy {H:Type}: ∀l:List (DataW H),Go.aO.n0 l≤Rows.uptoBulkAll l
 |[]=>by simp [Go.aO.n0,Rows.uptoBulkAll]
 |d::r=>by
  have:=uD d
  have:=Dy r
  simp only[Go.aO.n0,Rows.uptoBulkAll]
  omega
end
section
variable {H:Type}{enc:TypeId×Value→H}
theorem E4 {a:Assume}{C:Checked}{os:Os}{f:FuncId}{fn:Func}{s:ChangeSpec}{conds:List PathCond}{apart fresh handsOn again:Bool}{X:World→Array Value→Prop}
  (Bm: ∀(w w':World) (args:Array Value),w.heap=w'.heap→X w args→X w' args)
  (own:ownKnob C.prog.godebug=none) (started:os.Started) (Il:C.prog.inits.idxOf? f=none) (oW:C.prog.funcs[f]? =some fn)
  (witness: ∃(w:World) (tape:Tape) (i:Input),w.os=os∧(w.forCall tape i).Shaped C.prog∧i.vars=[]∧Input.okWide C.prog (w.forCall tape i) .any w.heap.size f i∧
   (((Rows.OpenSpec.upto s).pre enc C.prog fn conds apart (w.forCall tape i).memory i.args∧X (w.forCall tape i).memory i.args)∧sizedMet enc C.prog fn (Rows.OpenSpec.upto s) apart (w.forCall tape i).memory i.args)∧a.holds C.prog (lone (Frame.enter C.prog f i.args .normal) [] (w.forCall tape i)))
  (contract: ∀(W:World) (base:Nat) (args:Array Value) (gv gs:List (DataW H)) (before:List MemPlace),
   (∀(j:Nat) t v,fn.params[j]? =some t→args[j]? =some v→Value.okWide C.prog W .any base t v)→
   DataW.Whole enc C.prog fn.params.toList s.vars apart W args.toList gv gs before→
   (DataW.weightsEach C.prog (fn.params.toList++s.plain.varTypes C.prog) (gv++gs)).all (·≤reachBytes)=true→
   Rows.uptoBulkAll (gv++gs)≤1048576→
   X W args→W.ShapedOpen C.prog→
   Calls C.prog f args W fun e tj=> ∃v,e= .returned v∧s.post enc C.prog fn apart fresh handsOn again W args v tj):
  ReturnsInHanded a C os f .any (fun w args=>((Rows.OpenSpec.upto s).pre enc C.prog fn conds apart w args∧X w args)∧sizedMet enc C.prog fn (Rows.OpenSpec.upto s) apart w args) (s.post enc C.prog fn apart fresh handsOn again):=by
 refine returnsInHanded_of_calls own started Il witness ?_
 intro w tape i _ BE _ iT wK _
 obtain⟨_,_,_,G2,HB,_,_,_,_,l0⟩:=iT
 obtain rfl:G2=fn:=Option.some.inj (HB.symm.trans oW)
 obtain⟨⟨⟨gv,gs,before,hw,_,aw⟩,ab⟩,aG⟩:=wK
 have qe:Rows.uptoBulkAll (gv++gs)≤1048576:=of_decide_eq_true aw
 have BH:=DataW.Whole.of_heap (w':=w.forCall tape i) (by rfl) hw
 refine (contract (w.forCall tape i) w.heap.size i.args gv gs before l0 BH (aG.weights hw) qe (Bm _ _ _ (by rfl) ab) BE).mono fun e tj ⟨v,he,hp⟩=> ?_
 subst he
 exact ChangeSpec.post_blind hp
def IM (enc:TypeId×Value→H) (P:Program) (f:Func) (s:ChangeSpec) (conds:List PathCond) (apart:Bool) (w:World) (args:Array Value) (kR:Nat):Bool:=
 match DataW.whole enc P w f.params.toList s.vars apart args.toList kR with
 |some x=>conds.all (PathCond.test P ⟨f.params.toList,x.1,s.plain.varTypes P,x.2.1⟩)&&decide (Rows.uptoBulkAll (x.1++x.2.1)≤1048576)
 |none=>false
theorem aI8 {P:Program}{w:World}{f:Func}{s:ChangeSpec}{conds:List PathCond}{apart:Bool}{args:Array Value}{kR:Nat}(h:IM enc P f s conds apart w args kR=true):(Rows.OpenSpec.upto s).pre enc P f conds apart w args:=by
 unfold IM at h
 split at h
 ·rename_i x ab
  rw[Bool.and_eq_true]at h
  exact⟨x.1,x.2.1,x.2.2,DataW.Whole_of_whole ab,h.1,h.2⟩
 ·cases h
theorem Fm {C:Checked}{os:Os}{f:FuncId}{fn:Func}{s:ChangeSpec}{conds:List PathCond}{apart:Bool}{X:World→Array Value→Prop}(modest:Bool) (q2:World) (args:Array Value) (kR:Nat) (u1:q2.os=os)
  (BE:(q2.forCall (fun _ _=>0) ⟨#[],args,[]⟩).Shaped C.prog)
  (iT:Input.okWideB C.prog (q2.forCall (fun _ _=>0) ⟨#[],args,[]⟩) f ⟨#[],args,[]⟩=true)
  (wK:IM enc C.prog fn s conds apart (q2.forCall (fun _ _=>0) ⟨#[],args,[]⟩).memory args kR=true)
  (dq:s.sizedB enc C.prog fn apart (q2.forCall (fun _ _=>0) ⟨#[],args,[]⟩).memory args kR=true)
  (ab:X (q2.forCall (fun _ _=>0) ⟨#[],args,[]⟩).memory args):
  ∃(w:World) (tape:Tape) (i:Input),w.os=os∧(w.forCall tape i).Shaped C.prog∧i.vars=[]∧Input.okWide C.prog (w.forCall tape i) .any w.heap.size f i∧
   (((Rows.OpenSpec.upto s).pre enc C.prog fn conds apart (w.forCall tape i).memory i.args∧X (w.forCall tape i).memory i.args)∧sizedMet enc C.prog fn (Rows.OpenSpec.upto s) apart (w.forCall tape i).memory i.args)∧({modest:=modest}:Assume).holds C.prog (lone (Frame.enter C.prog f i.args .normal) [] (w.forCall tape i)):=
 ⟨q2,fun _ _=>0,⟨#[],args,[]⟩,u1,BE,(Input.okWide_of_okWideB (base:=0) iT).1,(Input.okWide_of_okWideB iT).2,⟨⟨aI8 wK,ab⟩,sizedMet_of_sizedB dq⟩,by
  simp only[Assume.holds]
  exact⟨by simp,by simp,fun _=>Modest.zero,by simp,by simp⟩⟩
end
end Go.Proofs.YtlemhelnmidpfaaGreatDoor
