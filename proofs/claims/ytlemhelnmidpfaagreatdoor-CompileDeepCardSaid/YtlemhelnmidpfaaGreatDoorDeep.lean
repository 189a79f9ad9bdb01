/- 'Rows.CompileDeepCardSaid': for all inputs the law returns true; the listed variables are tied to the program's text. No other condition. -/
import Derived.Test.YtlemhelnmidpfaaGreatDoorRows
import Derived.Test.YtlemhelnmidpfaaGreatDoorTie
import Derived.Test.YtlemhelnmidpfaaGreatDoorCards
import Derived.SevenTiedAt
import Derived.WalkKit
import Derived.ProofKit
import Derived.OpenShut
import Derived.ShutString
import Derived.ChangeMaps5
import Derived.ChangeOld
import Derived.ChangeSame
import Derived.LaidMore
import Derived.Stop.Joined
import Derived.Below
import Derived.Test.YtlemhelnmidpfaaGreatDoorODeep
set_option linter.unusedVariables false
set_option linter.unusedSimpArgs false
namespace Go.Proofs.YtlemhelnmidpfaaGreatDoor.compileDeepDone
open Go.ChangeShapes Go.WideShapes Go.ChangeAt Go.RowKit
open Go.ChangeMaps (open_string shut_string)
theorem own:ownKnob Tryz.prog.godebug=none:=by kernel_rfl
theorem laidOut:laidOutB Tryz.prog=true:=tU
theorem walk (fb:List Int) (v0:Value) (w:World) (a7:Go.aO.lR w) (nd: ∀m:Go.aO.Mem,m.w=w→m.H=Go.aO.aA.none→Go.aO.aP m (.af 1 (fb.map Go.aO.T.N.kc)) v0) (ln:fb.length≤140737488355328∧∀n∈fb,0≤n∧n<256):Calls Tryz.prog 5 #[v0] w fun e w'=>e= .returned (.bool true)∧Below w.heap.size w w':=by
 refine (Go.aO.AO (Go.aO.T.N.bc9 fb ln) w [v0] a7 (fun m hw eO=> ?_)).mono ?_
 ·simp only[Go.aO.aR]
  exact⟨_,_,rfl,nd m hw eO,rfl⟩
 rintro e w' ⟨⟨v,rfl,m,ae⟩,hb⟩
 simp only[Go.aO.aP]at ae
 subst ae
 exact⟨rfl,hb⟩
set_option maxRecDepth 100000 in
theorem lifted (os:Os) (started:os.Started) (H:Type) (enc:TypeId×Value→H):
  ReturnsInHanded {} Tryz.checked os 5 .any (fun w args=>(Rows.compileDeepSpec.pre enc Tryz.prog Tryz.f5 [] false w args∧laidMetH Tryz.prog lE w)∧sizedMet enc Tryz.prog Tryz.f5 (OpenSpec.ofChange Rows.compileDeepSpec) false w args)
   (Rows.compileDeepSpec.post enc Tryz.prog Tryz.f5 false true false false):=by
 refine aR4 (C:=Tryz.checked) (X:=fun w _=>laidMetH Tryz.prog lE w) (fun _ _ _ a8 h=>h.of_heap a8) own started (by kernel_rfl) Tryz.func5
  (ChangeSpec.witness_shaped (enc:=enc) (C:=Tryz.checked) (os:=os) (X:=fun w _=>laidMetH Tryz.prog lE w) false (World.laidAll Tryz.prog os lE) #[.slice none 0 0] 8 (World.laidAll_os _ _ _) (World.shaped_of_ZipB (by kernel_rfl) (by kernel_rfl)) (by kernel_rfl) (by kernel_rfl) (by kernel_rfl) (A0 os _)) ?_
 intro W base args gv gs before qi p6 p8 dX uP
 have l0: ∀(j:Nat) t v,Tryz.f5.params[j]? =some t→args[j]? =some v→Value.okWide Tryz.prog W .any base t v:=qi
 have p7:=p6
 obtain⟨p,q,p5,jB,rfl,Eb,Ej⟩:=p6
 have eh:DataW.TrodAll enc Tryz.prog W 0 (fun _=>true) true Tryz.f5.params.toList args.toList gv p:=p5
 have qE:Tryz.f5.params.toList=[65]:=by rw[Tryz.params5]
 have uQ:(DataW.weightsEach Tryz.prog (Tryz.f5.params.toList++Rows.compileDeepSpec.plain.varTypes Tryz.prog) (gv++gs)).all (·≤reachBytes)=true:=p8
 rw[Tryz.params5]at eh l0
 obtain⟨v0,Fk,d0,DC,vo,fb,qa,rfl,rfl,aU,iH⟩:=trodAll_cons eh
 obtain⟨rfl,rfl,rfl⟩:=trodAll_nil iH
 obtain rfl:args= #[v0]:=by cases args; simp_all
 obtain⟨rfl,rfl⟩:=trodVars_none jB
 have dq:=fun n aW=>of_decide_eq_true (List.all_eq_true.1 uQ n aW)
 have kS:=aU
 have vk: ∀x∈vo,x.block<W.heap.size:=by obtain⟨m,hm⟩:=kS; exact DataW.trod_lt m _ _ _ hm
 obtain⟨fb,ln,nd⟩:=Go.aO.T.N.aF5 (R:=reachBytes) (fun n aW=>dq n (by simp only[qE,List.cons_append,List.nil_append,List.append_nil,DataW.weightsEach,List.mem_append]; exact (.inl aW))) (l0 0 65 v0 rfl rfl) aU (by decide)
 clear p5 qi
 simp only[List.append_nil]at p7
 refine (walk fb v0 W (Bg uP dX) nd ln.1).mono fun e tj ⟨he,nT⟩=> ?_
 subst he
 exact⟨_,rfl,_,_,_,[],_,[],p7,trodAll_mk1 (shut_bool Tryz.underlying4 _),(trodAll_cons_mk (Below.trod laidOut (by kernel_rfl) (of_decide_eq_true (by kernel_rfl)) kS nT vk) trodAll_mk0),rfl,nT.frame _,fun h=>by cases h⟩
theorem ve:(Rows.compileDeepRow.inPlace==Tryz.prog.inPlace 5)=true:=by kernel_rfl
theorem vi:(Rows.compileDeepRow.unfollowed==Tryz.prog.unfollowed 5)=true:=by kernel_rfl
theorem vh:(Rows.compileDeepRow.recurses==Tryz.prog.recurses 5)=true:=by kernel_rfl
theorem vf:(Rows.compileDeepRow.named==Tryz.prog.varsNamed 5)=true:=by kernel_rfl
theorem closed:joinedFacts Tryz.prog 5 Tryz.f5 Rows.compileDeepSpec Rows.compileDeepRow=true:=by
 unfold joinedFacts
 simp only[Bool.and_eq_true]
 exact⟨⟨⟨⟨⟨⟨⟨⟨⟨⟨⟨⟨⟨⟨⟨⟨⟨⟨⟨⟨⟨⟨⟨⟨⟨⟨⟨⟨⟨⟨⟨by kernel_rfl,tU⟩,BV⟩,by kernel_rfl⟩,by kernel_rfl⟩,by kernel_rfl⟩,by kernel_rfl⟩,by kernel_rfl⟩,by kernel_rfl⟩,ve⟩,vi⟩,vh⟩,vf⟩,by kernel_rfl⟩,by kernel_rfl⟩,by kernel_rfl⟩,by kernel_rfl⟩,by kernel_rfl⟩,by kernel_rfl⟩,by kernel_rfl⟩,by kernel_rfl⟩,by kernel_rfl⟩,BY⟩,by kernel_rfl⟩,BZ⟩,BW⟩,BR⟩,BX⟩,by kernel_rfl⟩,by kernel_rfl⟩,by kernel_rfl⟩,by kernel_rfl⟩
theorem over:Rows.compileDeepRow.holds Tryz.pinned (OpenSpec.ofChange Rows.compileDeepSpec):=
 OpenClaim.holds_of_wide 5 Tryz.f5 rfl rfl rfl rfl rfl rfl rfl ⟨rfl,rfl,rfl,rfl,rfl⟩ rfl rfl rfl rfl rfl (by kernel_rfl) Tryz.func5 closed
  (of_decide_eq_true (by kernel_rfl)) (by unfold Func.isWrapper; first|(rw[if_pos (by decide+kernel)]; kernel_rfl)|(rw[if_neg (by decide+kernel)]; exact⟨rfl,rfl⟩))
  (fun os started H enc _=>lifted os started H enc)
theorem vj:Rows.compileDeepRow.wfByText (OpenSpec.ofChange Rows.compileDeepSpec)=true:=by kernel_rfl
theorem vc:false=Rows.compileDeepRow.goesBy Tryz.prog:=by kernel_rfl
theorem vg:Tryz.prog.funcNamed "farandole/farandolelaw36.CompileDeep" =some 5:=by kernel_rfl
set_option maxRecDepth 1000000 in
theorem vd (f:FuncId) (fn:Func) (hf:Tryz.prog.funcNamed "farandole/farandolelaw36.CompileDeep" =some f) (oW:Tryz.prog.funcs[f]? =some fn):true=Tryz.prog.looks []∧∀(j:Nat) t,fn.params[j]? =some t→Tryz.prog.wantsStandIn t=false:=by
 obtain rfl:f=5:=Option.some.inj (vg.symm.trans hf)|>.symm
 obtain rfl:fn=Tryz.f5:=(Option.some.inj (Tryz.func5.symm.trans oW)).symm
 refine⟨BS,fun j t ht=> ?_⟩
 rw[Tryz.params5]at ht
 rcases j with _| _| _| _|j<;>simp at ht<;>subst ht<;>exact (by kernel_rfl)
set_option maxHeartbeats 4000000 in
set_option maxRecDepth 1000000 in
theorem proved:Rows.CompileDeepCardSaid:=
 Claim7.holds_tied_plain_at .later [] [.data,.data,.data,.data,.pinned] true (true, "87ea50258b8265b99990d4b3a2e0df37b48b7d724cb80ad0cda4334fcb97a953") true
  over (fun _ h=>by cases h) vj (fun _ h=>by cases h) compileDeep_row_tie rfl ⟨rfl,rfl⟩ BU rfl
  vd vc
#print axioms proved
end Go.Proofs.YtlemhelnmidpfaaGreatDoor.compileDeepDone
