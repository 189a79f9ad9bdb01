/- 'Rows.TypesOrderUptoCardSaid': for all inputs the law returns true; the listed variables are tied to the program's text. No other condition. -/
import Derived.Test.YtlemhelnmidpfaaGreatDoorRows
import Derived.Test.YtlemhelnmidpfaaGreatDoorTie
import Derived.Test.YtlemhelnmidpfaaGreatDoorCards
import Derived.SevenTiedAt
import Derived.WalkKit
import Derived.ProofKit
import Derived.OpenShut
import Derived.ShutString
import Derived.ChangeMaps5
import Derived.ChangeOld
import Derived.ChangeSame
import Derived.LaidMore
import Derived.Stop.Joined
import Derived.Below
import Derived.Test.YtlemhelnmidpfaaGreatDoorOOrder1
set_option linter.unusedVariables false
set_option linter.unusedSimpArgs false
namespace Go.Proofs.YtlemhelnmidpfaaGreatDoor.typesOrderDone
open Go.ChangeShapes Go.WideShapes Go.ChangeAt Go.RowKit
open Go.ChangeMaps (open_string shut_string)
theorem own:ownKnob Tryz.prog.godebug=none:=by kernel_rfl
theorem laidOut:laidOutB Tryz.prog=true:=tU
theorem walk (fb:Go.aO.b3) (v0:Value) (b0:Go.aO.cd) (v1:Value) (w:World) (a7:Go.aO.lR w) (nd: ∀m:Go.aO.Mem,m.w=w→m.H=Go.aO.aA.none→Go.aO.aP m (fb.cQ) v0) (ln:fb.ok reachBytes) (pd:Go.aO.cG fb.cells≤1048576) (kK: ∀m:Go.aO.Mem,m.w=w→m.H=Go.aO.aA.none→Go.aO.aP m (b0.cQ) v1) (pc:True) (mi:Go.aO.cG b0.cells≤1048576):Calls Tryz.prog 11 #[v0,v1] w fun e w'=>e= .returned (.bool true)∧Below w.heap.size w w':=by
 refine (Go.aO.AO (Go.aO.T.N.bb2 fb b0 ln pd mi) w [v0,v1] a7 (fun m hw eO=> ?_)).mono ?_
 ·simp only[Go.aO.aR]
  exact⟨_,_,rfl,nd m hw eO,_,_,rfl,kK m hw eO,rfl⟩
 rintro e w' ⟨⟨v,rfl,m,ae⟩,hb⟩
 simp only[Go.aO.aP]at ae
 subst ae
 exact⟨rfl,hb⟩
set_option maxRecDepth 100000 in
theorem lifted (os:Os) (started:os.Started) (H:Type) (enc:TypeId×Value→H):
  ReturnsInHanded {} Tryz.checked os 11 .any (fun w args=>((Rows.OpenSpec.upto Rows.typesOrderSpec).pre enc Tryz.prog Tryz.f11 [] false w args∧laidMetH Tryz.prog lE w)∧sizedMet enc Tryz.prog Tryz.f11 (Rows.OpenSpec.upto Rows.typesOrderSpec) false w args)
   (Rows.typesOrderSpec.post enc Tryz.prog Tryz.f11 false true false false):=by
 refine E4 (C:=Tryz.checked) (X:=fun w _=>laidMetH Tryz.prog lE w) (fun _ _ _ a8 h=>h.of_heap a8) own started (by kernel_rfl) Tryz.func11
  (Fm (enc:=enc) (C:=Tryz.checked) (os:=os) (X:=fun w _=>laidMetH Tryz.prog lE w) false (World.laidAll Tryz.prog os lE) #[.agg #[.string ByteArray.empty,.string ByteArray.empty,.string ByteArray.empty,.slice none 0 0,.slice none 0 0,.slice none 0 0],.agg #[.string ByteArray.empty,.slice none 0 0,.slice none 0 0,.int .i64 0,.int .i64 0,.int .i64 0,.slice none 0 0,.slice none 0 0]] 8 (World.laidAll_os _ _ _) (World.shaped_of_ZipB (by kernel_rfl) (by kernel_rfl)) (by kernel_rfl) (by kernel_rfl) (by kernel_rfl) (A0 os _)) ?_
 intro W base args gv gs before qi p6 p8 sp dX uP
 have l0: ∀(j:Nat) t v,Tryz.f11.params[j]? =some t→args[j]? =some v→Value.okWide Tryz.prog W .any base t v:=qi
 have p7:=p6
 obtain⟨p,q,p5,jB,rfl,Eb,Ej⟩:=p6
 have eh:DataW.TrodAll enc Tryz.prog W 0 (fun _=>true) true Tryz.f11.params.toList args.toList gv p:=p5
 have qE:Tryz.f11.params.toList=[26,32]:=by rw[Tryz.params11]
 have uQ:(DataW.weightsEach Tryz.prog (Tryz.f11.params.toList++Rows.typesOrderSpec.plain.varTypes Tryz.prog) (gv++gs)).all (·≤reachBytes)=true:=p8
 rw[Tryz.params11]at eh l0
 obtain⟨v0,Fk,d0,DC,vo,fb,qa,rfl,rfl,aU,iH⟩:=trodAll_cons eh
 obtain⟨v1,Ke,d1,Gu,jt,b0,rfl,rfl,rfl,U,cu⟩:=trodAll_cons iH
 obtain⟨rfl,rfl,rfl⟩:=trodAll_nil cu
 obtain rfl:args= #[v0,v1]:=by cases args; simp_all
 obtain⟨rfl,rfl⟩:=trodVars_none jB
 have dq:=fun n aW=>of_decide_eq_true (List.all_eq_true.1 uQ n aW)
 have kS:=aU
 have vk: ∀x∈vo,x.block<W.heap.size:=by obtain⟨m,hm⟩:=kS; exact DataW.trod_lt m _ _ _ hm
 obtain⟨fb,ln,nd⟩:=Go.aO.T.N.EI (R:=reachBytes) (fun n aW=>dq n (by simp only[qE,List.cons_append,List.nil_append,List.append_nil,DataW.weightsEach,List.mem_append]; exact (.inl aW))) (l0 0 26 v0 rfl rfl) aU
 have pd:Go.aO.cG fb.cells≤1048576:=by
  have g1:=ln.2
  have g2:=uD d0
  have g3:=sp
  simp only[List.append_nil,List.cons_append,List.nil_append,Rows.uptoBulkAll]at g3
  omega
 have bf:=U
 have yf: ∀x∈jt,x.block<W.heap.size:=by obtain⟨m,hm⟩:=bf; exact DataW.trod_lt m _ _ _ hm
 obtain⟨b0,pc,kK⟩:=Go.aO.T.N.EJ (R:=reachBytes) (fun n aW=>dq n (by simp only[qE,List.cons_append,List.nil_append,List.append_nil,DataW.weightsEach,List.mem_append]; exact (.inr (.inl aW)))) (l0 1 32 v1 rfl rfl) U
 have mi:Go.aO.cG b0.cells≤1048576:=by
  have g1:=pc.2
  have g2:=uD d1
  have g3:=sp
  simp only[List.append_nil,List.cons_append,List.nil_append,Rows.uptoBulkAll]at g3
  omega
 clear p5 qi
 simp only[List.append_nil]at p7
 refine (walk fb v0 b0 v1 W (Bg uP dX) nd ln.1 pd kK pc.1 mi).mono fun e tj ⟨he,nT⟩=> ?_
 subst he
 exact⟨_,rfl,_,_,_,[],_,[],p7,trodAll_mk1 (shut_bool Tryz.underlying4 _),(trodAll_cons_mk (Below.trod laidOut (by kernel_rfl) (of_decide_eq_true (by kernel_rfl)) kS nT vk) (trodAll_cons_mk (Below.trod laidOut (by kernel_rfl) (of_decide_eq_true (by kernel_rfl)) bf nT yf) trodAll_mk0)),rfl,nT.frame _,fun h=>by cases h⟩
theorem ve:(Rows.typesOrderUptoRow.inPlace==Tryz.prog.inPlace 11)=true:=by kernel_rfl
theorem vi:(Rows.typesOrderUptoRow.unfollowed==Tryz.prog.unfollowed 11)=true:=by kernel_rfl
theorem vh:(Rows.typesOrderUptoRow.recurses==Tryz.prog.recurses 11)=true:=by kernel_rfl
theorem vf:(Rows.typesOrderUptoRow.named==Tryz.prog.varsNamed 11)=true:=by kernel_rfl
theorem closed:joinedFacts Tryz.prog 11 Tryz.f11 (Rows.OpenSpec.upto Rows.typesOrderSpec).bare Rows.typesOrderUptoRow=true:=by
 unfold joinedFacts
 simp only[Bool.and_eq_true]
 exact⟨⟨⟨⟨⟨⟨⟨⟨⟨⟨⟨⟨⟨⟨⟨⟨⟨⟨⟨⟨⟨⟨⟨⟨⟨⟨⟨⟨⟨⟨⟨by kernel_rfl,tU⟩,BV⟩,by kernel_rfl⟩,by kernel_rfl⟩,by kernel_rfl⟩,by kernel_rfl⟩,by kernel_rfl⟩,by kernel_rfl⟩,ve⟩,vi⟩,vh⟩,vf⟩,by kernel_rfl⟩,by kernel_rfl⟩,by kernel_rfl⟩,by kernel_rfl⟩,by kernel_rfl⟩,by kernel_rfl⟩,by kernel_rfl⟩,by kernel_rfl⟩,by kernel_rfl⟩,BY⟩,by kernel_rfl⟩,BZ⟩,BW⟩,BR⟩,BX⟩,by kernel_rfl⟩,by kernel_rfl⟩,by kernel_rfl⟩,by kernel_rfl⟩
theorem over:Rows.typesOrderUptoRow.holds Tryz.pinned (Rows.OpenSpec.upto Rows.typesOrderSpec):=
 OpenClaim.holds_of_cond 11 Tryz.f11 rfl rfl rfl rfl rfl rfl rfl ⟨rfl,rfl,rfl,rfl,rfl⟩ rfl rfl rfl rfl rfl (by kernel_rfl) Tryz.func11 closed
  (of_decide_eq_true (by kernel_rfl)) (by unfold Func.isWrapper; first|(rw[if_pos (by decide+kernel)]; kernel_rfl)|(rw[if_neg (by decide+kernel)]; exact⟨rfl,rfl⟩))
  (fun os started H enc _ _=>lifted os started H enc)
theorem vj:Rows.typesOrderUptoRow.wfByText (Rows.OpenSpec.upto Rows.typesOrderSpec)=true:=by kernel_rfl
theorem vc:false=Rows.typesOrderUptoRow.goesBy Tryz.prog:=by kernel_rfl
theorem vg:Tryz.prog.funcNamed "farandole/farandolelaw34.TypesOrder" =some 11:=by kernel_rfl
set_option maxRecDepth 1000000 in
theorem vd (f:FuncId) (fn:Func) (hf:Tryz.prog.funcNamed "farandole/farandolelaw34.TypesOrder" =some f) (oW:Tryz.prog.funcs[f]? =some fn):true=Tryz.prog.looks []∧∀(j:Nat) t,fn.params[j]? =some t→Tryz.prog.wantsStandIn t=false:=by
 obtain rfl:f=11:=Option.some.inj (vg.symm.trans hf)|>.symm
 obtain rfl:fn=Tryz.f11:=(Option.some.inj (Tryz.func11.symm.trans oW)).symm
 refine⟨BS,fun j t ht=> ?_⟩
 rw[Tryz.params11]at ht
 rcases j with _| _| _| _|j<;>simp at ht<;>subst ht<;>exact (by kernel_rfl)
set_option maxHeartbeats 4000000 in
set_option maxRecDepth 1000000 in
theorem proved:Rows.TypesOrderUptoCardSaid:=
 Claim7.holds_tied_plain_at .later [] [.data,.data,.data,.data,.pinned] true (true, "87ea50258b8265b99990d4b3a2e0df37b48b7d724cb80ad0cda4334fcb97a953") true
  over (fun _ h=>by cases h) vj (fun _ h=>by cases h) typesOrderUpto_row_tie rfl ⟨rfl,rfl⟩ BU rfl
  vd vc
#print axioms proved
end Go.Proofs.YtlemhelnmidpfaaGreatDoor.typesOrderDone
