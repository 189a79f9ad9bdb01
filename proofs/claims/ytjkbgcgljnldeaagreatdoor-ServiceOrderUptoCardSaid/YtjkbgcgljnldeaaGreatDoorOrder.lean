/- 'Rows.ServiceOrderUptoCardSaid': for all inputs the law returns true; the listed variables are tied to the program's text. No other condition. -/
import Derived.Test.YtjkbgcgljnldeaaGreatDoorRows
import Derived.Test.YtjkbgcgljnldeaaGreatDoorTie
import Derived.Test.YtjkbgcgljnldeaaGreatDoorCards
import Derived.SevenTiedAt
import Derived.WalkKit
import Derived.ProofKit
import Derived.OpenShut
import Derived.ShutString
import Derived.ChangeMaps5
import Derived.ChangeOld
import Derived.ChangeSame
import Derived.LaidMore
import Derived.Stop.Joined
import Derived.Below
import Derived.Test.YtjkbgcgljnldeaaGreatDoorRS13
set_option linter.unusedVariables false
set_option linter.unusedSimpArgs false
namespace Go.Proofs.YtjkbgcgljnldeaaGreatDoor.serviceOrderDone
open Go.ChangeShapes Go.WideShapes Go.ChangeAt Go.RowKit
open Go.ChangeMaps (open_string shut_string)
theorem own:ownKnob Tryz.prog.godebug=none:=by kernel_rfl
theorem laidOut:laidOutB Tryz.prog=true:=by kernel_rfl
theorem walk (kS:Go.bc.e9) (v0:Value) (fN:Int) (w:World) (aY:Go.bc.nv w) (CQ: ∀m:Go.bc.Mem,m.w=w→m.H=Go.bc.aA.none→Go.bc.aR m (kS.ir) v0) (zJ:kS.ok reachBytes) (CG:Go.bc.iI kS.cells≤1048576) (pn:(Lit.int .u8 fN).wf=true):Calls Tryz.prog 9 #[v0,.int .u8 fN] w fun e w'=>e= .returned (.bool true)∧Below w.heap.size w w':=by
 refine (Go.bc.V2 (Go.bc.T.N.ax8 kS zJ CG fN pn) w [v0,.int .u8 fN] aY (fun m hw eD=> ?_)).mono ?_
 ·simp only[Go.bc.aS]
  exact⟨_,_,rfl,CQ m hw eD,_,_,rfl,by simp only[Go.bc.aR],rfl⟩
 rintro e w' ⟨⟨v,rfl,m,af⟩,hb⟩
 simp only[Go.bc.aR]at af
 subst af
 exact⟨rfl,hb⟩
set_option maxRecDepth 100000 in
theorem lifted (os:Os) (started:os.Started) (H:Type) (enc:TypeId×Value→H):
  ReturnsInHanded {} Tryz.checked os 9 .any (fun w args=>((Rows.OpenSpec.upto Rows.serviceOrderSpec).pre enc Tryz.prog Tryz.f9 [] false w args∧laidMetH Tryz.prog vF w)∧sizedMet enc Tryz.prog Tryz.f9 (Rows.OpenSpec.upto Rows.serviceOrderSpec) false w args)
   (Rows.serviceOrderSpec.post enc Tryz.prog Tryz.f9 false true false false):=by
 refine ay6 (C:=Tryz.checked) (X:=fun w _=>laidMetH Tryz.prog vF w) (fun _ _ _ bh h=>h.of_heap bh) own started (by kernel_rfl) Tryz.func9
  (aM5 (enc:=enc) (C:=Tryz.checked) (os:=os) (X:=fun w _=>laidMetH Tryz.prog vF w) false (World.laidAll Tryz.prog os vF) #[.agg #[.string ByteArray.empty,.string ByteArray.empty,.string ByteArray.empty,.slice none 0 0,.slice none 0 0,.slice none 0 0],.int .u8 0] 8 (World.laidAll_os _ _ _) (World.shaped_of_ZipB (by kernel_rfl) (by kernel_rfl)) (by kernel_rfl) (by kernel_rfl) (by kernel_rfl) (Xa os _)) ?_
 intro W base args iZ gs before Md yM w9 Yr ek Yu
 have Bz: ∀(j:Nat) t v,Tryz.f9.params[j]? =some t→args[j]? =some v→Value.okWide Tryz.prog W .any base t v:=Md
 have Lq:=yM
 obtain⟨p,q,Lk,ol,rfl,aQ0,LZ⟩:=yM
 have fa:DataW.TrodAll enc Tryz.prog W 0 (fun _=>true) true Tryz.f9.params.toList args.toList iZ p:=Lk
 have ZH:Tryz.f9.params.toList=[35,5]:=by rw[Tryz.params9]
 have Yw:(DataW.weightsEach Tryz.prog (Tryz.f9.params.toList++Rows.serviceOrderSpec.plain.varTypes Tryz.prog) (iZ++gs)).all (·≤reachBytes)=true:=w9
 rw[Tryz.params9]at fa Bz
 obtain⟨v0,aT1,d0,aO9,BU,kS,rP,rfl,rfl,aw,jP⟩:=trodAll_cons fa
 obtain⟨v1,aX8,d1,aH9,fR,cI,rfl,rfl,rfl,J,bO⟩:=trodAll_cons jP
 obtain⟨rfl,rfl,rfl⟩:=trodAll_nil bO
 obtain rfl:args= #[v0,v1]:=by cases args; simp_all
 obtain⟨rfl,rfl⟩:=trodVars_none ol
 have dm:=fun n a6=>of_decide_eq_true (List.all_eq_true.1 Yw n a6)
 have s4:=aw
 have aj2: ∀x∈BU,x.block<W.heap.size:=by obtain⟨m,hm⟩:=s4; exact DataW.trod_lt m _ _ _ hm
 obtain⟨kS,zJ,CQ⟩:=Go.bc.T.N.am2 (R:=reachBytes) (fun n a6=>dm n (by simp only[ZH,List.cons_append,List.nil_append,List.append_nil,DataW.weightsEach,List.mem_append]; exact (.inl a6))) (Bz 0 35 v0 rfl rfl) aw
 have CG:Go.bc.iI kS.cells≤1048576:=by
  have g1:=zJ.2
  have g2:=Is d0
  have g3:=Yr
  simp only[List.append_nil,List.cons_append,List.nil_append,Rows.uptoBulkAll]at g3
  omega
 obtain⟨fN,rfl,rfl,rfl,pn⟩:=open_int Tryz.underlying5 (Bz 1 5 v1 rfl rfl) J
 clear Lk Md
 simp only[List.append_nil]at Lq
 refine (walk kS v0 fN W (X6 Yu ek) CQ zJ.1 CG pn).mono fun e CV ⟨he,Hs⟩=> ?_
 subst he
 exact⟨_,rfl,_,_,_,[],_,[],Lq,trodAll_mk1 (shut_bool Tryz.underlying4 _),(trodAll_cons_mk (Below.trod laidOut (by kernel_rfl) (of_decide_eq_true (by kernel_rfl)) s4 Hs aj2) (trodAll_cons_mk (shut_int Tryz.underlying5 pn) trodAll_mk0)),rfl,Hs.frame _,fun h=>by cases h⟩
theorem over:Rows.serviceOrderUptoRow.holds Tryz.pinned (Rows.OpenSpec.upto Rows.serviceOrderSpec):=
 OpenClaim.holds_of_cond 9 Tryz.f9 rfl rfl rfl rfl rfl rfl rfl ⟨rfl,rfl,rfl,rfl,rfl⟩ rfl rfl rfl rfl rfl (by kernel_rfl) Tryz.func9 (by kernel_rfl)
  (of_decide_eq_true (by kernel_rfl)) (by unfold Func.isWrapper; first|(rw[if_pos (by decide+kernel)]; kernel_rfl)|(rw[if_neg (by decide+kernel)]; exact⟨rfl,rfl⟩))
  (fun os started H enc _ _=>lifted os started H enc)
set_option maxRecDepth 1000000 in
theorem proved:Rows.ServiceOrderUptoCardSaid:=
 Claim7.holds_tied_plain_at .later [] [.data,.data,.data,.data,.pinned] true (true, "b18f9cdbc4b8fdf7debfa3439e6aac50da26924336a3cc5c01cdde5858bb05e5") true
  over (fun _ h=>by cases h) (by kernel_rfl) (fun _ h=>by cases h) serviceOrderUpto_row_tie rfl ⟨rfl,rfl⟩ (by kernel_rfl) rfl
  (fun f fn aW xi=>by
   obtain rfl:f=9:=Option.some.inj ((show Tryz.prog.funcNamed "farandole/farandolelaw33.ServiceOrder" =some 9 by kernel_rfl).symm.trans aW)|>.symm
   obtain rfl:fn=Tryz.f9:=(Option.some.inj (Tryz.func9.symm.trans xi)).symm
   refine⟨by kernel_rfl,fun j t aO=> ?_⟩
   rw[Tryz.params9]at aO
   rcases j with _| _| _| _|j<;>simp at aO<;>subst aO<;>exact (by kernel_rfl))
  (by kernel_rfl)
#print axioms proved
end Go.Proofs.YtjkbgcgljnldeaaGreatDoor.serviceOrderDone
