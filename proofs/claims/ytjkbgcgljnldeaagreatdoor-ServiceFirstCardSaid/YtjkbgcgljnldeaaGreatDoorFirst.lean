/- 'Rows.ServiceFirstCardSaid': for all inputs the law returns true; the listed variables are tied to the program's text. No other condition. -/
import Derived.Test.YtjkbgcgljnldeaaGreatDoorRows
import Derived.Test.YtjkbgcgljnldeaaGreatDoorTie
import Derived.Test.YtjkbgcgljnldeaaGreatDoorCards
import Derived.SevenTiedAt
import Derived.WalkKit
import Derived.ProofKit
import Derived.OpenShut
import Derived.ShutString
import Derived.ChangeMaps5
import Derived.ChangeOld
import Derived.ChangeSame
import Derived.LaidMore
import Derived.Stop.Joined
import Derived.Below
import Derived.Test.YtjkbgcgljnldeaaGreatDoorVS12
set_option linter.unusedVariables false
set_option linter.unusedSimpArgs false
namespace Go.Proofs.YtjkbgcgljnldeaaGreatDoor.serviceFirstDone
open Go.ChangeShapes Go.WideShapes Go.ChangeAt Go.RowKit
open Go.ChangeMaps (open_string shut_string)
theorem own:ownKnob Tryz.prog.godebug=none:=by kernel_rfl
theorem walk (a0:ByteArray) (fN:ByteArray) (w:World) (aY:Go.bc.nv w) (wi:a0.size≤maxLen) (pn:fN.size≤maxLen):Calls Tryz.prog 10 #[.string a0,.string fN] w fun e w'=>e= .returned (.bool true)∧Below w.heap.size w w':=by
 refine (Go.bc.V2 (Go.bc.T.N.wv a0 fN) w [.string a0,.string fN] aY (fun m hw eD=> ?_)).mono ?_
 ·simp only[Go.bc.aS]
  exact⟨_,_,rfl,by simp only[Go.bc.aR]; exact⟨by first|trivial|rfl,wi⟩,_,_,rfl,by simp only[Go.bc.aR]; exact⟨by first|trivial|rfl,pn⟩,rfl⟩
 rintro e w' ⟨⟨v,rfl,m,af⟩,hb⟩
 simp only[Go.bc.aR]at af
 subst af
 exact⟨rfl,hb⟩
set_option maxRecDepth 100000 in
theorem lifted (os:Os) (started:os.Started) (H:Type) (enc:TypeId×Value→H):
  ReturnsInHanded {} Tryz.checked os 10 .any (fun w args=>(Rows.serviceFirstSpec.pre enc Tryz.prog Tryz.f10 [] false w args∧laidMetH Tryz.prog vF w)∧sizedMet enc Tryz.prog Tryz.f10 (OpenSpec.ofChange Rows.serviceFirstSpec) false w args)
   (Rows.serviceFirstSpec.post enc Tryz.prog Tryz.f10 false true false false):=by
 refine wS (C:=Tryz.checked) (X:=fun w _=>laidMetH Tryz.prog vF w) (fun _ _ _ bh h=>h.of_heap bh) own started (by kernel_rfl) Tryz.func10
  (ChangeSpec.witness_shaped (enc:=enc) (C:=Tryz.checked) (os:=os) (X:=fun w _=>laidMetH Tryz.prog vF w) false (World.laidAll Tryz.prog os vF) #[.string ByteArray.empty,.string ByteArray.empty] 8 (World.laidAll_os _ _ _) (World.shaped_of_ZipB (by kernel_rfl) (by kernel_rfl)) (by kernel_rfl) (by kernel_rfl) (by kernel_rfl) (Xa os _)) ?_
 intro W base args iZ gs before Md yM w9 ek Yu
 have Bz: ∀(j:Nat) t v,Tryz.f10.params[j]? =some t→args[j]? =some v→Value.okWide Tryz.prog W .any base t v:=Md
 have Lq:=yM
 obtain⟨p,q,Lk,ol,rfl,aQ0,LZ⟩:=yM
 have fa:DataW.TrodAll enc Tryz.prog W 0 (fun _=>true) true Tryz.f10.params.toList args.toList iZ p:=Lk
 have ZH:Tryz.f10.params.toList=[9,9]:=by rw[Tryz.params10]
 have Yw:(DataW.weightsEach Tryz.prog (Tryz.f10.params.toList++Rows.serviceFirstSpec.plain.varTypes Tryz.prog) (iZ++gs)).all (·≤reachBytes)=true:=w9
 rw[Tryz.params10]at fa Bz
 obtain⟨v0,aT1,d0,aO9,BU,kS,rP,rfl,rfl,aw,jP⟩:=trodAll_cons fa
 obtain⟨v1,aX8,d1,aH9,fR,cI,rfl,rfl,rfl,J,bO⟩:=trodAll_cons jP
 obtain⟨rfl,rfl,rfl⟩:=trodAll_nil bO
 obtain rfl:args= #[v0,v1]:=by cases args; simp_all
 obtain⟨rfl,rfl⟩:=trodVars_none ol
 have dm:=fun n a6=>of_decide_eq_true (List.all_eq_true.1 Yw n a6)
 obtain⟨a0,rfl,rfl,rfl,wi⟩:=open_string Tryz.underlying9 (Bz 0 9 v0 rfl rfl) aw
 obtain⟨fN,rfl,rfl,rfl,pn⟩:=open_string Tryz.underlying9 (Bz 1 9 v1 rfl rfl) J
 clear Lk Md
 simp only[List.append_nil]at Lq
 refine (walk a0 fN W (X6 Yu ek) wi pn).mono fun e CV ⟨he,Hs⟩=> ?_
 subst he
 exact⟨_,rfl,_,_,_,[],_,[],Lq,trodAll_mk1 (shut_bool Tryz.underlying4 _),(trodAll_cons_mk (shut_string Tryz.underlying9 wi) (trodAll_cons_mk (shut_string Tryz.underlying9 pn) trodAll_mk0)),rfl,Hs.frame _,fun h=>by cases h⟩
theorem over:Rows.serviceFirstRow.holds Tryz.pinned (OpenSpec.ofChange Rows.serviceFirstSpec):=
 OpenClaim.holds_of_wide 10 Tryz.f10 rfl rfl rfl rfl rfl rfl rfl ⟨rfl,rfl,rfl,rfl,rfl⟩ rfl rfl rfl rfl rfl (by kernel_rfl) Tryz.func10 (by kernel_rfl)
  (of_decide_eq_true (by kernel_rfl)) (by unfold Func.isWrapper; first|(rw[if_pos (by decide+kernel)]; kernel_rfl)|(rw[if_neg (by decide+kernel)]; exact⟨rfl,rfl⟩))
  (fun os started H enc _=>lifted os started H enc)
set_option maxRecDepth 1000000 in
theorem proved:Rows.ServiceFirstCardSaid:=
 Claim7.holds_tied_plain_at .later [] [.data,.data,.data,.data,.pinned] true (true, "b18f9cdbc4b8fdf7debfa3439e6aac50da26924336a3cc5c01cdde5858bb05e5") true
  over (fun _ h=>by cases h) (by kernel_rfl) (fun _ h=>by cases h) serviceFirst_row_tie rfl ⟨rfl,rfl⟩ (by kernel_rfl) rfl
  (fun f fn aW xi=>by
   obtain rfl:f=10:=Option.some.inj ((show Tryz.prog.funcNamed "farandole/farandolelaw33.ServiceFirst" =some 10 by kernel_rfl).symm.trans aW)|>.symm
   obtain rfl:fn=Tryz.f10:=(Option.some.inj (Tryz.func10.symm.trans xi)).symm
   refine⟨by kernel_rfl,fun j t aO=> ?_⟩
   rw[Tryz.params10]at aO
   rcases j with _| _| _| _|j<;>simp at aO<;>subst aO<;>exact (by kernel_rfl))
  (by kernel_rfl)
#print axioms proved
end Go.Proofs.YtjkbgcgljnldeaaGreatDoor.serviceFirstDone
