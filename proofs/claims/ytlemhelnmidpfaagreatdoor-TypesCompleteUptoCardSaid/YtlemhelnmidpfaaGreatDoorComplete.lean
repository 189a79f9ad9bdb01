/- 'Rows.TypesCompleteUptoCardSaid': for all inputs the law returns true; the listed variables are tied to the program's text. No other condition. -/
import Derived.Test.YtlemhelnmidpfaaGreatDoorRows
import Derived.Test.YtlemhelnmidpfaaGreatDoorTie
import Derived.Test.YtlemhelnmidpfaaGreatDoorCards
import Derived.SevenTiedAt
import Derived.WalkKit
import Derived.ProofKit
import Derived.OpenShut
import Derived.ShutString
import Derived.ChangeMaps5
import Derived.ChangeOld
import Derived.ChangeSame
import Derived.LaidMore
import Derived.Stop.Joined
import Derived.Below
import Derived.Test.YtlemhelnmidpfaaGreatDoorVS19
set_option linter.unusedVariables false
set_option linter.unusedSimpArgs false
open List renaming cons_append→aU4,nil_append→aV1,append_nil→aV7,mem_append→aW9,length_map→aT1,length_drop→bd3,length_cons→aT3,length_take→aX3,length_append→aT2,length_nil→aU1
open Nat renaming reduceBEq→bd1,le_of_ble_eq_true→aZ3,reduceAdd→bd2
open Go.Proofs.Tryz renaming prog→aS9,f12→bk2,params12→bl6
namespace Go.Proofs.YtlemhelnmidpfaaGreatDoor.typesCompleteDone
open Go.ChangeShapes Go.WideShapes Go.ChangeAt Go.RowKit
open Go.ChangeMaps (open_string shut_string)
theorem own:ownKnob Tryz.prog.godebug=none:=by kernel_rfl
theorem laidOut:laidOutB aS9=true:=LW
theorem walk (jN:Go.aX.c9) (v0:Value) (b5:Go.aX.cI) (v1:Value) (w:World) (bm:Go.aX.lz w) (Ch: ∀m:Go.aX.Mem,m.w=w→m.H=Go.aX.aw.none→Go.aX.aK m (jN.eU) v0) (zR:jN.ok reachBytes) (Cf:Go.aX.e6 jN.cells≤1048576) (ox: ∀m:Go.aX.Mem,m.w=w→m.H=Go.aX.aw.none→Go.aX.aK m (b5.eU) v1) (Cd:True) (r4:Go.aX.e6 b5.cells≤1048576):Calls aS9 12 #[v0,v1] w fun e w'=>e= .returned (.bool true)∧Below w.heap.size w w':=by
 refine (Go.aX.Ui (Go.aX.T.N.aH3 jN b5 zR Cf r4) w [v0,v1] bm (fun m hw hH=> ?_)).mono ?_
 ·simp only[Go.aX.aM]
  exact⟨_,_,rfl,Ch m hw hH,_,_,rfl,ox m hw hH,rfl⟩
 rintro e w' ⟨⟨v,rfl,m,ad⟩,hb⟩
 simp only[Go.aX.aK]at ad
 subst ad
 exact⟨rfl,hb⟩
set_option maxRecDepth 100000 in
theorem lifted (os:Os) (started:os.Started) (H:Type) (enc:TypeId×Value→H):
  ReturnsInHanded {} Tryz.checked os 12 .any (fun w args=>((Rows.OpenSpec.upto Rows.typesCompleteSpec).pre enc aS9 bk2 [] false w args∧laidMetH aS9 vl w)∧sizedMet enc aS9 bk2 (Rows.OpenSpec.upto Rows.typesCompleteSpec) false w args)
   (Rows.typesCompleteSpec.post enc aS9 bk2 false true false false):=by
 refine ap2 (C:=Tryz.checked) (X:=fun w _=>laidMetH aS9 vl w) (fun _ _ _ a8 h=>h.of_heap a8) own started (by kernel_rfl) Tryz.func12
  (aI4 (enc:=enc) (C:=Tryz.checked) (os:=os) (X:=fun w _=>laidMetH aS9 vl w) false (World.laidAll aS9 os vl) #[.agg #[.string ByteArray.empty,.string ByteArray.empty,.string ByteArray.empty,.slice none 0 0,.slice none 0 0,.slice none 0 0],.agg #[.string ByteArray.empty,.slice none 0 0,.slice none 0 0,.int .i64 0,.int .i64 0,.int .i64 0,.slice none 0 0,.slice none 0 0]] 8 (World.laidAll_os _ _ _) (World.shaped_of_ZipB (by kernel_rfl) (by kernel_rfl)) (by kernel_rfl) (by kernel_rfl) (by kernel_rfl) (Vz os _)) ?_
 intro W base args ds gs before LJ K3 wD KX dK WK
 have yz: ∀(j:Nat) t v,Tryz.f12.params[j]? =some t→args[j]? =some v→Value.okWide aS9 W .any base t v:=LJ
 have K4:=K3
 obtain⟨p,q,KW,yh,rfl,aM6,aN2⟩:=K3
 have eE:DataW.TrodAll enc aS9 W 0 (fun _=>true) true Tryz.f12.params.toList args.toList ds p:=KW
 have LA:Tryz.f12.params.toList=[26,32]:=by rw[bl6]
 have WM:(DataW.weightsEach aS9 (Tryz.f12.params.toList++Rows.typesCompleteSpec.plain.varTypes aS9) (ds++gs)).all (·≤reachBytes)=true:=wD
 rw[bl6]at eE yz
 obtain⟨v0,aS5,d0,aL5,ad3,jN,ry,rfl,rfl,aW,iG⟩:=trodAll_cons eE
 obtain⟨v1,aS6,d1,aL6,ji,b5,rfl,rfl,rfl,h1,cb⟩:=trodAll_cons iG
 obtain⟨rfl,rfl,rfl⟩:=trodAll_nil cb
 obtain rfl:args= #[v0,v1]:=by cases args; simp_all
 obtain⟨rfl,rfl⟩:=trodVars_none yh
 have dd:=fun n bb=>of_decide_eq_true (List.all_eq_true.1 WM n bb)
 have sz:=aW
 have ZQ: ∀x∈ad3,x.block<W.heap.size:=by obtain⟨m,hm⟩:=sz; exact DataW.trod_lt m _ _ _ hm
 obtain⟨jN,zR,Ch⟩:=Go.aX.T.N.ac2 (R:=reachBytes) (fun n bb=>dd n (by simp only[LA,aU4,aV1,aV7,DataW.weightsEach,aW9]; exact (.inl bb))) (yz 0 26 v0 rfl rfl) aW
 have Cf:Go.aX.e6 jN.cells≤1048576:=by
  have g1:=zR.2
  have g2:=CY d0
  have g3:=KX
  simp only[aV7,aU4,aV1,Rows.uptoBulkAll]at g3
  omega
 have br:=h1
 have ZR: ∀x∈ji,x.block<W.heap.size:=by obtain⟨m,hm⟩:=br; exact DataW.trod_lt m _ _ _ hm
 obtain⟨b5,Cd,ox⟩:=Go.aX.T.N.ac3 (R:=reachBytes) (fun n bb=>dd n (by simp only[LA,aU4,aV1,aV7,DataW.weightsEach,aW9]; exact (.inr (.inl bb)))) (yz 1 32 v1 rfl rfl) h1
 have r4:Go.aX.e6 b5.cells≤1048576:=by
  have g1:=Cd.2
  have g2:=CY d1
  have g3:=KX
  simp only[aV7,aU4,aV1,Rows.uptoBulkAll]at g3
  omega
 clear KW LJ
 simp only[aV7]at K4
 refine (walk jN v0 b5 v1 W (Wn WK dK) Ch zR.1 Cf ox Cd.1 r4).mono fun e Ck ⟨he,Cv⟩=> ?_
 subst he
 exact⟨_,rfl,_,_,_,[],_,[],K4,trodAll_mk1 (shut_bool Tryz.underlying4 _),(trodAll_cons_mk (Below.trod laidOut (by kernel_rfl) (of_decide_eq_true (by kernel_rfl)) sz Cv ZQ) (trodAll_cons_mk (Below.trod laidOut (by kernel_rfl) (of_decide_eq_true (by kernel_rfl)) br Cv ZR) trodAll_mk0)),rfl,Cv.frame _,fun h=>by cases h⟩
theorem Zk:(Rows.typesCompleteUptoRow.inPlace==Tryz.prog.inPlace 12)=true:=by kernel_rfl
theorem Zo:(Rows.typesCompleteUptoRow.unfollowed==Tryz.prog.unfollowed 12)=true:=by kernel_rfl
theorem Zn:(Rows.typesCompleteUptoRow.recurses==Tryz.prog.recurses 12)=true:=by kernel_rfl
theorem Zl:(Rows.typesCompleteUptoRow.named==Tryz.prog.varsNamed 12)=true:=by kernel_rfl
theorem closed:joinedFacts aS9 12 bk2 (Rows.OpenSpec.upto Rows.typesCompleteSpec).bare Rows.typesCompleteUptoRow=true:=by
 unfold joinedFacts
 simp only[Bool.and_eq_true]
 exact⟨⟨⟨⟨⟨⟨⟨⟨⟨⟨⟨⟨⟨⟨⟨⟨⟨⟨⟨⟨⟨⟨⟨⟨⟨⟨⟨⟨⟨⟨⟨by kernel_rfl,LW⟩,YP⟩,by kernel_rfl⟩,by kernel_rfl⟩,by kernel_rfl⟩,by kernel_rfl⟩,by kernel_rfl⟩,by kernel_rfl⟩,Zk⟩,Zo⟩,Zn⟩,Zl⟩,by kernel_rfl⟩,by kernel_rfl⟩,by kernel_rfl⟩,by kernel_rfl⟩,by kernel_rfl⟩,by kernel_rfl⟩,by kernel_rfl⟩,by kernel_rfl⟩,by kernel_rfl⟩,YS⟩,by kernel_rfl⟩,YT⟩,YQ⟩,YM⟩,YR⟩,by kernel_rfl⟩,by kernel_rfl⟩,by kernel_rfl⟩,by kernel_rfl⟩
theorem over:Rows.typesCompleteUptoRow.holds Tryz.pinned (Rows.OpenSpec.upto Rows.typesCompleteSpec):=
 OpenClaim.holds_of_cond 12 bk2 rfl rfl rfl rfl rfl rfl rfl ⟨rfl,rfl,rfl,rfl,rfl⟩ rfl rfl rfl rfl rfl (by kernel_rfl) Tryz.func12 closed
  (of_decide_eq_true (by kernel_rfl)) (by unfold Func.isWrapper; first|(rw[if_pos (by decide+kernel)]; kernel_rfl)|(rw[if_neg (by decide+kernel)]; exact⟨rfl,rfl⟩))
  (fun os started H enc _ _=>lifted os started H enc)
theorem Zp:Rows.typesCompleteUptoRow.wfByText (Rows.OpenSpec.upto Rows.typesCompleteSpec)=true:=by kernel_rfl
theorem Zi:false=Rows.typesCompleteUptoRow.goesBy aS9:=by kernel_rfl
theorem Zm:Tryz.prog.funcNamed "farandole/farandolelaw34.TypesComplete" =some 12:=by kernel_rfl
set_option maxRecDepth 1000000 in
theorem Zj (f:FuncId) (fn:Func) (aO:Tryz.prog.funcNamed "farandole/farandolelaw34.TypesComplete" =some f) (wK:Tryz.prog.funcs[f]? =some fn):true=Tryz.prog.looks []∧∀(j:Nat) t,fn.params[j]? =some t→Tryz.prog.wantsStandIn t=false:=by
 obtain rfl:f=12:=Option.some.inj (Zm.symm.trans aO)|>.symm
 obtain rfl:fn=bk2:=(Option.some.inj (Tryz.func12.symm.trans wK)).symm
 refine⟨YN,fun j t aF=> ?_⟩
 rw[bl6]at aF
 rcases j with _| _| _| _|j<;>simp at aF<;>subst aF<;>exact (by kernel_rfl)
set_option maxHeartbeats 4000000 in
set_option maxRecDepth 1000000 in
theorem proved:Rows.TypesCompleteUptoCardSaid:=
 Claim7.holds_tied_plain_at .later [] [.data,.data,.data,.data,.pinned] true (true, "87ea50258b8265b99990d4b3a2e0df37b48b7d724cb80ad0cda4334fcb97a953") true
  over (fun _ h=>by cases h) Zp (fun _ h=>by cases h) typesCompleteUpto_row_tie rfl ⟨rfl,rfl⟩ YO rfl
  Zj Zi
#print axioms proved
end Go.Proofs.YtlemhelnmidpfaaGreatDoor.typesCompleteDone
