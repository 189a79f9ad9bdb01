/- 'Rows.TypesRenameUptoCardSaid': for all inputs the law returns true; the listed variables are tied to the program's text. No other condition. -/
import Derived.Test.YtlemhelnmidpfaaGreatDoorRows
import Derived.Test.YtlemhelnmidpfaaGreatDoorTie
import Derived.Test.YtlemhelnmidpfaaGreatDoorCards
import Derived.SevenTiedAt
import Derived.WalkKit
import Derived.ProofKit
import Derived.OpenShut
import Derived.ShutString
import Derived.ChangeMaps5
import Derived.ChangeOld
import Derived.ChangeSame
import Derived.LaidMore
import Derived.Stop.Joined
import Derived.Below
import Derived.Test.YtlemhelnmidpfaaGreatDoorPRename1
set_option linter.unusedVariables false
set_option linter.unusedSimpArgs false
open List renaming length_append→bb7,length_drop→bl7,length_take→be9,length_nil→bc4,length_map→bb5,length_cons→bb9
open Nat renaming le_of_ble_eq_true→bh6,reduceBEq→bl3,reduceAdd→bl4
namespace Go.Proofs.YtlemhelnmidpfaaGreatDoor.typesRenameDone
open Go.ChangeShapes Go.WideShapes Go.ChangeAt Go.RowKit
open Go.ChangeMaps (open_string shut_string)
theorem own:ownKnob Tryz.prog.godebug=none:=by kernel_rfl
theorem laidOut:laidOutB Tryz.prog=true:=NK
theorem walk (kh:Go.ba.cQ) (v0:Value) (ci:Go.ba.di) (v1:Value) (a2:Int) (w:World) (bo:Go.ba.l7 w) (Db: ∀m:Go.ba.Mem,m.w=w→m.H=Go.ba.aA.none→Go.ba.aP m (kh.eL) v0) (AD:kh.ok reachBytes) (C8:Go.ba.fk kh.cells≤1048576) (oW: ∀m:Go.ba.Mem,m.w=w→m.H=Go.ba.aA.none→Go.ba.aP m (ci.eL) v1) (C6:True) (sh:Go.ba.fk ci.cells≤1048576) (km:(Lit.int .u8 a2).wf=true):Calls Tryz.prog 13 #[v0,v1,.int .u8 a2] w fun e w'=>e= .returned (.bool true)∧Below w.heap.size w w':=by
 refine (Go.ba.Xe (Go.ba.T.N.bo5 kh ci AD C8 sh a2 km) w [v0,v1,.int .u8 a2] bo (fun m hw fL=> ?_)).mono ?_
 ·simp only[Go.ba.aR]
  exact⟨_,_,rfl,Db m hw fL,_,_,rfl,oW m hw fL,_,_,rfl,by simp only[Go.ba.aP],rfl⟩
 rintro e w' ⟨⟨v,rfl,m,ad⟩,hb⟩
 simp only[Go.ba.aP]at ad
 subst ad
 exact⟨rfl,hb⟩
set_option maxRecDepth 100000 in
theorem lifted (os:Os) (started:os.Started) (H:Type) (enc:TypeId×Value→H):
  ReturnsInHanded {} Tryz.checked os 13 .any (fun w args=>((Rows.OpenSpec.upto Rows.typesRenameSpec).pre enc Tryz.prog Tryz.f13 [] false w args∧laidMetH Tryz.prog vJ w)∧sizedMet enc Tryz.prog Tryz.f13 (Rows.OpenSpec.upto Rows.typesRenameSpec) false w args)
   (Rows.typesRenameSpec.post enc Tryz.prog Tryz.f13 false true false false):=by
 refine aH6 (C:=Tryz.checked) (X:=fun w _=>laidMetH Tryz.prog vJ w) (fun _ _ _ a6 h=>h.of_heap a6) own started (by kernel_rfl) Tryz.func13
  (aZ5 (enc:=enc) (C:=Tryz.checked) (os:=os) (X:=fun w _=>laidMetH Tryz.prog vJ w) false (World.laidAll Tryz.prog os vJ) #[.agg #[.string ByteArray.empty,.string ByteArray.empty,.string ByteArray.empty,.slice none 0 0,.slice none 0 0,.slice none 0 0],.agg #[.string ByteArray.empty,.slice none 0 0,.slice none 0 0,.int .i64 0,.int .i64 0,.int .i64 0,.slice none 0 0,.slice none 0 0],.int .u8 0] 8 (World.laidAll_os _ _ _) (World.shaped_of_ZipB (by kernel_rfl) (by kernel_rfl)) (by kernel_rfl) (by kernel_rfl) (by kernel_rfl) (Yp os _)) ?_
 intro W base args jd gs before Ny yT xb MN ec ZH
 have xr: ∀(j:Nat) t v,Tryz.f13.params[j]? =some t→args[j]? =some v→Value.okWide Tryz.prog W .any base t v:=Ny
 have MS:=yT
 obtain⟨p,q,MM,tO,rfl,a48,a56⟩:=yT
 have dJ:DataW.TrodAll enc Tryz.prog W 0 (fun _=>true) true Tryz.f13.params.toList args.toList jd p:=MM
 have Ns:Tryz.f13.params.toList=[26,32,5]:=by rw[Tryz.params13]
 have ZK:(DataW.weightsEach Tryz.prog (Tryz.f13.params.toList++Rows.typesRenameSpec.plain.varTypes Tryz.prog) (jd++gs)).all (·≤reachBytes)=true:=xb
 rw[Tryz.params13]at dJ xr
 obtain⟨v0,ba8,d0,a29,av5,kh,rK,rfl,rfl,aW,jy⟩:=trodAll_cons dJ
 obtain⟨v1,ba9,d1,a30,fU,ci,rfl,rfl,rfl,U,cm⟩:=trodAll_cons jy
 obtain⟨v2,bb0,d2,a32,hX,cM,rfl,rfl,rfl,aa,cA⟩:=trodAll_cons cm
 obtain⟨rfl,rfl,rfl⟩:=trodAll_nil cA
 obtain rfl:args= #[v0,v1,v2]:=by cases args; simp_all
 obtain⟨rfl,rfl⟩:=trodVars_none tO
 have dq:=fun n a1=>of_decide_eq_true (List.all_eq_true.1 ZK n a1)
 have sM:=aW
 have aq4: ∀x∈av5,x.block<W.heap.size:=by obtain⟨m,hm⟩:=sM; exact DataW.trod_lt m _ _ _ hm
 obtain⟨kh,AD,Db⟩:=Go.ba.T.N.au6 (R:=reachBytes) (fun n a1=>dq n (by simp only[Ns,List.cons_append,List.nil_append,List.append_nil,DataW.weightsEach,List.mem_append]; exact (.inl a1))) (xr 0 26 v0 rfl rfl) aW
 have C8:Go.ba.fk kh.cells≤1048576:=by
  have g1:=AD.2
  have g2:=DT d0
  have g3:=MN
  simp only[List.append_nil,List.cons_append,List.nil_append,Rows.uptoBulkAll]at g3
  omega
 have br:=U
 have aq5: ∀x∈fU,x.block<W.heap.size:=by obtain⟨m,hm⟩:=br; exact DataW.trod_lt m _ _ _ hm
 obtain⟨ci,C6,oW⟩:=Go.ba.T.N.au7 (R:=reachBytes) (fun n a1=>dq n (by simp only[Ns,List.cons_append,List.nil_append,List.append_nil,DataW.weightsEach,List.mem_append]; exact (.inr (.inl a1)))) (xr 1 32 v1 rfl rfl) U
 have sh:Go.ba.fk ci.cells≤1048576:=by
  have g1:=C6.2
  have g2:=DT d1
  have g3:=MN
  simp only[List.append_nil,List.cons_append,List.nil_append,Rows.uptoBulkAll]at g3
  omega
 obtain⟨a2,rfl,rfl,rfl,km⟩:=open_int Tryz.underlying5 (xr 2 5 v2 rfl rfl) aa
 clear MM Ny
 simp only[List.append_nil]at MS
 refine (walk kh v0 ci v1 a2 W (Zi ZH ec) Db AD.1 C8 oW C6.1 sh km).mono fun e Df ⟨he,Dq⟩=> ?_
 subst he
 exact⟨_,rfl,_,_,_,[],_,[],MS,trodAll_mk1 (shut_bool Tryz.underlying4 _),(trodAll_cons_mk (Below.trod laidOut (by kernel_rfl) (of_decide_eq_true (by kernel_rfl)) sM Dq aq4) (trodAll_cons_mk (Below.trod laidOut (by kernel_rfl) (of_decide_eq_true (by kernel_rfl)) br Dq aq5) (trodAll_cons_mk (shut_int Tryz.underlying5 km) trodAll_mk0))),rfl,Dq.frame _,fun h=>by cases h⟩
theorem an1:(Rows.typesRenameUptoRow.inPlace==Tryz.prog.inPlace 13)=true:=by kernel_rfl
theorem an5:(Rows.typesRenameUptoRow.unfollowed==Tryz.prog.unfollowed 13)=true:=by kernel_rfl
theorem an4:(Rows.typesRenameUptoRow.recurses==Tryz.prog.recurses 13)=true:=by kernel_rfl
theorem an2:(Rows.typesRenameUptoRow.named==Tryz.prog.varsNamed 13)=true:=by kernel_rfl
theorem closed:joinedFacts Tryz.prog 13 Tryz.f13 (Rows.OpenSpec.upto Rows.typesRenameSpec).bare Rows.typesRenameUptoRow=true:=by
 unfold joinedFacts
 simp only[Bool.and_eq_true]
 exact⟨⟨⟨⟨⟨⟨⟨⟨⟨⟨⟨⟨⟨⟨⟨⟨⟨⟨⟨⟨⟨⟨⟨⟨⟨⟨⟨⟨⟨⟨⟨by kernel_rfl,NK⟩,ak2⟩,by kernel_rfl⟩,by kernel_rfl⟩,by kernel_rfl⟩,by kernel_rfl⟩,by kernel_rfl⟩,by kernel_rfl⟩,an1⟩,an5⟩,an4⟩,an2⟩,by kernel_rfl⟩,by kernel_rfl⟩,by kernel_rfl⟩,by kernel_rfl⟩,by kernel_rfl⟩,by kernel_rfl⟩,by kernel_rfl⟩,by kernel_rfl⟩,by kernel_rfl⟩,ak5⟩,by kernel_rfl⟩,ak6⟩,ak3⟩,aj9⟩,ak4⟩,by kernel_rfl⟩,by kernel_rfl⟩,by kernel_rfl⟩,by kernel_rfl⟩
theorem over:Rows.typesRenameUptoRow.holds Tryz.pinned (Rows.OpenSpec.upto Rows.typesRenameSpec):=
 OpenClaim.holds_of_cond 13 Tryz.f13 rfl rfl rfl rfl rfl rfl rfl ⟨rfl,rfl,rfl,rfl,rfl⟩ rfl rfl rfl rfl rfl (by kernel_rfl) Tryz.func13 closed
  (of_decide_eq_true (by kernel_rfl)) (by unfold Func.isWrapper; first|(rw[if_pos (by decide+kernel)]; kernel_rfl)|(rw[if_neg (by decide+kernel)]; exact⟨rfl,rfl⟩))
  (fun os started H enc _ _=>lifted os started H enc)
theorem an6:Rows.typesRenameUptoRow.wfByText (Rows.OpenSpec.upto Rows.typesRenameSpec)=true:=by kernel_rfl
theorem am9:false=Rows.typesRenameUptoRow.goesBy Tryz.prog:=by kernel_rfl
theorem an3:Tryz.prog.funcNamed "farandole/farandolelaw34.TypesRename" =some 13:=by kernel_rfl
set_option maxRecDepth 1000000 in
theorem an0 (f:FuncId) (fn:Func) (aT:Tryz.prog.funcNamed "farandole/farandolelaw34.TypesRename" =some f) (xk:Tryz.prog.funcs[f]? =some fn):true=Tryz.prog.looks []∧∀(j:Nat) t,fn.params[j]? =some t→Tryz.prog.wantsStandIn t=false:=by
 obtain rfl:f=13:=Option.some.inj (an3.symm.trans aT)|>.symm
 obtain rfl:fn=Tryz.f13:=(Option.some.inj (Tryz.func13.symm.trans xk)).symm
 refine⟨ak0,fun j t aL=> ?_⟩
 rw[Tryz.params13]at aL
 rcases j with _| _| _| _|j<;>simp at aL<;>subst aL<;>exact (by kernel_rfl)
set_option maxHeartbeats 4000000 in
set_option maxRecDepth 1000000 in
theorem proved:Rows.TypesRenameUptoCardSaid:=
 Claim7.holds_tied_plain_at .later [] [.data,.data,.data,.data,.pinned] true (true, "87ea50258b8265b99990d4b3a2e0df37b48b7d724cb80ad0cda4334fcb97a953") true
  over (fun _ h=>by cases h) an6 (fun _ h=>by cases h) typesRenameUpto_row_tie rfl ⟨rfl,rfl⟩ ak1 rfl
  an0 am9
#print axioms proved
end Go.Proofs.YtlemhelnmidpfaaGreatDoor.typesRenameDone
