/- Part of a proof; own work. -/
import Derived.Test.YtlemhelnmidpfaaGreatDoorVS7
set_option linter.unusedVariables false
set_option linter.unusedSimpArgs false
open Bool renaming and_self→aT7
open List renaming drop_zero→bb0,all_cons→aV0,length_map→aT1,length_drop→bd3,length_cons→aT3,length_take→aX3,length_append→aT2,length_nil→aU1
open Nat renaming zero_add→aW6,zero_le→aT8,reduceBEq→bd1,le_of_ble_eq_true→aZ3,reduceAdd→bd2
open Go.Proofs.Tryz renaming prog→aS9
namespace Go.aX.T.N
open Go Go.aX Go.Proofs Go.RowKit
set_option maxRecDepth 100000
attribute [local irreducible] Go.aX.ay Go.aX.ai Go.aX.aY
attribute [local go_sem] wrap64 Rc Re MB decide_true decide_false dst AR KR KS yG rE dE eP eQ jg I.dC ot I.o3 M9 Nd Nb MM M2 M3 M4 MS MT MU MV MW MX MG MH MQ Nc Nf Na MN M1 MZ M0 M5 Ng Nh MR M6 M7 MP MO M8 MY MJ MI MF Ni Nj ML MK e4 HJ HI Env.get vz xa EO No Ns y5 mj w4 EP Np Nr Nq mW qF oX pM pK pL oz oA fT hW rv KF eO I.ek CS H5 Nw Nx Nl Nn wa p8 tW sa s6 HD HC CP I.cells I.ev I.flat b9 eD fs kC I.one I.hJ gb nz mX kR initFrom nW td tc cond_true cond_false beq_self_eq_true Bool.not_true Bool.not_false beq_true beq_false eq_self if_true Option.some.injEq aT3 aU1 List.take_succ_cons List.take_zero List.drop_succ_cons bb0 List.set_cons_succ List.set_cons_zero List.nil_append List.cons_append List.append_nil and_self Option.map_some Option.map_none List.map_cons List.map_nil Bool.false_eq_true if_false aW6 Nat.add_zero true_and and_true Bool.and_true Bool.true_and List.getElem?_cons_zero List.getElem?_cons_succ aT8 Nat.le_refl aV0 List.all_nil List.flatten_cons List.flatten_nil qe rf List.filter_cons List.filter_nil List.contains_cons List.contains_nil Bool.or_false Bool.or_true Bool.false_or Bool.true_or
section
theorem bk:Tryz.prog.follows .mixedOrders=true:=by kernel_rfl
attribute [local go_sem] au.di ao.di au.cQ ao.cQ
theorem dB (l:List (List UInt8)):eD (l.map ca)=true:=lN (fun _=>rfl) l
attribute [local go_sem] ca dB
theorem NY (z:Int):Pure aS9 145 [.int .u8 z] (.bool (Be z)):=by
 refine dt bk Tryz.func145 SD rfl rfl ?_
 unfold IK Oi
 simp(disch:=omega)only[go_sem,simprocAttr]
 (repeat' first|refine D.S ?_|refine D.iv true true ?_|refine ai.nil ?_|refine ay.dr ?_|refine D.W ?_|refine D.Z ?_|refine D.G ?_ ?_|refine D.X ‹_› ?_|refine D.jU ‹_› ?_|refine D.jV ‹_› ?_|intro h|refine D.C ?_ ?_)
 all_goals (refine D.R ?_)
 all_goals (refine⟨_,rfl,.aQ ?_ rfl,trivial,trivial⟩; simp_all [Be,I.aQ]<;>(try omega))
theorem al2 (z:Int):Pure aS9 242 [.int .u8 z] (.bool (C5 z)):=by
 refine dt bk Tryz.func242 Tj rfl rfl ?_
 unfold Jn O0
 simp(disch:=omega)only[go_sem,simprocAttr]
 (repeat' first|refine D.S ?_|refine D.iv true true ?_|refine ai.nil ?_|refine ay.dr ?_|refine D.W ?_|refine D.Z ?_|refine D.G ?_ ?_|refine D.X ‹_› ?_|refine D.jU ‹_› ?_|refine D.jV ‹_› ?_|intro h|refine D.C ?_ ?_)
 all_goals (refine D.R ?_)
 all_goals (refine⟨_,rfl,.aQ ?_ rfl,trivial,trivial⟩; simp_all [C5,I.aQ]<;>(try omega))
theorem ai6 (z:Int):Pure aS9 146 [.int .u8 z] (.bool (Bb z)):=by
 refine dt bk Tryz.func146 SE rfl rfl ?_
 unfold IL Oj
 simp(disch:=omega)only[go_sem,simprocAttr]
 refine ap ?_
 refine D.P (NY z) ?_
 (repeat' first|refine D.S ?_|refine D.iv true true ?_|refine ai.nil ?_|refine ay.dr ?_|refine D.W ?_|refine D.Z ?_|refine D.G ?_ ?_|refine D.X ‹_› ?_|refine D.jU ‹_› ?_|refine D.jV ‹_› ?_|intro h|refine D.C ?_ ?_)
 ·refine D.r ?_
  refine⟨_,rfl,.aQ ?_ rfl,trivial,trivial⟩
  simp_all [Bb,I.aQ]
 refine D.P (al2 z) ?_
 (repeat' first|refine D.S ?_|refine D.iv true true ?_|refine ai.nil ?_|refine ay.dr ?_|refine D.W ?_|refine D.Z ?_|refine D.G ?_ ?_|refine D.X ‹_› ?_|refine D.jU ‹_› ?_|refine D.jV ‹_› ?_|intro h|refine D.C ?_ ?_)
 all_goals (refine D.R ?_)
 all_goals (refine⟨_,rfl,.aQ ?_ rfl,trivial,trivial⟩; simp_all [Bb,I.aQ]<;>(try omega))
theorem E7 (l:List (List UInt8)) (s:List UInt8) (aE:l.length≤maxLen):Pure aS9 93 [.ak 1 (l.map ca),.str s] (.int .i64 (og l s l.length 0)):=by
 have rA:l.length≤9223372036854775807:=by unfold maxLen at aE; omega
 refine dt bk Tryz.func93 Ug (by simp only[b9,I.flat,dB,aT7]) rfl ?_
 unfold Kc PU
 simp(disch:=omega)only[go_sem,simprocAttr]
 refine ap ?_
 refine ay.dq (X:=Nat) 0 (fun i=>[(0,.ak 1 (l.map ca)),(1,.str s),(7,.int .i64 ((l.map ca).length:Int)),(8,.int .i64 (i:Int))]) (fun _=>[]) (fun _=>[]) (fun i=>i≤l.length∧og l s (l.length-i) i=og l s l.length 0) (fun i=>l.length-i) ⟨aT8 _,rfl⟩ ⟨rfl,rfl,rfl,rfl,trivial⟩ trivial trivial ?_
 rintro i ⟨ae,aD⟩
 try simp only at ae aD ⊢
 cases ad:l[i]? with
 |some v=>
  have cL:=(List.getElem?_eq_some_iff.1 ad).1
  have d1:(i:Int)<((l.map ca).length:Int):=by rw[aT1]; omega
  rw[show l.length-i=(l.length-(i+1))+1 by omega]at aD
  simp only[og,ad]at aD
  (repeat' first|(apply ai.s rfl;(·simp(disch:=omega)only[go_sem,simprocAttr,d1]<;>with_reducible rfl))|(apply ay.s true true;(·simp(disch:=omega)only[go_sem,simprocAttr,d1]<;>with_reducible rfl))|apply ai.nil|(refine ay.dr ?_)|(apply ai.fi;(·simp(disch:=omega)only[go_sem,simprocAttr,d1]<;>with_reducible rfl))|(apply ai.fj;(·rfl);(·simp(disch:=omega)only[go_sem,simprocAttr,d1]<;>with_reducible rfl))|(apply ai.gs;(·simp(disch:=omega)only[go_sem,simprocAttr,d1]<;>with_reducible rfl))|((first|apply ai.fl|apply ai.fm|apply ai.fo);(·simp(disch:=omega)only[go_sem,simprocAttr,d1]<;>with_reducible rfl);(·simp(disch:=omega)only[go_sem,simprocAttr,d1]<;>with_reducible rfl);(·assumption);(·omega))|intro h|(apply ay.cond;(·simp(disch:=omega)only[go_sem,simprocAttr,d1]<;>with_reducible rfl)))
  ·simp only[decide_eq_true_eq]at h
   subst h
   rw[if_pos rfl]at aD
   refine D.r ?_
   exact⟨_,rfl,.aQ (by rw[aD]; rfl) rfl,trivial,trivial⟩
  ·simp only[decide_eq_false_iff_not]at h
   rw[if_neg h]at aD
   refine ay.fH (i+1) ⟨by omega,aD⟩ ⟨rfl,rfl,rfl,rfl,trivial⟩ trivial trivial rfl rfl (by show l.length-(i+1)<l.length-i; omega)
 |none=>
  have ck:=List.getElem?_eq_none_iff.1 ad
  have ch:i=l.length:=by omega
  subst ch
  have d1: ¬(l.length:Int)<((l.map ca).length:Int):=by rw[aT1]; omega
  rw[Nat.sub_self]at aD
  simp only[og]at aD
  (repeat' first|(apply ai.s rfl;(·simp(disch:=omega)only[go_sem,simprocAttr,d1]<;>with_reducible rfl))|(apply ay.s true true;(·simp(disch:=omega)only[go_sem,simprocAttr,d1]<;>with_reducible rfl))|apply ai.nil|(refine ay.dr ?_)|(apply ai.fi;(·simp(disch:=omega)only[go_sem,simprocAttr,d1]<;>with_reducible rfl))|(apply ai.fj;(·rfl);(·simp(disch:=omega)only[go_sem,simprocAttr,d1]<;>with_reducible rfl))|(apply ai.gs;(·simp(disch:=omega)only[go_sem,simprocAttr,d1]<;>with_reducible rfl))|((first|apply ai.fl|apply ai.fm|apply ai.fo);(·simp(disch:=omega)only[go_sem,simprocAttr,d1]<;>with_reducible rfl);(·simp(disch:=omega)only[go_sem,simprocAttr,d1]<;>with_reducible rfl);(·assumption);(·omega))|intro h|(apply ay.cond;(·simp(disch:=omega)only[go_sem,simprocAttr,d1]<;>with_reducible rfl)))
  refine D.r ?_
  exact⟨_,rfl,.aQ (by rw[←aD]; rfl) rfl,trivial,trivial⟩
theorem NS (l:List (List UInt8)) (s:List UInt8) (aE:l.length≤maxLen):Pure aS9 198 [.ak 1 (l.map ca),.str s] (.bool (l.contains s)):=by
 refine dt bk Tryz.func198 SS (by simp only[b9,I.flat,dB,aT7]) rfl ?_
 unfold I0 OB
 simp(disch:=omega)only[go_sem,simprocAttr]
 refine ap ?_
 refine D.P (E7 l s aE) ?_
 refine ap ?_
 refine D.r ?_
 refine⟨_,rfl,.aQ ?_ rfl,trivial,trivial⟩
 have:=Ep l s l.length 0 (aW6 _)
 rw[bb0]at this
 rw[←this]
 rfl
theorem ah3 (s:List UInt8):Pure aS9 76 [.str s] (.bool (yE s)):=by
 cases s with
 |nil=>
  refine dt bk Tryz.func76 Hw rfl rfl ?_
  unfold Dm Fo
  simp(disch:=omega)only[go_sem,simprocAttr]
  (repeat' first|refine D.S ?_|refine D.iv true true ?_|refine ai.nil ?_|refine ay.dr ?_|refine D.W ?_|refine D.Z ?_|refine D.G ?_ ?_|refine D.X ‹_› ?_|refine D.jU ‹_› ?_|refine D.jV ‹_› ?_|intro h|refine D.C ?_ ?_)
  exact D.rx
 |cons c s=>
 have dl:yE (c::s)=(decide ((c::s).length≤16)&&(yO c&&(c::s).all wU)):=rfl
 have aW:(c::s)[0]? =some c:=rfl
 have dP: ¬(c::s)=[]:=by simp
 generalize c::s=S at dl aW dP
 refine dt bk Tryz.func76 Hw rfl rfl ?_
 unfold Dm Fo
 simp(disch:=omega)only[go_sem,simprocAttr]
 (repeat' first|(apply ai.s rfl;(·simp(disch:=omega)only[go_sem,simprocAttr,dP]<;>with_reducible rfl))|(apply ay.s true true;(·simp(disch:=omega)only[go_sem,simprocAttr,dP]<;>with_reducible rfl))|apply ai.nil|(refine ay.dr ?_)|(apply ai.fi;(·simp(disch:=omega)only[go_sem,simprocAttr,dP]<;>with_reducible rfl))|(apply ai.fj;(·rfl);(·simp(disch:=omega)only[go_sem,simprocAttr,dP]<;>with_reducible rfl))|(apply ai.gs;(·simp(disch:=omega)only[go_sem,simprocAttr,dP]<;>with_reducible rfl))|((first|apply ai.fl|apply ai.fm|apply ai.fo);(·simp(disch:=omega)only[go_sem,simprocAttr,dP]<;>with_reducible rfl);(·simp(disch:=omega)only[go_sem,simprocAttr,dP]<;>with_reducible rfl);(·assumption);(·omega))|intro h|(apply ay.cond;(·simp(disch:=omega)only[go_sem,simprocAttr,dP]<;>with_reducible rfl)))
 ·refine D.r ?_
  refine⟨_,rfl,.aQ ?_ rfl,trivial,trivial⟩
  rw[dl]
  simp only[decide_eq_true_eq]at h
  have: ¬S.length≤16:=by omega
  simp [this,I.aQ]
 have jH:S.length≤9223372036854775807:=by simp at h; omega
 refine D.P (NY _) ?_
 (repeat' first|refine D.S ?_|refine D.iv true true ?_|refine ai.nil ?_|refine ay.dr ?_|refine D.W ?_|refine D.Z ?_|refine D.G ?_ ?_|refine D.X ‹_› ?_|refine D.jU ‹_› ?_|refine D.jV ‹_› ?_|intro h|refine D.C ?_ ?_)
 ·refine D.r ?_
  refine⟨_,rfl,.aQ ?_ rfl,trivial,trivial⟩
  rw[dl]
  simp_all [yO,I.aQ]
 have aE:yO c=true:=by simpa [yO] using h
 refine ay.dq (X:=Nat) 0 (fun i=>[(0,.str S),(18,.int .i64 (S.length:Int)),(19,.int .i64 (i:Int))]) (fun _=>[]) (fun _=>[]) (fun i=>i≤S.length∧(S.drop i).all wU=S.all wU) (fun i=>S.length-i) ⟨aT8 _,rfl⟩ ⟨rfl,rfl,rfl,trivial⟩ trivial trivial ?_
 rintro i ⟨ae,aD⟩
 try simp only at ae aD ⊢
 cases ad:S[i]? with
 |some v=>
  have cL:=(List.getElem?_eq_some_iff.1 ad).1
  have d1:(i:Int)<(S.length:Int):=by omega
  rw[fe ad]at aD
  simp only[aV0]at aD
  (repeat' first|(apply ai.s rfl;(·simp(disch:=omega)only[go_sem,simprocAttr,d1]<;>with_reducible rfl))|(apply ay.s true true;(·simp(disch:=omega)only[go_sem,simprocAttr,d1]<;>with_reducible rfl))|apply ai.nil|(refine ay.dr ?_)|(apply ai.fi;(·simp(disch:=omega)only[go_sem,simprocAttr,d1]<;>with_reducible rfl))|(apply ai.fj;(·rfl);(·simp(disch:=omega)only[go_sem,simprocAttr,d1]<;>with_reducible rfl))|(apply ai.gs;(·simp(disch:=omega)only[go_sem,simprocAttr,d1]<;>with_reducible rfl))|((first|apply ai.fl|apply ai.fm|apply ai.fo);(·simp(disch:=omega)only[go_sem,simprocAttr,d1]<;>with_reducible rfl);(·simp(disch:=omega)only[go_sem,simprocAttr,d1]<;>with_reducible rfl);(·assumption);(·omega))|intro h|(apply ay.cond;(·simp(disch:=omega)only[go_sem,simprocAttr,d1]<;>with_reducible rfl)))
  refine D.P (ai6 _) ?_
  (repeat' first|refine D.S ?_|refine D.iv true true ?_|refine ai.nil ?_|refine ay.dr ?_|refine D.W ?_|refine D.Z ?_|refine D.G ?_ ?_|refine D.X ‹_› ?_|refine D.jU ‹_› ?_|refine D.jV ‹_› ?_|intro h|refine D.C ?_ ?_)
  ·refine D.r ?_
   refine⟨_,rfl,.aQ ?_ rfl,trivial,trivial⟩
   rw[dl,←aD]
   simp_all [wU,I.aQ]
  ·refine ay.fH (i+1) ⟨by omega,?_⟩ ⟨rfl,rfl,rfl,trivial⟩ trivial trivial rfl rfl (by show S.length-(i+1)<S.length-i; omega)
   rw[←aD]
   simp_all [wU]
 |none=>
  have ck:=List.getElem?_eq_none_iff.1 ad
  have ch:i=S.length:=by omega
  subst ch
  have d1: ¬(S.length:Int)<(S.length:Int):=by omega
  (repeat' first|(apply ai.s rfl;(·simp(disch:=omega)only[go_sem,simprocAttr,d1]<;>with_reducible rfl))|(apply ay.s true true;(·simp(disch:=omega)only[go_sem,simprocAttr,d1]<;>with_reducible rfl))|apply ai.nil|(refine ay.dr ?_)|(apply ai.fi;(·simp(disch:=omega)only[go_sem,simprocAttr,d1]<;>with_reducible rfl))|(apply ai.fj;(·rfl);(·simp(disch:=omega)only[go_sem,simprocAttr,d1]<;>with_reducible rfl))|(apply ai.gs;(·simp(disch:=omega)only[go_sem,simprocAttr,d1]<;>with_reducible rfl))|((first|apply ai.fl|apply ai.fm|apply ai.fo);(·simp(disch:=omega)only[go_sem,simprocAttr,d1]<;>with_reducible rfl);(·simp(disch:=omega)only[go_sem,simprocAttr,d1]<;>with_reducible rfl);(·assumption);(·omega))|intro h|(apply ay.cond;(·simp(disch:=omega)only[go_sem,simprocAttr,d1]<;>with_reducible rfl)))
  refine D.r ?_
  refine⟨_,rfl,.aQ ?_ rfl,trivial,trivial⟩
  rw[List.drop_length]at aD
  simp only[decide_eq_false_iff_not]at*
  rw[dl,←aD,aE]
  have:S.length≤16:=by omega
  simp [this,I.aQ]
end
end Go.aX.T.N
