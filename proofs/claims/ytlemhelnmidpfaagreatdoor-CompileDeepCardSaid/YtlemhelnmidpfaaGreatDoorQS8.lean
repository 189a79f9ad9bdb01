/- Part of a proof; own work. -/
import Derived.Test.YtlemhelnmidpfaaGreatDoorQS7
set_option linter.unusedVariables false
set_option linter.unusedSimpArgs false
namespace Go.aO.T.N
open Go Go.aO Go.Proofs Go.RowKit
set_option maxRecDepth 100000
attribute [local irreducible] Go.aO.av Go.aO.au Go.aO.aY
attribute [local go_sem] wrap64 VT VU QO decide_true decide_false dst D0 O0 O1 B0 tV ed fA fB kd I.dW pH I.qY Ro Rt Rr Q1 Rh Ri Rj Q7 Q8 Q9 Ra Rb Rc QV QW Q5 Rs Ru Rq Q2 Rg Re Rf Rk Rv Rw Q6 Rl Rm Q4 Q3 Rn Rd QY QX QU Rx Ry Q0 QZ fN LO LN Env.get zY zX Iu RB RF Cg oC zR Iv RC RE RD o5 sQ qW rN rL rM qq qs hU jD tM OO fw I.fh Ga L7 RO RP Rz RA y9 r1 w4 ur vX LI LH F4 I.cells I.fk I.flat b7 eN gj mG I.one I.js h9 po oJ mQ initFrom pY wa v8 cond_true cond_false beq_self_eq_true Bool.not_true Bool.not_false beq_true beq_false eq_self if_true Option.some.injEq List.length_cons List.length_nil List.take_succ_cons List.take_zero List.drop_succ_cons List.drop_zero List.set_cons_succ List.set_cons_zero List.nil_append List.cons_append List.append_nil and_self Option.map_some Option.map_none List.map_cons List.map_nil Bool.false_eq_true if_false Nat.zero_add Nat.add_zero true_and and_true Bool.and_true Bool.true_and List.getElem?_cons_zero List.getElem?_cons_succ Nat.zero_le Nat.le_refl List.all_cons List.all_nil List.flatten_cons List.flatten_nil r6 tz List.filter_cons List.filter_nil List.contains_cons List.contains_nil Bool.or_false Bool.or_true Bool.false_or Bool.true_or
section
theorem bb:Tryz.prog.follows .mixedOrders=true:=by kernel_rfl
attribute [local go_sem] al.cr ai.cr al.ch ai.ch
theorem cR (l:List (List UInt8)):eN (l.map b6)=true:=lW (fun _=>rfl) l
attribute [local go_sem] b6 cR
theorem Si (z:Int):Pure Tryz.prog 145 [.int .u8 z] (.bool (Ey z)):=by
 refine cM bb Tryz.func145 Xd rfl rfl ?_
 unfold MI SE
 simp(disch:=omega)only[go_sem,simprocAttr]
 (repeat' first|refine D.S ?_|refine D.jd true true ?_|refine au.nil ?_|refine av.dN ?_|refine D.W ?_|refine D.Z ?_|refine D.G ?_ ?_|refine D.X ‹_› ?_|refine D.jY ‹_› ?_|refine D.lo ‹_› ?_|intro h|refine D.C ?_ ?_)
 all_goals (refine D.R ?_)
 all_goals (refine⟨_,rfl,.aM ?_ rfl,trivial,trivial⟩; simp_all [Ey,I.aM]<;>(try omega))
theorem aN6 (z:Int):Pure Tryz.prog 242 [.int .u8 z] (.bool (Gm z)):=by
 refine cM bb Tryz.func242 XW rfl rfl ?_
 unfold Np To
 simp(disch:=omega)only[go_sem,simprocAttr]
 (repeat' first|refine D.S ?_|refine D.jd true true ?_|refine au.nil ?_|refine av.dN ?_|refine D.W ?_|refine D.Z ?_|refine D.G ?_ ?_|refine D.X ‹_› ?_|refine D.jY ‹_› ?_|refine D.lo ‹_› ?_|intro h|refine D.C ?_ ?_)
 all_goals (refine D.R ?_)
 all_goals (refine⟨_,rfl,.aM ?_ rfl,trivial,trivial⟩; simp_all [Gm,I.aM]<;>(try omega))
theorem aK9 (z:Int):Pure Tryz.prog 146 [.int .u8 z] (.bool (Eu z)):=by
 refine cM bb Tryz.func146 Xe rfl rfl ?_
 unfold MJ SF
 simp(disch:=omega)only[go_sem,simprocAttr]
 refine aj ?_
 refine D.P (Si z) ?_
 (repeat' first|refine D.S ?_|refine D.jd true true ?_|refine au.nil ?_|refine av.dN ?_|refine D.W ?_|refine D.Z ?_|refine D.G ?_ ?_|refine D.X ‹_› ?_|refine D.jY ‹_› ?_|refine D.lo ‹_› ?_|intro h|refine D.C ?_ ?_)
 ·refine D.r ?_
  refine⟨_,rfl,.aM ?_ rfl,trivial,trivial⟩
  simp_all [Eu,I.aM]
 refine D.P (aN6 z) ?_
 (repeat' first|refine D.S ?_|refine D.jd true true ?_|refine au.nil ?_|refine av.dN ?_|refine D.W ?_|refine D.Z ?_|refine D.G ?_ ?_|refine D.X ‹_› ?_|refine D.jY ‹_› ?_|refine D.lo ‹_› ?_|intro h|refine D.C ?_ ?_)
 all_goals (refine D.R ?_)
 all_goals (refine⟨_,rfl,.aM ?_ rfl,trivial,trivial⟩; simp_all [Eu,I.aM]<;>(try omega))
theorem zZ (l:List (List UInt8)) (s:List UInt8) (aC:l.length≤maxLen):Pure Tryz.prog 93 [.af 1 (l.map b6),.str s] (.int .i64 (qG l s l.length 0)):=by
 have tQ:l.length≤9223372036854775807:=by unfold maxLen at aC; omega
 refine cM bb Tryz.func93 Y5 (by simp only[b7,I.flat,cR,Bool.and_self]) rfl ?_
 unfold uI Uz
 simp(disch:=omega)only[go_sem,simprocAttr]
 refine aj ?_
 refine av.c5 (X:=Nat) 0 (fun i=>[(0,.af 1 (l.map b6)),(1,.str s),(7,.int .i64 ((l.map b6).length:Int)),(8,.int .i64 (i:Int))]) (fun _=>[]) (fun _=>[]) (fun i=>i≤l.length∧qG l s (l.length-i) i=qG l s l.length 0) (fun i=>l.length-i) ⟨Nat.zero_le _,rfl⟩ ⟨rfl,rfl,rfl,rfl,trivial⟩ trivial trivial ?_
 rintro i ⟨ad,aG⟩
 try simp only at ad aG ⊢
 cases ae:l[i]? with
 |some v=>
  have cB:=(List.getElem?_eq_some_iff.1 ae).1
  have d1:(i:Int)<((l.map b6).length:Int):=by rw[List.length_map]; omega
  rw[show l.length-i=(l.length-(i+1))+1 by omega]at aG
  simp only[qG,ae]at aG
  (repeat' first|(apply au.s rfl;(·simp(disch:=omega)only[go_sem,simprocAttr,d1]<;>with_reducible rfl))|(apply av.s true true;(·simp(disch:=omega)only[go_sem,simprocAttr,d1]<;>with_reducible rfl))|apply au.nil|(refine av.dN ?_)|(apply au.gw;(·simp(disch:=omega)only[go_sem,simprocAttr,d1]<;>with_reducible rfl))|(apply au.gx;(·rfl);(·simp(disch:=omega)only[go_sem,simprocAttr,d1]<;>with_reducible rfl))|(apply au.gs;(·simp(disch:=omega)only[go_sem,simprocAttr,d1]<;>with_reducible rfl))|((first|apply au.gz|apply au.gA|apply au.gB);(·simp(disch:=omega)only[go_sem,simprocAttr,d1]<;>with_reducible rfl);(·simp(disch:=omega)only[go_sem,simprocAttr,d1]<;>with_reducible rfl);(·assumption);(·omega))|intro h|(apply av.cond;(·simp(disch:=omega)only[go_sem,simprocAttr,d1]<;>with_reducible rfl)))
  ·simp only[decide_eq_true_eq]at h
   subst h
   rw[if_pos rfl]at aG
   refine D.r ?_
   exact⟨_,rfl,.aM (by rw[aG]; rfl) rfl,trivial,trivial⟩
  ·simp only[decide_eq_false_iff_not]at h
   rw[if_neg h]at aG
   refine av.dO (i+1) ⟨by omega,aG⟩ ⟨rfl,rfl,rfl,rfl,trivial⟩ trivial trivial rfl rfl (by show l.length-(i+1)<l.length-i; omega)
 |none=>
  have cg:=List.getElem?_eq_none_iff.1 ae
  have cA:i=l.length:=by omega
  subst cA
  have d1: ¬(l.length:Int)<((l.map b6).length:Int):=by rw[List.length_map]; omega
  rw[Nat.sub_self]at aG
  simp only[qG]at aG
  (repeat' first|(apply au.s rfl;(·simp(disch:=omega)only[go_sem,simprocAttr,d1]<;>with_reducible rfl))|(apply av.s true true;(·simp(disch:=omega)only[go_sem,simprocAttr,d1]<;>with_reducible rfl))|apply au.nil|(refine av.dN ?_)|(apply au.gw;(·simp(disch:=omega)only[go_sem,simprocAttr,d1]<;>with_reducible rfl))|(apply au.gx;(·rfl);(·simp(disch:=omega)only[go_sem,simprocAttr,d1]<;>with_reducible rfl))|(apply au.gs;(·simp(disch:=omega)only[go_sem,simprocAttr,d1]<;>with_reducible rfl))|((first|apply au.gz|apply au.gA|apply au.gB);(·simp(disch:=omega)only[go_sem,simprocAttr,d1]<;>with_reducible rfl);(·simp(disch:=omega)only[go_sem,simprocAttr,d1]<;>with_reducible rfl);(·assumption);(·omega))|intro h|(apply av.cond;(·simp(disch:=omega)only[go_sem,simprocAttr,d1]<;>with_reducible rfl)))
  refine D.r ?_
  exact⟨_,rfl,.aM (by rw[←aG]; rfl) rfl,trivial,trivial⟩
theorem Sc (l:List (List UInt8)) (s:List UInt8) (aC:l.length≤maxLen):Pure Tryz.prog 198 [.af 1 (l.map b6),.str s] (.bool (l.contains s)):=by
 refine cM bb Tryz.func198 Xu (by simp only[b7,I.flat,cR,Bool.and_self]) rfl ?_
 unfold MZ SW
 simp(disch:=omega)only[go_sem,simprocAttr]
 refine aj ?_
 refine D.P (zZ l s aC) ?_
 refine aj ?_
 refine D.r ?_
 refine⟨_,rfl,.aM ?_ rfl,trivial,trivial⟩
 have:=H3 l s l.length 0 (Nat.zero_add _)
 rw[List.drop_zero]at this
 rw[←this]
 rfl
theorem aJ6 (s:List UInt8):Pure Tryz.prog 76 [.str s] (.bool (BO s)):=by
 cases s with
 |nil=>
  refine cM bb Tryz.func76 LA rfl rfl ?_
  unfold GO Jc
  simp(disch:=omega)only[go_sem,simprocAttr]
  (repeat' first|refine D.S ?_|refine D.jd true true ?_|refine au.nil ?_|refine av.dN ?_|refine D.W ?_|refine D.Z ?_|refine D.G ?_ ?_|refine D.X ‹_› ?_|refine D.jY ‹_› ?_|refine D.lo ‹_› ?_|intro h|refine D.C ?_ ?_)
  exact D.rx
 |cons c s=>
 have cW:BO (c::s)=(decide ((c::s).length≤16)&&(B7 c&&(c::s).all zJ)):=rfl
 have aU:(c::s)[0]? =some c:=rfl
 have e3: ¬(c::s)=[]:=by simp
 generalize c::s=S at cW aU e3
 refine cM bb Tryz.func76 LA rfl rfl ?_
 unfold GO Jc
 simp(disch:=omega)only[go_sem,simprocAttr]
 (repeat' first|(apply au.s rfl;(·simp(disch:=omega)only[go_sem,simprocAttr,e3]<;>with_reducible rfl))|(apply av.s true true;(·simp(disch:=omega)only[go_sem,simprocAttr,e3]<;>with_reducible rfl))|apply au.nil|(refine av.dN ?_)|(apply au.gw;(·simp(disch:=omega)only[go_sem,simprocAttr,e3]<;>with_reducible rfl))|(apply au.gx;(·rfl);(·simp(disch:=omega)only[go_sem,simprocAttr,e3]<;>with_reducible rfl))|(apply au.gs;(·simp(disch:=omega)only[go_sem,simprocAttr,e3]<;>with_reducible rfl))|((first|apply au.gz|apply au.gA|apply au.gB);(·simp(disch:=omega)only[go_sem,simprocAttr,e3]<;>with_reducible rfl);(·simp(disch:=omega)only[go_sem,simprocAttr,e3]<;>with_reducible rfl);(·assumption);(·omega))|intro h|(apply av.cond;(·simp(disch:=omega)only[go_sem,simprocAttr,e3]<;>with_reducible rfl)))
 ·refine D.r ?_
  refine⟨_,rfl,.aM ?_ rfl,trivial,trivial⟩
  rw[cW]
  simp only[decide_eq_true_eq]at h
  have: ¬S.length≤16:=by omega
  simp [this,I.aM]
 have lB:S.length≤9223372036854775807:=by simp at h; omega
 refine D.P (Si _) ?_
 (repeat' first|refine D.S ?_|refine D.jd true true ?_|refine au.nil ?_|refine av.dN ?_|refine D.W ?_|refine D.Z ?_|refine D.G ?_ ?_|refine D.X ‹_› ?_|refine D.jY ‹_› ?_|refine D.lo ‹_› ?_|intro h|refine D.C ?_ ?_)
 ·refine D.r ?_
  refine⟨_,rfl,.aM ?_ rfl,trivial,trivial⟩
  rw[cW]
  simp_all [B7,I.aM]
 have aC:B7 c=true:=by simpa [B7] using h
 refine av.c5 (X:=Nat) 0 (fun i=>[(0,.str S),(18,.int .i64 (S.length:Int)),(19,.int .i64 (i:Int))]) (fun _=>[]) (fun _=>[]) (fun i=>i≤S.length∧(S.drop i).all zJ=S.all zJ) (fun i=>S.length-i) ⟨Nat.zero_le _,rfl⟩ ⟨rfl,rfl,rfl,trivial⟩ trivial trivial ?_
 rintro i ⟨ad,aG⟩
 try simp only at ad aG ⊢
 cases ae:S[i]? with
 |some v=>
  have cB:=(List.getElem?_eq_some_iff.1 ae).1
  have d1:(i:Int)<(S.length:Int):=by omega
  rw[fY ae]at aG
  simp only[List.all_cons]at aG
  (repeat' first|(apply au.s rfl;(·simp(disch:=omega)only[go_sem,simprocAttr,d1]<;>with_reducible rfl))|(apply av.s true true;(·simp(disch:=omega)only[go_sem,simprocAttr,d1]<;>with_reducible rfl))|apply au.nil|(refine av.dN ?_)|(apply au.gw;(·simp(disch:=omega)only[go_sem,simprocAttr,d1]<;>with_reducible rfl))|(apply au.gx;(·rfl);(·simp(disch:=omega)only[go_sem,simprocAttr,d1]<;>with_reducible rfl))|(apply au.gs;(·simp(disch:=omega)only[go_sem,simprocAttr,d1]<;>with_reducible rfl))|((first|apply au.gz|apply au.gA|apply au.gB);(·simp(disch:=omega)only[go_sem,simprocAttr,d1]<;>with_reducible rfl);(·simp(disch:=omega)only[go_sem,simprocAttr,d1]<;>with_reducible rfl);(·assumption);(·omega))|intro h|(apply av.cond;(·simp(disch:=omega)only[go_sem,simprocAttr,d1]<;>with_reducible rfl)))
  refine D.P (aK9 _) ?_
  (repeat' first|refine D.S ?_|refine D.jd true true ?_|refine au.nil ?_|refine av.dN ?_|refine D.W ?_|refine D.Z ?_|refine D.G ?_ ?_|refine D.X ‹_› ?_|refine D.jY ‹_› ?_|refine D.lo ‹_› ?_|intro h|refine D.C ?_ ?_)
  ·refine D.r ?_
   refine⟨_,rfl,.aM ?_ rfl,trivial,trivial⟩
   rw[cW,←aG]
   simp_all [zJ,I.aM]
  ·refine av.dO (i+1) ⟨by omega,?_⟩ ⟨rfl,rfl,rfl,trivial⟩ trivial trivial rfl rfl (by show S.length-(i+1)<S.length-i; omega)
   rw[←aG]
   simp_all [zJ]
 |none=>
  have cg:=List.getElem?_eq_none_iff.1 ae
  have cA:i=S.length:=by omega
  subst cA
  have d1: ¬(S.length:Int)<(S.length:Int):=by omega
  (repeat' first|(apply au.s rfl;(·simp(disch:=omega)only[go_sem,simprocAttr,d1]<;>with_reducible rfl))|(apply av.s true true;(·simp(disch:=omega)only[go_sem,simprocAttr,d1]<;>with_reducible rfl))|apply au.nil|(refine av.dN ?_)|(apply au.gw;(·simp(disch:=omega)only[go_sem,simprocAttr,d1]<;>with_reducible rfl))|(apply au.gx;(·rfl);(·simp(disch:=omega)only[go_sem,simprocAttr,d1]<;>with_reducible rfl))|(apply au.gs;(·simp(disch:=omega)only[go_sem,simprocAttr,d1]<;>with_reducible rfl))|((first|apply au.gz|apply au.gA|apply au.gB);(·simp(disch:=omega)only[go_sem,simprocAttr,d1]<;>with_reducible rfl);(·simp(disch:=omega)only[go_sem,simprocAttr,d1]<;>with_reducible rfl);(·assumption);(·omega))|intro h|(apply av.cond;(·simp(disch:=omega)only[go_sem,simprocAttr,d1]<;>with_reducible rfl)))
  refine D.r ?_
  refine⟨_,rfl,.aM ?_ rfl,trivial,trivial⟩
  rw[List.drop_length]at aG
  simp only[decide_eq_false_iff_not]at*
  rw[cW,←aG,aC]
  have:S.length≤16:=by omega
  simp [this,I.aM]
end
end Go.aO.T.N
