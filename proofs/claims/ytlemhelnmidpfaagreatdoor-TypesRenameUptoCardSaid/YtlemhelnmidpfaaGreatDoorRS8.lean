/- Part of a proof; own work. -/
import Derived.Test.YtlemhelnmidpfaaGreatDoorRS7
set_option linter.unusedVariables false
set_option linter.unusedSimpArgs false
open Bool renaming and_self→bc0
open List renaming drop_zero→bk5,all_cons→bd3,length_map→bb5,length_append→bb7,length_drop→bl7,length_take→be9,length_nil→bc4,length_cons→bb9
open Nat renaming zero_add→bf6,zero_le→bc3,le_of_ble_eq_true→bh6,reduceBEq→bl3,reduceAdd→bl4
open Go.Proofs.Tryz renaming prog→bb4
namespace Go.ba.T.N
open Go Go.ba Go.Proofs Go.RowKit
set_option maxRecDepth 100000
attribute [local irreducible] Go.ba.ar Go.ba.al Go.ba.bg
attribute [local go_sem] wrap64 TI TJ Ot decide_true decide_false dst BA MC MD zm rT dw eA eB ia I.du oN I.py O2 O6 O4 OF OV OW OX OL OM ON OO OP OQ Oz OA OJ O5 O7 O3 OG OU OS OT OY O8 O9 OK OZ O0 OI OH O1 OR OC OB Oy Pa Pb OE OD fe Je Jd Env.get xJ xI FU Pe Pj zF mV xC FV Pf Ph Pg nH qX pu qa p8 p9 oZ o0 gS iK rH Mt e7 I.eP DN Jy Pn Po Pc Pd wK qs uv so tn I8 I7 DK I.cells I.ea I.flat b2 eY gg lh I.one I.iA ha nY na lE initFrom ov tv tu cond_true cond_false beq_self_eq_true Bool.not_true Bool.not_false beq_true beq_false eq_self if_true Option.some.injEq bb9 bc4 List.take_succ_cons List.take_zero List.drop_succ_cons bk5 List.set_cons_succ List.set_cons_zero List.nil_append List.cons_append List.append_nil and_self Option.map_some Option.map_none List.map_cons List.map_nil Bool.false_eq_true if_false bf6 Nat.add_zero true_and and_true Bool.and_true Bool.true_and List.getElem?_cons_zero List.getElem?_cons_succ bc3 Nat.le_refl bd3 List.all_nil List.flatten_cons List.flatten_nil qv rs List.filter_cons List.filter_nil List.contains_cons List.contains_nil Bool.or_false Bool.or_true Bool.false_or Bool.true_or
section
theorem be:Tryz.prog.follows .mixedOrders=true:=by kernel_rfl
attribute [local go_sem] au.cO ai.cO au.cx ai.cx
theorem dn (l:List (List UInt8)):eY (l.map cf)=true:=ml (fun _=>rfl) l
attribute [local go_sem] cf dn
theorem PV (z:Int):Pure bb4 145 [.int .u8 z] (.bool (xy z)):=by
 refine cw be Tryz.func145 Vg rfl rfl ?_
 unfold Kg Ql
 simp(disch:=omega)only[go_sem,simprocAttr]
 (repeat' first|refine D.S ?_|refine D.fg true true ?_|refine al.nil ?_|refine ar.c9 ?_|refine D.W ?_|refine D.Z ?_|refine D.G ?_ ?_|refine D.X ‹_› ?_|refine D.ja ‹_› ?_|refine D.jb ‹_› ?_|intro h|refine D.C ?_ ?_)
 all_goals (refine D.R ?_)
 all_goals (refine⟨_,rfl,.aF ?_ rfl,trivial,trivial⟩; simp_all [xy,I.aF]<;>(try omega))
theorem aD9 (z:Int):Pure bb4 242 [.int .u8 z] (.bool (yB z)):=by
 refine cw be Tryz.func242 V6 rfl rfl ?_
 unfold K4 Rc
 simp(disch:=omega)only[go_sem,simprocAttr]
 (repeat' first|refine D.S ?_|refine D.fg true true ?_|refine al.nil ?_|refine ar.c9 ?_|refine D.W ?_|refine D.Z ?_|refine D.G ?_ ?_|refine D.X ‹_› ?_|refine D.ja ‹_› ?_|refine D.jb ‹_› ?_|intro h|refine D.C ?_ ?_)
 all_goals (refine D.R ?_)
 all_goals (refine⟨_,rfl,.aF ?_ rfl,trivial,trivial⟩; simp_all [yB,I.aF]<;>(try omega))
theorem aA7 (z:Int):Pure bb4 146 [.int .u8 z] (.bool (vC z)):=by
 refine cw be Tryz.func146 Vh rfl rfl ?_
 unfold Kh Qm
 simp(disch:=omega)only[go_sem,simprocAttr]
 refine ak ?_
 refine D.P (PV z) ?_
 (repeat' first|refine D.S ?_|refine D.fg true true ?_|refine al.nil ?_|refine ar.c9 ?_|refine D.W ?_|refine D.Z ?_|refine D.G ?_ ?_|refine D.X ‹_› ?_|refine D.ja ‹_› ?_|refine D.jb ‹_› ?_|intro h|refine D.C ?_ ?_)
 ·refine D.r ?_
  refine⟨_,rfl,.aF ?_ rfl,trivial,trivial⟩
  simp_all [vC,I.aF]
 refine D.P (aD9 z) ?_
 (repeat' first|refine D.S ?_|refine D.fg true true ?_|refine al.nil ?_|refine ar.c9 ?_|refine D.W ?_|refine D.Z ?_|refine D.G ?_ ?_|refine D.X ‹_› ?_|refine D.ja ‹_› ?_|refine D.jb ‹_› ?_|intro h|refine D.C ?_ ?_)
 all_goals (refine D.R ?_)
 all_goals (refine⟨_,rfl,.aF ?_ rfl,trivial,trivial⟩; simp_all [vC,I.aF]<;>(try omega))
theorem Gl (l:List (List UInt8)) (s:List UInt8) (aG:l.length≤maxLen):Pure bb4 93 [.aq 1 (l.map cf),.str s] (.int .i64 (rR l s l.length 0)):=by
 have rM:l.length≤9223372036854775807:=by unfold maxLen at aG; omega
 refine cw be Tryz.func93 Xb (by simp only[b2,I.flat,dn,bc0]) rfl ?_
 unfold L2 Sf
 simp(disch:=omega)only[go_sem,simprocAttr]
 refine ak ?_
 refine ar.cU (X:=Nat) 0 (fun i=>[(0,.aq 1 (l.map cf)),(1,.str s),(7,.int .i64 ((l.map cf).length:Int)),(8,.int .i64 (i:Int))]) (fun _=>[]) (fun _=>[]) (fun i=>i≤l.length∧rR l s (l.length-i) i=rR l s l.length 0) (fun i=>l.length-i) ⟨bc3 _,rfl⟩ ⟨rfl,rfl,rfl,rfl,trivial⟩ trivial trivial ?_
 rintro i ⟨af,aw⟩
 try simp only at af aw ⊢
 cases ad:l[i]? with
 |some v=>
  have cz:=(List.getElem?_eq_some_iff.1 ad).1
  have d1:(i:Int)<((l.map cf).length:Int):=by rw[bb5]; omega
  rw[show l.length-i=(l.length-(i+1))+1 by omega]at aw
  simp only[rR,ad]at aw
  (repeat' first|(apply al.s rfl;(·simp(disch:=omega)only[go_sem,simprocAttr,d1]<;>with_reducible rfl))|(apply ar.s true true;(·simp(disch:=omega)only[go_sem,simprocAttr,d1]<;>with_reducible rfl))|apply al.nil|(refine ar.c9 ?_)|(apply al.ft;(·simp(disch:=omega)only[go_sem,simprocAttr,d1]<;>with_reducible rfl))|(apply al.fu;(·rfl);(·simp(disch:=omega)only[go_sem,simprocAttr,d1]<;>with_reducible rfl))|(apply al.gs;(·simp(disch:=omega)only[go_sem,simprocAttr,d1]<;>with_reducible rfl))|((first|apply al.fw|apply al.fx|apply al.fy);(·simp(disch:=omega)only[go_sem,simprocAttr,d1]<;>with_reducible rfl);(·simp(disch:=omega)only[go_sem,simprocAttr,d1]<;>with_reducible rfl);(·assumption);(·omega))|intro h|(apply ar.cond;(·simp(disch:=omega)only[go_sem,simprocAttr,d1]<;>with_reducible rfl)))
  ·simp only[decide_eq_true_eq]at h
   subst h
   rw[if_pos rfl]at aw
   refine D.r ?_
   exact⟨_,rfl,.aF (by rw[aw]; rfl) rfl,trivial,trivial⟩
  ·simp only[decide_eq_false_iff_not]at h
   rw[if_neg h]at aw
   refine ar.eC (i+1) ⟨by omega,aw⟩ ⟨rfl,rfl,rfl,rfl,trivial⟩ trivial trivial rfl rfl (by show l.length-(i+1)<l.length-i; omega)
 |none=>
  have b4:=List.getElem?_eq_none_iff.1 ad
  have bN:i=l.length:=by omega
  subst bN
  have d1: ¬(l.length:Int)<((l.map cf).length:Int):=by rw[bb5]; omega
  rw[Nat.sub_self]at aw
  simp only[rR]at aw
  (repeat' first|(apply al.s rfl;(·simp(disch:=omega)only[go_sem,simprocAttr,d1]<;>with_reducible rfl))|(apply ar.s true true;(·simp(disch:=omega)only[go_sem,simprocAttr,d1]<;>with_reducible rfl))|apply al.nil|(refine ar.c9 ?_)|(apply al.ft;(·simp(disch:=omega)only[go_sem,simprocAttr,d1]<;>with_reducible rfl))|(apply al.fu;(·rfl);(·simp(disch:=omega)only[go_sem,simprocAttr,d1]<;>with_reducible rfl))|(apply al.gs;(·simp(disch:=omega)only[go_sem,simprocAttr,d1]<;>with_reducible rfl))|((first|apply al.fw|apply al.fx|apply al.fy);(·simp(disch:=omega)only[go_sem,simprocAttr,d1]<;>with_reducible rfl);(·simp(disch:=omega)only[go_sem,simprocAttr,d1]<;>with_reducible rfl);(·assumption);(·omega))|intro h|(apply ar.cond;(·simp(disch:=omega)only[go_sem,simprocAttr,d1]<;>with_reducible rfl)))
  refine D.r ?_
  exact⟨_,rfl,.aF (by rw[←aw]; rfl) rfl,trivial,trivial⟩
theorem PL (l:List (List UInt8)) (s:List UInt8) (aG:l.length≤maxLen):Pure bb4 198 [.aq 1 (l.map cf),.str s] (.bool (l.contains s)):=by
 refine cw be Tryz.func198 VH (by simp only[b2,I.flat,dn,bc0]) rfl ?_
 unfold KH QN
 simp(disch:=omega)only[go_sem,simprocAttr]
 refine ak ?_
 refine D.P (Gl l s aG) ?_
 refine ak ?_
 refine D.r ?_
 refine⟨_,rfl,.aF ?_ rfl,trivial,trivial⟩
 have:=ND l s l.length 0 (bf6 _)
 rw[bk5]at this
 rw[←this]
 rfl
theorem ay7 (s:List UInt8):Pure bb4 76 [.str s] (.bool (ub s)):=by
 cases s with
 |nil=>
  refine cw be Tryz.func76 I1 rfl rfl ?_
  unfold Ek GG
  simp(disch:=omega)only[go_sem,simprocAttr]
  (repeat' first|refine D.S ?_|refine D.fg true true ?_|refine al.nil ?_|refine ar.c9 ?_|refine D.W ?_|refine D.Z ?_|refine D.G ?_ ?_|refine D.X ‹_› ?_|refine D.ja ‹_› ?_|refine D.jb ‹_› ?_|intro h|refine D.C ?_ ?_)
  exact D.rx
 |cons c s=>
 have cP:ub (c::s)=(decide ((c::s).length≤16)&&(ug c&&(c::s).all qM)):=rfl
 have aW:(c::s)[0]? =some c:=rfl
 have eg: ¬(c::s)=[]:=by simp
 generalize c::s=S at cP aW eg
 refine cw be Tryz.func76 I1 rfl rfl ?_
 unfold Ek GG
 simp(disch:=omega)only[go_sem,simprocAttr]
 (repeat' first|(apply al.s rfl;(·simp(disch:=omega)only[go_sem,simprocAttr,eg]<;>with_reducible rfl))|(apply ar.s true true;(·simp(disch:=omega)only[go_sem,simprocAttr,eg]<;>with_reducible rfl))|apply al.nil|(refine ar.c9 ?_)|(apply al.ft;(·simp(disch:=omega)only[go_sem,simprocAttr,eg]<;>with_reducible rfl))|(apply al.fu;(·rfl);(·simp(disch:=omega)only[go_sem,simprocAttr,eg]<;>with_reducible rfl))|(apply al.gs;(·simp(disch:=omega)only[go_sem,simprocAttr,eg]<;>with_reducible rfl))|((first|apply al.fw|apply al.fx|apply al.fy);(·simp(disch:=omega)only[go_sem,simprocAttr,eg]<;>with_reducible rfl);(·simp(disch:=omega)only[go_sem,simprocAttr,eg]<;>with_reducible rfl);(·assumption);(·omega))|intro h|(apply ar.cond;(·simp(disch:=omega)only[go_sem,simprocAttr,eg]<;>with_reducible rfl)))
 ·refine D.r ?_
  refine⟨_,rfl,.aF ?_ rfl,trivial,trivial⟩
  rw[cP]
  simp only[decide_eq_true_eq]at h
  have: ¬S.length≤16:=by omega
  simp [this,I.aF]
 have iu:S.length≤9223372036854775807:=by simp at h; omega
 refine D.P (PV _) ?_
 (repeat' first|refine D.S ?_|refine D.fg true true ?_|refine al.nil ?_|refine ar.c9 ?_|refine D.W ?_|refine D.Z ?_|refine D.G ?_ ?_|refine D.X ‹_› ?_|refine D.ja ‹_› ?_|refine D.jb ‹_› ?_|intro h|refine D.C ?_ ?_)
 ·refine D.r ?_
  refine⟨_,rfl,.aF ?_ rfl,trivial,trivial⟩
  rw[cP]
  simp_all [ug,I.aF]
 have aG:ug c=true:=by simpa [ug] using h
 refine ar.cU (X:=Nat) 0 (fun i=>[(0,.str S),(18,.int .i64 (S.length:Int)),(19,.int .i64 (i:Int))]) (fun _=>[]) (fun _=>[]) (fun i=>i≤S.length∧(S.drop i).all qM=S.all qM) (fun i=>S.length-i) ⟨bc3 _,rfl⟩ ⟨rfl,rfl,rfl,trivial⟩ trivial trivial ?_
 rintro i ⟨af,aw⟩
 try simp only at af aw ⊢
 cases ad:S[i]? with
 |some v=>
  have cz:=(List.getElem?_eq_some_iff.1 ad).1
  have d1:(i:Int)<(S.length:Int):=by omega
  rw[eN ad]at aw
  simp only[bd3]at aw
  (repeat' first|(apply al.s rfl;(·simp(disch:=omega)only[go_sem,simprocAttr,d1]<;>with_reducible rfl))|(apply ar.s true true;(·simp(disch:=omega)only[go_sem,simprocAttr,d1]<;>with_reducible rfl))|apply al.nil|(refine ar.c9 ?_)|(apply al.ft;(·simp(disch:=omega)only[go_sem,simprocAttr,d1]<;>with_reducible rfl))|(apply al.fu;(·rfl);(·simp(disch:=omega)only[go_sem,simprocAttr,d1]<;>with_reducible rfl))|(apply al.gs;(·simp(disch:=omega)only[go_sem,simprocAttr,d1]<;>with_reducible rfl))|((first|apply al.fw|apply al.fx|apply al.fy);(·simp(disch:=omega)only[go_sem,simprocAttr,d1]<;>with_reducible rfl);(·simp(disch:=omega)only[go_sem,simprocAttr,d1]<;>with_reducible rfl);(·assumption);(·omega))|intro h|(apply ar.cond;(·simp(disch:=omega)only[go_sem,simprocAttr,d1]<;>with_reducible rfl)))
  refine D.P (aA7 _) ?_
  (repeat' first|refine D.S ?_|refine D.fg true true ?_|refine al.nil ?_|refine ar.c9 ?_|refine D.W ?_|refine D.Z ?_|refine D.G ?_ ?_|refine D.X ‹_› ?_|refine D.ja ‹_› ?_|refine D.jb ‹_› ?_|intro h|refine D.C ?_ ?_)
  ·refine D.r ?_
   refine⟨_,rfl,.aF ?_ rfl,trivial,trivial⟩
   rw[cP,←aw]
   simp_all [qM,I.aF]
  ·refine ar.eC (i+1) ⟨by omega,?_⟩ ⟨rfl,rfl,rfl,trivial⟩ trivial trivial rfl rfl (by show S.length-(i+1)<S.length-i; omega)
   rw[←aw]
   simp_all [qM]
 |none=>
  have b4:=List.getElem?_eq_none_iff.1 ad
  have bN:i=S.length:=by omega
  subst bN
  have d1: ¬(S.length:Int)<(S.length:Int):=by omega
  (repeat' first|(apply al.s rfl;(·simp(disch:=omega)only[go_sem,simprocAttr,d1]<;>with_reducible rfl))|(apply ar.s true true;(·simp(disch:=omega)only[go_sem,simprocAttr,d1]<;>with_reducible rfl))|apply al.nil|(refine ar.c9 ?_)|(apply al.ft;(·simp(disch:=omega)only[go_sem,simprocAttr,d1]<;>with_reducible rfl))|(apply al.fu;(·rfl);(·simp(disch:=omega)only[go_sem,simprocAttr,d1]<;>with_reducible rfl))|(apply al.gs;(·simp(disch:=omega)only[go_sem,simprocAttr,d1]<;>with_reducible rfl))|((first|apply al.fw|apply al.fx|apply al.fy);(·simp(disch:=omega)only[go_sem,simprocAttr,d1]<;>with_reducible rfl);(·simp(disch:=omega)only[go_sem,simprocAttr,d1]<;>with_reducible rfl);(·assumption);(·omega))|intro h|(apply ar.cond;(·simp(disch:=omega)only[go_sem,simprocAttr,d1]<;>with_reducible rfl)))
  refine D.r ?_
  refine⟨_,rfl,.aF ?_ rfl,trivial,trivial⟩
  rw[List.drop_length]at aw
  simp only[decide_eq_false_iff_not]at*
  rw[cP,←aw,aG]
  have:S.length≤16:=by omega
  simp [this,I.aF]
end
end Go.ba.T.N
