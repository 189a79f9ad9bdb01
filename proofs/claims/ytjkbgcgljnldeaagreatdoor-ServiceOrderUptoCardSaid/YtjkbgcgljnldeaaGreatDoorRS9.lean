/- Part of a proof; own work. -/
import Derived.Test.YtjkbgcgljnldeaaGreatDoorRS8
set_option linter.unusedVariables false
set_option linter.unusedSimpArgs false
namespace Go.bc.T.N
open Go Go.bc Go.Proofs Go.RowKit
set_option maxRecDepth 100000
attribute [local irreducible] Go.bc.aj Go.bc.ae Go.bc.bz
attribute [local go_sem] wrap64 SI SJ MX decide_true decide_false dst Ba Lc Ld y8 r1 dr dP dV fO I.cR kq I.kU Ny NC NA M9 Nr Ns Nt Ng Nh Ni Nj Nk Nl M3 M4 Nd NB ND Nz Na Nq No Np Nu NE NF Nf Nv Nw Nc Nb Nx Nn M6 M5 M2 NG NH M8 M7 fj HV HU Env.get xE xD BO NL NP ER zn ES NQ NM NO NN nV sd sc se sa sb qj qk iA jI DT K2 hB I.eF H6 Ic NR NS NI NJ tR qn uL sG tP HP HO H2 I.cells I.eo I.flat b3 fP gx kP I.one I.iB gM oe mG mw initFrom oa tU tT cond_true cond_false beq_self_eq_true Bool.not_true Bool.not_false beq_true beq_false eq_self if_true Option.some.injEq List.length_cons List.length_nil List.take_succ_cons List.take_zero List.drop_succ_cons List.drop_zero List.set_cons_succ List.set_cons_zero List.nil_append List.cons_append List.append_nil and_self Option.map_some Option.map_none List.map_cons List.map_nil Bool.false_eq_true if_false Nat.zero_add Nat.add_zero true_and and_true Bool.and_true Bool.true_and List.getElem?_cons_zero List.getElem?_cons_succ Nat.zero_le Nat.le_refl List.all_cons List.all_nil List.flatten_cons List.flatten_nil qq rr List.filter_cons List.filter_nil List.contains_cons List.contains_nil Bool.or_false Bool.or_true Bool.false_or Bool.true_or
section
theorem bN:Tryz.prog.follows .mixedOrders=true:=by kernel_rfl
attribute [local go_sem] ad.ct ac.ct ad.b9 ac.b9
theorem eN (l:List (List UInt8)):fP (l.map cj)=true:=qx (fun _=>rfl) l
attribute [local go_sem] cj eN
theorem FB (z:Int):Pure Tryz.prog 80 [.int .u8 z] (.bool (xr z)):=by
 refine cF bN Tryz.func80 VO rfl rfl ?_
 unfold Kr Rh
 simp(disch:=omega)only[go_sem,simprocAttr]
 (repeat' first|refine D.S ?_|refine D.cN true true ?_|refine ae.nil ?_|refine aj.b6 ?_|refine D.W ?_|refine D.Z ?_|refine D.G ?_ ?_|refine D.X ‹_› ?_|refine D.eh ‹_› ?_|refine D.ei ‹_› ?_|intro h|refine D.C ?_ ?_)
 all_goals (refine D.R ?_)
 all_goals (refine⟨_,rfl,.av ?_ rfl,trivial,trivial⟩; simp_all [xr,I.av]<;>(try omega))
theorem FC (z:Int):Pure Tryz.prog 82 [.int .u8 z] (.bool (vc z)):=by
 refine cF bN Tryz.func82 VQ rfl rfl ?_
 unfold Kt Rj
 simp(disch:=omega)only[go_sem,simprocAttr]
 (repeat' first|refine D.S ?_|refine D.cN true true ?_|refine ae.nil ?_|refine aj.b6 ?_|refine D.W ?_|refine D.Z ?_|refine D.G ?_ ?_|refine D.X ‹_› ?_|refine D.eh ‹_› ?_|refine D.ei ‹_› ?_|intro h|refine D.C ?_ ?_)
 all_goals (refine D.R ?_)
 all_goals (refine⟨_,rfl,.av ?_ rfl,trivial,trivial⟩; simp_all [vc,I.av]<;>(try omega))
theorem Fu (z:Int):Pure Tryz.prog 149 [.int .u8 z] (.bool (uu z)):=by
 refine cF bN Tryz.func149 Uw rfl rfl ?_
 unfold tX PX
 simp(disch:=omega)only[go_sem,simprocAttr]
 refine ao ?_
 refine D.P (FB z) ?_
 (repeat' first|refine D.S ?_|refine D.cN true true ?_|refine ae.nil ?_|refine aj.b6 ?_|refine D.W ?_|refine D.Z ?_|refine D.G ?_ ?_|refine D.X ‹_› ?_|refine D.eh ‹_› ?_|refine D.ei ‹_› ?_|intro h|refine D.C ?_ ?_)
 ·refine D.r ?_
  refine⟨_,rfl,.av ?_ rfl,trivial,trivial⟩
  simp_all [uu,I.av]
 refine D.P (FC z) ?_
 (repeat' first|refine D.S ?_|refine D.cN true true ?_|refine ae.nil ?_|refine aj.b6 ?_|refine D.W ?_|refine D.Z ?_|refine D.G ?_ ?_|refine D.X ‹_› ?_|refine D.eh ‹_› ?_|refine D.ei ‹_› ?_|intro h|refine D.C ?_ ?_)
 all_goals (refine D.R ?_)
 all_goals (refine⟨_,rfl,.av ?_ rfl,trivial,trivial⟩; simp_all [uu,I.av]<;>(try omega))
theorem au5 (l:List (List UInt8)) (s:List UInt8) (aH:l.length≤maxLen):Pure Tryz.prog 159 [.ay 1 (l.map cj),.str s] (.int .i64 (s0 l s l.length 0)):=by
 have ms:l.length≤9223372036854775807:=by unfold maxLen at aH; omega
 refine cF bN Tryz.func159 UF (by simp only[b3,I.flat,eN,Bool.and_self]) rfl ?_
 unfold Ju P6
 simp(disch:=omega)only[go_sem,simprocAttr]
 refine ao ?_
 refine aj.dd (X:=Nat) 0 (fun i=>[(0,.ay 1 (l.map cj)),(1,.str s),(7,.int .i64 ((l.map cj).length:Int)),(8,.int .i64 (i:Int))]) (fun _=>[]) (fun _=>[]) (fun i=>i≤l.length∧s0 l s (l.length-i) i=s0 l s l.length 0) (fun i=>l.length-i) ⟨Nat.zero_le _,rfl⟩ ⟨rfl,rfl,rfl,rfl,trivial⟩ trivial trivial ?_
 rintro i ⟨ai,aB⟩
 try simp only at ai aB ⊢
 cases af:l[i]? with
 |some v=>
  have cK:=(List.getElem?_eq_some_iff.1 af).1
  have d1:(i:Int)<((l.map cj).length:Int):=by rw[List.length_map]; omega
  rw[show l.length-i=(l.length-(i+1))+1 by omega]at aB
  simp only[s0,af]at aB
  (repeat' first|(apply ae.s rfl;(·simp(disch:=omega)only[go_sem,simprocAttr,d1]<;>with_reducible rfl))|(apply aj.s true true;(·simp(disch:=omega)only[go_sem,simprocAttr,d1]<;>with_reducible rfl))|apply ae.nil|(refine aj.b6 ?_)|(apply ae.eX;(·simp(disch:=omega)only[go_sem,simprocAttr,d1]<;>with_reducible rfl))|(apply ae.eY;(·rfl);(·simp(disch:=omega)only[go_sem,simprocAttr,d1]<;>with_reducible rfl))|(apply ae.gs;(·simp(disch:=omega)only[go_sem,simprocAttr,d1]<;>with_reducible rfl))|((first|apply ae.e3|apply ae.e4|apply ae.e5);(·simp(disch:=omega)only[go_sem,simprocAttr,d1]<;>with_reducible rfl);(·simp(disch:=omega)only[go_sem,simprocAttr,d1]<;>with_reducible rfl);(·assumption);(·omega))|intro h|(apply aj.cond;(·simp(disch:=omega)only[go_sem,simprocAttr,d1]<;>with_reducible rfl)))
  ·simp only[decide_eq_true_eq]at h
   subst h
   rw[if_pos rfl]at aB
   refine D.r ?_
   exact⟨_,rfl,.av (by rw[aB]; rfl) rfl,trivial,trivial⟩
  ·simp only[decide_eq_false_iff_not]at h
   rw[if_neg h]at aB
   refine aj.dK (i+1) ⟨by omega,aB⟩ ⟨rfl,rfl,rfl,rfl,trivial⟩ trivial trivial rfl rfl (by show l.length-(i+1)<l.length-i; omega)
 |none=>
  have cM:=List.getElem?_eq_none_iff.1 af
  have bE:i=l.length:=by omega
  subst bE
  have d1: ¬(l.length:Int)<((l.map cj).length:Int):=by rw[List.length_map]; omega
  rw[Nat.sub_self]at aB
  simp only[s0]at aB
  (repeat' first|(apply ae.s rfl;(·simp(disch:=omega)only[go_sem,simprocAttr,d1]<;>with_reducible rfl))|(apply aj.s true true;(·simp(disch:=omega)only[go_sem,simprocAttr,d1]<;>with_reducible rfl))|apply ae.nil|(refine aj.b6 ?_)|(apply ae.eX;(·simp(disch:=omega)only[go_sem,simprocAttr,d1]<;>with_reducible rfl))|(apply ae.eY;(·rfl);(·simp(disch:=omega)only[go_sem,simprocAttr,d1]<;>with_reducible rfl))|(apply ae.gs;(·simp(disch:=omega)only[go_sem,simprocAttr,d1]<;>with_reducible rfl))|((first|apply ae.e3|apply ae.e4|apply ae.e5);(·simp(disch:=omega)only[go_sem,simprocAttr,d1]<;>with_reducible rfl);(·simp(disch:=omega)only[go_sem,simprocAttr,d1]<;>with_reducible rfl);(·assumption);(·omega))|intro h|(apply aj.cond;(·simp(disch:=omega)only[go_sem,simprocAttr,d1]<;>with_reducible rfl)))
  refine D.r ?_
  exact⟨_,rfl,.av (by rw[←aB]; rfl) rfl,trivial,trivial⟩
theorem as0 (l:List (List UInt8)) (s:List UInt8) (aH:l.length≤maxLen):Pure Tryz.prog 102 [.ay 1 (l.map cj),.str s] (.bool (l.contains s)):=by
 refine cF bN Tryz.func102 TS (by simp only[b3,I.flat,eN,Bool.and_self]) rfl ?_
 unfold II Pj
 simp(disch:=omega)only[go_sem,simprocAttr]
 refine ao ?_
 refine D.P (au5 l s aH) ?_
 refine ao ?_
 refine D.r ?_
 refine⟨_,rfl,.av ?_ rfl,trivial,trivial⟩
 have:=Mk l s l.length 0 (Nat.zero_add _)
 rw[List.drop_zero]at this
 rw[←this]
 rfl
theorem ar9 (s:List UInt8):Pure Tryz.prog 101 [.str s] (.bool (mx s)):=by
 cases s with
 |nil=>
  refine cF bN Tryz.func101 HF rfl rfl ?_
  unfold Dz FG
  simp(disch:=omega)only[go_sem,simprocAttr]
  (repeat' first|refine D.S ?_|refine D.cN true true ?_|refine ae.nil ?_|refine aj.b6 ?_|refine D.W ?_|refine D.Z ?_|refine D.G ?_ ?_|refine D.X ‹_› ?_|refine D.eh ‹_› ?_|refine D.ei ‹_› ?_|intro h|refine D.C ?_ ?_)
  exact D.rx
 |cons c s=>
 have bW:mx (c::s)=(decide ((c::s).length≤16)&&(l1 c&&(c::s).all iO)):=rfl
 have aw:(c::s)[0]? =some c:=rfl
 have dw: ¬(c::s)=[]:=by simp
 generalize c::s=S at bW aw dw
 refine cF bN Tryz.func101 HF rfl rfl ?_
 unfold Dz FG
 simp(disch:=omega)only[go_sem,simprocAttr]
 (repeat' first|(apply ae.s rfl;(·simp(disch:=omega)only[go_sem,simprocAttr,dw]<;>with_reducible rfl))|(apply aj.s true true;(·simp(disch:=omega)only[go_sem,simprocAttr,dw]<;>with_reducible rfl))|apply ae.nil|(refine aj.b6 ?_)|(apply ae.eX;(·simp(disch:=omega)only[go_sem,simprocAttr,dw]<;>with_reducible rfl))|(apply ae.eY;(·rfl);(·simp(disch:=omega)only[go_sem,simprocAttr,dw]<;>with_reducible rfl))|(apply ae.gs;(·simp(disch:=omega)only[go_sem,simprocAttr,dw]<;>with_reducible rfl))|((first|apply ae.e3|apply ae.e4|apply ae.e5);(·simp(disch:=omega)only[go_sem,simprocAttr,dw]<;>with_reducible rfl);(·simp(disch:=omega)only[go_sem,simprocAttr,dw]<;>with_reducible rfl);(·assumption);(·omega))|intro h|(apply aj.cond;(·simp(disch:=omega)only[go_sem,simprocAttr,dw]<;>with_reducible rfl)))
 ·refine D.r ?_
  refine⟨_,rfl,.av ?_ rfl,trivial,trivial⟩
  rw[bW]
  simp only[decide_eq_true_eq]at h
  have: ¬S.length≤16:=by omega
  simp [this,I.av]
 have hY:S.length≤9223372036854775807:=by simp at h; omega
 refine D.P (FB _) ?_
 (repeat' first|refine D.S ?_|refine D.cN true true ?_|refine ae.nil ?_|refine aj.b6 ?_|refine D.W ?_|refine D.Z ?_|refine D.G ?_ ?_|refine D.X ‹_› ?_|refine D.eh ‹_› ?_|refine D.ei ‹_› ?_|intro h|refine D.C ?_ ?_)
 ·refine D.r ?_
  refine⟨_,rfl,.av ?_ rfl,trivial,trivial⟩
  rw[bW]
  simp_all [l1,I.av]
 have aH:l1 c=true:=by simpa [l1] using h
 refine aj.dd (X:=Nat) 0 (fun i=>[(0,.str S),(18,.int .i64 (S.length:Int)),(19,.int .i64 (i:Int))]) (fun _=>[]) (fun _=>[]) (fun i=>i≤S.length∧(S.drop i).all iO=S.all iO) (fun i=>S.length-i) ⟨Nat.zero_le _,rfl⟩ ⟨rfl,rfl,rfl,trivial⟩ trivial trivial ?_
 rintro i ⟨ai,aB⟩
 try simp only at ai aB ⊢
 cases af:S[i]? with
 |some v=>
  have cK:=(List.getElem?_eq_some_iff.1 af).1
  have d1:(i:Int)<(S.length:Int):=by omega
  rw[iM af]at aB
  simp only[List.all_cons]at aB
  (repeat' first|(apply ae.s rfl;(·simp(disch:=omega)only[go_sem,simprocAttr,d1]<;>with_reducible rfl))|(apply aj.s true true;(·simp(disch:=omega)only[go_sem,simprocAttr,d1]<;>with_reducible rfl))|apply ae.nil|(refine aj.b6 ?_)|(apply ae.eX;(·simp(disch:=omega)only[go_sem,simprocAttr,d1]<;>with_reducible rfl))|(apply ae.eY;(·rfl);(·simp(disch:=omega)only[go_sem,simprocAttr,d1]<;>with_reducible rfl))|(apply ae.gs;(·simp(disch:=omega)only[go_sem,simprocAttr,d1]<;>with_reducible rfl))|((first|apply ae.e3|apply ae.e4|apply ae.e5);(·simp(disch:=omega)only[go_sem,simprocAttr,d1]<;>with_reducible rfl);(·simp(disch:=omega)only[go_sem,simprocAttr,d1]<;>with_reducible rfl);(·assumption);(·omega))|intro h|(apply aj.cond;(·simp(disch:=omega)only[go_sem,simprocAttr,d1]<;>with_reducible rfl)))
  refine D.P (Fu _) ?_
  (repeat' first|refine D.S ?_|refine D.cN true true ?_|refine ae.nil ?_|refine aj.b6 ?_|refine D.W ?_|refine D.Z ?_|refine D.G ?_ ?_|refine D.X ‹_› ?_|refine D.eh ‹_› ?_|refine D.ei ‹_› ?_|intro h|refine D.C ?_ ?_)
  ·refine D.r ?_
   refine⟨_,rfl,.av ?_ rfl,trivial,trivial⟩
   rw[bW,←aB]
   simp_all [iO,I.av]
  ·refine aj.dK (i+1) ⟨by omega,?_⟩ ⟨rfl,rfl,rfl,trivial⟩ trivial trivial rfl rfl (by show S.length-(i+1)<S.length-i; omega)
   rw[←aB]
   simp_all [iO]
 |none=>
  have cM:=List.getElem?_eq_none_iff.1 af
  have bE:i=S.length:=by omega
  subst bE
  have d1: ¬(S.length:Int)<(S.length:Int):=by omega
  (repeat' first|(apply ae.s rfl;(·simp(disch:=omega)only[go_sem,simprocAttr,d1]<;>with_reducible rfl))|(apply aj.s true true;(·simp(disch:=omega)only[go_sem,simprocAttr,d1]<;>with_reducible rfl))|apply ae.nil|(refine aj.b6 ?_)|(apply ae.eX;(·simp(disch:=omega)only[go_sem,simprocAttr,d1]<;>with_reducible rfl))|(apply ae.eY;(·rfl);(·simp(disch:=omega)only[go_sem,simprocAttr,d1]<;>with_reducible rfl))|(apply ae.gs;(·simp(disch:=omega)only[go_sem,simprocAttr,d1]<;>with_reducible rfl))|((first|apply ae.e3|apply ae.e4|apply ae.e5);(·simp(disch:=omega)only[go_sem,simprocAttr,d1]<;>with_reducible rfl);(·simp(disch:=omega)only[go_sem,simprocAttr,d1]<;>with_reducible rfl);(·assumption);(·omega))|intro h|(apply aj.cond;(·simp(disch:=omega)only[go_sem,simprocAttr,d1]<;>with_reducible rfl)))
  refine D.r ?_
  refine⟨_,rfl,.av ?_ rfl,trivial,trivial⟩
  rw[List.drop_length]at aB
  simp only[decide_eq_false_iff_not]at*
  rw[bW,←aB,aH]
  have:S.length≤16:=by omega
  simp [this,I.av]
end
end Go.bc.T.N
