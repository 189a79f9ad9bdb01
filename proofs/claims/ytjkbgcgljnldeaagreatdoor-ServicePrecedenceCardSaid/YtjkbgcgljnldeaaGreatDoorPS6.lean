/- Part of a proof; own work. -/
import Derived.Test.YtjkbgcgljnldeaaGreatDoorPS5
namespace Go.Aw.T.N
open Go Go.Aw Go.Proofs Go.RowKit
set_option maxRecDepth 100000
attribute [local irreducible] Go.Aw.J Go.Aw.DJ Go.Aw.FC
attribute [local go_sem] wrap64 wrapu64 wrapu8 nnif decide_true decide_false dst gst gv_b gv_u jst jpop bdL bdB bdT bdO AV.bd tfL AV.tf o_mv o_pick o_nilck o_build o_load o_loadD o_loadR o_faddr o_field o_iaddr o_iaddrA o_idxA o_idxS o_bin o_binB o_eqA o_not o_pnil o_neg o_conv o_lenS o_len o_lenA o_minmax o_slS o_slV o_extract o_mkfn o_mkfnB o_convS o_convBS o_mkif o_isnil o_bslice o_box o_alloc o_store o_storeD o_bsliceO o_bsliceM cpv cev_t cev_c Env.get put_some' put_none' of_setB of_addB of_setT of_addT of_upd of_blk of_tok of_nb of_nt of_new rmB rmT rmBs rmTs renB renT apB apT lkB lkT getD_0 getD_s renL AV.ren crange_if cstB_if one_nilS one_pnil oc_nil oc_pnil cbin binInt shInt binStr binBool cbuild_nil cbuild_cons cidx_if AV.cells AV.okc AV.flat flatL flatR setRange minmaxAV AV.one AV.ofCells eqCells eqCell slRows initEnv initFrom cres cresv cresL cond_true cond_false beq_self_eq_true Bool.not_true Bool.not_false beq_true beq_false eq_self if_true Option.some.injEq List.length_cons List.length_nil List.take_succ_cons List.take_zero List.drop_succ_cons List.drop_zero List.set_cons_succ List.set_cons_zero List.nil_append List.cons_append List.append_nil and_self Option.map_some Option.map_none List.map_cons List.map_nil Bool.false_eq_true if_false Nat.zero_add Nat.add_zero true_and and_true Bool.and_true Bool.true_and List.getElem?_cons_zero List.getElem?_cons_succ Nat.zero_le Nat.le_refl List.all_cons List.all_nil List.flatten_cons List.flatten_nil crows crowsOk List.filter_cons List.filter_nil List.contains_cons List.contains_nil Bool.or_false Bool.or_true Bool.false_or Bool.true_or
set_option linter.unusedSimpArgs false
set_option linter.unusedVariables false
section
theorem mo : Tryz.prog.follows .mixedOrders = true := by kernel_rfl
attribute [local go_sem] Ex.row_mk Sm.row_mk Ex.rowsF Sm.rowsF
theorem srow_flat (l : List (List UInt8)) : flatR (l.map srow) = true := flatR_map (fun _ => rfl) l
attribute [local go_sem] srow srow_flat
theorem q80 (z : Int) : Pure Tryz.prog 80 [.int .u8 z] (.bool (letterZ z)) := by
 refine pure_of mo Tryz.func80 c80 rfl rfl ?_
 unfold e80 r80
 simp(disch:=omega)only[go_sem,simprocAttr]
 (repeat' first|refine D.S ?_|refine D.JJ true true ?_|refine DJ.nil ?_|refine J.reg0 ?_|refine D.W ?_|refine D.Z ?_|refine D.G ?_ ?_|refine D.X ‹_› ?_|refine D.XO ‹_› ?_|refine D.XS ‹_› ?_|intro h|refine D.C ?_ ?_)
 all_goals (refine D.R ?_)
 all_goals (refine ⟨_, rfl, .wk ?_ rfl, trivial, trivial⟩; simp_all [letterZ, AV.wk] <;> (try omega))
theorem q82 (z : Int) : Pure Tryz.prog 82 [.int .u8 z] (.bool (digitZ z)) := by
 refine pure_of mo Tryz.func82 c82 rfl rfl ?_
 unfold e82 r82
 simp(disch:=omega)only[go_sem,simprocAttr]
 (repeat' first|refine D.S ?_|refine D.JJ true true ?_|refine DJ.nil ?_|refine J.reg0 ?_|refine D.W ?_|refine D.Z ?_|refine D.G ?_ ?_|refine D.X ‹_› ?_|refine D.XO ‹_› ?_|refine D.XS ‹_› ?_|intro h|refine D.C ?_ ?_)
 all_goals (refine D.R ?_)
 all_goals (refine ⟨_, rfl, .wk ?_ rfl, trivial, trivial⟩; simp_all [digitZ, AV.wk] <;> (try omega))
theorem q149 (z : Int) : Pure Tryz.prog 149 [.int .u8 z] (.bool (innerZ z)) := by
 refine pure_of mo Tryz.func149 c149 rfl rfl ?_
 unfold e149 r149
 simp(disch:=omega)only[go_sem,simprocAttr]
 refine GoG ?_
 refine D.P (q80 z) ?_
 (repeat' first|refine D.S ?_|refine D.JJ true true ?_|refine DJ.nil ?_|refine J.reg0 ?_|refine D.W ?_|refine D.Z ?_|refine D.G ?_ ?_|refine D.X ‹_› ?_|refine D.XO ‹_› ?_|refine D.XS ‹_› ?_|intro h|refine D.C ?_ ?_)
 ·first|refine D.R ?_|refine D.E ?_
  refine ⟨_, rfl, .wk ?_ rfl, trivial, trivial⟩
  simp_all [innerZ, AV.wk]
 refine D.P (q82 z) ?_
 (repeat' first|refine D.S ?_|refine D.JJ true true ?_|refine DJ.nil ?_|refine J.reg0 ?_|refine D.W ?_|refine D.Z ?_|refine D.G ?_ ?_|refine D.X ‹_› ?_|refine D.XO ‹_› ?_|refine D.XS ‹_› ?_|intro h|refine D.C ?_ ?_)
 all_goals (refine D.R ?_)
 all_goals (refine ⟨_, rfl, .wk ?_ rfl, trivial, trivial⟩; simp_all [innerZ, AV.wk] <;> (try omega))
theorem q159 (l : List (List UInt8)) (s : List UInt8) (hl : l.length ≤ maxLen) : Pure Tryz.prog 159 [.vs 1 (l.map srow), .str s] (.int .i64 (idxFromL l s l.length 0)) := by
 have hl' : l.length ≤ 9223372036854775807 := by unfold maxLen at hl; omega
 refine pure_of mo Tryz.func159 c159 (by simp only [flatL, AV.flat, srow_flat, Bool.and_self]) rfl ?_
 unfold e159 r159
 simp(disch:=omega)only[go_sem,simprocAttr]
 refine GoG ?_
 refine J.loopX (X := Nat) 0 (fun i => [(0, .vs 1 (l.map srow)), (1, .str s), (7, .int .i64 ((l.map srow).length : Int)), (8, .int .i64 (i : Int))]) (fun _ => []) (fun _ => []) (fun i => i ≤ l.length ∧ idxFromL l s (l.length - i) i = idxFromL l s l.length 0) (fun i => l.length - i) ⟨Nat.zero_le _, rfl⟩ ⟨rfl, rfl, rfl, rfl, trivial⟩ trivial trivial ?_
 rintro i ⟨hi, hz⟩
 try simp only at hi hz ⊢
 cases hv : l[i]? with
 | some v =>
  have hlt := (List.getElem?_eq_some_iff.1 hv).1
  have d1 : (i : Int) < ((l.map srow).length : Int) := by rw [List.length_map]; omega
  rw [show l.length - i = (l.length - (i + 1)) + 1 by omega] at hz
  simp only [idxFromL, hv] at hz
  (repeat' first|(apply DJ.s rfl;(· simp(disch:=omega)only[go_sem,simprocAttr,d1]<;>with_reducible rfl))|(apply J.s true true;(· simp(disch:=omega)only[go_sem,simprocAttr,d1]<;>with_reducible rfl))|apply DJ.nil|(refine J.reg0 ?_)|(apply DJ.gw;(· simp(disch:=omega)only[go_sem,simprocAttr,d1]<;>with_reducible rfl))|(apply DJ.gz;(· rfl);(· simp(disch:=omega)only[go_sem,simprocAttr,d1]<;>with_reducible rfl))|(apply DJ.gs;(· simp(disch:=omega)only[go_sem,simprocAttr,d1]<;>with_reducible rfl))|((first|apply DJ.ixm|apply DJ.ixom|apply DJ.ixsm);(· simp(disch:=omega)only[go_sem,simprocAttr,d1]<;>with_reducible rfl);(· simp(disch:=omega)only[go_sem,simprocAttr,d1]<;>with_reducible rfl);(· assumption);(· omega))|intro h|(apply J.cond;(· simp(disch:=omega)only[go_sem,simprocAttr,d1]<;>with_reducible rfl)))
  ·simp only [decide_eq_true_eq] at h
   subst h
   rw [if_pos rfl] at hz
   first|refine D.R ?_|refine D.E ?_
   exact ⟨_, rfl, .wk (by rw [hz]; rfl) rfl, trivial, trivial⟩
  ·simp only [decide_eq_false_iff_not] at h
   rw [if_neg h] at hz
   refine J.roundX (i + 1) ⟨by omega, hz⟩ ⟨rfl, rfl, rfl, rfl, trivial⟩ trivial trivial rfl rfl (by show l.length - (i + 1) < l.length - i; omega)
 | none =>
  have hge := List.getElem?_eq_none_iff.1 hv
  have e0 : i = l.length := by omega
  subst e0
  have d1 : ¬ (l.length : Int) < ((l.map srow).length : Int) := by rw [List.length_map]; omega
  rw [Nat.sub_self] at hz
  simp only [idxFromL] at hz
  (repeat' first|(apply DJ.s rfl;(· simp(disch:=omega)only[go_sem,simprocAttr,d1]<;>with_reducible rfl))|(apply J.s true true;(· simp(disch:=omega)only[go_sem,simprocAttr,d1]<;>with_reducible rfl))|apply DJ.nil|(refine J.reg0 ?_)|(apply DJ.gw;(· simp(disch:=omega)only[go_sem,simprocAttr,d1]<;>with_reducible rfl))|(apply DJ.gz;(· rfl);(· simp(disch:=omega)only[go_sem,simprocAttr,d1]<;>with_reducible rfl))|(apply DJ.gs;(· simp(disch:=omega)only[go_sem,simprocAttr,d1]<;>with_reducible rfl))|((first|apply DJ.ixm|apply DJ.ixom|apply DJ.ixsm);(· simp(disch:=omega)only[go_sem,simprocAttr,d1]<;>with_reducible rfl);(· simp(disch:=omega)only[go_sem,simprocAttr,d1]<;>with_reducible rfl);(· assumption);(· omega))|intro h|(apply J.cond;(· simp(disch:=omega)only[go_sem,simprocAttr,d1]<;>with_reducible rfl)))
  first|refine D.R ?_|refine D.E ?_
  exact ⟨_, rfl, .wk (by rw [← hz]; rfl) rfl, trivial, trivial⟩
theorem q102 (l : List (List UInt8)) (s : List UInt8) (hl : l.length ≤ maxLen) : Pure Tryz.prog 102 [.vs 1 (l.map srow), .str s] (.bool (l.contains s)) := by
 refine pure_of mo Tryz.func102 c102 (by simp only [flatL, AV.flat, srow_flat, Bool.and_self]) rfl ?_
 unfold e102 r102
 simp(disch:=omega)only[go_sem,simprocAttr]
 refine GoG ?_
 refine D.P (q159 l s hl) ?_
 refine GoG ?_
 first|refine D.R ?_|refine D.E ?_
 refine ⟨_, rfl, .wk ?_ rfl, trivial, trivial⟩
 have := idxFromL_contains l s l.length 0 (Nat.zero_add _)
 rw [List.drop_zero] at this
 rw [← this]
 rfl
theorem q101 (s : List UInt8) : Pure Tryz.prog 101 [.str s] (.bool (isNameB s)) := by
 cases s with
 | nil =>
  refine pure_of mo Tryz.func101 c101 rfl rfl ?_
  unfold e101 r101
  simp(disch:=omega)only[go_sem,simprocAttr]
  (repeat' first|refine D.S ?_|refine D.JJ true true ?_|refine DJ.nil ?_|refine J.reg0 ?_|refine D.W ?_|refine D.Z ?_|refine D.G ?_ ?_|refine D.X ‹_› ?_|refine D.XO ‹_› ?_|refine D.XS ‹_› ?_|intro h|refine D.C ?_ ?_)
  first|refine D.R ?_|refine D.E ?_
  exact ⟨_, rfl, .wk rfl rfl, trivial, trivial⟩
 | cons c s =>
 have hN : isNameB (c :: s) = (decide ((c :: s).length ≤ 16) && (letterB c && (c :: s).all innerB)) := rfl
 have h0 : (c :: s)[0]? = some c := rfl
 have hne : ¬ (c :: s) = [] := by simp
 generalize c :: s = S at hN h0 hne
 refine pure_of mo Tryz.func101 c101 rfl rfl ?_
 unfold e101 r101
 simp(disch:=omega)only[go_sem,simprocAttr]
 (repeat' first|(apply DJ.s rfl;(· simp(disch:=omega)only[go_sem,simprocAttr,hne]<;>with_reducible rfl))|(apply J.s true true;(· simp(disch:=omega)only[go_sem,simprocAttr,hne]<;>with_reducible rfl))|apply DJ.nil|(refine J.reg0 ?_)|(apply DJ.gw;(· simp(disch:=omega)only[go_sem,simprocAttr,hne]<;>with_reducible rfl))|(apply DJ.gz;(· rfl);(· simp(disch:=omega)only[go_sem,simprocAttr,hne]<;>with_reducible rfl))|(apply DJ.gs;(· simp(disch:=omega)only[go_sem,simprocAttr,hne]<;>with_reducible rfl))|((first|apply DJ.ixm|apply DJ.ixom|apply DJ.ixsm);(· simp(disch:=omega)only[go_sem,simprocAttr,hne]<;>with_reducible rfl);(· simp(disch:=omega)only[go_sem,simprocAttr,hne]<;>with_reducible rfl);(· assumption);(· omega))|intro h|(apply J.cond;(· simp(disch:=omega)only[go_sem,simprocAttr,hne]<;>with_reducible rfl)))
 ·first|refine D.R ?_|refine D.E ?_
  refine ⟨_, rfl, .wk ?_ rfl, trivial, trivial⟩
  rw [hN]
  simp only [decide_eq_true_eq] at h
  have : ¬ S.length ≤ 16 := by omega
  simp [this, AV.wk]
 have hs' : S.length ≤ 9223372036854775807 := by simp at h; omega
 refine D.P (q80 _) ?_
 (repeat' first|refine D.S ?_|refine D.JJ true true ?_|refine DJ.nil ?_|refine J.reg0 ?_|refine D.W ?_|refine D.Z ?_|refine D.G ?_ ?_|refine D.X ‹_› ?_|refine D.XO ‹_› ?_|refine D.XS ‹_› ?_|intro h|refine D.C ?_ ?_)
 ·first|refine D.R ?_|refine D.E ?_
  refine ⟨_, rfl, .wk ?_ rfl, trivial, trivial⟩
  rw [hN]
  simp_all [letterB, AV.wk]
 have hl : letterB c = true := by simpa [letterB] using h
 refine J.loopX (X := Nat) 0 (fun i => [(0, .str S), (18, .int .i64 (S.length : Int)), (19, .int .i64 (i : Int))]) (fun _ => []) (fun _ => []) (fun i => i ≤ S.length ∧ (S.drop i).all innerB = S.all innerB) (fun i => S.length - i) ⟨Nat.zero_le _, rfl⟩ ⟨rfl, rfl, rfl, trivial⟩ trivial trivial ?_
 rintro i ⟨hi, hz⟩
 try simp only at hi hz ⊢
 cases hv : S[i]? with
 | some v =>
  have hlt := (List.getElem?_eq_some_iff.1 hv).1
  have d1 : (i : Int) < (S.length : Int) := by omega
  rw [drop_cons' hv] at hz
  simp only [List.all_cons] at hz
  (repeat' first|(apply DJ.s rfl;(· simp(disch:=omega)only[go_sem,simprocAttr,d1]<;>with_reducible rfl))|(apply J.s true true;(· simp(disch:=omega)only[go_sem,simprocAttr,d1]<;>with_reducible rfl))|apply DJ.nil|(refine J.reg0 ?_)|(apply DJ.gw;(· simp(disch:=omega)only[go_sem,simprocAttr,d1]<;>with_reducible rfl))|(apply DJ.gz;(· rfl);(· simp(disch:=omega)only[go_sem,simprocAttr,d1]<;>with_reducible rfl))|(apply DJ.gs;(· simp(disch:=omega)only[go_sem,simprocAttr,d1]<;>with_reducible rfl))|((first|apply DJ.ixm|apply DJ.ixom|apply DJ.ixsm);(· simp(disch:=omega)only[go_sem,simprocAttr,d1]<;>with_reducible rfl);(· simp(disch:=omega)only[go_sem,simprocAttr,d1]<;>with_reducible rfl);(· assumption);(· omega))|intro h|(apply J.cond;(· simp(disch:=omega)only[go_sem,simprocAttr,d1]<;>with_reducible rfl)))
  refine D.P (q149 _) ?_
  (repeat' first|refine D.S ?_|refine D.JJ true true ?_|refine DJ.nil ?_|refine J.reg0 ?_|refine D.W ?_|refine D.Z ?_|refine D.G ?_ ?_|refine D.X ‹_› ?_|refine D.XO ‹_› ?_|refine D.XS ‹_› ?_|intro h|refine D.C ?_ ?_)
  ·first|refine D.R ?_|refine D.E ?_
   refine ⟨_, rfl, .wk ?_ rfl, trivial, trivial⟩
   rw [hN, ← hz]
   simp_all [innerB, AV.wk]
  ·refine J.roundX (i + 1) ⟨by omega, ?_⟩ ⟨rfl, rfl, rfl, trivial⟩ trivial trivial rfl rfl (by show S.length - (i + 1) < S.length - i; omega)
   rw [← hz]
   simp_all [innerB]
 | none =>
  have hge := List.getElem?_eq_none_iff.1 hv
  have e0 : i = S.length := by omega
  subst e0
  have d1 : ¬ (S.length : Int) < (S.length : Int) := by omega
  (repeat' first|(apply DJ.s rfl;(· simp(disch:=omega)only[go_sem,simprocAttr,d1]<;>with_reducible rfl))|(apply J.s true true;(· simp(disch:=omega)only[go_sem,simprocAttr,d1]<;>with_reducible rfl))|apply DJ.nil|(refine J.reg0 ?_)|(apply DJ.gw;(· simp(disch:=omega)only[go_sem,simprocAttr,d1]<;>with_reducible rfl))|(apply DJ.gz;(· rfl);(· simp(disch:=omega)only[go_sem,simprocAttr,d1]<;>with_reducible rfl))|(apply DJ.gs;(· simp(disch:=omega)only[go_sem,simprocAttr,d1]<;>with_reducible rfl))|((first|apply DJ.ixm|apply DJ.ixom|apply DJ.ixsm);(· simp(disch:=omega)only[go_sem,simprocAttr,d1]<;>with_reducible rfl);(· simp(disch:=omega)only[go_sem,simprocAttr,d1]<;>with_reducible rfl);(· assumption);(· omega))|intro h|(apply J.cond;(· simp(disch:=omega)only[go_sem,simprocAttr,d1]<;>with_reducible rfl)))
  first|refine D.R ?_|refine D.E ?_
  refine ⟨_, rfl, .wk ?_ rfl, trivial, trivial⟩
  rw [List.drop_length] at hz
  simp only [decide_eq_false_iff_not] at *
  rw [hN, ← hz, hl]
  have : S.length ≤ 16 := by omega
  simp [this, AV.wk]
end
end Go.Aw.T.N
