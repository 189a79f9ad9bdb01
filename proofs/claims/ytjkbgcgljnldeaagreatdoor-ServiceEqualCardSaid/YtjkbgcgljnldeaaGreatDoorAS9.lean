/- Part of a proof; own work. -/
import Derived.Test.YtjkbgcgljnldeaaGreatDoorProg
import Derived.KernelRfl
import Derived.Test.YtjkbgcgljnldeaaGreatDoorRows
import Derived.ProofKit
import Derived.LaidMore
import Derived.OpenShut
import Derived.Stop.Joined
import Derived.LaidLaws
import Derived.Lay
import Derived.MakeChecks
import Derived.Lib.ItoaNum
import Derived.Lib.LaidTab
import Derived.Stop.LaidErr
import Derived.HandedShaped
import Derived.SizedLaws
import Derived.Test.YtjkbgcgljnldeaaGreatDoorAS8
namespace Go.Aw.T.N
open Go Go.Aw Go.Proofs Go.RowKit
set_option maxRecDepth 100000
attribute [local irreducible] Go.Aw.J Go.Aw.DJ Go.Aw.FC
attribute [local go_sem] wrap64 wrapu64 wrapu8 nnif decide_true decide_false dst gst gv_b gv_u jst jpop bdL bdB bdT bdO AV.bd tfL AV.tf o_mv o_pick o_nilck o_build o_load o_loadD o_loadR o_faddr o_field o_iaddr o_iaddrA o_idxA o_idxS o_bin o_binB o_eqA o_not o_pnil o_neg o_conv o_lenS o_len o_lenA o_minmax o_slS o_slV o_extract o_mkfn o_mkfnB o_convS o_convBS o_mkif o_isnil o_bslice o_box o_alloc o_store o_storeD o_bsliceO o_bsliceM cpv cev_t cev_c Env.get put_some' put_none' of_setB of_addB of_setT of_addT of_upd of_blk of_tok of_nb of_nt of_new rmB rmT rmBs rmTs renB renT apB apT lkB lkT getD_0 getD_s renL AV.ren crange_if cstB_if one_nilS one_pnil oc_nil oc_pnil cbin binInt shInt binStr binBool cbuild_nil cbuild_cons cidx_if AV.cells AV.okc AV.flat flatL flatR setRange minmaxAV AV.one AV.ofCells eqCells eqCell slRows initEnv initFrom cres cresv cresL cond_true cond_false beq_self_eq_true Bool.not_true Bool.not_false beq_true beq_false eq_self if_true Option.some.injEq List.length_cons List.length_nil List.take_succ_cons List.take_zero List.drop_succ_cons List.drop_zero List.set_cons_succ List.set_cons_zero List.nil_append List.cons_append List.append_nil and_self Option.map_some Option.map_none List.map_cons List.map_nil Bool.false_eq_true if_false Nat.zero_add Nat.add_zero true_and and_true Bool.and_true Bool.true_and List.getElem?_cons_zero List.getElem?_cons_succ Nat.zero_le Nat.le_refl List.all_cons List.all_nil List.flatten_cons List.flatten_nil crows crowsOk List.filter_cons List.filter_nil List.contains_cons List.contains_nil Bool.or_false Bool.or_true Bool.false_or Bool.true_or
set_option linter.unusedSimpArgs false
set_option linter.unusedVariables false
attribute [local go_sem] Ex.row_mk Sm.row_mk Ex.rowsF Sm.rowsF
theorem q54 {R : Nat} (hR : R ≤ 140737488355328) : ∀ (N : Nat) (l : List Ex), Ex.amts l ≤ N → l.length * 88 ≤ 140737488355328 → Ex.oks R l → Pure Tryz.prog 54 [.vs 6 (l.map Ex.row)] (.int .i64 (Ex.amL l (l.length : Int)))
 | N, l, hN, hL, hk => by
  refine pure_of mo Tryz.func54 c54 (by simp only [flatL, AV.flat, Ex.rowsF, Bool.and_self]) rfl ?_
  unfold e54 r54
  simp(disch:=omega)only[go_sem,simprocAttr]
  (repeat' first|(apply DJ.s rfl;(· simp(disch:=omega)only[go_sem,simprocAttr,List.length_map]<;>with_reducible rfl))|(apply J.s true true;(· simp(disch:=omega)only[go_sem,simprocAttr,List.length_map]<;>with_reducible rfl))|apply DJ.nil|(refine J.reg0 ?_)|(apply DJ.gw;(· simp(disch:=omega)only[go_sem,simprocAttr,List.length_map]<;>with_reducible rfl))|(apply DJ.gz;(· rfl);(· simp(disch:=omega)only[go_sem,simprocAttr,List.length_map]<;>with_reducible rfl))|(apply DJ.gs;(· simp(disch:=omega)only[go_sem,simprocAttr,List.length_map]<;>with_reducible rfl))|((first|apply DJ.ixm|apply DJ.ixom|apply DJ.ixsm);(· simp(disch:=omega)only[go_sem,simprocAttr,List.length_map]<;>with_reducible rfl);(· simp(disch:=omega)only[go_sem,simprocAttr,List.length_map]<;>with_reducible rfl);(· assumption);(· omega))|intro h)
  refine J.loopX (X := Nat × Int) (0, (l.length : Int)) (fun x => [(0, .vs 6 (l.map Ex.row)), (3, .int .i64 x.2), (4, .int .i64 (x.1 : Int))]) (fun _ => []) (fun _ => []) (fun x => x.1 ≤ l.length ∧ Ex.amL (l.drop x.1) x.2 = Ex.amL l (l.length : Int)) (fun x => l.length - x.1) ⟨Nat.zero_le _, rfl⟩ ⟨rfl, rfl, rfl, trivial⟩ trivial trivial ?_
  rintro ⟨i, z⟩ ⟨hi, hz⟩
  try simp only at hi hz ⊢
  cases hv : l[i]? with
  | some v =>
   have hlt := (List.getElem?_eq_some_iff.1 hv).1
   have hm := Ex.mem_amt hv
   have hko := Ex.oks_get hk hv
   obtain ⟨k, o, m, t, n, a⟩ := v
   have d1 : (i : Int) < ((l.map Ex.row).length : Int) := by rw [List.length_map]; omega
   match N, hN with
   | 0, hN => simp only [Ex.amt] at hm; omega
   | N + 1, hN =>
   simp only [Ex.amt] at hm
   (repeat' first|(apply DJ.s rfl;(· simp(disch:=omega)only[go_sem,simprocAttr,d1]<;>with_reducible rfl))|(apply J.s true true;(· simp(disch:=omega)only[go_sem,simprocAttr,d1]<;>with_reducible rfl))|apply DJ.nil|(refine J.reg0 ?_)|(apply DJ.gw;(· simp(disch:=omega)only[go_sem,simprocAttr,d1]<;>with_reducible rfl))|(apply DJ.gz;(· rfl);(· simp(disch:=omega)only[go_sem,simprocAttr,d1]<;>with_reducible rfl))|(apply DJ.gs;(· simp(disch:=omega)only[go_sem,simprocAttr,d1]<;>with_reducible rfl))|((first|apply DJ.ixm|apply DJ.ixom|apply DJ.ixsm);(· simp(disch:=omega)only[go_sem,simprocAttr,d1]<;>with_reducible rfl);(· simp(disch:=omega)only[go_sem,simprocAttr,d1]<;>with_reducible rfl);(· assumption);(· omega))|intro h)
   refine D.P (q54 hR N a (by omega) (Nat.le_trans hko.2.2.2.2.2.1 hR) hko.2.2.2.2.2.2) ?_
   (repeat' first|refine D.S ?_|refine D.JJ true true ?_|refine DJ.nil ?_|refine J.reg0 ?_|refine D.W ?_|refine D.Z ?_|refine D.G ?_ ?_|refine D.X ‹_› ?_|refine D.XO ‹_› ?_|refine D.XS ‹_› ?_|intro h)
   refine J.roundX (i + 1, _) ⟨by omega, ?_⟩ ⟨rfl, rfl, rfl, trivial⟩ trivial trivial rfl rfl (by show l.length - (i + 1) < l.length - i; omega)
   rw [drop_cons' hv] at hz
   simp only [Ex.amL, Ex.am] at hz
   exact hz
  | none =>
   have hge := List.getElem?_eq_none_iff.1 hv
   have e : i = l.length := by omega
   subst e
   have d1 : ¬ (l.length : Int) < ((l.map Ex.row).length : Int) := by rw [List.length_map]; omega
   rw [List.drop_length] at hz
   simp only [Ex.amL] at hz
   subst hz
   (repeat' first|(apply DJ.s rfl;(· simp(disch:=omega)only[go_sem,simprocAttr,d1]<;>with_reducible rfl))|(apply J.s true true;(· simp(disch:=omega)only[go_sem,simprocAttr,d1]<;>with_reducible rfl))|apply DJ.nil|(refine J.reg0 ?_)|(apply DJ.gw;(· simp(disch:=omega)only[go_sem,simprocAttr,d1]<;>with_reducible rfl))|(apply DJ.gz;(· rfl);(· simp(disch:=omega)only[go_sem,simprocAttr,d1]<;>with_reducible rfl))|(apply DJ.gs;(· simp(disch:=omega)only[go_sem,simprocAttr,d1]<;>with_reducible rfl))|((first|apply DJ.ixm|apply DJ.ixom|apply DJ.ixsm);(· simp(disch:=omega)only[go_sem,simprocAttr,d1]<;>with_reducible rfl);(· simp(disch:=omega)only[go_sem,simprocAttr,d1]<;>with_reducible rfl);(· assumption);(· omega))|intro h)
   first|refine D.R ?_|refine D.E ?_
   exact ⟨_, rfl, .wk rfl rfl, trivial, trivial⟩
theorem q53 {R : Nat} (hR : R ≤ 140737488355328) : ∀ (N : Nat) (l : List Sm), Sm.amts l ≤ N → l.length * 168 ≤ R → Sm.oks R l → Pure Tryz.prog 53 [.vs 11 (l.map Sm.row)] (.int .i64 (Sm.amL l (l.length : Int)))
 | N, l, hN, hL, hk => by
  refine pure_of mo Tryz.func53 c53 (by simp only [flatL, AV.flat, Sm.rowsF, Bool.and_self]) rfl ?_
  unfold e53 r53
  simp(disch:=omega)only[go_sem,simprocAttr]
  (repeat' first|(apply DJ.s rfl;(· simp(disch:=omega)only[go_sem,simprocAttr,List.length_map]<;>with_reducible rfl))|(apply J.s true true;(· simp(disch:=omega)only[go_sem,simprocAttr,List.length_map]<;>with_reducible rfl))|apply DJ.nil|(refine J.reg0 ?_)|(apply DJ.gw;(· simp(disch:=omega)only[go_sem,simprocAttr,List.length_map]<;>with_reducible rfl))|(apply DJ.gz;(· rfl);(· simp(disch:=omega)only[go_sem,simprocAttr,List.length_map]<;>with_reducible rfl))|(apply DJ.gs;(· simp(disch:=omega)only[go_sem,simprocAttr,List.length_map]<;>with_reducible rfl))|((first|apply DJ.ixm|apply DJ.ixom|apply DJ.ixsm);(· simp(disch:=omega)only[go_sem,simprocAttr,List.length_map]<;>with_reducible rfl);(· simp(disch:=omega)only[go_sem,simprocAttr,List.length_map]<;>with_reducible rfl);(· assumption);(· omega))|intro h)
  refine J.loopX (X := Nat × Int) (0, (l.length : Int)) (fun x => [(0, .vs 11 (l.map Sm.row)), (3, .int .i64 x.2), (4, .int .i64 (x.1 : Int))]) (fun _ => []) (fun _ => []) (fun x => x.1 ≤ l.length ∧ Sm.amL (l.drop x.1) x.2 = Sm.amL l (l.length : Int)) (fun x => l.length - x.1) ⟨Nat.zero_le _, rfl⟩ ⟨rfl, rfl, rfl, trivial⟩ trivial trivial ?_
  rintro ⟨i, z⟩ ⟨hi, hz⟩
  try simp only at hi hz ⊢
  cases hv : l[i]? with
  | some v =>
   have hlt := (List.getElem?_eq_some_iff.1 hv).1
   have hm := Sm.mem_amt hv
   have hko := Sm.oks_get hk hv
   obtain ⟨k, m, x, t, a, b⟩ := v
   have e1 : Pure Tryz.prog 54 [.vs 6 [x.row]] (.int .i64 (IntKind.i64.wrap (1 + x.am))) := q54 hR x.amt [x] (by simp [Ex.amts]) (by show 1 * 88 ≤ _; decide) ⟨hko.2.2.1, trivial⟩
   obtain ⟨k2, o2, m2, t2, n2, l2⟩ := x
   have d1 : (i : Int) < ((l.map Sm.row).length : Int) := by rw [List.length_map]; omega
   match N, hN with
   | 0, hN => simp only [Sm.amt] at hm; omega
   | N + 1, hN =>
   simp only [Sm.amt] at hm
   simp(disch:=omega)only[go_sem,simprocAttr] at e1
   have e2 := q53 hR N a (by omega) hko.2.2.2.2.1 hko.2.2.2.2.2.2.1
   have e3 := q53 hR N b (by omega) hko.2.2.2.2.2.1 hko.2.2.2.2.2.2.2
   (repeat' first|(apply DJ.s rfl;(· simp(disch:=omega)only[go_sem,simprocAttr,d1]<;>with_reducible rfl))|(apply J.s true false;(· simp(disch:=omega)only[go_sem,simprocAttr,d1]<;>with_reducible rfl))|apply DJ.nil|(refine J.reg0 ?_)|(apply DJ.gw;(· simp(disch:=omega)only[go_sem,simprocAttr,d1]<;>with_reducible rfl))|(apply DJ.gz;(· rfl);(· simp(disch:=omega)only[go_sem,simprocAttr,d1]<;>with_reducible rfl))|(apply DJ.gs;(· simp(disch:=omega)only[go_sem,simprocAttr,d1]<;>with_reducible rfl))|((first|apply DJ.ixm|apply DJ.ixom|apply DJ.ixsm);(· simp(disch:=omega)only[go_sem,simprocAttr,d1]<;>with_reducible rfl);(· simp(disch:=omega)only[go_sem,simprocAttr,d1]<;>with_reducible rfl);(· assumption);(· omega))|intro h)
   refine J.block ?_
   refine J.reg (anns := [.int .i64 (IntKind.i64.wrap (1 + (Ex.mk k2 o2 m2 t2 n2 l2).am)), .int .i64 (Sm.amL a (a.length : Int)), .int .i64 (Sm.amL b (b.length : Int))]) ?_
   (repeat' first|refine D.S ?_|refine DJ.nil ?_|refine D.W ?_|refine D.Z ?_|refine D.G ?_ ?_|refine D.X ‹_› ?_|refine D.XO ‹_› ?_|refine D.XS ‹_› ?_|intro h)
   refine D.PC e1 ?_
   (repeat' first|refine D.S ?_|refine DJ.nil ?_|refine D.W ?_|refine D.Z ?_|refine D.G ?_ ?_|refine D.X ‹_› ?_|refine D.XO ‹_› ?_|refine D.XS ‹_› ?_|intro h)
   refine D.PC e2 ?_
   (repeat' first|refine D.S ?_|refine DJ.nil ?_|refine D.W ?_|refine D.Z ?_|refine D.G ?_ ?_|refine D.X ‹_› ?_|refine D.XO ‹_› ?_|refine D.XS ‹_› ?_|intro h)
   refine D.PC e3 ?_
   (repeat' first|refine D.S ?_|refine D.JJ true true ?_|refine DJ.nil ?_|refine J.reg0 ?_|refine D.W ?_|refine D.Z ?_|refine D.G ?_ ?_|refine D.X ‹_› ?_|refine D.XO ‹_› ?_|refine D.XS ‹_› ?_|intro h)
   refine J.roundX (i + 1, _) ⟨by omega, ?_⟩ ⟨rfl, rfl, rfl, trivial⟩ trivial trivial rfl rfl (by show l.length - (i + 1) < l.length - i; omega)
   rw [drop_cons' hv] at hz
   simp only [Sm.amL, Sm.am] at hz
   exact hz
  | none =>
   have hge := List.getElem?_eq_none_iff.1 hv
   have e : i = l.length := by omega
   subst e
   have d1 : ¬ (l.length : Int) < ((l.map Sm.row).length : Int) := by rw [List.length_map]; omega
   rw [List.drop_length] at hz
   simp only [Sm.amL] at hz
   subst hz
   (repeat' first|(apply DJ.s rfl;(· simp(disch:=omega)only[go_sem,simprocAttr,d1]<;>with_reducible rfl))|(apply J.s true true;(· simp(disch:=omega)only[go_sem,simprocAttr,d1]<;>with_reducible rfl))|apply DJ.nil|(refine J.reg0 ?_)|(apply DJ.gw;(· simp(disch:=omega)only[go_sem,simprocAttr,d1]<;>with_reducible rfl))|(apply DJ.gz;(· rfl);(· simp(disch:=omega)only[go_sem,simprocAttr,d1]<;>with_reducible rfl))|(apply DJ.gs;(· simp(disch:=omega)only[go_sem,simprocAttr,d1]<;>with_reducible rfl))|((first|apply DJ.ixm|apply DJ.ixom|apply DJ.ixsm);(· simp(disch:=omega)only[go_sem,simprocAttr,d1]<;>with_reducible rfl);(· simp(disch:=omega)only[go_sem,simprocAttr,d1]<;>with_reducible rfl);(· assumption);(· omega))|intro h)
   first|refine D.R ?_|refine D.E ?_
   exact ⟨_, rfl, .wk rfl rfl, trivial, trivial⟩
theorem q56 {R : Nat} (hR : R ≤ 140737488355328) : ∀ (N : Nat) (l : List Ex), Ex.amts l ≤ N → l.length * 88 ≤ 140737488355328 → Ex.oks R l → Pure Tryz.prog 56 [.vs 6 (l.map Ex.row)] (.vs 6 (l.map Ex.row))
 | N, l, hN, hL, hk => by
  refine pure_of mo Tryz.func56 c56 (by simp only [flatL, AV.flat, Ex.rowsF, Bool.and_self]) (by simp only [flatL, AV.flat, Ex.rowsF, Bool.and_self]) ?_
  unfold e56 r56
  simp(disch:=omega)only[go_sem,simprocAttr]
  refine J.seq ?_
  refine J.reg0 ?_
  (repeat' first|refine D.S ?_|refine DJ.nil ?_|refine D.W ?_|refine D.Z ?_|refine D.G ?_ ?_|refine D.X ‹_› ?_|refine D.XO ‹_› ?_|refine D.XS ‹_› ?_|intro h)
  refine J.seq ?_
  refine J.reg0 ?_
  (repeat' first|refine D.S ?_|refine DJ.nil ?_|refine D.W ?_|refine D.Z ?_|refine D.G ?_ ?_|refine D.X ‹_› ?_|refine D.XO ‹_› ?_|refine D.XS ‹_› ?_|intro h)
  refine J.ghE 3 6 131 rfl (by decide) ?_
  simp(disch:=omega)only[go_sem,simprocAttr]
  (repeat' first|refine D.S ?_|refine D.JJ true true ?_|refine DJ.nil ?_|refine J.reg0 ?_|refine D.W ?_|refine D.Z ?_|refine D.G ?_ ?_|refine D.X ‹_› ?_|refine D.XO ‹_› ?_|refine D.XS ‹_› ?_|intro h)
  refine J.loopX (X := Nat) 0 (fun i => [(0, .vs 6 (l.map Ex.row)), (3, .own 0 6 ((l.take i).map Ex.row)), (4, .int .i64 (i : Int))]) (fun _ => []) (fun i => [(0, .frz 131 6 ((l.take i).map Ex.row).length)]) (fun i => i ≤ l.length) (fun i => l.length - i) (Nat.zero_le _) ⟨rfl, rfl, rfl, trivial⟩ trivial ⟨rfl, trivial⟩ ?_
  intro i hi
  try simp only at hi ⊢
  cases hv : l[i]? with
  | some v =>
   have hlt := (List.getElem?_eq_some_iff.1 hv).1
   have hm := Ex.mem_amt hv
   have hko := Ex.oks_get hk hv
   have hsn := take_snoc Ex.row hv
   have hlen : (l.take i).length = i := by simp; omega
   obtain ⟨k, o, m, t, n, a⟩ := v
   simp only [Ex.row_mk] at hsn
   have d1 : (i : Int) < ((l.map Ex.row).length : Int) := by rw [List.length_map]; omega
   match N, hN with
   | 0, hN => simp only [Ex.amt] at hm; omega
   | N + 1, hN =>
   simp only [Ex.amt] at hm
   have e1 := q56 hR N a (by omega) (Nat.le_trans hko.2.2.2.2.2.1 hR) hko.2.2.2.2.2.2
   (repeat' first|(apply DJ.s rfl;(· simp(disch:=omega)only[go_sem,simprocAttr,d1]<;>with_reducible rfl))|(apply J.s true false;(· simp(disch:=omega)only[go_sem,simprocAttr,d1]<;>with_reducible rfl))|apply DJ.nil|(refine J.reg0 ?_)|(apply DJ.gw;(· simp(disch:=omega)only[go_sem,simprocAttr,d1]<;>with_reducible rfl))|(apply DJ.gz;(· rfl);(· simp(disch:=omega)only[go_sem,simprocAttr,d1]<;>with_reducible rfl))|(apply DJ.gs;(· simp(disch:=omega)only[go_sem,simprocAttr,d1]<;>with_reducible rfl))|((first|apply DJ.ixm|apply DJ.ixom|apply DJ.ixsm);(· simp(disch:=omega)only[go_sem,simprocAttr,d1]<;>with_reducible rfl);(· simp(disch:=omega)only[go_sem,simprocAttr,d1]<;>with_reducible rfl);(· assumption);(· omega))|intro h)
   refine J.block ?_
   refine J.seq ?_
   refine J.reg0 ?_
   (repeat' first|refine D.S ?_|refine DJ.nil ?_|refine D.W ?_|refine D.Z ?_|refine D.G ?_ ?_|refine D.X ‹_› ?_|refine D.XO ‹_› ?_|refine D.XS ‹_› ?_|intro h)
   refine J.reg (anns := [.vs 6 (a.map Ex.row)]) ?_
   (repeat' first|refine D.S ?_|refine DJ.nil ?_|refine D.W ?_|refine D.Z ?_|refine D.G ?_ ?_|refine D.X ‹_› ?_|refine D.XO ‹_› ?_|refine D.XS ‹_› ?_|intro h)
   refine D.PC e1 ?_
   (repeat' first|refine D.S ?_|refine DJ.nil ?_|refine D.W ?_|refine D.Z ?_|refine D.G ?_ ?_|refine D.X ‹_› ?_|refine D.XO ‹_› ?_|refine D.XS ‹_› ?_|intro h)
   (apply DJ.ap';(· simp(disch:=omega)only[go_sem,simprocAttr]<;>with_reducible rfl);(· simp(disch:=omega)only[go_sem,simprocAttr]<;>with_reducible rfl);(· simp only [rowsOf] <;> simp(disch:=omega)only[go_sem,simprocAttr] <;> with_reducible rfl);(· first|omega|(simp only [List.length_map,List.length_drop,List.length_take,List.length_append,List.length_nil,List.length_cons,maxLen] <;> omega));(· first|omega|(simp only [List.length_map,List.length_drop,List.length_take,List.length_append,List.length_nil,List.length_cons,maxLen] <;> omega)))
   (repeat' first|refine D.S ?_|refine D.JJ true true ?_|refine DJ.nil ?_|refine J.reg0 ?_|refine D.W ?_|refine D.Z ?_|refine D.G ?_ ?_|refine D.X ‹_› ?_|refine D.XO ‹_› ?_|refine D.XS ‹_› ?_|intro h)
   refine J.roundC (i + 1) (by omega) ⟨rfl, by simp only [hsn]; rfl, rfl, trivial⟩ trivial ⟨by simp only [hsn, List.length_append]; rfl, trivial⟩ rfl (by simp only [bdE, bdL, bdB, bdT, bdO, AV.bd, Own.frz, go_sem] <;> rfl) (by show l.length - (i + 1) < l.length - i; omega)
  | none =>
   have hge := List.getElem?_eq_none_iff.1 hv
   have e : i = l.length := by omega
   subst e
   have d1 : ¬ (l.length : Int) < ((l.map Ex.row).length : Int) := by rw [List.length_map]; omega
   simp only [List.take_length]
   (repeat' first|(apply DJ.s rfl;(· simp(disch:=omega)only[go_sem,simprocAttr,d1]<;>with_reducible rfl))|(apply J.s true true;(· simp(disch:=omega)only[go_sem,simprocAttr,d1]<;>with_reducible rfl))|apply DJ.nil|(refine J.reg0 ?_)|(apply DJ.gw;(· simp(disch:=omega)only[go_sem,simprocAttr,d1]<;>with_reducible rfl))|(apply DJ.gz;(· rfl);(· simp(disch:=omega)only[go_sem,simprocAttr,d1]<;>with_reducible rfl))|(apply DJ.gs;(· simp(disch:=omega)only[go_sem,simprocAttr,d1]<;>with_reducible rfl))|((first|apply DJ.ixm|apply DJ.ixom|apply DJ.ixsm);(· simp(disch:=omega)only[go_sem,simprocAttr,d1]<;>with_reducible rfl);(· simp(disch:=omega)only[go_sem,simprocAttr,d1]<;>with_reducible rfl);(· assumption);(· omega))|intro h)
   first|refine D.R ?_|refine D.E ?_
   exact ⟨_, rfl, .wk rfl (by simp only [AV.flat, Ex.rowsF]), trivial, trivial⟩
theorem q55 {R : Nat} (hR : R ≤ 140737488355328) : ∀ (N : Nat) (l : List Sm), Sm.amts l ≤ N → l.length * 168 ≤ 140737488355328 → Sm.oks R l → Pure Tryz.prog 55 [.vs 11 (l.map Sm.row)] (.vs 11 (l.map Sm.row))
 | N, l, hN, hL, hk => by
  refine pure_of mo Tryz.func55 c55 (by simp only [flatL, AV.flat, Sm.rowsF, Bool.and_self]) (by simp only [flatL, AV.flat, Sm.rowsF, Bool.and_self]) ?_
  unfold e55 r55
  simp(disch:=omega)only[go_sem,simprocAttr]
  refine J.seq ?_
  refine J.reg0 ?_
  (repeat' first|refine D.S ?_|refine DJ.nil ?_|refine D.W ?_|refine D.Z ?_|refine D.G ?_ ?_|refine D.X ‹_› ?_|refine D.XO ‹_› ?_|refine D.XS ‹_› ?_|intro h)
  refine J.seq ?_
  refine J.reg0 ?_
  (repeat' first|refine D.S ?_|refine DJ.nil ?_|refine D.W ?_|refine D.Z ?_|refine D.G ?_ ?_|refine D.X ‹_› ?_|refine D.XO ‹_› ?_|refine D.XS ‹_› ?_|intro h)
  refine J.ghE 3 11 133 rfl (by decide) ?_
  simp(disch:=omega)only[go_sem,simprocAttr]
  (repeat' first|refine D.S ?_|refine D.JJ true true ?_|refine DJ.nil ?_|refine J.reg0 ?_|refine D.W ?_|refine D.Z ?_|refine D.G ?_ ?_|refine D.X ‹_› ?_|refine D.XO ‹_› ?_|refine D.XS ‹_› ?_|intro h)
  refine J.loopX (X := Nat) 0 (fun i => [(0, .vs 11 (l.map Sm.row)), (3, .own 0 11 ((l.take i).map Sm.row)), (4, .int .i64 (i : Int))]) (fun _ => []) (fun i => [(0, .frz 133 11 ((l.take i).map Sm.row).length)]) (fun i => i ≤ l.length) (fun i => l.length - i) (Nat.zero_le _) ⟨rfl, rfl, rfl, trivial⟩ trivial ⟨rfl, trivial⟩ ?_
  intro i hi
  try simp only at hi ⊢
  cases hv : l[i]? with
  | some v =>
   have hlt := (List.getElem?_eq_some_iff.1 hv).1
   have hm := Sm.mem_amt hv
   have hko := Sm.oks_get hk hv
   have hsn := take_snoc Sm.row hv
   have hlen : (l.take i).length = i := by simp; omega
   obtain ⟨k, m, x, t, a, b⟩ := v
   have e0 : Pure Tryz.prog 56 [.vs 6 [x.row]] (.vs 6 [x.row]) := q56 hR x.amt [x] (by simp [Ex.amts]) (by show 1 * 88 ≤ _; decide) ⟨hko.2.2.1, trivial⟩
   obtain ⟨k2, o2, m2, t2, n2, l2⟩ := x
   simp only [Sm.row_mk, Ex.row_mk, List.cons_append, List.nil_append] at hsn
   simp(disch:=omega)only[go_sem,simprocAttr] at e0
   have d1 : (i : Int) < ((l.map Sm.row).length : Int) := by rw [List.length_map]; omega
   match N, hN with
   | 0, hN => simp only [Sm.amt] at hm; omega
   | N + 1, hN =>
   simp only [Sm.amt] at hm
   have e1 := q55 hR N a (by omega) (Nat.le_trans hko.2.2.2.2.1 hR) hko.2.2.2.2.2.2.1
   have e2 := q55 hR N b (by omega) (Nat.le_trans hko.2.2.2.2.2.1 hR) hko.2.2.2.2.2.2.2
   (repeat' first|(apply DJ.s rfl;(· simp(disch:=omega)only[go_sem,simprocAttr,d1]<;>with_reducible rfl))|(apply J.s true false;(· simp(disch:=omega)only[go_sem,simprocAttr,d1]<;>with_reducible rfl))|apply DJ.nil|(refine J.reg0 ?_)|(apply DJ.gw;(· simp(disch:=omega)only[go_sem,simprocAttr,d1]<;>with_reducible rfl))|(apply DJ.gz;(· rfl);(· simp(disch:=omega)only[go_sem,simprocAttr,d1]<;>with_reducible rfl))|(apply DJ.gs;(· simp(disch:=omega)only[go_sem,simprocAttr,d1]<;>with_reducible rfl))|((first|apply DJ.ixm|apply DJ.ixom|apply DJ.ixsm);(· simp(disch:=omega)only[go_sem,simprocAttr,d1]<;>with_reducible rfl);(· simp(disch:=omega)only[go_sem,simprocAttr,d1]<;>with_reducible rfl);(· assumption);(· omega))|intro h)
   refine J.block ?_
   refine J.seq ?_
   refine J.reg0 ?_
   (repeat' first|refine D.S ?_|refine DJ.nil ?_|refine D.W ?_|refine D.Z ?_|refine D.G ?_ ?_|refine D.X ‹_› ?_|refine D.XO ‹_› ?_|refine D.XS ‹_› ?_|intro h)
   refine J.reg (anns := [.vs 6 [[.int .i64 k2, .str o2, .str m2, .str t2, .int .i64 n2, .vs 6 (l2.map Ex.row)]], .vs 11 (a.map Sm.row), .vs 11 (b.map Sm.row)]) ?_
   (repeat' first|refine D.S ?_|refine DJ.nil ?_|refine D.W ?_|refine D.Z ?_|refine D.G ?_ ?_|refine D.X ‹_› ?_|refine D.XO ‹_› ?_|refine D.XS ‹_› ?_|intro h)
   refine D.PC e0 ?_
   (repeat' first|refine D.S ?_|refine DJ.nil ?_|refine D.W ?_|refine D.Z ?_|refine D.G ?_ ?_|refine D.X ‹_› ?_|refine D.XO ‹_› ?_|refine D.XS ‹_› ?_|intro h)
   refine D.PC e1 ?_
   (repeat' first|refine D.S ?_|refine DJ.nil ?_|refine D.W ?_|refine D.Z ?_|refine D.G ?_ ?_|refine D.X ‹_› ?_|refine D.XO ‹_› ?_|refine D.XS ‹_› ?_|intro h)
   refine D.PC e2 ?_
   (repeat' first|refine D.S ?_|refine DJ.nil ?_|refine D.W ?_|refine D.Z ?_|refine D.G ?_ ?_|refine D.X ‹_› ?_|refine D.XO ‹_› ?_|refine D.XS ‹_› ?_|intro h)
   (apply DJ.ap';(· simp(disch:=omega)only[go_sem,simprocAttr]<;>with_reducible rfl);(· simp(disch:=omega)only[go_sem,simprocAttr]<;>with_reducible rfl);(· simp only [rowsOf] <;> simp(disch:=omega)only[go_sem,simprocAttr] <;> with_reducible rfl);(· first|omega|(simp only [List.length_map,List.length_drop,List.length_take,List.length_append,List.length_nil,List.length_cons,maxLen] <;> omega));(· first|omega|(simp only [List.length_map,List.length_drop,List.length_take,List.length_append,List.length_nil,List.length_cons,maxLen] <;> omega)))
   (repeat' first|refine D.S ?_|refine D.JJ true true ?_|refine DJ.nil ?_|refine J.reg0 ?_|refine D.W ?_|refine D.Z ?_|refine D.G ?_ ?_|refine D.X ‹_› ?_|refine D.XO ‹_› ?_|refine D.XS ‹_› ?_|intro h)
   refine J.roundC (i + 1) (by omega) ⟨rfl, by simp only [hsn]; rfl, rfl, trivial⟩ trivial ⟨by simp only [hsn, List.length_append]; rfl, trivial⟩ rfl (by simp only [bdE, bdL, bdB, bdT, bdO, AV.bd, Own.frz, go_sem] <;> rfl) (by show l.length - (i + 1) < l.length - i; omega)
  | none =>
   have hge := List.getElem?_eq_none_iff.1 hv
   have e : i = l.length := by omega
   subst e
   have d1 : ¬ (l.length : Int) < ((l.map Sm.row).length : Int) := by rw [List.length_map]; omega
   simp only [List.take_length]
   (repeat' first|(apply DJ.s rfl;(· simp(disch:=omega)only[go_sem,simprocAttr,d1]<;>with_reducible rfl))|(apply J.s true true;(· simp(disch:=omega)only[go_sem,simprocAttr,d1]<;>with_reducible rfl))|apply DJ.nil|(refine J.reg0 ?_)|(apply DJ.gw;(· simp(disch:=omega)only[go_sem,simprocAttr,d1]<;>with_reducible rfl))|(apply DJ.gz;(· rfl);(· simp(disch:=omega)only[go_sem,simprocAttr,d1]<;>with_reducible rfl))|(apply DJ.gs;(· simp(disch:=omega)only[go_sem,simprocAttr,d1]<;>with_reducible rfl))|((first|apply DJ.ixm|apply DJ.ixom|apply DJ.ixsm);(· simp(disch:=omega)only[go_sem,simprocAttr,d1]<;>with_reducible rfl);(· simp(disch:=omega)only[go_sem,simprocAttr,d1]<;>with_reducible rfl);(· assumption);(· omega))|intro h)
   first|refine D.R ?_|refine D.E ?_
   exact ⟨_, rfl, .wk rfl (by simp only [AV.flat, Sm.rowsF]), trivial, trivial⟩
end Go.Aw.T.N
namespace Go.Aw.T.N
open Go Go.Aw Go.Proofs Go.RowKit
set_option maxRecDepth 100000
attribute [local irreducible] Go.Aw.J Go.Aw.DJ Go.Aw.FC
attribute [local go_sem] wrap64 wrapu64 wrapu8 nnif decide_true decide_false dst gst gv_b gv_u jst jpop bdL bdB bdT bdO AV.bd tfL AV.tf o_mv o_pick o_nilck o_build o_load o_loadD o_loadR o_faddr o_field o_iaddr o_iaddrA o_idxA o_idxS o_bin o_binB o_eqA o_not o_pnil o_neg o_conv o_lenS o_len o_lenA o_minmax o_slS o_slV o_extract o_mkfn o_mkfnB o_convS o_convBS o_mkif o_isnil o_bslice o_box o_alloc o_store o_storeD o_bsliceO o_bsliceM cpv cev_t cev_c Env.get put_some' put_none' of_setB of_addB of_setT of_addT of_upd of_blk of_tok of_nb of_nt of_new rmB rmT rmBs rmTs renB renT apB apT lkB lkT getD_0 getD_s renL AV.ren crange_if cstB_if one_nilS one_pnil oc_nil oc_pnil cbin binInt shInt binStr binBool cbuild_nil cbuild_cons cidx_if AV.cells AV.okc AV.flat flatL flatR setRange minmaxAV AV.one AV.ofCells eqCells eqCell slRows initEnv initFrom cres cresv cresL cond_true cond_false beq_self_eq_true Bool.not_true Bool.not_false beq_true beq_false eq_self if_true Option.some.injEq List.length_cons List.length_nil List.take_succ_cons List.take_zero List.drop_succ_cons List.drop_zero List.set_cons_succ List.set_cons_zero List.nil_append List.cons_append List.append_nil and_self Option.map_some Option.map_none List.map_cons List.map_nil Bool.false_eq_true if_false Nat.zero_add Nat.add_zero true_and and_true Bool.and_true Bool.true_and List.getElem?_cons_zero List.getElem?_cons_succ Nat.zero_le Nat.le_refl List.all_cons List.all_nil List.flatten_cons List.flatten_nil crows crowsOk List.filter_cons List.filter_nil List.contains_cons List.contains_nil Bool.or_false Bool.or_true Bool.false_or Bool.true_or
set_option linter.unusedSimpArgs false
set_option linter.unusedVariables false
theorem ha_row (h : Ha) : h.row = [.str h.msg, .str h.peer, .vs 1 (h.ps.map srow), .vs 11 (h.body.map Sm.row)] := by rw [Ha.row, Sm.rows_map]
theorem of_row (o : Off) : o.row = [.str o.msg, .str o.peer, .vs 6 (o.args.map Ex.row), .vs 6 (o.whn.map Ex.row)] := by rw [Off.row, Ex.rows_map, Ex.rows_map]
theorem ha_flat (l : List Ha) : flatR (l.map Ha.row) = true := flatR_map (fun h => by simp only [ha_row, flatL, AV.flat, srow_flat, Sm.rowsF, Bool.and_self]) l
theorem of_flat (l : List Off) : flatR (l.map Off.row) = true := flatR_map (fun o => by simp only [of_row, flatL, AV.flat, Ex.rowsF, Bool.and_self]) l
attribute [local go_sem] Ex.row_mk Sm.row_mk Ex.rowsF Sm.rowsF srow srow_flat ha_row of_row ha_flat of_flat
theorem q71 (e : Ex → Ex → Bool) (fe : Nat) (hfe : callable Tryz.prog fe = true) (a b : List Ex) (ha : a.length ≤ maxLen) (h : ∀ (i : Nat) x y, a[i]? = some x → b[i]? = some y → Pure Tryz.prog fe [.agg x.row, .agg y.row] (.bool (e x y))) : Pure Tryz.prog 71 [.vs 6 (a.map Ex.row), .vs 6 (b.map Ex.row), .fn fe []] (.bool (eqF e a b)) := by
 have hl' : a.length ≤ 9223372036854775807 := by unfold maxLen at ha; omega
 refine pure_of mo Tryz.func71 c71 (by simp only [flatL, AV.flat, Ex.rowsF, Bool.and_self]) rfl ?_
 unfold e71 r71
 simp(disch:=omega)only[go_sem,simprocAttr]
 by_cases hab : a.length = b.length
 rotate_left
 ·have d0 : ¬ (((a.map Ex.row).length : Int) = ((b.map Ex.row).length : Int)) := by simp only [List.length_map]; omega
  (repeat' first|(apply DJ.s rfl;(· simp(disch:=omega)only[go_sem,simprocAttr,d0]<;>with_reducible rfl))|(apply J.s true true;(· simp(disch:=omega)only[go_sem,simprocAttr,d0]<;>with_reducible rfl))|apply DJ.nil|(refine J.reg0 ?_)|(apply DJ.gw;(· simp(disch:=omega)only[go_sem,simprocAttr,d0]<;>with_reducible rfl))|(apply DJ.gz;(· rfl);(· simp(disch:=omega)only[go_sem,simprocAttr,d0]<;>with_reducible rfl))|(apply DJ.gs;(· simp(disch:=omega)only[go_sem,simprocAttr,d0]<;>with_reducible rfl))|((first|apply DJ.ixm|apply DJ.ixom|apply DJ.ixsm);(· simp(disch:=omega)only[go_sem,simprocAttr,d0]<;>with_reducible rfl);(· simp(disch:=omega)only[go_sem,simprocAttr,d0]<;>with_reducible rfl);(· assumption);(· omega))|intro h)
  first|refine D.R ?_|refine D.E ?_
  exact ⟨_, rfl, .wk (by rw [eqF_ne hab]; rfl) rfl, trivial, trivial⟩
 have d0 : ((a.map Ex.row).length : Int) = ((b.map Ex.row).length : Int) := by simp only [List.length_map]; omega
 (repeat' first|(apply DJ.s rfl;(· simp(disch:=omega)only[go_sem,simprocAttr,d0]<;>with_reducible rfl))|(apply J.s true true;(· simp(disch:=omega)only[go_sem,simprocAttr,d0]<;>with_reducible rfl))|apply DJ.nil|(refine J.reg0 ?_)|(apply DJ.gw;(· simp(disch:=omega)only[go_sem,simprocAttr,d0]<;>with_reducible rfl))|(apply DJ.gz;(· rfl);(· simp(disch:=omega)only[go_sem,simprocAttr,d0]<;>with_reducible rfl))|(apply DJ.gs;(· simp(disch:=omega)only[go_sem,simprocAttr,d0]<;>with_reducible rfl))|((first|apply DJ.ixm|apply DJ.ixom|apply DJ.ixsm);(· simp(disch:=omega)only[go_sem,simprocAttr,d0]<;>with_reducible rfl);(· simp(disch:=omega)only[go_sem,simprocAttr,d0]<;>with_reducible rfl);(· assumption);(· omega))|intro h)
 refine J.loopX (X := Nat) 0 (fun i => [(1, .vs 6 (b.map Ex.row)), (2, .fn fe []), (15, .vs 6 (a.map Ex.row)), (16, .int .i64 ((b.map Ex.row).length : Int)), (17, .int .i64 (i : Int))]) (fun _ => []) (fun _ => []) (fun i => i ≤ a.length ∧ eqF e (a.drop i) (b.drop i) = eqF e a b) (fun i => a.length - i) ⟨Nat.zero_le _, rfl⟩ ⟨rfl, rfl, rfl, rfl, rfl, trivial⟩ trivial trivial ?_
 rintro i ⟨hi, hz⟩
 try simp only at hi hz ⊢
 cases hv : a[i]? with
 | some v =>
  have hlt := (List.getElem?_eq_some_iff.1 hv).1
  obtain ⟨u, hu⟩ : ∃ u, b[i]? = some u := ⟨_, List.getElem?_eq_getElem (by omega)⟩
  have hp := h i v u hv hu
  rw [eqF_drop hv hu] at hz
  generalize hev : e v u = ev at hp hz
  obtain ⟨k, o, m, t, n, l⟩ := v
  obtain ⟨k2, o2, m2, t2, n2, l2⟩ := u
  have d1 : (i : Int) < ((b.map Ex.row).length : Int) := by rw [List.length_map]; omega
  simp(disch:=omega)only[go_sem,simprocAttr] at hp
  (repeat' first|(apply DJ.s rfl;(· simp(disch:=omega)only[go_sem,simprocAttr,d1]<;>with_reducible rfl))|(apply J.s true true;(· simp(disch:=omega)only[go_sem,simprocAttr,d1]<;>with_reducible rfl))|apply DJ.nil|(refine J.reg0 ?_)|(apply DJ.gw;(· simp(disch:=omega)only[go_sem,simprocAttr,d1]<;>with_reducible rfl))|(apply DJ.gz;(· rfl);(· simp(disch:=omega)only[go_sem,simprocAttr,d1]<;>with_reducible rfl))|(apply DJ.gs;(· simp(disch:=omega)only[go_sem,simprocAttr,d1]<;>with_reducible rfl))|((first|apply DJ.ixm|apply DJ.ixom|apply DJ.ixsm);(· simp(disch:=omega)only[go_sem,simprocAttr,d1]<;>with_reducible rfl);(· simp(disch:=omega)only[go_sem,simprocAttr,d1]<;>with_reducible rfl);(· assumption);(· omega))|intro h)
  refine D.V (hfe) (hp) ?_
  cases ev with
  | true =>
   (repeat' first|refine D.S ?_|refine D.JJ true true ?_|refine DJ.nil ?_|refine J.reg0 ?_|refine D.W ?_|refine D.Z ?_|refine D.G ?_ ?_|refine D.X ‹_› ?_|refine D.XO ‹_› ?_|refine D.XS ‹_› ?_|intro h)
   refine J.roundC (i + 1) ⟨by omega, by rw [← hz]; rfl⟩ ⟨rfl, rfl, rfl, rfl, rfl, trivial⟩ trivial trivial rfl (by simp only [bdE, bdL, bdB, bdT, bdO, AV.bd, Own.frz, go_sem] <;> rfl) (by show a.length - (i + 1) < a.length - i; omega)
  | false =>
   (repeat' first|refine D.S ?_|refine D.JJ true true ?_|refine DJ.nil ?_|refine J.reg0 ?_|refine D.W ?_|refine D.Z ?_|refine D.G ?_ ?_|refine D.X ‹_› ?_|refine D.XO ‹_› ?_|refine D.XS ‹_› ?_|intro h)
   first|refine D.R ?_|refine D.E ?_
   exact ⟨_, rfl, .wk (by rw [← hz]; rfl) rfl, trivial, trivial⟩
 | none =>
  have hge := List.getElem?_eq_none_iff.1 hv
  have e0 : i = a.length := by omega
  subst e0
  have d1 : ¬ (a.length : Int) < ((b.map Ex.row).length : Int) := by rw [List.length_map]; omega
  rw [eqF_end (Nat.le_refl _) (by omega)] at hz
  rw [← hz]
  (repeat' first|(apply DJ.s rfl;(· simp(disch:=omega)only[go_sem,simprocAttr,d1]<;>with_reducible rfl))|(apply J.s true true;(· simp(disch:=omega)only[go_sem,simprocAttr,d1]<;>with_reducible rfl))|apply DJ.nil|(refine J.reg0 ?_)|(apply DJ.gw;(· simp(disch:=omega)only[go_sem,simprocAttr,d1]<;>with_reducible rfl))|(apply DJ.gz;(· rfl);(· simp(disch:=omega)only[go_sem,simprocAttr,d1]<;>with_reducible rfl))|(apply DJ.gs;(· simp(disch:=omega)only[go_sem,simprocAttr,d1]<;>with_reducible rfl))|((first|apply DJ.ixm|apply DJ.ixom|apply DJ.ixsm);(· simp(disch:=omega)only[go_sem,simprocAttr,d1]<;>with_reducible rfl);(· simp(disch:=omega)only[go_sem,simprocAttr,d1]<;>with_reducible rfl);(· assumption);(· omega))|intro h)
  first|refine D.R ?_|refine D.E ?_
  exact ⟨_, rfl, .wk rfl rfl, trivial, trivial⟩
theorem q67 (e : Sm → Sm → Bool) (fe : Nat) (hfe : callable Tryz.prog fe = true) (a b : List Sm) (ha : a.length ≤ maxLen) (h : ∀ (i : Nat) x y, a[i]? = some x → b[i]? = some y → Pure Tryz.prog fe [.agg x.row, .agg y.row] (.bool (e x y))) : Pure Tryz.prog 67 [.vs 11 (a.map Sm.row), .vs 11 (b.map Sm.row), .fn fe []] (.bool (eqF e a b)) := by
 have hl' : a.length ≤ 9223372036854775807 := by unfold maxLen at ha; omega
 refine pure_of mo Tryz.func67 c67 (by simp only [flatL, AV.flat, Sm.rowsF, Bool.and_self]) rfl ?_
 unfold e67 r67
 simp(disch:=omega)only[go_sem,simprocAttr]
 by_cases hab : a.length = b.length
 rotate_left
 ·have d0 : ¬ (((a.map Sm.row).length : Int) = ((b.map Sm.row).length : Int)) := by simp only [List.length_map]; omega
  (repeat' first|(apply DJ.s rfl;(· simp(disch:=omega)only[go_sem,simprocAttr,d0]<;>with_reducible rfl))|(apply J.s true true;(· simp(disch:=omega)only[go_sem,simprocAttr,d0]<;>with_reducible rfl))|apply DJ.nil|(refine J.reg0 ?_)|(apply DJ.gw;(· simp(disch:=omega)only[go_sem,simprocAttr,d0]<;>with_reducible rfl))|(apply DJ.gz;(· rfl);(· simp(disch:=omega)only[go_sem,simprocAttr,d0]<;>with_reducible rfl))|(apply DJ.gs;(· simp(disch:=omega)only[go_sem,simprocAttr,d0]<;>with_reducible rfl))|((first|apply DJ.ixm|apply DJ.ixom|apply DJ.ixsm);(· simp(disch:=omega)only[go_sem,simprocAttr,d0]<;>with_reducible rfl);(· simp(disch:=omega)only[go_sem,simprocAttr,d0]<;>with_reducible rfl);(· assumption);(· omega))|intro h)
  first|refine D.R ?_|refine D.E ?_
  exact ⟨_, rfl, .wk (by rw [eqF_ne hab]; rfl) rfl, trivial, trivial⟩
 have d0 : ((a.map Sm.row).length : Int) = ((b.map Sm.row).length : Int) := by simp only [List.length_map]; omega
 (repeat' first|(apply DJ.s rfl;(· simp(disch:=omega)only[go_sem,simprocAttr,d0]<;>with_reducible rfl))|(apply J.s true true;(· simp(disch:=omega)only[go_sem,simprocAttr,d0]<;>with_reducible rfl))|apply DJ.nil|(refine J.reg0 ?_)|(apply DJ.gw;(· simp(disch:=omega)only[go_sem,simprocAttr,d0]<;>with_reducible rfl))|(apply DJ.gz;(· rfl);(· simp(disch:=omega)only[go_sem,simprocAttr,d0]<;>with_reducible rfl))|(apply DJ.gs;(· simp(disch:=omega)only[go_sem,simprocAttr,d0]<;>with_reducible rfl))|((first|apply DJ.ixm|apply DJ.ixom|apply DJ.ixsm);(· simp(disch:=omega)only[go_sem,simprocAttr,d0]<;>with_reducible rfl);(· simp(disch:=omega)only[go_sem,simprocAttr,d0]<;>with_reducible rfl);(· assumption);(· omega))|intro h)
 refine J.loopX (X := Nat) 0 (fun i => [(1, .vs 11 (b.map Sm.row)), (2, .fn fe []), (15, .vs 11 (a.map Sm.row)), (16, .int .i64 ((b.map Sm.row).length : Int)), (17, .int .i64 (i : Int))]) (fun _ => []) (fun _ => []) (fun i => i ≤ a.length ∧ eqF e (a.drop i) (b.drop i) = eqF e a b) (fun i => a.length - i) ⟨Nat.zero_le _, rfl⟩ ⟨rfl, rfl, rfl, rfl, rfl, trivial⟩ trivial trivial ?_
 rintro i ⟨hi, hz⟩
 try simp only at hi hz ⊢
 cases hv : a[i]? with
 | some v =>
  have hlt := (List.getElem?_eq_some_iff.1 hv).1
  obtain ⟨u, hu⟩ : ∃ u, b[i]? = some u := ⟨_, List.getElem?_eq_getElem (by omega)⟩
  have hp := h i v u hv hu
  rw [eqF_drop hv hu] at hz
  generalize hev : e v u = ev at hp hz
  obtain ⟨k, m, ⟨ka, oa, ma, ta, na, la⟩, t, xa, xb⟩ := v
  obtain ⟨k2, m2, ⟨kb, ob, mb, tb, nb, lb⟩, t2, ya, yb⟩ := u
  have d1 : (i : Int) < ((b.map Sm.row).length : Int) := by rw [List.length_map]; omega
  simp(disch:=omega)only[go_sem,simprocAttr] at hp
  (repeat' first|(apply DJ.s rfl;(· simp(disch:=omega)only[go_sem,simprocAttr,d1]<;>with_reducible rfl))|(apply J.s true true;(· simp(disch:=omega)only[go_sem,simprocAttr,d1]<;>with_reducible rfl))|apply DJ.nil|(refine J.reg0 ?_)|(apply DJ.gw;(· simp(disch:=omega)only[go_sem,simprocAttr,d1]<;>with_reducible rfl))|(apply DJ.gz;(· rfl);(· simp(disch:=omega)only[go_sem,simprocAttr,d1]<;>with_reducible rfl))|(apply DJ.gs;(· simp(disch:=omega)only[go_sem,simprocAttr,d1]<;>with_reducible rfl))|((first|apply DJ.ixm|apply DJ.ixom|apply DJ.ixsm);(· simp(disch:=omega)only[go_sem,simprocAttr,d1]<;>with_reducible rfl);(· simp(disch:=omega)only[go_sem,simprocAttr,d1]<;>with_reducible rfl);(· assumption);(· omega))|intro h)
  refine D.V (hfe) (hp) ?_
  cases ev with
  | true =>
   (repeat' first|refine D.S ?_|refine D.JJ true true ?_|refine DJ.nil ?_|refine J.reg0 ?_|refine D.W ?_|refine D.Z ?_|refine D.G ?_ ?_|refine D.X ‹_› ?_|refine D.XO ‹_› ?_|refine D.XS ‹_› ?_|intro h)
   refine J.roundC (i + 1) ⟨by omega, by rw [← hz]; rfl⟩ ⟨rfl, rfl, rfl, rfl, rfl, trivial⟩ trivial trivial rfl (by simp only [bdE, bdL, bdB, bdT, bdO, AV.bd, Own.frz, go_sem] <;> rfl) (by show a.length - (i + 1) < a.length - i; omega)
  | false =>
   (repeat' first|refine D.S ?_|refine D.JJ true true ?_|refine DJ.nil ?_|refine J.reg0 ?_|refine D.W ?_|refine D.Z ?_|refine D.G ?_ ?_|refine D.X ‹_› ?_|refine D.XO ‹_› ?_|refine D.XS ‹_› ?_|intro h)
   first|refine D.R ?_|refine D.E ?_
   exact ⟨_, rfl, .wk (by rw [← hz]; rfl) rfl, trivial, trivial⟩
 | none =>
  have hge := List.getElem?_eq_none_iff.1 hv
  have e0 : i = a.length := by omega
  subst e0
  have d1 : ¬ (a.length : Int) < ((b.map Sm.row).length : Int) := by rw [List.length_map]; omega
  rw [eqF_end (Nat.le_refl _) (by omega)] at hz
  rw [← hz]
  (repeat' first|(apply DJ.s rfl;(· simp(disch:=omega)only[go_sem,simprocAttr,d1]<;>with_reducible rfl))|(apply J.s true true;(· simp(disch:=omega)only[go_sem,simprocAttr,d1]<;>with_reducible rfl))|apply DJ.nil|(refine J.reg0 ?_)|(apply DJ.gw;(· simp(disch:=omega)only[go_sem,simprocAttr,d1]<;>with_reducible rfl))|(apply DJ.gz;(· rfl);(· simp(disch:=omega)only[go_sem,simprocAttr,d1]<;>with_reducible rfl))|(apply DJ.gs;(· simp(disch:=omega)only[go_sem,simprocAttr,d1]<;>with_reducible rfl))|((first|apply DJ.ixm|apply DJ.ixom|apply DJ.ixsm);(· simp(disch:=omega)only[go_sem,simprocAttr,d1]<;>with_reducible rfl);(· simp(disch:=omega)only[go_sem,simprocAttr,d1]<;>with_reducible rfl);(· assumption);(· omega))|intro h)
  first|refine D.R ?_|refine D.E ?_
  exact ⟨_, rfl, .wk rfl rfl, trivial, trivial⟩
theorem q64 (e : Ha → Ha → Bool) (fe : Nat) (hfe : callable Tryz.prog fe = true) (a b : List Ha) (ha : a.length ≤ maxLen) (h : ∀ (i : Nat) x y, a[i]? = some x → b[i]? = some y → Pure Tryz.prog fe [.agg x.row, .agg y.row] (.bool (e x y))) : Pure Tryz.prog 64 [.vs 4 (a.map Ha.row), .vs 4 (b.map Ha.row), .fn fe []] (.bool (eqF e a b)) := by
 have hl' : a.length ≤ 9223372036854775807 := by unfold maxLen at ha; omega
 refine pure_of mo Tryz.func64 c64 (by simp only [flatL, AV.flat, ha_flat, Bool.and_self]) rfl ?_
 unfold e64 r64
 simp(disch:=omega)only[go_sem,simprocAttr]
 by_cases hab : a.length = b.length
 rotate_left
 ·have d0 : ¬ (((a.map Ha.row).length : Int) = ((b.map Ha.row).length : Int)) := by simp only [List.length_map]; omega
  (repeat' first|(apply DJ.s rfl;(· simp(disch:=omega)only[go_sem,simprocAttr,d0]<;>with_reducible rfl))|(apply J.s true true;(· simp(disch:=omega)only[go_sem,simprocAttr,d0]<;>with_reducible rfl))|apply DJ.nil|(refine J.reg0 ?_)|(apply DJ.gw;(· simp(disch:=omega)only[go_sem,simprocAttr,d0]<;>with_reducible rfl))|(apply DJ.gz;(· rfl);(· simp(disch:=omega)only[go_sem,simprocAttr,d0]<;>with_reducible rfl))|(apply DJ.gs;(· simp(disch:=omega)only[go_sem,simprocAttr,d0]<;>with_reducible rfl))|((first|apply DJ.ixm|apply DJ.ixom|apply DJ.ixsm);(· simp(disch:=omega)only[go_sem,simprocAttr,d0]<;>with_reducible rfl);(· simp(disch:=omega)only[go_sem,simprocAttr,d0]<;>with_reducible rfl);(· assumption);(· omega))|intro h)
  first|refine D.R ?_|refine D.E ?_
  exact ⟨_, rfl, .wk (by rw [eqF_ne hab]; rfl) rfl, trivial, trivial⟩
 have d0 : ((a.map Ha.row).length : Int) = ((b.map Ha.row).length : Int) := by simp only [List.length_map]; omega
 (repeat' first|(apply DJ.s rfl;(· simp(disch:=omega)only[go_sem,simprocAttr,d0]<;>with_reducible rfl))|(apply J.s true true;(· simp(disch:=omega)only[go_sem,simprocAttr,d0]<;>with_reducible rfl))|apply DJ.nil|(refine J.reg0 ?_)|(apply DJ.gw;(· simp(disch:=omega)only[go_sem,simprocAttr,d0]<;>with_reducible rfl))|(apply DJ.gz;(· rfl);(· simp(disch:=omega)only[go_sem,simprocAttr,d0]<;>with_reducible rfl))|(apply DJ.gs;(· simp(disch:=omega)only[go_sem,simprocAttr,d0]<;>with_reducible rfl))|((first|apply DJ.ixm|apply DJ.ixom|apply DJ.ixsm);(· simp(disch:=omega)only[go_sem,simprocAttr,d0]<;>with_reducible rfl);(· simp(disch:=omega)only[go_sem,simprocAttr,d0]<;>with_reducible rfl);(· assumption);(· omega))|intro h)
 refine J.loopX (X := Nat) 0 (fun i => [(1, .vs 4 (b.map Ha.row)), (2, .fn fe []), (15, .vs 4 (a.map Ha.row)), (16, .int .i64 ((b.map Ha.row).length : Int)), (17, .int .i64 (i : Int))]) (fun _ => []) (fun _ => []) (fun i => i ≤ a.length ∧ eqF e (a.drop i) (b.drop i) = eqF e a b) (fun i => a.length - i) ⟨Nat.zero_le _, rfl⟩ ⟨rfl, rfl, rfl, rfl, rfl, trivial⟩ trivial trivial ?_
 rintro i ⟨hi, hz⟩
 try simp only at hi hz ⊢
 cases hv : a[i]? with
 | some v =>
  have hlt := (List.getElem?_eq_some_iff.1 hv).1
  obtain ⟨u, hu⟩ : ∃ u, b[i]? = some u := ⟨_, List.getElem?_eq_getElem (by omega)⟩
  have hp := h i v u hv hu
  rw [eqF_drop hv hu] at hz
  generalize hev : e v u = ev at hp hz
  have _ := hlt
  have d1 : (i : Int) < ((b.map Ha.row).length : Int) := by rw [List.length_map]; omega
  simp(disch:=omega)only[go_sem,simprocAttr] at hp
  (repeat' first|(apply DJ.s rfl;(· simp(disch:=omega)only[go_sem,simprocAttr,d1]<;>with_reducible rfl))|(apply J.s true true;(· simp(disch:=omega)only[go_sem,simprocAttr,d1]<;>with_reducible rfl))|apply DJ.nil|(refine J.reg0 ?_)|(apply DJ.gw;(· simp(disch:=omega)only[go_sem,simprocAttr,d1]<;>with_reducible rfl))|(apply DJ.gz;(· rfl);(· simp(disch:=omega)only[go_sem,simprocAttr,d1]<;>with_reducible rfl))|(apply DJ.gs;(· simp(disch:=omega)only[go_sem,simprocAttr,d1]<;>with_reducible rfl))|((first|apply DJ.ixm|apply DJ.ixom|apply DJ.ixsm);(· simp(disch:=omega)only[go_sem,simprocAttr,d1]<;>with_reducible rfl);(· simp(disch:=omega)only[go_sem,simprocAttr,d1]<;>with_reducible rfl);(· assumption);(· omega))|intro h)
  refine D.V (hfe) (hp) ?_
  cases ev with
  | true =>
   (repeat' first|refine D.S ?_|refine D.JJ true true ?_|refine DJ.nil ?_|refine J.reg0 ?_|refine D.W ?_|refine D.Z ?_|refine D.G ?_ ?_|refine D.X ‹_› ?_|refine D.XO ‹_› ?_|refine D.XS ‹_› ?_|intro h)
   refine J.roundC (i + 1) ⟨by omega, by rw [← hz]; rfl⟩ ⟨rfl, rfl, rfl, rfl, rfl, trivial⟩ trivial trivial rfl (by simp only [bdE, bdL, bdB, bdT, bdO, AV.bd, Own.frz, go_sem] <;> rfl) (by show a.length - (i + 1) < a.length - i; omega)
  | false =>
   (repeat' first|refine D.S ?_|refine D.JJ true true ?_|refine DJ.nil ?_|refine J.reg0 ?_|refine D.W ?_|refine D.Z ?_|refine D.G ?_ ?_|refine D.X ‹_› ?_|refine D.XO ‹_› ?_|refine D.XS ‹_› ?_|intro h)
   first|refine D.R ?_|refine D.E ?_
   exact ⟨_, rfl, .wk (by rw [← hz]; rfl) rfl, trivial, trivial⟩
 | none =>
  have hge := List.getElem?_eq_none_iff.1 hv
  have e0 : i = a.length := by omega
  subst e0
  have d1 : ¬ (a.length : Int) < ((b.map Ha.row).length : Int) := by rw [List.length_map]; omega
  rw [eqF_end (Nat.le_refl _) (by omega)] at hz
  rw [← hz]
  (repeat' first|(apply DJ.s rfl;(· simp(disch:=omega)only[go_sem,simprocAttr,d1]<;>with_reducible rfl))|(apply J.s true true;(· simp(disch:=omega)only[go_sem,simprocAttr,d1]<;>with_reducible rfl))|apply DJ.nil|(refine J.reg0 ?_)|(apply DJ.gw;(· simp(disch:=omega)only[go_sem,simprocAttr,d1]<;>with_reducible rfl))|(apply DJ.gz;(· rfl);(· simp(disch:=omega)only[go_sem,simprocAttr,d1]<;>with_reducible rfl))|(apply DJ.gs;(· simp(disch:=omega)only[go_sem,simprocAttr,d1]<;>with_reducible rfl))|((first|apply DJ.ixm|apply DJ.ixom|apply DJ.ixsm);(· simp(disch:=omega)only[go_sem,simprocAttr,d1]<;>with_reducible rfl);(· simp(disch:=omega)only[go_sem,simprocAttr,d1]<;>with_reducible rfl);(· assumption);(· omega))|intro h)
  first|refine D.R ?_|refine D.E ?_
  exact ⟨_, rfl, .wk rfl rfl, trivial, trivial⟩
theorem q69 (e : Off → Off → Bool) (fe : Nat) (hfe : callable Tryz.prog fe = true) (a b : List Off) (ha : a.length ≤ maxLen) (h : ∀ (i : Nat) x y, a[i]? = some x → b[i]? = some y → Pure Tryz.prog fe [.agg x.row, .agg y.row] (.bool (e x y))) : Pure Tryz.prog 69 [.vs 4 (a.map Off.row), .vs 4 (b.map Off.row), .fn fe []] (.bool (eqF e a b)) := by
 have hl' : a.length ≤ 9223372036854775807 := by unfold maxLen at ha; omega
 refine pure_of mo Tryz.func69 c69 (by simp only [flatL, AV.flat, of_flat, Bool.and_self]) rfl ?_
 unfold e69 r69
 simp(disch:=omega)only[go_sem,simprocAttr]
 by_cases hab : a.length = b.length
 rotate_left
 ·have d0 : ¬ (((a.map Off.row).length : Int) = ((b.map Off.row).length : Int)) := by simp only [List.length_map]; omega
  (repeat' first|(apply DJ.s rfl;(· simp(disch:=omega)only[go_sem,simprocAttr,d0]<;>with_reducible rfl))|(apply J.s true true;(· simp(disch:=omega)only[go_sem,simprocAttr,d0]<;>with_reducible rfl))|apply DJ.nil|(refine J.reg0 ?_)|(apply DJ.gw;(· simp(disch:=omega)only[go_sem,simprocAttr,d0]<;>with_reducible rfl))|(apply DJ.gz;(· rfl);(· simp(disch:=omega)only[go_sem,simprocAttr,d0]<;>with_reducible rfl))|(apply DJ.gs;(· simp(disch:=omega)only[go_sem,simprocAttr,d0]<;>with_reducible rfl))|((first|apply DJ.ixm|apply DJ.ixom|apply DJ.ixsm);(· simp(disch:=omega)only[go_sem,simprocAttr,d0]<;>with_reducible rfl);(· simp(disch:=omega)only[go_sem,simprocAttr,d0]<;>with_reducible rfl);(· assumption);(· omega))|intro h)
  first|refine D.R ?_|refine D.E ?_
  exact ⟨_, rfl, .wk (by rw [eqF_ne hab]; rfl) rfl, trivial, trivial⟩
 have d0 : ((a.map Off.row).length : Int) = ((b.map Off.row).length : Int) := by simp only [List.length_map]; omega
 (repeat' first|(apply DJ.s rfl;(· simp(disch:=omega)only[go_sem,simprocAttr,d0]<;>with_reducible rfl))|(apply J.s true true;(· simp(disch:=omega)only[go_sem,simprocAttr,d0]<;>with_reducible rfl))|apply DJ.nil|(refine J.reg0 ?_)|(apply DJ.gw;(· simp(disch:=omega)only[go_sem,simprocAttr,d0]<;>with_reducible rfl))|(apply DJ.gz;(· rfl);(· simp(disch:=omega)only[go_sem,simprocAttr,d0]<;>with_reducible rfl))|(apply DJ.gs;(· simp(disch:=omega)only[go_sem,simprocAttr,d0]<;>with_reducible rfl))|((first|apply DJ.ixm|apply DJ.ixom|apply DJ.ixsm);(· simp(disch:=omega)only[go_sem,simprocAttr,d0]<;>with_reducible rfl);(· simp(disch:=omega)only[go_sem,simprocAttr,d0]<;>with_reducible rfl);(· assumption);(· omega))|intro h)
 refine J.loopX (X := Nat) 0 (fun i => [(1, .vs 4 (b.map Off.row)), (2, .fn fe []), (15, .vs 4 (a.map Off.row)), (16, .int .i64 ((b.map Off.row).length : Int)), (17, .int .i64 (i : Int))]) (fun _ => []) (fun _ => []) (fun i => i ≤ a.length ∧ eqF e (a.drop i) (b.drop i) = eqF e a b) (fun i => a.length - i) ⟨Nat.zero_le _, rfl⟩ ⟨rfl, rfl, rfl, rfl, rfl, trivial⟩ trivial trivial ?_
 rintro i ⟨hi, hz⟩
 try simp only at hi hz ⊢
 cases hv : a[i]? with
 | some v =>
  have hlt := (List.getElem?_eq_some_iff.1 hv).1
  obtain ⟨u, hu⟩ : ∃ u, b[i]? = some u := ⟨_, List.getElem?_eq_getElem (by omega)⟩
  have hp := h i v u hv hu
  rw [eqF_drop hv hu] at hz
  generalize hev : e v u = ev at hp hz
  have _ := hlt
  have d1 : (i : Int) < ((b.map Off.row).length : Int) := by rw [List.length_map]; omega
  simp(disch:=omega)only[go_sem,simprocAttr] at hp
  (repeat' first|(apply DJ.s rfl;(· simp(disch:=omega)only[go_sem,simprocAttr,d1]<;>with_reducible rfl))|(apply J.s true true;(· simp(disch:=omega)only[go_sem,simprocAttr,d1]<;>with_reducible rfl))|apply DJ.nil|(refine J.reg0 ?_)|(apply DJ.gw;(· simp(disch:=omega)only[go_sem,simprocAttr,d1]<;>with_reducible rfl))|(apply DJ.gz;(· rfl);(· simp(disch:=omega)only[go_sem,simprocAttr,d1]<;>with_reducible rfl))|(apply DJ.gs;(· simp(disch:=omega)only[go_sem,simprocAttr,d1]<;>with_reducible rfl))|((first|apply DJ.ixm|apply DJ.ixom|apply DJ.ixsm);(· simp(disch:=omega)only[go_sem,simprocAttr,d1]<;>with_reducible rfl);(· simp(disch:=omega)only[go_sem,simprocAttr,d1]<;>with_reducible rfl);(· assumption);(· omega))|intro h)
  refine D.V (hfe) (hp) ?_
  cases ev with
  | true =>
   (repeat' first|refine D.S ?_|refine D.JJ true true ?_|refine DJ.nil ?_|refine J.reg0 ?_|refine D.W ?_|refine D.Z ?_|refine D.G ?_ ?_|refine D.X ‹_› ?_|refine D.XO ‹_› ?_|refine D.XS ‹_› ?_|intro h)
   refine J.roundC (i + 1) ⟨by omega, by rw [← hz]; rfl⟩ ⟨rfl, rfl, rfl, rfl, rfl, trivial⟩ trivial trivial rfl (by simp only [bdE, bdL, bdB, bdT, bdO, AV.bd, Own.frz, go_sem] <;> rfl) (by show a.length - (i + 1) < a.length - i; omega)
  | false =>
   (repeat' first|refine D.S ?_|refine D.JJ true true ?_|refine DJ.nil ?_|refine J.reg0 ?_|refine D.W ?_|refine D.Z ?_|refine D.G ?_ ?_|refine D.X ‹_› ?_|refine D.XO ‹_› ?_|refine D.XS ‹_› ?_|intro h)
   first|refine D.R ?_|refine D.E ?_
   exact ⟨_, rfl, .wk (by rw [← hz]; rfl) rfl, trivial, trivial⟩
 | none =>
  have hge := List.getElem?_eq_none_iff.1 hv
  have e0 : i = a.length := by omega
  subst e0
  have d1 : ¬ (a.length : Int) < ((b.map Off.row).length : Int) := by rw [List.length_map]; omega
  rw [eqF_end (Nat.le_refl _) (by omega)] at hz
  rw [← hz]
  (repeat' first|(apply DJ.s rfl;(· simp(disch:=omega)only[go_sem,simprocAttr,d1]<;>with_reducible rfl))|(apply J.s true true;(· simp(disch:=omega)only[go_sem,simprocAttr,d1]<;>with_reducible rfl))|apply DJ.nil|(refine J.reg0 ?_)|(apply DJ.gw;(· simp(disch:=omega)only[go_sem,simprocAttr,d1]<;>with_reducible rfl))|(apply DJ.gz;(· rfl);(· simp(disch:=omega)only[go_sem,simprocAttr,d1]<;>with_reducible rfl))|(apply DJ.gs;(· simp(disch:=omega)only[go_sem,simprocAttr,d1]<;>with_reducible rfl))|((first|apply DJ.ixm|apply DJ.ixom|apply DJ.ixsm);(· simp(disch:=omega)only[go_sem,simprocAttr,d1]<;>with_reducible rfl);(· simp(disch:=omega)only[go_sem,simprocAttr,d1]<;>with_reducible rfl);(· assumption);(· omega))|intro h)
  first|refine D.R ?_|refine D.E ?_
  exact ⟨_, rfl, .wk rfl rfl, trivial, trivial⟩
end Go.Aw.T.N
namespace Go.Aw.T.N
open Go Go.Aw Go.Proofs Go.RowKit
set_option maxRecDepth 100000
attribute [local irreducible] Go.Aw.J Go.Aw.DJ Go.Aw.FC
attribute [local go_sem] wrap64 wrapu64 wrapu8 nnif decide_true decide_false dst gst gv_b gv_u jst jpop bdL bdB bdT bdO AV.bd tfL AV.tf o_mv o_pick o_nilck o_build o_load o_loadD o_loadR o_faddr o_field o_iaddr o_iaddrA o_idxA o_idxS o_bin o_binB o_eqA o_not o_pnil o_neg o_conv o_lenS o_len o_lenA o_minmax o_slS o_slV o_extract o_mkfn o_mkfnB o_convS o_convBS o_mkif o_isnil o_bslice o_box o_alloc o_store o_storeD o_bsliceO o_bsliceM cpv cev_t cev_c Env.get put_some' put_none' of_setB of_addB of_setT of_addT of_upd of_blk of_tok of_nb of_nt of_new rmB rmT rmBs rmTs renB renT apB apT lkB lkT getD_0 getD_s renL AV.ren crange_if cstB_if one_nilS one_pnil oc_nil oc_pnil cbin binInt shInt binStr binBool cbuild_nil cbuild_cons cidx_if AV.cells AV.okc AV.flat flatL flatR setRange minmaxAV AV.one AV.ofCells eqCells eqCell slRows initEnv initFrom cres cresv cresL cond_true cond_false beq_self_eq_true Bool.not_true Bool.not_false beq_true beq_false eq_self if_true Option.some.injEq List.length_cons List.length_nil List.take_succ_cons List.take_zero List.drop_succ_cons List.drop_zero List.set_cons_succ List.set_cons_zero List.nil_append List.cons_append List.append_nil and_self Option.map_some Option.map_none List.map_cons List.map_nil Bool.false_eq_true if_false Nat.zero_add Nat.add_zero true_and and_true Bool.and_true Bool.true_and List.getElem?_cons_zero List.getElem?_cons_succ Nat.zero_le Nat.le_refl List.all_cons List.all_nil List.flatten_cons List.flatten_nil crows crowsOk List.filter_cons List.filter_nil List.contains_cons List.contains_nil Bool.or_false Bool.or_true Bool.false_or Bool.true_or
set_option linter.unusedSimpArgs false
set_option linter.unusedVariables false
attribute [local go_sem] Ex.row_mk Sm.row_mk Ex.rowsF Sm.rowsF srow srow_flat ha_row of_row ha_flat of_flat
theorem len_of {R n b : Nat} (hR : R ≤ 140737488355328) (hb : 1 ≤ b) (h : n * b ≤ R) : n ≤ maxLen := by
 have : n * 1 ≤ n * b := Nat.mul_le_mul_left n hb
 unfold maxLen
 omega
theorem q72 {R : Nat} (hR : R ≤ 140737488355328) : ∀ (N : Nat) (x y : Ex), x.amt ≤ N → x.ok R → Pure Tryz.prog 72 [.agg x.row, .agg y.row] (.bool (exSame x y))
 | N, .mk k o m t n l, .mk k2 o2 m2 t2 n2 l2, hN, hx => by
  have e71 : Pure Tryz.prog 71 [.vs 6 (l.map Ex.row), .vs 6 (l2.map Ex.row), .fn 72 []] (.bool (exSames l l2)) := by
   rw [exSames_eq]
   refine q71 exSame 72 (by kernel_rfl) l l2 (len_of hR (by decide) hx.2.2.2.2.2.1) fun i u v hu hv => ?_
   have hm := Ex.mem_amt hu
   match N, hN with
   | 0, hN => simp only [Ex.amt] at hN; omega
   | N + 1, hN => simp only [Ex.amt] at hN; exact q72 hR N u v (by omega) (Ex.oks_get hx.2.2.2.2.2.2 hu)
  refine pure_of mo Tryz.func72 c72 (by simp only [Ex.row_mk, flatL, AV.flat, Ex.rowsF, Bool.and_self]) rfl ?_
  unfold e72 r72
  simp(disch:=omega)only[go_sem,simprocAttr]
  (repeat' first|refine D.S ?_|refine D.JJ true true ?_|refine DJ.nil ?_|refine J.reg0 ?_|refine D.W ?_|refine D.Z ?_|refine D.G ?_ ?_|refine D.X ‹_› ?_|refine D.XO ‹_› ?_|refine D.XS ‹_› ?_|intro h)
  ·refine D.P (e71) ?_
   (repeat' first|refine D.S ?_|refine D.JJ true true ?_|refine DJ.nil ?_|refine J.reg0 ?_|refine D.W ?_|refine D.Z ?_|refine D.G ?_ ?_|refine D.X ‹_› ?_|refine D.XO ‹_› ?_|refine D.XS ‹_› ?_|intro h)
   first|refine D.R ?_|refine D.E ?_
   refine ⟨_, rfl, .wk ?_ rfl, trivial, trivial⟩
   simp_all [exSame, AV.wk]
  all_goals
   refine D.R ?_
   refine ⟨_, rfl, .wk ?_ rfl, trivial, trivial⟩
   simp_all [exSame, AV.wk]
theorem q66 (a b : List (List UInt8)) (ha : a.length ≤ maxLen) : Pure Tryz.prog 66 [.vs 1 (a.map srow), .vs 1 (b.map srow)] (.bool (decide (a = b))) := by
 have hl' : a.length ≤ 9223372036854775807 := by unfold maxLen at ha; omega
 rw [← eqF_dec]
 refine pure_of mo Tryz.func66 c66 (by simp only [flatL, AV.flat, srow_flat, Bool.and_self]) rfl ?_
 unfold e66 r66
 simp(disch:=omega)only[go_sem,simprocAttr]
 by_cases hab : a.length = b.length
 rotate_left
 ·have d0 : ¬ (((a.map srow).length : Int) = ((b.map srow).length : Int)) := by simp only [List.length_map]; omega
  (repeat' first|(apply DJ.s rfl;(· simp(disch:=omega)only[go_sem,simprocAttr,d0]<;>with_reducible rfl))|(apply J.s true true;(· simp(disch:=omega)only[go_sem,simprocAttr,d0]<;>with_reducible rfl))|apply DJ.nil|(refine J.reg0 ?_)|(apply DJ.gw;(· simp(disch:=omega)only[go_sem,simprocAttr,d0]<;>with_reducible rfl))|(apply DJ.gz;(· rfl);(· simp(disch:=omega)only[go_sem,simprocAttr,d0]<;>with_reducible rfl))|(apply DJ.gs;(· simp(disch:=omega)only[go_sem,simprocAttr,d0]<;>with_reducible rfl))|((first|apply DJ.ixm|apply DJ.ixom|apply DJ.ixsm);(· simp(disch:=omega)only[go_sem,simprocAttr,d0]<;>with_reducible rfl);(· simp(disch:=omega)only[go_sem,simprocAttr,d0]<;>with_reducible rfl);(· assumption);(· omega))|intro h)
  first|refine D.R ?_|refine D.E ?_
  exact ⟨_, rfl, .wk (by rw [eqF_ne hab]; rfl) rfl, trivial, trivial⟩
 have d0 : ((a.map srow).length : Int) = ((b.map srow).length : Int) := by simp only [List.length_map]; omega
 (repeat' first|(apply DJ.s rfl;(· simp(disch:=omega)only[go_sem,simprocAttr,d0]<;>with_reducible rfl))|(apply J.s true true;(· simp(disch:=omega)only[go_sem,simprocAttr,d0]<;>with_reducible rfl))|apply DJ.nil|(refine J.reg0 ?_)|(apply DJ.gw;(· simp(disch:=omega)only[go_sem,simprocAttr,d0]<;>with_reducible rfl))|(apply DJ.gz;(· rfl);(· simp(disch:=omega)only[go_sem,simprocAttr,d0]<;>with_reducible rfl))|(apply DJ.gs;(· simp(disch:=omega)only[go_sem,simprocAttr,d0]<;>with_reducible rfl))|((first|apply DJ.ixm|apply DJ.ixom|apply DJ.ixsm);(· simp(disch:=omega)only[go_sem,simprocAttr,d0]<;>with_reducible rfl);(· simp(disch:=omega)only[go_sem,simprocAttr,d0]<;>with_reducible rfl);(· assumption);(· omega))|intro h)
 refine J.loopX (X := Nat) 0 (fun i => [(0, .vs 1 (a.map srow)), (1, .vs 1 (b.map srow)), (12, .int .i64 ((b.map srow).length : Int)), (13, .int .i64 (i : Int))]) (fun _ => []) (fun _ => []) (fun i => i ≤ a.length ∧ eqF (fun x y => decide (x = y)) (a.drop i) (b.drop i) = eqF (fun x y => decide (x = y)) a b) (fun i => a.length - i) ⟨Nat.zero_le _, rfl⟩ ⟨rfl, rfl, rfl, rfl, trivial⟩ trivial trivial ?_
 rintro i ⟨hi, hz⟩
 try simp only at hi hz ⊢
 cases hv : a[i]? with
 | some v =>
  have hlt := (List.getElem?_eq_some_iff.1 hv).1
  obtain ⟨u, hu⟩ : ∃ u, b[i]? = some u := ⟨_, List.getElem?_eq_getElem (by omega)⟩
  rw [eqF_drop hv hu] at hz
  have d1 : (i : Int) < ((b.map srow).length : Int) := by rw [List.length_map]; omega
  have d2 : (i : Int) < ((a.map srow).length : Int) := by rw [List.length_map]; omega
  (repeat' first|(apply DJ.s rfl;(· simp(disch:=omega)only[go_sem,simprocAttr,d1, d2]<;>with_reducible rfl))|(apply J.s true true;(· simp(disch:=omega)only[go_sem,simprocAttr,d1, d2]<;>with_reducible rfl))|apply DJ.nil|(refine J.reg0 ?_)|(apply DJ.gw;(· simp(disch:=omega)only[go_sem,simprocAttr,d1, d2]<;>with_reducible rfl))|(apply DJ.gz;(· rfl);(· simp(disch:=omega)only[go_sem,simprocAttr,d1, d2]<;>with_reducible rfl))|(apply DJ.gs;(· simp(disch:=omega)only[go_sem,simprocAttr,d1, d2]<;>with_reducible rfl))|((first|apply DJ.ixm|apply DJ.ixom|apply DJ.ixsm);(· simp(disch:=omega)only[go_sem,simprocAttr,d1, d2]<;>with_reducible rfl);(· simp(disch:=omega)only[go_sem,simprocAttr,d1, d2]<;>with_reducible rfl);(· assumption);(· omega))|intro h|(apply J.cond;(· simp(disch:=omega)only[go_sem,simprocAttr,d1, d2]<;>with_reducible rfl)))
  ·first|refine D.R ?_|refine D.E ?_
   refine ⟨_, rfl, .wk ?_ rfl, trivial, trivial⟩
   rw [← hz]
   have hne : ¬ v = u := by simp at h; exact h
   simp [hne, AV.wk]
  ·refine J.roundX (i + 1) ⟨by omega, ?_⟩ ⟨rfl, rfl, rfl, rfl, trivial⟩ trivial trivial rfl rfl (by show a.length - (i + 1) < a.length - i; omega)
   rw [← hz]
   have heq : v = u := by simp at h; exact h
   simp [heq]
 | none =>
  have hge := List.getElem?_eq_none_iff.1 hv
  have e0 : i = a.length := by omega
  subst e0
  have d1 : ¬ (a.length : Int) < ((b.map srow).length : Int) := by rw [List.length_map]; omega
  have d2 : ¬ (a.length : Int) < ((a.map srow).length : Int) := by rw [List.length_map]; omega
  rw [eqF_end (Nat.le_refl _) (by omega)] at hz
  rw [← hz]
  (repeat' first|(apply DJ.s rfl;(· simp(disch:=omega)only[go_sem,simprocAttr,d1, d2]<;>with_reducible rfl))|(apply J.s true true;(· simp(disch:=omega)only[go_sem,simprocAttr,d1, d2]<;>with_reducible rfl))|apply DJ.nil|(refine J.reg0 ?_)|(apply DJ.gw;(· simp(disch:=omega)only[go_sem,simprocAttr,d1, d2]<;>with_reducible rfl))|(apply DJ.gz;(· rfl);(· simp(disch:=omega)only[go_sem,simprocAttr,d1, d2]<;>with_reducible rfl))|(apply DJ.gs;(· simp(disch:=omega)only[go_sem,simprocAttr,d1, d2]<;>with_reducible rfl))|((first|apply DJ.ixm|apply DJ.ixom|apply DJ.ixsm);(· simp(disch:=omega)only[go_sem,simprocAttr,d1, d2]<;>with_reducible rfl);(· simp(disch:=omega)only[go_sem,simprocAttr,d1, d2]<;>with_reducible rfl);(· assumption);(· omega))|intro h)
  first|refine D.R ?_|refine D.E ?_
  exact ⟨_, rfl, .wk rfl rfl, trivial, trivial⟩
theorem q40 (a b : List (List UInt8)) (ha : a.length ≤ maxLen) : Pure Tryz.prog 40 [.vs 1 (a.map srow), .vs 1 (b.map srow)] (.bool (decide (a = b))) := by
 have hl' : a.length ≤ 9223372036854775807 := by unfold maxLen at ha; omega
 rw [← eqF_dec]
 refine pure_of mo Tryz.func40 c40 (by simp only [flatL, AV.flat, srow_flat, Bool.and_self]) rfl ?_
 unfold e40 r40
 simp(disch:=omega)only[go_sem,simprocAttr]
 by_cases hab : a.length = b.length
 rotate_left
 ·have d0 : ¬ (((a.map srow).length : Int) = ((b.map srow).length : Int)) := by simp only [List.length_map]; omega
  (repeat' first|(apply DJ.s rfl;(· simp(disch:=omega)only[go_sem,simprocAttr,d0]<;>with_reducible rfl))|(apply J.s true true;(· simp(disch:=omega)only[go_sem,simprocAttr,d0]<;>with_reducible rfl))|apply DJ.nil|(refine J.reg0 ?_)|(apply DJ.gw;(· simp(disch:=omega)only[go_sem,simprocAttr,d0]<;>with_reducible rfl))|(apply DJ.gz;(· rfl);(· simp(disch:=omega)only[go_sem,simprocAttr,d0]<;>with_reducible rfl))|(apply DJ.gs;(· simp(disch:=omega)only[go_sem,simprocAttr,d0]<;>with_reducible rfl))|((first|apply DJ.ixm|apply DJ.ixom|apply DJ.ixsm);(· simp(disch:=omega)only[go_sem,simprocAttr,d0]<;>with_reducible rfl);(· simp(disch:=omega)only[go_sem,simprocAttr,d0]<;>with_reducible rfl);(· assumption);(· omega))|intro h)
  first|refine D.R ?_|refine D.E ?_
  exact ⟨_, rfl, .wk (by rw [eqF_ne hab]; rfl) rfl, trivial, trivial⟩
 have d0 : ((a.map srow).length : Int) = ((b.map srow).length : Int) := by simp only [List.length_map]; omega
 (repeat' first|(apply DJ.s rfl;(· simp(disch:=omega)only[go_sem,simprocAttr,d0]<;>with_reducible rfl))|(apply J.s true true;(· simp(disch:=omega)only[go_sem,simprocAttr,d0]<;>with_reducible rfl))|apply DJ.nil|(refine J.reg0 ?_)|(apply DJ.gw;(· simp(disch:=omega)only[go_sem,simprocAttr,d0]<;>with_reducible rfl))|(apply DJ.gz;(· rfl);(· simp(disch:=omega)only[go_sem,simprocAttr,d0]<;>with_reducible rfl))|(apply DJ.gs;(· simp(disch:=omega)only[go_sem,simprocAttr,d0]<;>with_reducible rfl))|((first|apply DJ.ixm|apply DJ.ixom|apply DJ.ixsm);(· simp(disch:=omega)only[go_sem,simprocAttr,d0]<;>with_reducible rfl);(· simp(disch:=omega)only[go_sem,simprocAttr,d0]<;>with_reducible rfl);(· assumption);(· omega))|intro h)
 refine J.loopX (X := Nat) 0 (fun i => [(0, .vs 1 (a.map srow)), (1, .vs 1 (b.map srow)), (5, .int .i64 (i : Int))]) (fun _ => []) (fun _ => []) (fun i => i ≤ a.length ∧ eqF (fun x y => decide (x = y)) (a.drop i) (b.drop i) = eqF (fun x y => decide (x = y)) a b) (fun i => a.length - i) ⟨Nat.zero_le _, rfl⟩ ⟨rfl, rfl, rfl, trivial⟩ trivial trivial ?_
 rintro i ⟨hi, hz⟩
 try simp only at hi hz ⊢
 cases hv : a[i]? with
 | some v =>
  have hlt := (List.getElem?_eq_some_iff.1 hv).1
  obtain ⟨u, hu⟩ : ∃ u, b[i]? = some u := ⟨_, List.getElem?_eq_getElem (by omega)⟩
  rw [eqF_drop hv hu] at hz
  have d1 : (i : Int) < ((b.map srow).length : Int) := by rw [List.length_map]; omega
  have d2 : (i : Int) < ((a.map srow).length : Int) := by rw [List.length_map]; omega
  (repeat' first|(apply DJ.s rfl;(· simp(disch:=omega)only[go_sem,simprocAttr,d1, d2]<;>with_reducible rfl))|(apply J.s true true;(· simp(disch:=omega)only[go_sem,simprocAttr,d1, d2]<;>with_reducible rfl))|apply DJ.nil|(refine J.reg0 ?_)|(apply DJ.gw;(· simp(disch:=omega)only[go_sem,simprocAttr,d1, d2]<;>with_reducible rfl))|(apply DJ.gz;(· rfl);(· simp(disch:=omega)only[go_sem,simprocAttr,d1, d2]<;>with_reducible rfl))|(apply DJ.gs;(· simp(disch:=omega)only[go_sem,simprocAttr,d1, d2]<;>with_reducible rfl))|((first|apply DJ.ixm|apply DJ.ixom|apply DJ.ixsm);(· simp(disch:=omega)only[go_sem,simprocAttr,d1, d2]<;>with_reducible rfl);(· simp(disch:=omega)only[go_sem,simprocAttr,d1, d2]<;>with_reducible rfl);(· assumption);(· omega))|intro h|(apply J.cond;(· simp(disch:=omega)only[go_sem,simprocAttr,d1, d2]<;>with_reducible rfl)))
  ·first|refine D.R ?_|refine D.E ?_
   refine ⟨_, rfl, .wk ?_ rfl, trivial, trivial⟩
   rw [← hz]
   have hne : ¬ v = u := by simp at h; exact h
   simp [hne, AV.wk]
  ·refine J.roundX (i + 1) ⟨by omega, ?_⟩ ⟨rfl, rfl, rfl, trivial⟩ trivial trivial rfl rfl (by show a.length - (i + 1) < a.length - i; omega)
   rw [← hz]
   have heq : v = u := by simp at h; exact h
   simp [heq]
 | none =>
  have hge := List.getElem?_eq_none_iff.1 hv
  have e0 : i = a.length := by omega
  subst e0
  have d1 : ¬ (a.length : Int) < ((b.map srow).length : Int) := by rw [List.length_map]; omega
  have d2 : ¬ (a.length : Int) < ((a.map srow).length : Int) := by rw [List.length_map]; omega
  rw [eqF_end (Nat.le_refl _) (by omega)] at hz
  rw [← hz]
  (repeat' first|(apply DJ.s rfl;(· simp(disch:=omega)only[go_sem,simprocAttr,d1, d2]<;>with_reducible rfl))|(apply J.s true true;(· simp(disch:=omega)only[go_sem,simprocAttr,d1, d2]<;>with_reducible rfl))|apply DJ.nil|(refine J.reg0 ?_)|(apply DJ.gw;(· simp(disch:=omega)only[go_sem,simprocAttr,d1, d2]<;>with_reducible rfl))|(apply DJ.gz;(· rfl);(· simp(disch:=omega)only[go_sem,simprocAttr,d1, d2]<;>with_reducible rfl))|(apply DJ.gs;(· simp(disch:=omega)only[go_sem,simprocAttr,d1, d2]<;>with_reducible rfl))|((first|apply DJ.ixm|apply DJ.ixom|apply DJ.ixsm);(· simp(disch:=omega)only[go_sem,simprocAttr,d1, d2]<;>with_reducible rfl);(· simp(disch:=omega)only[go_sem,simprocAttr,d1, d2]<;>with_reducible rfl);(· assumption);(· omega))|intro h)
  first|refine D.R ?_|refine D.E ?_
  exact ⟨_, rfl, .wk rfl rfl, trivial, trivial⟩
theorem vr_flat (l : List Vr) : flatR (l.map Vr.row) = true := flatR_map (fun _ => rfl) l
attribute [local go_sem] Vr.row vr_flat
theorem q63 (a b : List Vr) (ha : a.length ≤ maxLen) : Pure Tryz.prog 63 [.vs 7 (a.map Vr.row), .vs 7 (b.map Vr.row)] (.bool (decide (a = b))) := by
 have hl' : a.length ≤ 9223372036854775807 := by unfold maxLen at ha; omega
 rw [← eqF_dec]
 refine pure_of mo Tryz.func63 c63 (by simp only [flatL, AV.flat, vr_flat, Bool.and_self]) rfl ?_
 unfold e63 r63
 simp(disch:=omega)only[go_sem,simprocAttr]
 by_cases hab : a.length = b.length
 rotate_left
 ·have d0 : ¬ (((a.map Vr.row).length : Int) = ((b.map Vr.row).length : Int)) := by simp only [List.length_map]; omega
  (repeat' first|(apply DJ.s rfl;(· simp(disch:=omega)only[go_sem,simprocAttr,d0]<;>with_reducible rfl))|(apply J.s true true;(· simp(disch:=omega)only[go_sem,simprocAttr,d0]<;>with_reducible rfl))|apply DJ.nil|(refine J.reg0 ?_)|(apply DJ.gw;(· simp(disch:=omega)only[go_sem,simprocAttr,d0]<;>with_reducible rfl))|(apply DJ.gz;(· rfl);(· simp(disch:=omega)only[go_sem,simprocAttr,d0]<;>with_reducible rfl))|(apply DJ.gs;(· simp(disch:=omega)only[go_sem,simprocAttr,d0]<;>with_reducible rfl))|((first|apply DJ.ixm|apply DJ.ixom|apply DJ.ixsm);(· simp(disch:=omega)only[go_sem,simprocAttr,d0]<;>with_reducible rfl);(· simp(disch:=omega)only[go_sem,simprocAttr,d0]<;>with_reducible rfl);(· assumption);(· omega))|intro h)
  first|refine D.R ?_|refine D.E ?_
  exact ⟨_, rfl, .wk (by rw [eqF_ne hab]; rfl) rfl, trivial, trivial⟩
 have d0 : ((a.map Vr.row).length : Int) = ((b.map Vr.row).length : Int) := by simp only [List.length_map]; omega
 (repeat' first|(apply DJ.s rfl;(· simp(disch:=omega)only[go_sem,simprocAttr,d0]<;>with_reducible rfl))|(apply J.s true true;(· simp(disch:=omega)only[go_sem,simprocAttr,d0]<;>with_reducible rfl))|apply DJ.nil|(refine J.reg0 ?_)|(apply DJ.gw;(· simp(disch:=omega)only[go_sem,simprocAttr,d0]<;>with_reducible rfl))|(apply DJ.gz;(· rfl);(· simp(disch:=omega)only[go_sem,simprocAttr,d0]<;>with_reducible rfl))|(apply DJ.gs;(· simp(disch:=omega)only[go_sem,simprocAttr,d0]<;>with_reducible rfl))|((first|apply DJ.ixm|apply DJ.ixom|apply DJ.ixsm);(· simp(disch:=omega)only[go_sem,simprocAttr,d0]<;>with_reducible rfl);(· simp(disch:=omega)only[go_sem,simprocAttr,d0]<;>with_reducible rfl);(· assumption);(· omega))|intro h)
 refine J.loopX (X := Nat) 0 (fun i => [(0, .vs 7 (a.map Vr.row)), (1, .vs 7 (b.map Vr.row)), (12, .int .i64 ((b.map Vr.row).length : Int)), (13, .int .i64 (i : Int))]) (fun _ => []) (fun _ => []) (fun i => i ≤ a.length ∧ eqF (fun x y => decide (x = y)) (a.drop i) (b.drop i) = eqF (fun x y => decide (x = y)) a b) (fun i => a.length - i) ⟨Nat.zero_le _, rfl⟩ ⟨rfl, rfl, rfl, rfl, trivial⟩ trivial trivial ?_
 rintro i ⟨hi, hz⟩
 try simp only at hi hz ⊢
 cases hv : a[i]? with
 | some v =>
  have hlt := (List.getElem?_eq_some_iff.1 hv).1
  obtain ⟨u, hu⟩ : ∃ u, b[i]? = some u := ⟨_, List.getElem?_eq_getElem (by omega)⟩
  rw [eqF_drop hv hu] at hz
  have d1 : (i : Int) < ((b.map Vr.row).length : Int) := by rw [List.length_map]; omega
  have d2 : (i : Int) < ((a.map Vr.row).length : Int) := by rw [List.length_map]; omega
  (repeat' first|(apply DJ.s rfl;(· simp(disch:=omega)only[go_sem,simprocAttr,d1, d2]<;>with_reducible rfl))|(apply J.s true true;(· simp(disch:=omega)only[go_sem,simprocAttr,d1, d2]<;>with_reducible rfl))|apply DJ.nil|(refine J.reg0 ?_)|(apply DJ.gw;(· simp(disch:=omega)only[go_sem,simprocAttr,d1, d2]<;>with_reducible rfl))|(apply DJ.gz;(· rfl);(· simp(disch:=omega)only[go_sem,simprocAttr,d1, d2]<;>with_reducible rfl))|(apply DJ.gs;(· simp(disch:=omega)only[go_sem,simprocAttr,d1, d2]<;>with_reducible rfl))|((first|apply DJ.ixm|apply DJ.ixom|apply DJ.ixsm);(· simp(disch:=omega)only[go_sem,simprocAttr,d1, d2]<;>with_reducible rfl);(· simp(disch:=omega)only[go_sem,simprocAttr,d1, d2]<;>with_reducible rfl);(· assumption);(· omega))|intro h|(apply J.cond;(· simp(disch:=omega)only[go_sem,simprocAttr,d1, d2]<;>with_reducible rfl)))
  ·first|refine D.R ?_|refine D.E ?_
   refine ⟨_, rfl, .wk ?_ rfl, trivial, trivial⟩
   rw [← hz]
   have hne : ¬ v = u := by rintro rfl; simp at h
   simp [hne, AV.wk]
  ·refine J.roundX (i + 1) ⟨by omega, ?_⟩ ⟨rfl, rfl, rfl, rfl, trivial⟩ trivial trivial rfl rfl (by show a.length - (i + 1) < a.length - i; omega)
   rw [← hz]
   have heq : v = u := by obtain ⟨_, _, _, _, _, _, _⟩ := v; obtain ⟨_, _, _, _, _, _, _⟩ := u; simp_all
   simp [heq]
 | none =>
  have hge := List.getElem?_eq_none_iff.1 hv
  have e0 : i = a.length := by omega
  subst e0
  have d1 : ¬ (a.length : Int) < ((b.map Vr.row).length : Int) := by rw [List.length_map]; omega
  have d2 : ¬ (a.length : Int) < ((a.map Vr.row).length : Int) := by rw [List.length_map]; omega
  rw [eqF_end (Nat.le_refl _) (by omega)] at hz
  rw [← hz]
  (repeat' first|(apply DJ.s rfl;(· simp(disch:=omega)only[go_sem,simprocAttr,d1, d2]<;>with_reducible rfl))|(apply J.s true true;(· simp(disch:=omega)only[go_sem,simprocAttr,d1, d2]<;>with_reducible rfl))|apply DJ.nil|(refine J.reg0 ?_)|(apply DJ.gw;(· simp(disch:=omega)only[go_sem,simprocAttr,d1, d2]<;>with_reducible rfl))|(apply DJ.gz;(· rfl);(· simp(disch:=omega)only[go_sem,simprocAttr,d1, d2]<;>with_reducible rfl))|(apply DJ.gs;(· simp(disch:=omega)only[go_sem,simprocAttr,d1, d2]<;>with_reducible rfl))|((first|apply DJ.ixm|apply DJ.ixom|apply DJ.ixsm);(· simp(disch:=omega)only[go_sem,simprocAttr,d1, d2]<;>with_reducible rfl);(· simp(disch:=omega)only[go_sem,simprocAttr,d1, d2]<;>with_reducible rfl);(· assumption);(· omega))|intro h)
  first|refine D.R ?_|refine D.E ?_
  exact ⟨_, rfl, .wk rfl rfl, trivial, trivial⟩
end Go.Aw.T.N
namespace Go.Aw.T.N
open Go Go.Aw Go.Proofs Go.RowKit
set_option maxRecDepth 100000
attribute [local irreducible] Go.Aw.J Go.Aw.DJ Go.Aw.FC
attribute [local go_sem] wrap64 wrapu64 wrapu8 nnif decide_true decide_false dst gst gv_b gv_u jst jpop bdL bdB bdT bdO AV.bd tfL AV.tf o_mv o_pick o_nilck o_build o_load o_loadD o_loadR o_faddr o_field o_iaddr o_iaddrA o_idxA o_idxS o_bin o_binB o_eqA o_not o_pnil o_neg o_conv o_lenS o_len o_lenA o_minmax o_slS o_slV o_extract o_mkfn o_mkfnB o_convS o_convBS o_mkif o_isnil o_bslice o_box o_alloc o_store o_storeD o_bsliceO o_bsliceM cpv cev_t cev_c Env.get put_some' put_none' of_setB of_addB of_setT of_addT of_upd of_blk of_tok of_nb of_nt of_new rmB rmT rmBs rmTs renB renT apB apT lkB lkT getD_0 getD_s renL AV.ren crange_if cstB_if one_nilS one_pnil oc_nil oc_pnil cbin binInt shInt binStr binBool cbuild_nil cbuild_cons cidx_if AV.cells AV.okc AV.flat flatL flatR setRange minmaxAV AV.one AV.ofCells eqCells eqCell slRows initEnv initFrom cres cresv cresL cond_true cond_false beq_self_eq_true Bool.not_true Bool.not_false beq_true beq_false eq_self if_true Option.some.injEq List.length_cons List.length_nil List.take_succ_cons List.take_zero List.drop_succ_cons List.drop_zero List.set_cons_succ List.set_cons_zero List.nil_append List.cons_append List.append_nil and_self Option.map_some Option.map_none List.map_cons List.map_nil Bool.false_eq_true if_false Nat.zero_add Nat.add_zero true_and and_true Bool.and_true Bool.true_and List.getElem?_cons_zero List.getElem?_cons_succ Nat.zero_le Nat.le_refl List.all_cons List.all_nil List.flatten_cons List.flatten_nil crows crowsOk List.filter_cons List.filter_nil List.contains_cons List.contains_nil Bool.or_false Bool.or_true Bool.false_or Bool.true_or
set_option linter.unusedSimpArgs false
set_option linter.unusedVariables false
attribute [local go_sem] Ex.row_mk Sm.row_mk Ex.rowsF Sm.rowsF srow srow_flat ha_row of_row ha_flat of_flat
attribute [local go_sem] Vr.row vr_flat
theorem q68 {R : Nat} (hR : R ≤ 140737488355328) : ∀ (N : Nat) (x y : Sm), x.amt ≤ N → x.ok R → Pure Tryz.prog 68 [.agg x.row, .agg y.row] (.bool (stSame x y))
 | N, .mk k m x t a b, .mk k2 m2 x2 t2 a2 b2, hN, hx => by
  have key : ∀ (l l2 : List Sm), Sm.amts l + 1 ≤ N → l.length * 168 ≤ R → Sm.oks R l → Pure Tryz.prog 67 [.vs 11 (l.map Sm.row), .vs 11 (l2.map Sm.row), .fn 68 []] (.bool (stSames l l2)) := fun l l2 hl hlen hk => by
   rw [stSames_eq]
   refine q67 stSame 68 (by kernel_rfl) l l2 (len_of hR (by decide) hlen) fun i u v hu hv => ?_
   have hm := Sm.mem_amt hu
   match N, hl with
   | 0, hl => omega
   | N + 1, hl => exact q68 hR N u v (by omega) (Sm.oks_get hk hu)
  simp only [Sm.amt] at hN
  have ea := key a a2 (by omega) hx.2.2.2.2.1 hx.2.2.2.2.2.2.1
  have eb := key b b2 (by omega) hx.2.2.2.2.2.1 hx.2.2.2.2.2.2.2
  have ex := q72 hR x.amt x x2 (Nat.le_refl _) hx.2.2.1
  clear hx key
  obtain ⟨k3, o3, m3, t3, n3, l3⟩ := x
  obtain ⟨k4, o4, m4, t4, n4, l4⟩ := x2
  simp(disch:=omega)only[go_sem,simprocAttr] at ex
  refine pure_of mo Tryz.func68 c68 (by simp only [Sm.row_mk, Ex.row_mk, List.cons_append, List.nil_append, flatL, AV.flat, Ex.rowsF, Sm.rowsF, Bool.and_self]) rfl ?_
  unfold e68 r68
  simp only [stSame]
  generalize exSame (Ex.mk k3 o3 m3 t3 n3 l3) (Ex.mk k4 o4 m4 t4 n4 l4) = be at ex
  generalize stSames a a2 = ba at ea
  generalize stSames b b2 = bb at eb
  simp(disch:=omega)only[go_sem,simprocAttr]
  (repeat' first|refine D.S ?_|refine D.JJ true true ?_|refine DJ.nil ?_|refine J.reg0 ?_|refine D.W ?_|refine D.Z ?_|refine D.G ?_ ?_|refine D.X ‹_› ?_|refine D.XO ‹_› ?_|refine D.XS ‹_› ?_|intro h)
  ·refine D.P (ex) ?_
   (repeat' first|refine D.S ?_|refine D.JJ true true ?_|refine DJ.nil ?_|refine J.reg0 ?_|refine D.W ?_|refine D.Z ?_|refine D.G ?_ ?_|refine D.X ‹_› ?_|refine D.XO ‹_› ?_|refine D.XS ‹_› ?_|intro h)
   ·refine D.P (ea) ?_
    (repeat' first|refine D.S ?_|refine D.JJ true true ?_|refine DJ.nil ?_|refine J.reg0 ?_|refine D.W ?_|refine D.Z ?_|refine D.G ?_ ?_|refine D.X ‹_› ?_|refine D.XO ‹_› ?_|refine D.XS ‹_› ?_|intro h)
    ·refine D.P (eb) ?_
     (repeat' first|refine D.S ?_|refine D.JJ true true ?_|refine DJ.nil ?_|refine J.reg0 ?_|refine D.W ?_|refine D.Z ?_|refine D.G ?_ ?_|refine D.X ‹_› ?_|refine D.XO ‹_› ?_|refine D.XS ‹_› ?_|intro h)
     first|refine D.R ?_|refine D.E ?_
     refine ⟨_, rfl, .wk ?_ rfl, trivial, trivial⟩
     simp_all [AV.wk]
    all_goals
     refine D.R ?_
     refine ⟨_, rfl, .wk ?_ rfl, trivial, trivial⟩
     simp_all [AV.wk]
   all_goals
    refine D.R ?_
    refine ⟨_, rfl, .wk ?_ rfl, trivial, trivial⟩
    simp_all [AV.wk]
  all_goals
   refine D.R ?_
   refine ⟨_, rfl, .wk ?_ rfl, trivial, trivial⟩
   simp_all [AV.wk]
theorem stSames67 {R : Nat} (hR : R ≤ 140737488355328) (l l2 : List Sm) (hlen : l.length * 168 ≤ R) (hk : Sm.oks R l) : Pure Tryz.prog 67 [.vs 11 (l.map Sm.row), .vs 11 (l2.map Sm.row), .fn 68 []] (.bool (stSames l l2)) := by
 rw [stSames_eq]
 exact q67 stSame 68 (by kernel_rfl) l l2 (len_of hR (by decide) hlen) fun i u v hu hv => q68 hR u.amt u v (Nat.le_refl _) (Sm.oks_get hk hu)
theorem exSames71 {R : Nat} (hR : R ≤ 140737488355328) (l l2 : List Ex) (hlen : l.length * 88 ≤ R) (hk : Ex.oks R l) : Pure Tryz.prog 71 [.vs 6 (l.map Ex.row), .vs 6 (l2.map Ex.row), .fn 72 []] (.bool (exSames l l2)) := by
 rw [exSames_eq]
 exact q71 exSame 72 (by kernel_rfl) l l2 (len_of hR (by decide) hlen) fun i u v hu hv => q72 hR u.amt u v (Nat.le_refl _) (Ex.oks_get hk hu)
theorem q65 {R : Nat} (hR : R ≤ 140737488355328) (a b : Ha) (ha : a.ok R) : Pure Tryz.prog 65 [.agg a.row, .agg b.row] (.bool (haSame a b)) := by
 have e1 := q66 a.ps b.ps (len_of hR (by decide) ha.2.2.1)
 have e2 := stSames67 hR a.body b.body ha.2.2.2.2.1 ha.2.2.2.2.2
 refine pure_of mo Tryz.func65 c65 (by simp only [ha_row, flatL, AV.flat, srow_flat, Sm.rowsF, Bool.and_self]) rfl ?_
 unfold e65 r65
 simp only [haSame]
 generalize decide (a.ps = b.ps) = b1 at e1
 generalize stSames a.body b.body = b2 at e2
 simp(disch:=omega)only[go_sem,simprocAttr]
 (repeat' first|refine D.S ?_|refine D.JJ true true ?_|refine DJ.nil ?_|refine J.reg0 ?_|refine D.W ?_|refine D.Z ?_|refine D.G ?_ ?_|refine D.X ‹_› ?_|refine D.XO ‹_› ?_|refine D.XS ‹_› ?_|intro h)
 ·refine D.P (e1) ?_
  (repeat' first|refine D.S ?_|refine D.JJ true true ?_|refine DJ.nil ?_|refine J.reg0 ?_|refine D.W ?_|refine D.Z ?_|refine D.G ?_ ?_|refine D.X ‹_› ?_|refine D.XO ‹_› ?_|refine D.XS ‹_› ?_|intro h)
  ·refine D.P (e2) ?_
   (repeat' first|refine D.S ?_|refine D.JJ true true ?_|refine DJ.nil ?_|refine J.reg0 ?_|refine D.W ?_|refine D.Z ?_|refine D.G ?_ ?_|refine D.X ‹_› ?_|refine D.XO ‹_› ?_|refine D.XS ‹_› ?_|intro h)
   first|refine D.R ?_|refine D.E ?_
   refine ⟨_, rfl, .wk ?_ rfl, trivial, trivial⟩
   simp_all [AV.wk]
  all_goals
   refine D.R ?_
   refine ⟨_, rfl, .wk ?_ rfl, trivial, trivial⟩
   simp_all [AV.wk]
 all_goals
  refine D.R ?_
  refine ⟨_, rfl, .wk ?_ rfl, trivial, trivial⟩
  simp_all [AV.wk]
theorem q70 {R : Nat} (hR : R ≤ 140737488355328) (a b : Off) (ha : a.ok R) : Pure Tryz.prog 70 [.agg a.row, .agg b.row] (.bool (ofSame a b)) := by
 have e1 := exSames71 hR a.args b.args ha.2.2.1 ha.2.2.2.1
 have e2 := exSames71 hR a.whn b.whn ha.2.2.2.2.1 ha.2.2.2.2.2
 refine pure_of mo Tryz.func70 c70 (by simp only [of_row, flatL, AV.flat, Ex.rowsF, Bool.and_self]) rfl ?_
 unfold e70 r70
 simp only [ofSame]
 generalize exSames a.args b.args = b1 at e1
 generalize exSames a.whn b.whn = b2 at e2
 simp(disch:=omega)only[go_sem,simprocAttr]
 (repeat' first|refine D.S ?_|refine D.JJ true true ?_|refine DJ.nil ?_|refine J.reg0 ?_|refine D.W ?_|refine D.Z ?_|refine D.G ?_ ?_|refine D.X ‹_› ?_|refine D.XO ‹_› ?_|refine D.XS ‹_› ?_|intro h)
 ·refine D.P (e1) ?_
  (repeat' first|refine D.S ?_|refine D.JJ true true ?_|refine DJ.nil ?_|refine J.reg0 ?_|refine D.W ?_|refine D.Z ?_|refine D.G ?_ ?_|refine D.X ‹_› ?_|refine D.XO ‹_› ?_|refine D.XS ‹_› ?_|intro h)
  ·refine D.P (e2) ?_
   (repeat' first|refine D.S ?_|refine D.JJ true true ?_|refine DJ.nil ?_|refine J.reg0 ?_|refine D.W ?_|refine D.Z ?_|refine D.G ?_ ?_|refine D.X ‹_› ?_|refine D.XO ‹_› ?_|refine D.XS ‹_› ?_|intro h)
   first|refine D.R ?_|refine D.E ?_
   refine ⟨_, rfl, .wk ?_ rfl, trivial, trivial⟩
   simp_all [AV.wk]
  all_goals
   refine D.R ?_
   refine ⟨_, rfl, .wk ?_ rfl, trivial, trivial⟩
   simp_all [AV.wk]
 all_goals
  refine D.R ?_
  refine ⟨_, rfl, .wk ?_ rfl, trivial, trivial⟩
  simp_all [AV.wk]
theorem sv_av (x : Sv) : x.av = .agg [.str x.name, .str x.role, .str x.proto, .vs 7 (x.vars.map Vr.row), .vs 4 (x.hs.map Ha.row), .vs 4 (x.os.map Off.row)] := rfl
theorem q22 {R : Nat} (hR : R ≤ 140737488355328) (x y : Sv) (hx : x.ok R) : Pure Tryz.prog 22 [x.av, y.av] (.bool (svSame x y)) := by
 have e1 := q63 x.vars y.vars (len_of hR (by decide) hx.nv)
 have e2 := q64 haSame 65 (by kernel_rfl) x.hs y.hs (len_of hR (by decide) hx.nh) fun i u v hu hv => q65 hR u v (hx.hs u (List.mem_of_getElem? hu))
 have e3 := q69 ofSame 70 (by kernel_rfl) x.os y.os (len_of hR (by decide) hx.no) fun i u v hu hv => q70 hR u v (hx.os u (List.mem_of_getElem? hu))
 rw [sv_av, sv_av]
 refine pure_of mo Tryz.func22 c22 (by simp only [flatL, AV.flat, vr_flat, ha_flat, of_flat, Bool.and_self]) rfl ?_
 unfold e22 r22
 simp only [svSame]
 generalize decide (x.vars = y.vars) = b1 at e1
 generalize eqF haSame x.hs y.hs = b2 at e2
 generalize eqF ofSame x.os y.os = b3 at e3
 simp(disch:=omega)only[go_sem,simprocAttr]
 (repeat' first|refine D.S ?_|refine D.JJ true true ?_|refine DJ.nil ?_|refine J.reg0 ?_|refine D.W ?_|refine D.Z ?_|refine D.G ?_ ?_|refine D.X ‹_› ?_|refine D.XO ‹_› ?_|refine D.XS ‹_› ?_|intro h)
 ·refine D.P (e1) ?_
  (repeat' first|refine D.S ?_|refine D.JJ true true ?_|refine DJ.nil ?_|refine J.reg0 ?_|refine D.W ?_|refine D.Z ?_|refine D.G ?_ ?_|refine D.X ‹_› ?_|refine D.XO ‹_› ?_|refine D.XS ‹_› ?_|intro h)
  ·refine D.P (e2) ?_
   (repeat' first|refine D.S ?_|refine D.JJ true true ?_|refine DJ.nil ?_|refine J.reg0 ?_|refine D.W ?_|refine D.Z ?_|refine D.G ?_ ?_|refine D.X ‹_› ?_|refine D.XO ‹_› ?_|refine D.XS ‹_› ?_|intro h)
   ·refine D.P (e3) ?_
    (repeat' first|refine D.S ?_|refine D.JJ true true ?_|refine DJ.nil ?_|refine J.reg0 ?_|refine D.W ?_|refine D.Z ?_|refine D.G ?_ ?_|refine D.X ‹_› ?_|refine D.XO ‹_› ?_|refine D.XS ‹_› ?_|intro h)
    first|refine D.R ?_|refine D.E ?_
    refine ⟨_, rfl, .wk ?_ rfl, trivial, trivial⟩
    simp_all [AV.wk]
   all_goals
    refine D.R ?_
    refine ⟨_, rfl, .wk ?_ rfl, trivial, trivial⟩
    simp_all [AV.wk]
  all_goals
   refine D.R ?_
   refine ⟨_, rfl, .wk ?_ rfl, trivial, trivial⟩
   simp_all [AV.wk]
 all_goals
  refine D.R ?_
  refine ⟨_, rfl, .wk ?_ rfl, trivial, trivial⟩
  simp_all [AV.wk]
theorem q42 {R : Nat} (hR : R ≤ 140737488355328) : ∀ (N : Nat) (a b : List Ex), Ex.amts a ≤ N → a.length * 88 ≤ 140737488355328 → Ex.oks R a → Pure Tryz.prog 42 [.vs 6 (a.map Ex.row), .vs 6 (b.map Ex.row)] (.bool (exSames a b))
  | N, a, b, hN, hL, hk => by
    rw [exSames_eq]
    refine pure_of mo Tryz.func42 c42 (by simp only [flatL, AV.flat, Ex.rowsF, Bool.and_self]) rfl ?_
    unfold e42 r42
    simp(disch:=omega)only[go_sem,simprocAttr]
    by_cases hab : a.length = b.length
    rotate_left
    · have d0 : ¬ (((a.map Ex.row).length : Int) = ((b.map Ex.row).length : Int)) := by simp only [List.length_map]; omega
      (repeat' first|(apply DJ.s rfl;(· simp(disch:=omega)only[go_sem,simprocAttr,d0]<;>with_reducible rfl))|(apply J.s true true;(· simp(disch:=omega)only[go_sem,simprocAttr,d0]<;>with_reducible rfl))|apply DJ.nil|(refine J.reg0 ?_)|(apply DJ.gw;(· simp(disch:=omega)only[go_sem,simprocAttr,d0]<;>with_reducible rfl))|(apply DJ.gz;(· rfl);(· simp(disch:=omega)only[go_sem,simprocAttr,d0]<;>with_reducible rfl))|(apply DJ.gs;(· simp(disch:=omega)only[go_sem,simprocAttr,d0]<;>with_reducible rfl))|((first|apply DJ.ixm|apply DJ.ixom|apply DJ.ixsm);(· simp(disch:=omega)only[go_sem,simprocAttr,d0]<;>with_reducible rfl);(· simp(disch:=omega)only[go_sem,simprocAttr,d0]<;>with_reducible rfl);(· assumption);(· omega))|intro h)
      first|refine D.R ?_|refine D.E ?_
      exact ⟨_, rfl, .wk (by rw [eqF_ne hab]; rfl) rfl, trivial, trivial⟩
    have d0 : ((a.map Ex.row).length : Int) = ((b.map Ex.row).length : Int) := by simp only [List.length_map]; omega
    (repeat' first|(apply DJ.s rfl;(· simp(disch:=omega)only[go_sem,simprocAttr,d0]<;>with_reducible rfl))|(apply J.s true true;(· simp(disch:=omega)only[go_sem,simprocAttr,d0]<;>with_reducible rfl))|apply DJ.nil|(refine J.reg0 ?_)|(apply DJ.gw;(· simp(disch:=omega)only[go_sem,simprocAttr,d0]<;>with_reducible rfl))|(apply DJ.gz;(· rfl);(· simp(disch:=omega)only[go_sem,simprocAttr,d0]<;>with_reducible rfl))|(apply DJ.gs;(· simp(disch:=omega)only[go_sem,simprocAttr,d0]<;>with_reducible rfl))|((first|apply DJ.ixm|apply DJ.ixom|apply DJ.ixsm);(· simp(disch:=omega)only[go_sem,simprocAttr,d0]<;>with_reducible rfl);(· simp(disch:=omega)only[go_sem,simprocAttr,d0]<;>with_reducible rfl);(· assumption);(· omega))|intro h)
    refine J.loopX (X := Nat) 0 (fun i => [(0, .vs 6 (a.map Ex.row)), (1, .vs 6 (b.map Ex.row)), (5, .int .i64 (i : Int))]) (fun _ => []) (fun _ => []) (fun i => i ≤ a.length ∧ eqF exSame (a.drop i) (b.drop i) = eqF exSame a b) (fun i => a.length - i) ⟨Nat.zero_le _, rfl⟩ ⟨rfl, rfl, rfl, trivial⟩ trivial trivial ?_
    rintro i ⟨hi, hz⟩
    try simp only at hi hz ⊢
    cases hv : a[i]? with
    | some v =>
      have hlt := (List.getElem?_eq_some_iff.1 hv).1
      obtain ⟨u, hu⟩ : ∃ u, b[i]? = some u := ⟨_, List.getElem?_eq_getElem (by omega)⟩
      rw [eqF_drop hv hu] at hz
      have d1 : (i : Int) < ((a.map Ex.row).length : Int) := by rw [List.length_map]; omega
      have d2 : (i : Int) < ((b.map Ex.row).length : Int) := by rw [List.length_map]; omega
      have hm := Ex.mem_amt hv
      have hko := Ex.oks_get hk hv
      obtain ⟨k, o, m, t, n, l⟩ := v
      obtain ⟨k2, o2, m2, t2, n2, l2⟩ := u
      match N, hN with
      | 0, hN => simp only [Ex.amt] at hm; omega
      | N + 1, hN =>
      simp only [Ex.amt] at hm
      have e1 := q42 hR N l l2 (by omega) (Nat.le_trans hko.2.2.2.2.2.1 hR) hko.2.2.2.2.2.2
      simp only [exSame] at hz
      generalize exSames l l2 = bl at e1 hz
      clear hko hm
      (repeat' first|(apply DJ.s rfl;(· simp(disch:=omega)only[go_sem,simprocAttr,d1, d2]<;>with_reducible rfl))|(apply J.s true true;(· simp(disch:=omega)only[go_sem,simprocAttr,d1, d2]<;>with_reducible rfl))|apply DJ.nil|(refine J.reg0 ?_)|(apply DJ.gw;(· simp(disch:=omega)only[go_sem,simprocAttr,d1, d2]<;>with_reducible rfl))|(apply DJ.gz;(· rfl);(· simp(disch:=omega)only[go_sem,simprocAttr,d1, d2]<;>with_reducible rfl))|(apply DJ.gs;(· simp(disch:=omega)only[go_sem,simprocAttr,d1, d2]<;>with_reducible rfl))|((first|apply DJ.ixm|apply DJ.ixom|apply DJ.ixsm);(· simp(disch:=omega)only[go_sem,simprocAttr,d1, d2]<;>with_reducible rfl);(· simp(disch:=omega)only[go_sem,simprocAttr,d1, d2]<;>with_reducible rfl);(· assumption);(· omega))|intro h)
      all_goals first
        | (refine D.R ?_
           refine ⟨_, rfl, .wk ?_ rfl, trivial, trivial⟩
           rw [← hz]
           simp_all [AV.wk])
        | skip
      refine D.P (e1) ?_
      (repeat' first|refine D.S ?_|refine D.JJ true true ?_|refine DJ.nil ?_|refine J.reg0 ?_|refine D.W ?_|refine D.Z ?_|refine D.G ?_ ?_|refine D.X ‹_› ?_|refine D.XO ‹_› ?_|refine D.XS ‹_› ?_|intro h|refine D.C ?_ ?_)
      · first|refine D.R ?_|refine D.E ?_
        refine ⟨_, rfl, .wk ?_ rfl, trivial, trivial⟩
        rw [← hz]
        simp_all [AV.wk]
      · refine J.roundC (i + 1) ⟨by omega, ?_⟩ ⟨rfl, rfl, rfl, trivial⟩ trivial trivial rfl (by simp only [bdE, bdL, bdB, bdT, bdO, AV.bd, Own.frz, go_sem] <;> rfl) (by show a.length - (i + 1) < a.length - i; omega)
        rw [← hz]
        simp_all
    | none =>
      have hge := List.getElem?_eq_none_iff.1 hv
      have e0 : i = a.length := by omega
      subst e0
      have d1 : ¬ (a.length : Int) < ((a.map Ex.row).length : Int) := by rw [List.length_map]; omega
      have d2 : ¬ (a.length : Int) < ((b.map Ex.row).length : Int) := by rw [List.length_map]; omega
      rw [eqF_end (Nat.le_refl _) (by omega)] at hz
      rw [← hz]
      (repeat' first|(apply DJ.s rfl;(· simp(disch:=omega)only[go_sem,simprocAttr,d1, d2]<;>with_reducible rfl))|(apply J.s true true;(· simp(disch:=omega)only[go_sem,simprocAttr,d1, d2]<;>with_reducible rfl))|apply DJ.nil|(refine J.reg0 ?_)|(apply DJ.gw;(· simp(disch:=omega)only[go_sem,simprocAttr,d1, d2]<;>with_reducible rfl))|(apply DJ.gz;(· rfl);(· simp(disch:=omega)only[go_sem,simprocAttr,d1, d2]<;>with_reducible rfl))|(apply DJ.gs;(· simp(disch:=omega)only[go_sem,simprocAttr,d1, d2]<;>with_reducible rfl))|((first|apply DJ.ixm|apply DJ.ixom|apply DJ.ixsm);(· simp(disch:=omega)only[go_sem,simprocAttr,d1, d2]<;>with_reducible rfl);(· simp(disch:=omega)only[go_sem,simprocAttr,d1, d2]<;>with_reducible rfl);(· assumption);(· omega))|intro h)
      first|refine D.R ?_|refine D.E ?_
      exact ⟨_, rfl, .wk rfl rfl, trivial, trivial⟩
theorem q41 {R : Nat} (hR : R ≤ 140737488355328) : ∀ (N : Nat) (a b : List Sm), Sm.amts a ≤ N → a.length * 168 ≤ R → Sm.oks R a → Pure Tryz.prog 41 [.vs 11 (a.map Sm.row), .vs 11 (b.map Sm.row)] (.bool (stSames a b))
  | N, a, b, hN, hL, hk => by
    rw [stSames_eq]
    refine pure_of mo Tryz.func41 c41 (by simp only [flatL, AV.flat, Sm.rowsF, Bool.and_self]) rfl ?_
    unfold e41 r41
    simp(disch:=omega)only[go_sem,simprocAttr]
    by_cases hab : a.length = b.length
    rotate_left
    · have d0 : ¬ (((a.map Sm.row).length : Int) = ((b.map Sm.row).length : Int)) := by simp only [List.length_map]; omega
      (repeat' first|(apply DJ.s rfl;(· simp(disch:=omega)only[go_sem,simprocAttr,d0]<;>with_reducible rfl))|(apply J.s true true;(· simp(disch:=omega)only[go_sem,simprocAttr,d0]<;>with_reducible rfl))|apply DJ.nil|(refine J.reg0 ?_)|(apply DJ.gw;(· simp(disch:=omega)only[go_sem,simprocAttr,d0]<;>with_reducible rfl))|(apply DJ.gz;(· rfl);(· simp(disch:=omega)only[go_sem,simprocAttr,d0]<;>with_reducible rfl))|(apply DJ.gs;(· simp(disch:=omega)only[go_sem,simprocAttr,d0]<;>with_reducible rfl))|((first|apply DJ.ixm|apply DJ.ixom|apply DJ.ixsm);(· simp(disch:=omega)only[go_sem,simprocAttr,d0]<;>with_reducible rfl);(· simp(disch:=omega)only[go_sem,simprocAttr,d0]<;>with_reducible rfl);(· assumption);(· omega))|intro h)
      first|refine D.R ?_|refine D.E ?_
      exact ⟨_, rfl, .wk (by rw [eqF_ne hab]; rfl) rfl, trivial, trivial⟩
    have d0 : ((a.map Sm.row).length : Int) = ((b.map Sm.row).length : Int) := by simp only [List.length_map]; omega
    (repeat' first|(apply DJ.s rfl;(· simp(disch:=omega)only[go_sem,simprocAttr,d0]<;>with_reducible rfl))|(apply J.s true true;(· simp(disch:=omega)only[go_sem,simprocAttr,d0]<;>with_reducible rfl))|apply DJ.nil|(refine J.reg0 ?_)|(apply DJ.gw;(· simp(disch:=omega)only[go_sem,simprocAttr,d0]<;>with_reducible rfl))|(apply DJ.gz;(· rfl);(· simp(disch:=omega)only[go_sem,simprocAttr,d0]<;>with_reducible rfl))|(apply DJ.gs;(· simp(disch:=omega)only[go_sem,simprocAttr,d0]<;>with_reducible rfl))|((first|apply DJ.ixm|apply DJ.ixom|apply DJ.ixsm);(· simp(disch:=omega)only[go_sem,simprocAttr,d0]<;>with_reducible rfl);(· simp(disch:=omega)only[go_sem,simprocAttr,d0]<;>with_reducible rfl);(· assumption);(· omega))|intro h)
    refine J.loopX (X := Nat) 0 (fun i => [(0, .vs 11 (a.map Sm.row)), (1, .vs 11 (b.map Sm.row)), (5, .int .i64 (i : Int))]) (fun _ => []) (fun _ => []) (fun i => i ≤ a.length ∧ eqF stSame (a.drop i) (b.drop i) = eqF stSame a b) (fun i => a.length - i) ⟨Nat.zero_le _, rfl⟩ ⟨rfl, rfl, rfl, trivial⟩ trivial trivial ?_
    rintro i ⟨hi, hz⟩
    try simp only at hi hz ⊢
    cases hv : a[i]? with
    | some v =>
      have hlt := (List.getElem?_eq_some_iff.1 hv).1
      obtain ⟨u, hu⟩ : ∃ u, b[i]? = some u := ⟨_, List.getElem?_eq_getElem (by omega)⟩
      rw [eqF_drop hv hu] at hz
      have d1 : (i : Int) < ((a.map Sm.row).length : Int) := by rw [List.length_map]; omega
      have d2 : (i : Int) < ((b.map Sm.row).length : Int) := by rw [List.length_map]; omega
      have hm := Sm.mem_amt hv
      have hko := Sm.oks_get hk hv
      obtain ⟨k, m, x, t, xa, xb⟩ := v
      obtain ⟨k2, m2, x2, t2, ya, yb⟩ := u
      match N, hN with
      | 0, hN => simp only [Sm.amt] at hm; omega
      | N + 1, hN =>
      simp only [Sm.amt] at hm
      have e0 : Pure Tryz.prog 42 [.vs 6 ([x].map Ex.row), .vs 6 ([x2].map Ex.row)] (.bool (exSames [x] [x2])) := q42 hR (Ex.amts [x]) [x] [x2] (Nat.le_refl _) (by show 1 * 88 ≤ _; decide) ⟨hko.2.2.1, trivial⟩
      have e1 := q41 hR N xa ya (by omega) hko.2.2.2.2.1 hko.2.2.2.2.2.2.1
      have e2 := q41 hR N xb yb (by omega) hko.2.2.2.2.2.1 hko.2.2.2.2.2.2.2
      simp only [exSames, Bool.and_true] at e0
      simp only [stSame] at hz
      generalize exSame x x2 = b0 at e0 hz
      generalize stSames xa ya = b1 at e1 hz
      generalize stSames xb yb = b2 at e2 hz
      clear hko hm
      obtain ⟨ka, oa, ma, ta, na, la⟩ := x
      obtain ⟨kb, ob, mb, tb, nb, lb⟩ := x2
      simp(disch:=omega)only[go_sem,simprocAttr] at e0
      (repeat' first|(apply DJ.s rfl;(· simp(disch:=omega)only[go_sem,simprocAttr,d1, d2]<;>with_reducible rfl))|(apply J.s true true;(· simp(disch:=omega)only[go_sem,simprocAttr,d1, d2]<;>with_reducible rfl))|apply DJ.nil|(refine J.reg0 ?_)|(apply DJ.gw;(· simp(disch:=omega)only[go_sem,simprocAttr,d1, d2]<;>with_reducible rfl))|(apply DJ.gz;(· rfl);(· simp(disch:=omega)only[go_sem,simprocAttr,d1, d2]<;>with_reducible rfl))|(apply DJ.gs;(· simp(disch:=omega)only[go_sem,simprocAttr,d1, d2]<;>with_reducible rfl))|((first|apply DJ.ixm|apply DJ.ixom|apply DJ.ixsm);(· simp(disch:=omega)only[go_sem,simprocAttr,d1, d2]<;>with_reducible rfl);(· simp(disch:=omega)only[go_sem,simprocAttr,d1, d2]<;>with_reducible rfl);(· assumption);(· omega))|intro h)
      all_goals first
        | (refine D.R ?_
           refine ⟨_, rfl, .wk ?_ rfl, trivial, trivial⟩
           rw [← hz]
           simp_all [AV.wk])
        | skip
      refine D.P (e0) ?_
      (repeat' first|refine D.S ?_|refine D.JJ true true ?_|refine DJ.nil ?_|refine J.reg0 ?_|refine D.W ?_|refine D.Z ?_|refine D.G ?_ ?_|refine D.X ‹_› ?_|refine D.XO ‹_› ?_|refine D.XS ‹_› ?_|intro h)
      all_goals first
        | (refine D.R ?_
           refine ⟨_, rfl, .wk ?_ rfl, trivial, trivial⟩
           rw [← hz]
           simp_all [AV.wk])
        | skip
      refine D.P (e1) ?_
      (repeat' first|refine D.S ?_|refine D.JJ true true ?_|refine DJ.nil ?_|refine J.reg0 ?_|refine D.W ?_|refine D.Z ?_|refine D.G ?_ ?_|refine D.X ‹_› ?_|refine D.XO ‹_› ?_|refine D.XS ‹_› ?_|intro h)
      all_goals first
        | (refine D.R ?_
           refine ⟨_, rfl, .wk ?_ rfl, trivial, trivial⟩
           rw [← hz]
           simp_all [AV.wk])
        | skip
      refine D.P (e2) ?_
      (repeat' first|refine D.S ?_|refine D.JJ true true ?_|refine DJ.nil ?_|refine J.reg0 ?_|refine D.W ?_|refine D.Z ?_|refine D.G ?_ ?_|refine D.X ‹_› ?_|refine D.XO ‹_› ?_|refine D.XS ‹_› ?_|intro h|refine D.C ?_ ?_)
      · first|refine D.R ?_|refine D.E ?_
        refine ⟨_, rfl, .wk ?_ rfl, trivial, trivial⟩
        rw [← hz]
        simp_all [AV.wk]
      · refine J.roundC (i + 1) ⟨by omega, ?_⟩ ⟨rfl, rfl, rfl, trivial⟩ trivial trivial rfl (by simp only [bdE, bdL, bdB, bdT, bdO, AV.bd, Own.frz, go_sem] <;> rfl) (by show a.length - (i + 1) < a.length - i; omega)
        rw [← hz]
        simp_all
    | none =>
      have hge := List.getElem?_eq_none_iff.1 hv
      have e0 : i = a.length := by omega
      subst e0
      have d1 : ¬ (a.length : Int) < ((a.map Sm.row).length : Int) := by rw [List.length_map]; omega
      have d2 : ¬ (a.length : Int) < ((b.map Sm.row).length : Int) := by rw [List.length_map]; omega
      rw [eqF_end (Nat.le_refl _) (by omega)] at hz
      rw [← hz]
      (repeat' first|(apply DJ.s rfl;(· simp(disch:=omega)only[go_sem,simprocAttr,d1, d2]<;>with_reducible rfl))|(apply J.s true true;(· simp(disch:=omega)only[go_sem,simprocAttr,d1, d2]<;>with_reducible rfl))|apply DJ.nil|(refine J.reg0 ?_)|(apply DJ.gw;(· simp(disch:=omega)only[go_sem,simprocAttr,d1, d2]<;>with_reducible rfl))|(apply DJ.gz;(· rfl);(· simp(disch:=omega)only[go_sem,simprocAttr,d1, d2]<;>with_reducible rfl))|(apply DJ.gs;(· simp(disch:=omega)only[go_sem,simprocAttr,d1, d2]<;>with_reducible rfl))|((first|apply DJ.ixm|apply DJ.ixom|apply DJ.ixsm);(· simp(disch:=omega)only[go_sem,simprocAttr,d1, d2]<;>with_reducible rfl);(· simp(disch:=omega)only[go_sem,simprocAttr,d1, d2]<;>with_reducible rfl);(· assumption);(· omega))|intro h)
      first|refine D.R ?_|refine D.E ?_
      exact ⟨_, rfl, .wk rfl rfl, trivial, trivial⟩
theorem sv_cells (x : Sv) : x.cells = [.str x.name, .str x.role, .str x.proto, .vs 7 (x.vars.map Vr.row), .vs 4 (x.hs.map Ha.row), .vs 4 (x.os.map Off.row)] := rfl
attribute [local go_sem] sv_cells cnot
set_option maxHeartbeats 4000000 in
theorem q14 {R : Nat} (hR : R ≤ 140737488355328) (x y : Sv) (hx : x.ok R) : Pure Tryz.prog 14 [x.av, y.av] (.bool (svSame x y)) := by
  have l1 := len_of hR (by decide) hx.nv
  have l2 := len_of hR (by decide) hx.nh
  have l3 := len_of hR (by decide) hx.no
  replace l1 : x.vars.length ≤ 9223372036854775807 := by unfold maxLen at l1; omega
  replace l2 : x.hs.length ≤ 9223372036854775807 := by unfold maxLen at l2; omega
  replace l3 : x.os.length ≤ 9223372036854775807 := by unfold maxLen at l3; omega
  have hS : svSame x y = (decide (x.name = y.name) && (decide (x.role = y.role) && (decide (x.proto = y.proto) && (decide (x.vars = y.vars) && (eqF haSame x.hs y.hs && eqF ofSame x.os y.os))))) := rfl
  have hV : ∃ V, eqF (fun a b => decide (a = b)) x.vars y.vars = V := ⟨_, rfl⟩
  have hH : ∃ V, eqF haSame x.hs y.hs = V := ⟨_, rfl⟩
  have hO : ∃ V, eqF ofSame x.os y.os = V := ⟨_, rfl⟩
  obtain ⟨V, hV⟩ := hV
  obtain ⟨H, hH⟩ := hH
  obtain ⟨O, hO⟩ := hO
  have n1 : x.vars.length ≠ y.vars.length → V = false := fun h => by rw [← hV]; exact eqF_ne h
  have n2 : x.hs.length ≠ y.hs.length → H = false := fun h => by rw [← hH]; exact eqF_ne h
  have n3 : x.os.length ≠ y.os.length → O = false := fun h => by rw [← hO]; exact eqF_ne h
  rw [← eqF_dec x.vars y.vars, hV, hH, hO] at hS
  rw [hS]
  clear hS
  rw [sv_av, sv_av]
  refine pure_of mo Tryz.func14 c14 (by simp only [flatL, AV.flat, vr_flat, ha_flat, of_flat, Bool.and_self]) rfl ?_
  unfold e14 r14
  simp(disch:=omega)only[go_sem,simprocAttr]
  (repeat' first|(apply DJ.s rfl;(· simp(disch:=omega)only[go_sem,simprocAttr,List.length_map]<;>with_reducible rfl))|(apply J.s true true;(· simp(disch:=omega)only[go_sem,simprocAttr,List.length_map]<;>with_reducible rfl))|apply DJ.nil|(refine J.reg0 ?_)|(apply DJ.gw;(· simp(disch:=omega)only[go_sem,simprocAttr,List.length_map]<;>with_reducible rfl))|(apply DJ.gz;(· rfl);(· simp(disch:=omega)only[go_sem,simprocAttr,List.length_map]<;>with_reducible rfl))|(apply DJ.gs;(· simp(disch:=omega)only[go_sem,simprocAttr,List.length_map]<;>with_reducible rfl))|((first|apply DJ.ixm|apply DJ.ixom|apply DJ.ixsm);(· simp(disch:=omega)only[go_sem,simprocAttr,List.length_map]<;>with_reducible rfl);(· simp(disch:=omega)only[go_sem,simprocAttr,List.length_map]<;>with_reducible rfl);(· assumption);(· omega))|intro h|(apply J.cond;(· simp(disch:=omega)only[go_sem,simprocAttr,List.length_map]<;>with_reducible rfl)))
  all_goals (simp only [decide_eq_true_eq, decide_eq_false_iff_not, Bool.not_eq_true', Bool.not_eq_false', Int.natCast_inj, Decidable.not_not, ne_eq] at *)
  all_goals first
    | (refine D.R ?_
       refine ⟨_, rfl, .wk ?_ rfl, trivial, trivial⟩
       simp_all [AV.wk])
    | skip
  refine J.loopX (X := Nat) 0 (fun i => [(2, .ptr 0 0), (3, .ptr 1 0), (5, .int .i64 (i : Int))]) (fun _ => [(0, 35, x.cells), (1, 35, y.cells)]) (fun _ => []) (fun i => i ≤ x.vars.length ∧ eqF (fun a b => decide (a = b)) (x.vars.drop i) (y.vars.drop i) = V) (fun i => x.vars.length - i) ⟨Nat.zero_le _, hV⟩ ⟨rfl, rfl, rfl, trivial⟩ ⟨rfl, rfl, trivial⟩ trivial ?_
  rintro i ⟨hi, hz⟩
  try simp only at hi hz ⊢
  cases hv : x.vars[i]? with
  | some v =>
    have hlt := (List.getElem?_eq_some_iff.1 hv).1
    obtain ⟨u, hu⟩ : ∃ u, y.vars[i]? = some u := ⟨_, List.getElem?_eq_getElem (by omega)⟩
    rw [eqF_drop hv hu] at hz
    have d1 : (i : Int) < ((x.vars.map Vr.row).length : Int) := by rw [List.length_map]; omega
    have d2 : (i : Int) < ((y.vars.map Vr.row).length : Int) := by rw [List.length_map]; omega
    (repeat' first|(apply DJ.s rfl;(· simp(disch:=omega)only[go_sem,simprocAttr,d1, d2]<;>with_reducible rfl))|(apply J.s true true;(· simp(disch:=omega)only[go_sem,simprocAttr,d1, d2]<;>with_reducible rfl))|apply DJ.nil|(refine J.reg0 ?_)|(apply DJ.gw;(· simp(disch:=omega)only[go_sem,simprocAttr,d1, d2]<;>with_reducible rfl))|(apply DJ.gz;(· rfl);(· simp(disch:=omega)only[go_sem,simprocAttr,d1, d2]<;>with_reducible rfl))|(apply DJ.gs;(· simp(disch:=omega)only[go_sem,simprocAttr,d1, d2]<;>with_reducible rfl))|((first|apply DJ.ixm|apply DJ.ixom|apply DJ.ixsm);(· simp(disch:=omega)only[go_sem,simprocAttr,d1, d2]<;>with_reducible rfl);(· simp(disch:=omega)only[go_sem,simprocAttr,d1, d2]<;>with_reducible rfl);(· assumption);(· omega))|intro h|(apply J.cond;(· simp(disch:=omega)only[go_sem,simprocAttr,d1, d2]<;>with_reducible rfl)))
    · first|refine D.R ?_|refine D.E ?_
      refine ⟨_, rfl, .wk ?_ rfl, trivial, trivial⟩
      have hne : ¬ v = u := by rintro rfl; simp at h
      simp_all [AV.wk]
    · refine J.roundX (i + 1) ⟨by omega, ?_⟩ ⟨rfl, rfl, rfl, trivial⟩ ⟨rfl, rfl, trivial⟩ trivial rfl rfl (by show x.vars.length - (i + 1) < x.vars.length - i; omega)
      have heq : v = u := by obtain ⟨_, _, _, _, _, _, _⟩ := v; obtain ⟨_, _, _, _, _, _, _⟩ := u; simp_all
      rw [← hz]
      simp [heq]
  | none =>
  have hge := List.getElem?_eq_none_iff.1 hv
  have e0 : i = x.vars.length := by omega
  subst e0
  have d1 : ¬ (x.vars.length : Int) < ((x.vars.map Vr.row).length : Int) := by rw [List.length_map]; omega
  rw [eqF_end (Nat.le_refl _) (by omega)] at hz
  subst hz
  clear hi hv hge
  (repeat' first|(apply DJ.s rfl;(· simp(disch:=omega)only[go_sem,simprocAttr,d1]<;>with_reducible rfl))|(apply J.s true true;(· simp(disch:=omega)only[go_sem,simprocAttr,d1]<;>with_reducible rfl))|apply DJ.nil|(refine J.reg0 ?_)|(apply DJ.gw;(· simp(disch:=omega)only[go_sem,simprocAttr,d1]<;>with_reducible rfl))|(apply DJ.gz;(· rfl);(· simp(disch:=omega)only[go_sem,simprocAttr,d1]<;>with_reducible rfl))|(apply DJ.gs;(· simp(disch:=omega)only[go_sem,simprocAttr,d1]<;>with_reducible rfl))|((first|apply DJ.ixm|apply DJ.ixom|apply DJ.ixsm);(· simp(disch:=omega)only[go_sem,simprocAttr,d1]<;>with_reducible rfl);(· simp(disch:=omega)only[go_sem,simprocAttr,d1]<;>with_reducible rfl);(· assumption);(· omega))|intro h)
  refine J.loopX (X := Nat) 0 (fun i => [(2, .ptr 0 0), (3, .ptr 1 0), (6, .int .i64 (i : Int))]) (fun _ => [(0, 35, x.cells), (1, 35, y.cells)]) (fun _ => []) (fun i => i ≤ x.hs.length ∧ eqF haSame (x.hs.drop i) (y.hs.drop i) = H) (fun i => x.hs.length - i) ⟨Nat.zero_le _, hH⟩ ⟨rfl, rfl, rfl, trivial⟩ ⟨rfl, rfl, trivial⟩ trivial ?_
  rintro i ⟨hi, hz⟩
  try simp only at hi hz ⊢
  cases hv : x.hs[i]? with
  | some v =>
    have hlt := (List.getElem?_eq_some_iff.1 hv).1
    obtain ⟨u, hu⟩ : ∃ u, y.hs[i]? = some u := ⟨_, List.getElem?_eq_getElem (by omega)⟩
    rw [eqF_drop hv hu] at hz
    have d1 : (i : Int) < ((x.hs.map Ha.row).length : Int) := by rw [List.length_map]; omega
    have d2 : (i : Int) < ((y.hs.map Ha.row).length : Int) := by rw [List.length_map]; omega
    have hok := hx.hs v (List.mem_of_getElem? hv)
    have e1 := q40 v.ps u.ps (len_of hR (by decide) hok.2.2.1)
    have e2 := q41 hR (Sm.amts v.body) v.body u.body (Nat.le_refl _) hok.2.2.2.2.1 hok.2.2.2.2.2
    simp only [haSame] at hz
    generalize decide (v.ps = u.ps) = b1 at e1 hz
    generalize stSames v.body u.body = b2 at e2 hz
    clear hok
    (repeat' first|(apply DJ.s rfl;(· simp(disch:=omega)only[go_sem,simprocAttr,d1, d2]<;>with_reducible rfl))|(apply J.s true true;(· simp(disch:=omega)only[go_sem,simprocAttr,d1, d2]<;>with_reducible rfl))|apply DJ.nil|(refine J.reg0 ?_)|(apply DJ.gw;(· simp(disch:=omega)only[go_sem,simprocAttr,d1, d2]<;>with_reducible rfl))|(apply DJ.gz;(· rfl);(· simp(disch:=omega)only[go_sem,simprocAttr,d1, d2]<;>with_reducible rfl))|(apply DJ.gs;(· simp(disch:=omega)only[go_sem,simprocAttr,d1, d2]<;>with_reducible rfl))|((first|apply DJ.ixm|apply DJ.ixom|apply DJ.ixsm);(· simp(disch:=omega)only[go_sem,simprocAttr,d1, d2]<;>with_reducible rfl);(· simp(disch:=omega)only[go_sem,simprocAttr,d1, d2]<;>with_reducible rfl);(· assumption);(· omega))|intro h)
    all_goals first
      | (refine D.R ?_
         refine ⟨_, rfl, .wk ?_ rfl, trivial, trivial⟩
         simp_all [AV.wk])
      | skip
    refine D.P (e1) ?_
    (repeat' first|refine D.S ?_|refine D.JJ true true ?_|refine DJ.nil ?_|refine J.reg0 ?_|refine D.W ?_|refine D.Z ?_|refine D.G ?_ ?_|refine D.X ‹_› ?_|refine D.XO ‹_› ?_|refine D.XS ‹_› ?_|intro h)
    all_goals first
      | (refine D.R ?_
         refine ⟨_, rfl, .wk ?_ rfl, trivial, trivial⟩
         simp_all [AV.wk])
      | skip
    refine D.P (e2) ?_
    (repeat' first|refine D.S ?_|refine D.JJ true true ?_|refine DJ.nil ?_|refine J.reg0 ?_|refine D.W ?_|refine D.Z ?_|refine D.G ?_ ?_|refine D.X ‹_› ?_|refine D.XO ‹_› ?_|refine D.XS ‹_› ?_|intro h|refine D.C ?_ ?_)
    · first|refine D.R ?_|refine D.E ?_
      refine ⟨_, rfl, .wk ?_ rfl, trivial, trivial⟩
      simp_all [AV.wk]
    · refine J.roundC (i + 1) ⟨by omega, ?_⟩ ⟨rfl, rfl, rfl, trivial⟩ ⟨rfl, rfl, trivial⟩ trivial rfl (by simp only [sv_cells, bdE, bdL, bdB, bdT, bdO, AV.bd, Own.frz, vr_flat, ha_flat, of_flat, go_sem] <;> rfl) (by show x.hs.length - (i + 1) < x.hs.length - i; omega)
      rw [← hz]
      simp_all
  | none =>
  have hge := List.getElem?_eq_none_iff.1 hv
  have e0 : i = x.hs.length := by omega
  subst e0
  have d1 : ¬ (x.hs.length : Int) < ((x.hs.map Ha.row).length : Int) := by rw [List.length_map]; omega
  rw [eqF_end (Nat.le_refl _) (by omega)] at hz
  subst hz
  clear hi hv hge
  (repeat' first|(apply DJ.s rfl;(· simp(disch:=omega)only[go_sem,simprocAttr,d1]<;>with_reducible rfl))|(apply J.s true true;(· simp(disch:=omega)only[go_sem,simprocAttr,d1]<;>with_reducible rfl))|apply DJ.nil|(refine J.reg0 ?_)|(apply DJ.gw;(· simp(disch:=omega)only[go_sem,simprocAttr,d1]<;>with_reducible rfl))|(apply DJ.gz;(· rfl);(· simp(disch:=omega)only[go_sem,simprocAttr,d1]<;>with_reducible rfl))|(apply DJ.gs;(· simp(disch:=omega)only[go_sem,simprocAttr,d1]<;>with_reducible rfl))|((first|apply DJ.ixm|apply DJ.ixom|apply DJ.ixsm);(· simp(disch:=omega)only[go_sem,simprocAttr,d1]<;>with_reducible rfl);(· simp(disch:=omega)only[go_sem,simprocAttr,d1]<;>with_reducible rfl);(· assumption);(· omega))|intro h)
  refine J.loopX (X := Nat) 0 (fun i => [(2, .ptr 0 0), (3, .ptr 1 0), (9, .int .i64 (i : Int))]) (fun _ => [(0, 35, x.cells), (1, 35, y.cells)]) (fun _ => []) (fun i => i ≤ x.os.length ∧ eqF ofSame (x.os.drop i) (y.os.drop i) = O) (fun i => x.os.length - i) ⟨Nat.zero_le _, hO⟩ ⟨rfl, rfl, rfl, trivial⟩ ⟨rfl, rfl, trivial⟩ trivial ?_
  rintro i ⟨hi, hz⟩
  try simp only at hi hz ⊢
  cases hv : x.os[i]? with
  | some v =>
    have hlt := (List.getElem?_eq_some_iff.1 hv).1
    obtain ⟨u, hu⟩ : ∃ u, y.os[i]? = some u := ⟨_, List.getElem?_eq_getElem (by omega)⟩
    rw [eqF_drop hv hu] at hz
    have d1 : (i : Int) < ((x.os.map Off.row).length : Int) := by rw [List.length_map]; omega
    have d2 : (i : Int) < ((y.os.map Off.row).length : Int) := by rw [List.length_map]; omega
    have hok := hx.os v (List.mem_of_getElem? hv)
    have e1 := q42 hR (Ex.amts v.args) v.args u.args (Nat.le_refl _) (Nat.le_trans hok.2.2.1 hR) hok.2.2.2.1
    have e2 := q42 hR (Ex.amts v.whn) v.whn u.whn (Nat.le_refl _) (Nat.le_trans hok.2.2.2.2.1 hR) hok.2.2.2.2.2
    simp only [ofSame] at hz
    generalize exSames v.args u.args = b1 at e1 hz
    generalize exSames v.whn u.whn = b2 at e2 hz
    clear hok
    (repeat' first|(apply DJ.s rfl;(· simp(disch:=omega)only[go_sem,simprocAttr,d1, d2]<;>with_reducible rfl))|(apply J.s true true;(· simp(disch:=omega)only[go_sem,simprocAttr,d1, d2]<;>with_reducible rfl))|apply DJ.nil|(refine J.reg0 ?_)|(apply DJ.gw;(· simp(disch:=omega)only[go_sem,simprocAttr,d1, d2]<;>with_reducible rfl))|(apply DJ.gz;(· rfl);(· simp(disch:=omega)only[go_sem,simprocAttr,d1, d2]<;>with_reducible rfl))|(apply DJ.gs;(· simp(disch:=omega)only[go_sem,simprocAttr,d1, d2]<;>with_reducible rfl))|((first|apply DJ.ixm|apply DJ.ixom|apply DJ.ixsm);(· simp(disch:=omega)only[go_sem,simprocAttr,d1, d2]<;>with_reducible rfl);(· simp(disch:=omega)only[go_sem,simprocAttr,d1, d2]<;>with_reducible rfl);(· assumption);(· omega))|intro h)
    all_goals first
      | (refine D.R ?_
         refine ⟨_, rfl, .wk ?_ rfl, trivial, trivial⟩
         simp_all [AV.wk])
      | skip
    refine D.P (e1) ?_
    (repeat' first|refine D.S ?_|refine D.JJ true true ?_|refine DJ.nil ?_|refine J.reg0 ?_|refine D.W ?_|refine D.Z ?_|refine D.G ?_ ?_|refine D.X ‹_› ?_|refine D.XO ‹_› ?_|refine D.XS ‹_› ?_|intro h)
    all_goals first
      | (refine D.R ?_
         refine ⟨_, rfl, .wk ?_ rfl, trivial, trivial⟩
         simp_all [AV.wk])
      | skip
    refine D.P (e2) ?_
    (repeat' first|refine D.S ?_|refine D.JJ true true ?_|refine DJ.nil ?_|refine J.reg0 ?_|refine D.W ?_|refine D.Z ?_|refine D.G ?_ ?_|refine D.X ‹_› ?_|refine D.XO ‹_› ?_|refine D.XS ‹_› ?_|intro h|refine D.C ?_ ?_)
    · first|refine D.R ?_|refine D.E ?_
      refine ⟨_, rfl, .wk ?_ rfl, trivial, trivial⟩
      simp_all [AV.wk]
    · refine J.roundC (i + 1) ⟨by omega, ?_⟩ ⟨rfl, rfl, rfl, trivial⟩ ⟨rfl, rfl, trivial⟩ trivial rfl (by simp only [sv_cells, bdE, bdL, bdB, bdT, bdO, AV.bd, Own.frz, vr_flat, ha_flat, of_flat, go_sem] <;> rfl) (by show x.os.length - (i + 1) < x.os.length - i; omega)
      rw [← hz]
      simp_all
  | none =>
  have hge := List.getElem?_eq_none_iff.1 hv
  have e0 : i = x.os.length := by omega
  subst e0
  have d1 : ¬ (x.os.length : Int) < ((x.os.map Off.row).length : Int) := by rw [List.length_map]; omega
  rw [eqF_end (Nat.le_refl _) (by omega)] at hz
  subst hz
  clear hi hv hge
  (repeat' first|(apply DJ.s rfl;(· simp(disch:=omega)only[go_sem,simprocAttr,d1]<;>with_reducible rfl))|(apply J.s true true;(· simp(disch:=omega)only[go_sem,simprocAttr,d1]<;>with_reducible rfl))|apply DJ.nil|(refine J.reg0 ?_)|(apply DJ.gw;(· simp(disch:=omega)only[go_sem,simprocAttr,d1]<;>with_reducible rfl))|(apply DJ.gz;(· rfl);(· simp(disch:=omega)only[go_sem,simprocAttr,d1]<;>with_reducible rfl))|(apply DJ.gs;(· simp(disch:=omega)only[go_sem,simprocAttr,d1]<;>with_reducible rfl))|((first|apply DJ.ixm|apply DJ.ixom|apply DJ.ixsm);(· simp(disch:=omega)only[go_sem,simprocAttr,d1]<;>with_reducible rfl);(· simp(disch:=omega)only[go_sem,simprocAttr,d1]<;>with_reducible rfl);(· assumption);(· omega))|intro h)
  first|refine D.R ?_|refine D.E ?_
  refine ⟨_, rfl, .wk ?_ rfl, trivial, trivial⟩
  simp_all [AV.wk]
end Go.Aw.T.N
namespace Go.Aw.T.N
open Go Go.Aw Go.Proofs Go.RowKit
set_option maxRecDepth 100000
attribute [local irreducible] Go.Aw.J Go.Aw.DJ Go.Aw.FC
attribute [local go_sem] wrap64 wrapu64 wrapu8 nnif decide_true decide_false dst gst gv_b gv_u jst jpop bdL bdB bdT bdO AV.bd tfL AV.tf o_mv o_pick o_nilck o_build o_load o_loadD o_loadR o_faddr o_field o_iaddr o_iaddrA o_idxA o_idxS o_bin o_binB o_eqA o_not o_pnil o_neg o_conv o_lenS o_len o_lenA o_minmax o_slS o_slV o_extract o_mkfn o_mkfnB o_convS o_convBS o_mkif o_isnil o_bslice o_box o_alloc o_store o_storeD o_bsliceO o_bsliceM cpv cev_t cev_c Env.get put_some' put_none' of_setB of_addB of_setT of_addT of_upd of_blk of_tok of_nb of_nt of_new rmB rmT rmBs rmTs renB renT apB apT lkB lkT getD_0 getD_s renL AV.ren crange_if cstB_if one_nilS one_pnil oc_nil oc_pnil cbin binInt shInt binStr binBool cbuild_nil cbuild_cons cidx_if AV.cells AV.okc AV.flat flatL flatR setRange minmaxAV AV.one AV.ofCells eqCells eqCell slRows initEnv initFrom cres cresv cresL cond_true cond_false beq_self_eq_true Bool.not_true Bool.not_false beq_true beq_false eq_self if_true Option.some.injEq List.length_cons List.length_nil List.take_succ_cons List.take_zero List.drop_succ_cons List.drop_zero List.set_cons_succ List.set_cons_zero List.nil_append List.cons_append List.append_nil and_self Option.map_some Option.map_none List.map_cons List.map_nil Bool.false_eq_true if_false Nat.zero_add Nat.add_zero true_and and_true Bool.and_true Bool.true_and List.getElem?_cons_zero List.getElem?_cons_succ Nat.zero_le Nat.le_refl List.all_cons List.all_nil List.flatten_cons List.flatten_nil crows crowsOk List.filter_cons List.filter_nil List.contains_cons List.contains_nil Bool.or_false Bool.or_true Bool.false_or Bool.true_or
set_option linter.unusedSimpArgs false
set_option linter.unusedVariables false
attribute [local go_sem] Ex.row_mk Sm.row_mk Ex.rowsF Sm.rowsF srow srow_flat ha_row of_row ha_flat of_flat
attribute [local go_sem] Vr.row vr_flat sv_cells cnot
set_option maxHeartbeats 1000000 in
theorem q17 {R : Nat} (hR : R ≤ 140737488355328) (x : Sv) (hx : x.ok R) : Pure Tryz.prog 17 [x.av] (.bool (fewP x)) := by
 have l2 := len_of hR (by decide) hx.nh
 have l3 := len_of hR (by decide) hx.no
 replace l2 : x.hs.length ≤ 9223372036854775807 := by unfold maxLen at l2; omega
 replace l3 : x.os.length ≤ 9223372036854775807 := by unfold maxLen at l3; omega
 rw [sv_av]
 refine pure_of mo Tryz.func17 c17 (by simp only [flatL, AV.flat, vr_flat, ha_flat, of_flat, Bool.and_self]) rfl ?_
 unfold e17 r17
 simp(disch:=omega)only[go_sem,simprocAttr]
 (repeat' first|refine D.S ?_|refine D.JJ true true ?_|refine DJ.nil ?_|refine J.reg0 ?_|refine D.W ?_|refine D.Z ?_|refine D.G ?_ ?_|refine D.X ‹_› ?_|refine D.XO ‹_› ?_|refine D.XS ‹_› ?_|intro h)
 refine J.loopX (X := Nat × Int) (0, 0) (fun p => [(1, .ptr 0 0), (3, .int .i64 p.2), (4, .int .i64 (p.1 : Int))]) (fun _ => [(0, 35, x.cells)]) (fun _ => []) (fun p => p.1 ≤ x.hs.length ∧ fewH (x.hs.drop p.1) p.2 = fewH x.hs 0) (fun p => x.hs.length - p.1) ⟨Nat.zero_le _, rfl⟩ ⟨rfl, rfl, rfl, trivial⟩ ⟨rfl, trivial⟩ trivial ?_
 rintro ⟨i, z⟩ ⟨hi, hz⟩
 try simp only at hi hz ⊢
 cases hv : x.hs[i]? with
 | some v =>
  have hlt := (List.getElem?_eq_some_iff.1 hv).1
  have hok := hx.hs v (List.mem_of_getElem? hv)
  have d1 : (i : Int) < ((x.hs.map Ha.row).length : Int) := by rw [List.length_map]; omega
  have e1 := q53 hR (Sm.amts v.body) v.body (Nat.le_refl _) hok.2.2.2.2.1 hok.2.2.2.2.2
  rw [drop_cons' hv] at hz
  simp only [fewH] at hz
  have hps : ((v.ps.map srow).length : Int) = (v.ps.length : Int) := by rw [List.length_map]
  (repeat' first|(apply DJ.s rfl;(· simp(disch:=omega)only[go_sem,simprocAttr,d1, hps]<;>with_reducible rfl))|(apply J.s true true;(· simp(disch:=omega)only[go_sem,simprocAttr,d1, hps]<;>with_reducible rfl))|apply DJ.nil|(refine J.reg0 ?_)|(apply DJ.gw;(· simp(disch:=omega)only[go_sem,simprocAttr,d1, hps]<;>with_reducible rfl))|(apply DJ.gz;(· rfl);(· simp(disch:=omega)only[go_sem,simprocAttr,d1, hps]<;>with_reducible rfl))|(apply DJ.gs;(· simp(disch:=omega)only[go_sem,simprocAttr,d1, hps]<;>with_reducible rfl))|((first|apply DJ.ixm|apply DJ.ixom|apply DJ.ixsm);(· simp(disch:=omega)only[go_sem,simprocAttr,d1, hps]<;>with_reducible rfl);(· simp(disch:=omega)only[go_sem,simprocAttr,d1, hps]<;>with_reducible rfl);(· assumption);(· omega))|intro h|(apply J.cond;(· simp(disch:=omega)only[go_sem,simprocAttr,d1, hps]<;>with_reducible rfl)))
  ·simp only [decide_eq_true_eq] at h
   rw [if_pos (by omega)] at hz
   first|refine D.R ?_|refine D.E ?_
   refine ⟨_, rfl, .wk ?_ rfl, trivial, trivial⟩
   simp only [fewP, ← hz, AV.wk]
  ·simp only [decide_eq_false_iff_not] at h
   rw [if_neg (by omega)] at hz
   refine D.P (e1) ?_
   (repeat' first|refine D.S ?_|refine D.JJ true true ?_|refine DJ.nil ?_|refine J.reg0 ?_|refine D.W ?_|refine D.Z ?_|refine D.G ?_ ?_|refine D.X ‹_› ?_|refine D.XO ‹_› ?_|refine D.XS ‹_› ?_|intro h)
   refine J.roundX (i + 1, _) ⟨by omega, hz⟩ ⟨rfl, rfl, rfl, trivial⟩ ⟨rfl, trivial⟩ trivial rfl rfl (by show x.hs.length - (i + 1) < x.hs.length - i; omega)
 | none =>
 have hge := List.getElem?_eq_none_iff.1 hv
 have e0 : i = x.hs.length := by omega
 subst e0
 have d1 : ¬ (x.hs.length : Int) < ((x.hs.map Ha.row).length : Int) := by rw [List.length_map]; omega
 rw [List.drop_length] at hz
 simp only [fewH] at hz
 have hP : fewP x = (decide (fewO x.os z ≤ 500) && (decide (x.vars.length ≤ 60) && (decide (x.hs.length ≤ 60) && decide (x.os.length ≤ 60)))) := by simp only [fewP, ← hz]
 rw [hP]
 clear hi hv hge hz hP
 (repeat' first|(apply DJ.s rfl;(· simp(disch:=omega)only[go_sem,simprocAttr,d1]<;>with_reducible rfl))|(apply J.s true true;(· simp(disch:=omega)only[go_sem,simprocAttr,d1]<;>with_reducible rfl))|apply DJ.nil|(refine J.reg0 ?_)|(apply DJ.gw;(· simp(disch:=omega)only[go_sem,simprocAttr,d1]<;>with_reducible rfl))|(apply DJ.gz;(· rfl);(· simp(disch:=omega)only[go_sem,simprocAttr,d1]<;>with_reducible rfl))|(apply DJ.gs;(· simp(disch:=omega)only[go_sem,simprocAttr,d1]<;>with_reducible rfl))|((first|apply DJ.ixm|apply DJ.ixom|apply DJ.ixsm);(· simp(disch:=omega)only[go_sem,simprocAttr,d1]<;>with_reducible rfl);(· simp(disch:=omega)only[go_sem,simprocAttr,d1]<;>with_reducible rfl);(· assumption);(· omega))|intro h)
 refine J.loopX (X := Nat × Int) (0, z) (fun p => [(1, .ptr 0 0), (3, .int .i64 p.2), (5, .int .i64 (p.1 : Int))]) (fun _ => [(0, 35, x.cells)]) (fun _ => []) (fun p => p.1 ≤ x.os.length ∧ fewO (x.os.drop p.1) p.2 = fewO x.os z) (fun p => x.os.length - p.1) ⟨Nat.zero_le _, rfl⟩ ⟨rfl, rfl, rfl, trivial⟩ ⟨rfl, trivial⟩ trivial ?_
 rintro ⟨i, y⟩ ⟨hi, hz⟩
 try simp only at hi hz ⊢
 cases hv : x.os[i]? with
 | some v =>
  have hlt := (List.getElem?_eq_some_iff.1 hv).1
  have hok := hx.os v (List.mem_of_getElem? hv)
  have d1 : (i : Int) < ((x.os.map Off.row).length : Int) := by rw [List.length_map]; omega
  have e1 := q54 hR (Ex.amts v.args) v.args (Nat.le_refl _) (Nat.le_trans hok.2.2.1 hR) hok.2.2.2.1
  have e2 := q54 hR (Ex.amts v.whn) v.whn (Nat.le_refl _) (Nat.le_trans hok.2.2.2.2.1 hR) hok.2.2.2.2.2
  rw [drop_cons' hv] at hz
  simp only [fewO] at hz
  (repeat' first|(apply DJ.s rfl;(· simp(disch:=omega)only[go_sem,simprocAttr,d1]<;>with_reducible rfl))|(apply J.s true false;(· simp(disch:=omega)only[go_sem,simprocAttr,d1]<;>with_reducible rfl))|apply DJ.nil|(refine J.reg0 ?_)|(apply DJ.gw;(· simp(disch:=omega)only[go_sem,simprocAttr,d1]<;>with_reducible rfl))|(apply DJ.gz;(· rfl);(· simp(disch:=omega)only[go_sem,simprocAttr,d1]<;>with_reducible rfl))|(apply DJ.gs;(· simp(disch:=omega)only[go_sem,simprocAttr,d1]<;>with_reducible rfl))|((first|apply DJ.ixm|apply DJ.ixom|apply DJ.ixsm);(· simp(disch:=omega)only[go_sem,simprocAttr,d1]<;>with_reducible rfl);(· simp(disch:=omega)only[go_sem,simprocAttr,d1]<;>with_reducible rfl);(· assumption);(· omega))|intro h)
  refine J.block ?_
  refine J.reg (anns := [.int .i64 (Ex.amL v.args (v.args.length : Int)), .int .i64 (Ex.amL v.whn (v.whn.length : Int))]) ?_
  (repeat' first|refine D.S ?_|refine DJ.nil ?_|refine D.W ?_|refine D.Z ?_|refine D.G ?_ ?_|refine D.X ‹_› ?_|refine D.XO ‹_› ?_|refine D.XS ‹_› ?_|intro h)
  refine D.PC e1 ?_
  (repeat' first|refine D.S ?_|refine DJ.nil ?_|refine D.W ?_|refine D.Z ?_|refine D.G ?_ ?_|refine D.X ‹_› ?_|refine D.XO ‹_› ?_|refine D.XS ‹_› ?_|intro h)
  refine D.PC e2 ?_
  (repeat' first|refine D.S ?_|refine D.JJ true true ?_|refine DJ.nil ?_|refine J.reg0 ?_|refine D.W ?_|refine D.Z ?_|refine D.G ?_ ?_|refine D.X ‹_› ?_|refine D.XO ‹_› ?_|refine D.XS ‹_› ?_|intro h)
  refine J.roundX (i + 1, _) ⟨by omega, hz⟩ ⟨rfl, rfl, rfl, trivial⟩ ⟨rfl, trivial⟩ trivial rfl rfl (by show x.os.length - (i + 1) < x.os.length - i; omega)
 | none =>
 have hge := List.getElem?_eq_none_iff.1 hv
 have e0 : i = x.os.length := by omega
 subst e0
 have d1 : ¬ (x.os.length : Int) < ((x.os.map Off.row).length : Int) := by rw [List.length_map]; omega
 rw [List.drop_length] at hz
 simp only [fewO] at hz
 subst hz
 (repeat' first|(apply DJ.s rfl;(· simp(disch:=omega)only[go_sem,simprocAttr,d1]<;>with_reducible rfl))|(apply J.s true true;(· simp(disch:=omega)only[go_sem,simprocAttr,d1]<;>with_reducible rfl))|apply DJ.nil|(refine J.reg0 ?_)|(apply DJ.gw;(· simp(disch:=omega)only[go_sem,simprocAttr,d1]<;>with_reducible rfl))|(apply DJ.gz;(· rfl);(· simp(disch:=omega)only[go_sem,simprocAttr,d1]<;>with_reducible rfl))|(apply DJ.gs;(· simp(disch:=omega)only[go_sem,simprocAttr,d1]<;>with_reducible rfl))|((first|apply DJ.ixm|apply DJ.ixom|apply DJ.ixsm);(· simp(disch:=omega)only[go_sem,simprocAttr,d1]<;>with_reducible rfl);(· simp(disch:=omega)only[go_sem,simprocAttr,d1]<;>with_reducible rfl);(· assumption);(· omega))|intro h)
 all_goals
  refine D.R ?_
  refine ⟨_, rfl, .wk ?_ rfl, trivial, trivial⟩
  have c60 : ∀ n : Nat, ((n : Int) ≤ 60) = (n ≤ 60) := fun n => propext (by omega)
  simp only [List.length_map, c60] at *
  simp_all [AV.wk] <;> omega
end Go.Aw.T.N
namespace Go.Aw.T.N
open Go Go.Aw Go.Proofs Go.RowKit
set_option maxRecDepth 100000
attribute [local irreducible] Go.Aw.J Go.Aw.DJ Go.Aw.FC
attribute [local go_sem] wrap64 wrapu64 wrapu8 nnif decide_true decide_false dst gst gv_b gv_u jst jpop bdL bdB bdT bdO AV.bd tfL AV.tf o_mv o_pick o_nilck o_build o_load o_loadD o_loadR o_faddr o_field o_iaddr o_iaddrA o_idxA o_idxS o_bin o_binB o_eqA o_not o_pnil o_neg o_conv o_lenS o_len o_lenA o_minmax o_slS o_slV o_extract o_mkfn o_mkfnB o_convS o_convBS o_mkif o_isnil o_bslice o_box o_alloc o_store o_storeD o_bsliceO o_bsliceM cpv cev_t cev_c Env.get put_some' put_none' of_setB of_addB of_setT of_addT of_upd of_blk of_tok of_nb of_nt of_new rmB rmT rmBs rmTs renB renT apB apT lkB lkT getD_0 getD_s renL AV.ren crange_if cstB_if one_nilS one_pnil oc_nil oc_pnil cbin binInt shInt binStr binBool cbuild_nil cbuild_cons cidx_if AV.cells AV.okc AV.flat flatL flatR setRange minmaxAV AV.one AV.ofCells eqCells eqCell slRows initEnv initFrom cres cresv cresL cond_true cond_false beq_self_eq_true Bool.not_true Bool.not_false beq_true beq_false eq_self if_true Option.some.injEq List.length_cons List.length_nil List.take_succ_cons List.take_zero List.drop_succ_cons List.drop_zero List.set_cons_succ List.set_cons_zero List.nil_append List.cons_append List.append_nil and_self Option.map_some Option.map_none List.map_cons List.map_nil Bool.false_eq_true if_false Nat.zero_add Nat.add_zero true_and and_true Bool.and_true Bool.true_and List.getElem?_cons_zero List.getElem?_cons_succ Nat.zero_le Nat.le_refl List.all_cons List.all_nil List.flatten_cons List.flatten_nil crows crowsOk List.filter_cons List.filter_nil List.contains_cons List.contains_nil Bool.or_false Bool.or_true Bool.false_or Bool.true_or
set_option linter.unusedSimpArgs false
set_option linter.unusedVariables false
attribute [local go_sem] Ex.row_mk Sm.row_mk Ex.rowsF Sm.rowsF srow srow_flat ha_row of_row ha_flat of_flat
attribute [local go_sem] Vr.row vr_flat sv_cells cnot
abbrev z6 : List AV := [.str [], .str [], .str [], .nilS, .nilS, .nilS]
set_option maxHeartbeats 4000000 in
theorem q19 {R : Nat} (hR : R ≤ 140737488355328) (x : Sv) (hx : x.ok R) : Pure Tryz.prog 19 [x.av] x.av := by
 have l1 := hx.nv
 have l2 := hx.nh
 have l3 := hx.no
 rw [sv_av]
 refine pure_of mo Tryz.func19 c19 (by simp only [flatL, AV.flat, vr_flat, ha_flat, of_flat, Bool.and_self]) (by simp only [flatL, AV.flat, vr_flat, ha_flat, of_flat, Bool.and_self]) ?_
 unfold e19 r19
 simp(disch:=omega)only[go_sem,simprocAttr]
 refine J.seq ?_
 refine J.reg0 ?_
 (repeat' first|refine D.S ?_|refine DJ.nil ?_|refine D.W ?_|refine D.Z ?_|refine D.G ?_ ?_|refine D.X ‹_› ?_|refine D.XO ‹_› ?_|refine D.XS ‹_› ?_|intro h)
 refine J.seq ?_
 refine J.reg0 ?_
 (repeat' first|refine D.S ?_|refine DJ.nil ?_|refine D.W ?_|refine D.Z ?_|refine D.G ?_ ?_|refine D.X ‹_› ?_|refine D.XO ‹_› ?_|refine D.XS ‹_› ?_|intro h)
 refine J.ghB 2 3 7 106 rfl rfl (by decide) ?_
 simp(disch:=omega)only[go_sem,simprocAttr]
 refine J.ghB 2 4 4 109 rfl rfl (by decide) ?_
 simp(disch:=omega)only[go_sem,simprocAttr]
 refine J.ghB 2 5 4 74 rfl rfl (by decide) ?_
 simp(disch:=omega)only[go_sem,simprocAttr]
 (repeat' first|refine D.S ?_|refine D.JJ true true ?_|refine DJ.nil ?_|refine J.reg0 ?_|refine D.W ?_|refine D.Z ?_|refine D.G ?_ ?_|refine D.X ‹_› ?_|refine D.XO ‹_› ?_|refine D.XS ‹_› ?_|intro h)
 refine J.loopX (X := Nat) 0 (fun i => [(1, .ptr 0 0), (2, .ptr 1 0), (3, .ptr 2 0), (4, .int .i64 (i : Int))]) (fun i => [(0, 35, x.cells), (1, 27, z6), (2, 27, [.str x.name, .str x.role, .str x.proto, .own 0 7 ((x.vars.take i).map Vr.row), .own 1 4 (([] : List Ha).map Ha.row), .own 2 4 (([] : List Off).map Off.row)])]) (fun i => [(0, .frz 106 7 ((x.vars.take i).map Vr.row).length), (1, .frz 109 4 (([] : List Ha).map Ha.row).length), (2, .frz 74 4 (([] : List Off).map Off.row).length)]) (fun i => i ≤ x.vars.length) (fun i => x.vars.length - i) (Nat.zero_le _) ⟨rfl, rfl, rfl, rfl, trivial⟩ ⟨rfl, rfl, rfl, trivial⟩ ⟨rfl, rfl, rfl, trivial⟩ ?_
 intro i hi
 try simp only at hi ⊢
 cases hv : x.vars[i]? with
 | some v =>
  have hlt := (List.getElem?_eq_some_iff.1 hv).1
  have hlen : (x.vars.take i).length = i := by simp; omega
  have hsn := take_snoc Vr.row hv
  have d1 : (i : Int) < ((x.vars.map Vr.row).length : Int) := by rw [List.length_map]; omega
  (repeat' first|(apply DJ.s rfl;(· simp(disch:=omega)only[go_sem,simprocAttr,d1]<;>with_reducible rfl))|(apply J.s true true;(· simp(disch:=omega)only[go_sem,simprocAttr,d1]<;>with_reducible rfl))|apply DJ.nil|(refine J.reg0 ?_)|(apply DJ.gw;(· simp(disch:=omega)only[go_sem,simprocAttr,d1]<;>with_reducible rfl))|(apply DJ.gz;(· rfl);(· simp(disch:=omega)only[go_sem,simprocAttr,d1]<;>with_reducible rfl))|(apply DJ.gs;(· simp(disch:=omega)only[go_sem,simprocAttr,d1]<;>with_reducible rfl))|((first|apply DJ.ixm|apply DJ.ixom|apply DJ.ixsm);(· simp(disch:=omega)only[go_sem,simprocAttr,d1]<;>with_reducible rfl);(· simp(disch:=omega)only[go_sem,simprocAttr,d1]<;>with_reducible rfl);(· assumption);(· omega))|intro h)
  (apply DJ.ap';(· simp(disch:=omega)only[go_sem,simprocAttr]<;>with_reducible rfl);(· simp(disch:=omega)only[go_sem,simprocAttr]<;>with_reducible rfl);(· simp only [rowsOf] <;> simp(disch:=omega)only[go_sem,simprocAttr] <;> with_reducible rfl);(· first|omega|(simp only [List.length_map,List.length_drop,List.length_take,List.length_append,List.length_nil,List.length_cons,maxLen] <;> omega));(· first|omega|(simp only [List.length_map,List.length_drop,List.length_take,List.length_append,List.length_nil,List.length_cons,maxLen] <;> omega)))
  (repeat' first|refine D.S ?_|refine D.JJ true true ?_|refine DJ.nil ?_|refine J.reg0 ?_|refine D.W ?_|refine D.Z ?_|refine D.G ?_ ?_|refine D.X ‹_› ?_|refine D.XO ‹_› ?_|refine D.XS ‹_› ?_|intro h)
  refine J.roundX (i + 1) (by omega) ⟨rfl, rfl, rfl, rfl, trivial⟩ (by refine ⟨rfl, rfl, ?_, trivial⟩; simp only [hsn]; rfl) (by refine ⟨?_, rfl, rfl, trivial⟩; simp only [hsn, List.length_append]; rfl) rfl rfl (by show x.vars.length - (i + 1) < x.vars.length - i; omega)
 | none =>
 have hge := List.getElem?_eq_none_iff.1 hv
 have e : i = x.vars.length := by omega
 subst e
 have d1 : ¬ (x.vars.length : Int) < ((x.vars.map Vr.row).length : Int) := by rw [List.length_map]; omega
 simp only [List.take_length]
 clear hi hv hge
 (repeat' first|(apply DJ.s rfl;(· simp(disch:=omega)only[go_sem,simprocAttr,d1]<;>with_reducible rfl))|(apply J.s true true;(· simp(disch:=omega)only[go_sem,simprocAttr,d1]<;>with_reducible rfl))|apply DJ.nil|(refine J.reg0 ?_)|(apply DJ.gw;(· simp(disch:=omega)only[go_sem,simprocAttr,d1]<;>with_reducible rfl))|(apply DJ.gz;(· rfl);(· simp(disch:=omega)only[go_sem,simprocAttr,d1]<;>with_reducible rfl))|(apply DJ.gs;(· simp(disch:=omega)only[go_sem,simprocAttr,d1]<;>with_reducible rfl))|((first|apply DJ.ixm|apply DJ.ixom|apply DJ.ixsm);(· simp(disch:=omega)only[go_sem,simprocAttr,d1]<;>with_reducible rfl);(· simp(disch:=omega)only[go_sem,simprocAttr,d1]<;>with_reducible rfl);(· assumption);(· omega))|intro h)
 refine J.loopX (X := Nat) 0 (fun i => [(1, .ptr 0 0), (2, .ptr 1 0), (3, .ptr 2 0), (5, .int .i64 (i : Int))]) (fun i => [(0, 35, x.cells), (1, 27, z6), (2, 27, [.str x.name, .str x.role, .str x.proto, .own 0 7 (x.vars.map Vr.row), .own 1 4 ((x.hs.take i).map Ha.row), .own 2 4 (([] : List Off).map Off.row)])]) (fun i => [(0, .frz 106 7 (x.vars.map Vr.row).length), (1, .frz 109 4 ((x.hs.take i).map Ha.row).length), (2, .frz 74 4 (([] : List Off).map Off.row).length)]) (fun i => i ≤ x.hs.length) (fun i => x.hs.length - i) (Nat.zero_le _) ⟨rfl, rfl, rfl, rfl, trivial⟩ ⟨rfl, rfl, rfl, trivial⟩ ⟨rfl, rfl, rfl, trivial⟩ ?_
 intro i hi
 try simp only at hi ⊢
 cases hv : x.hs[i]? with
 | some v =>
  have hlt := (List.getElem?_eq_some_iff.1 hv).1
  have hlen : (x.hs.take i).length = i := by simp; omega
  have hsn := take_snoc Ha.row hv
  have d1 : (i : Int) < ((x.hs.map Ha.row).length : Int) := by rw [List.length_map]; omega
  have hok := hx.hs v (List.mem_of_getElem? hv)
  have e1 := q55 hR (Sm.amts v.body) v.body (Nat.le_refl _) (Nat.le_trans hok.2.2.2.2.1 hR) hok.2.2.2.2.2
  simp only [ha_row] at hsn
  (repeat' first|(apply DJ.s rfl;(· simp(disch:=omega)only[go_sem,simprocAttr,d1]<;>with_reducible rfl))|(apply J.s true false;(· simp(disch:=omega)only[go_sem,simprocAttr,d1]<;>with_reducible rfl))|apply DJ.nil|(refine J.reg0 ?_)|(apply DJ.gw;(· simp(disch:=omega)only[go_sem,simprocAttr,d1]<;>with_reducible rfl))|(apply DJ.gz;(· rfl);(· simp(disch:=omega)only[go_sem,simprocAttr,d1]<;>with_reducible rfl))|(apply DJ.gs;(· simp(disch:=omega)only[go_sem,simprocAttr,d1]<;>with_reducible rfl))|((first|apply DJ.ixm|apply DJ.ixom|apply DJ.ixsm);(· simp(disch:=omega)only[go_sem,simprocAttr,d1]<;>with_reducible rfl);(· simp(disch:=omega)only[go_sem,simprocAttr,d1]<;>with_reducible rfl);(· assumption);(· omega))|intro h)
  refine J.block ?_
  refine J.seq ?_
  refine J.reg0 ?_
  (repeat' first|refine D.S ?_|refine DJ.nil ?_|refine D.W ?_|refine D.Z ?_|refine D.G ?_ ?_|refine D.X ‹_› ?_|refine D.XO ‹_› ?_|refine D.XS ‹_› ?_|intro h)
  refine J.reg (anns := [.vs 11 (v.body.map Sm.row)]) ?_
  (repeat' first|refine D.S ?_|refine DJ.nil ?_|refine D.W ?_|refine D.Z ?_|refine D.G ?_ ?_|refine D.X ‹_› ?_|refine D.XO ‹_› ?_|refine D.XS ‹_› ?_|intro h)
  refine D.PC e1 ?_
  (repeat' first|refine D.S ?_|refine DJ.nil ?_|refine D.W ?_|refine D.Z ?_|refine D.G ?_ ?_|refine D.X ‹_› ?_|refine D.XO ‹_› ?_|refine D.XS ‹_› ?_|intro h)
  (apply DJ.ap';(· simp(disch:=omega)only[go_sem,simprocAttr]<;>with_reducible rfl);(· simp(disch:=omega)only[go_sem,simprocAttr]<;>with_reducible rfl);(· simp only [rowsOf] <;> simp(disch:=omega)only[go_sem,simprocAttr] <;> with_reducible rfl);(· first|omega|(simp only [List.length_map,List.length_drop,List.length_take,List.length_append,List.length_nil,List.length_cons,maxLen] <;> omega));(· first|omega|(simp only [List.length_map,List.length_drop,List.length_take,List.length_append,List.length_nil,List.length_cons,maxLen] <;> omega)))
  (repeat' first|refine D.S ?_|refine D.JJ true true ?_|refine DJ.nil ?_|refine J.reg0 ?_|refine D.W ?_|refine D.Z ?_|refine D.G ?_ ?_|refine D.X ‹_› ?_|refine D.XO ‹_› ?_|refine D.XS ‹_› ?_|intro h)
  refine J.roundC (i + 1) (by omega) ⟨rfl, rfl, rfl, rfl, trivial⟩ (by refine ⟨rfl, rfl, ?_, trivial⟩; simp only [hsn]; rfl) (by refine ⟨rfl, ?_, rfl, trivial⟩; simp only [hsn, List.length_append]; rfl) rfl (by simp only [sv_cells, z6, bdE, bdL, bdB, bdT, bdO, AV.bd, Own.frz, vr_flat, ha_flat, of_flat, go_sem] <;> rfl) (by show x.hs.length - (i + 1) < x.hs.length - i; omega)
 | none =>
 have hge := List.getElem?_eq_none_iff.1 hv
 have e : i = x.hs.length := by omega
 subst e
 have d1 : ¬ (x.hs.length : Int) < ((x.hs.map Ha.row).length : Int) := by rw [List.length_map]; omega
 simp only [List.take_length]
 clear hi hv hge
 (repeat' first|(apply DJ.s rfl;(· simp(disch:=omega)only[go_sem,simprocAttr,d1]<;>with_reducible rfl))|(apply J.s true true;(· simp(disch:=omega)only[go_sem,simprocAttr,d1]<;>with_reducible rfl))|apply DJ.nil|(refine J.reg0 ?_)|(apply DJ.gw;(· simp(disch:=omega)only[go_sem,simprocAttr,d1]<;>with_reducible rfl))|(apply DJ.gz;(· rfl);(· simp(disch:=omega)only[go_sem,simprocAttr,d1]<;>with_reducible rfl))|(apply DJ.gs;(· simp(disch:=omega)only[go_sem,simprocAttr,d1]<;>with_reducible rfl))|((first|apply DJ.ixm|apply DJ.ixom|apply DJ.ixsm);(· simp(disch:=omega)only[go_sem,simprocAttr,d1]<;>with_reducible rfl);(· simp(disch:=omega)only[go_sem,simprocAttr,d1]<;>with_reducible rfl);(· assumption);(· omega))|intro h)
 refine J.loopX (X := Nat) 0 (fun i => [(1, .ptr 0 0), (2, .ptr 1 0), (3, .ptr 2 0), (7, .int .i64 (i : Int))]) (fun i => [(0, 35, x.cells), (1, 27, z6), (2, 27, [.str x.name, .str x.role, .str x.proto, .own 0 7 (x.vars.map Vr.row), .own 1 4 (x.hs.map Ha.row), .own 2 4 ((x.os.take i).map Off.row)])]) (fun i => [(0, .frz 106 7 (x.vars.map Vr.row).length), (1, .frz 109 4 (x.hs.map Ha.row).length), (2, .frz 74 4 ((x.os.take i).map Off.row).length)]) (fun i => i ≤ x.os.length) (fun i => x.os.length - i) (Nat.zero_le _) ⟨rfl, rfl, rfl, rfl, trivial⟩ ⟨rfl, rfl, rfl, trivial⟩ ⟨rfl, rfl, rfl, trivial⟩ ?_
 intro i hi
 try simp only at hi ⊢
 cases hv : x.os[i]? with
 | some v =>
  have hlt := (List.getElem?_eq_some_iff.1 hv).1
  have hlen : (x.os.take i).length = i := by simp; omega
  have hsn := take_snoc Off.row hv
  have d1 : (i : Int) < ((x.os.map Off.row).length : Int) := by rw [List.length_map]; omega
  have hok := hx.os v (List.mem_of_getElem? hv)
  have e1 := q56 hR (Ex.amts v.args) v.args (Nat.le_refl _) (Nat.le_trans hok.2.2.1 hR) hok.2.2.2.1
  have e2 := q56 hR (Ex.amts v.whn) v.whn (Nat.le_refl _) (Nat.le_trans hok.2.2.2.2.1 hR) hok.2.2.2.2.2
  simp only [of_row] at hsn
  (repeat' first|(apply DJ.s rfl;(· simp(disch:=omega)only[go_sem,simprocAttr,d1]<;>with_reducible rfl))|(apply J.s true false;(· simp(disch:=omega)only[go_sem,simprocAttr,d1]<;>with_reducible rfl))|apply DJ.nil|(refine J.reg0 ?_)|(apply DJ.gw;(· simp(disch:=omega)only[go_sem,simprocAttr,d1]<;>with_reducible rfl))|(apply DJ.gz;(· rfl);(· simp(disch:=omega)only[go_sem,simprocAttr,d1]<;>with_reducible rfl))|(apply DJ.gs;(· simp(disch:=omega)only[go_sem,simprocAttr,d1]<;>with_reducible rfl))|((first|apply DJ.ixm|apply DJ.ixom|apply DJ.ixsm);(· simp(disch:=omega)only[go_sem,simprocAttr,d1]<;>with_reducible rfl);(· simp(disch:=omega)only[go_sem,simprocAttr,d1]<;>with_reducible rfl);(· assumption);(· omega))|intro h)
  refine J.block ?_
  refine J.seq ?_
  refine J.reg0 ?_
  (repeat' first|refine D.S ?_|refine DJ.nil ?_|refine D.W ?_|refine D.Z ?_|refine D.G ?_ ?_|refine D.X ‹_› ?_|refine D.XO ‹_› ?_|refine D.XS ‹_› ?_|intro h)
  refine J.reg (anns := [.vs 6 (v.args.map Ex.row), .vs 6 (v.whn.map Ex.row)]) ?_
  (repeat' first|refine D.S ?_|refine DJ.nil ?_|refine D.W ?_|refine D.Z ?_|refine D.G ?_ ?_|refine D.X ‹_› ?_|refine D.XO ‹_› ?_|refine D.XS ‹_› ?_|intro h)
  refine D.PC e1 ?_
  (repeat' first|refine D.S ?_|refine DJ.nil ?_|refine D.W ?_|refine D.Z ?_|refine D.G ?_ ?_|refine D.X ‹_› ?_|refine D.XO ‹_› ?_|refine D.XS ‹_› ?_|intro h)
  refine D.PC e2 ?_
  (repeat' first|refine D.S ?_|refine DJ.nil ?_|refine D.W ?_|refine D.Z ?_|refine D.G ?_ ?_|refine D.X ‹_› ?_|refine D.XO ‹_› ?_|refine D.XS ‹_› ?_|intro h)
  (apply DJ.ap';(· simp(disch:=omega)only[go_sem,simprocAttr]<;>with_reducible rfl);(· simp(disch:=omega)only[go_sem,simprocAttr]<;>with_reducible rfl);(· simp only [rowsOf] <;> simp(disch:=omega)only[go_sem,simprocAttr] <;> with_reducible rfl);(· first|omega|(simp only [List.length_map,List.length_drop,List.length_take,List.length_append,List.length_nil,List.length_cons,maxLen] <;> omega));(· first|omega|(simp only [List.length_map,List.length_drop,List.length_take,List.length_append,List.length_nil,List.length_cons,maxLen] <;> omega)))
  (repeat' first|refine D.S ?_|refine D.JJ true true ?_|refine DJ.nil ?_|refine J.reg0 ?_|refine D.W ?_|refine D.Z ?_|refine D.G ?_ ?_|refine D.X ‹_› ?_|refine D.XO ‹_› ?_|refine D.XS ‹_› ?_|intro h)
  refine J.roundC (i + 1) (by omega) ⟨rfl, rfl, rfl, rfl, trivial⟩ (by refine ⟨rfl, rfl, ?_, trivial⟩; simp only [hsn]; rfl) (by refine ⟨rfl, rfl, ?_, trivial⟩; simp only [hsn, List.length_append]; rfl) rfl (by simp only [sv_cells, z6, bdE, bdL, bdB, bdT, bdO, AV.bd, Own.frz, vr_flat, ha_flat, of_flat, go_sem] <;> rfl) (by show x.os.length - (i + 1) < x.os.length - i; omega)
 | none =>
 have hge := List.getElem?_eq_none_iff.1 hv
 have e : i = x.os.length := by omega
 subst e
 have d1 : ¬ (x.os.length : Int) < ((x.os.map Off.row).length : Int) := by rw [List.length_map]; omega
 simp only [List.take_length]
 clear hi hv hge
 (repeat' first|(apply DJ.s rfl;(· simp(disch:=omega)only[go_sem,simprocAttr,d1]<;>with_reducible rfl))|(apply J.s true true;(· simp(disch:=omega)only[go_sem,simprocAttr,d1]<;>with_reducible rfl))|apply DJ.nil|(refine J.reg0 ?_)|(apply DJ.gw;(· simp(disch:=omega)only[go_sem,simprocAttr,d1]<;>with_reducible rfl))|(apply DJ.gz;(· rfl);(· simp(disch:=omega)only[go_sem,simprocAttr,d1]<;>with_reducible rfl))|(apply DJ.gs;(· simp(disch:=omega)only[go_sem,simprocAttr,d1]<;>with_reducible rfl))|((first|apply DJ.ixm|apply DJ.ixom|apply DJ.ixsm);(· simp(disch:=omega)only[go_sem,simprocAttr,d1]<;>with_reducible rfl);(· simp(disch:=omega)only[go_sem,simprocAttr,d1]<;>with_reducible rfl);(· assumption);(· omega))|intro h)
 first|refine D.R ?_|refine D.E ?_
 refine ⟨_, rfl, ?_, trivial, trivial⟩
 exact .wk rfl (by simp only [flatL, AV.flat, vr_flat, ha_flat, of_flat, Bool.and_self])
theorem q5 {R : Nat} (hR : R ≤ 140737488355328) (h11 : Pure Tryz.prog 11 [] (.bool true)) (x y : Sv) (hx : x.ok R) (hy : y.ok R) : Pure Tryz.prog 5 [x.av, y.av] (.bool true) := by
 have f1 := q17 hR x hx
 have f2 := q17 hR y hy
 have o1 := q19 hR x hx
 have o2 := q19 hR y hy
 have e1 := q22 hR x y hx
 have e2 := q14 hR x y hx
 have e3 := q22 hR x x hx
 rw [svSame_refl] at e3
 rw [sv_av] at *
 rw [sv_av] at *
 generalize fewP x = b1 at f1
 generalize fewP y = b2 at f2
 generalize svSame x y = b3 at e1 e2
 refine pure_of mo Tryz.func5 c5 (by simp only [flatL, AV.flat, vr_flat, ha_flat, of_flat, Bool.and_self]) rfl ?_
 unfold e5 r5
 simp(disch:=omega)only[go_sem,simprocAttr]
 (repeat' first|refine D.S ?_|refine D.JJ true true ?_|refine DJ.nil ?_|refine J.reg0 ?_|refine D.W ?_|refine D.Z ?_|refine D.G ?_ ?_|refine D.X ‹_› ?_|refine D.XO ‹_› ?_|refine D.XS ‹_› ?_|intro h)
 refine D.P (h11) ?_
 (repeat' first|refine D.S ?_|refine DJ.nil ?_|refine D.W ?_|refine D.Z ?_|refine D.G ?_ ?_|refine D.X ‹_› ?_|refine D.XO ‹_› ?_|refine D.XS ‹_› ?_|intro h)
 refine J.cF rfl ?_
 refine J.skip ?_
 refine J.seq ?_
 cases b1 with
 | false =>
  refine J.reg (anns := [.bool false, .undef, .undef, .undef, .undef, .undef, .undef, .undef, .undef]) ?_
  (repeat' first|refine D.S ?_|refine DJ.nil ?_|refine D.W ?_|refine D.Z ?_|refine D.G ?_ ?_|refine D.X ‹_› ?_|refine D.XO ‹_› ?_|refine D.XS ‹_› ?_|intro h)
  refine D.PC f1 ?_
  (repeat' first|refine D.S ?_|refine D.JJ true true ?_|refine DJ.nil ?_|refine J.reg0 ?_|refine D.W ?_|refine D.Z ?_|refine D.G ?_ ?_|refine D.X ‹_› ?_|refine D.XO ‹_› ?_|refine D.XS ‹_› ?_|intro h)
  first|refine D.R ?_|refine D.E ?_
  exact ⟨_, rfl, .wk rfl rfl, trivial, trivial⟩
 | true =>
 cases b2 with
 | false =>
  refine J.reg (anns := [.bool true, .bool false, .undef, .undef, .undef, .undef, .undef, .undef, .undef]) ?_
  (repeat' first|refine D.S ?_|refine DJ.nil ?_|refine D.W ?_|refine D.Z ?_|refine D.G ?_ ?_|refine D.X ‹_› ?_|refine D.XO ‹_› ?_|refine D.XS ‹_› ?_|intro h)
  refine D.PC f1 ?_
  (repeat' first|refine D.S ?_|refine DJ.nil ?_|refine D.W ?_|refine D.Z ?_|refine D.G ?_ ?_|refine D.X ‹_› ?_|refine D.XO ‹_› ?_|refine D.XS ‹_› ?_|intro h)
  refine D.PC f2 ?_
  (repeat' first|refine D.S ?_|refine D.JJ true true ?_|refine DJ.nil ?_|refine J.reg0 ?_|refine D.W ?_|refine D.Z ?_|refine D.G ?_ ?_|refine D.X ‹_› ?_|refine D.XO ‹_› ?_|refine D.XS ‹_› ?_|intro h)
  first|refine D.R ?_|refine D.E ?_
  exact ⟨_, rfl, .wk rfl rfl, trivial, trivial⟩
 | true =>
 refine J.reg (anns := [.bool true, .bool true, (.agg [.str x.name, .str x.role, .str x.proto, .vs 7 (x.vars.map Vr.row), .vs 4 (x.hs.map Ha.row), .vs 4 (x.os.map Off.row)]), (.agg [.str y.name, .str y.role, .str y.proto, .vs 7 (y.vars.map Vr.row), .vs 4 (y.hs.map Ha.row), .vs 4 (y.os.map Off.row)]), .bool b3, .bool b3, (.agg [.str x.name, .str x.role, .str x.proto, .vs 7 (x.vars.map Vr.row), .vs 4 (x.hs.map Ha.row), .vs 4 (x.os.map Off.row)]), (.agg [.str x.name, .str x.role, .str x.proto, .vs 7 (x.vars.map Vr.row), .vs 4 (x.hs.map Ha.row), .vs 4 (x.os.map Off.row)]), .bool true]) ?_
 (repeat' first|refine D.S ?_|refine DJ.nil ?_|refine D.W ?_|refine D.Z ?_|refine D.G ?_ ?_|refine D.X ‹_› ?_|refine D.XO ‹_› ?_|refine D.XS ‹_› ?_|intro h)
 refine D.PC f1 ?_
 (repeat' first|refine D.S ?_|refine DJ.nil ?_|refine D.W ?_|refine D.Z ?_|refine D.G ?_ ?_|refine D.X ‹_› ?_|refine D.XO ‹_› ?_|refine D.XS ‹_› ?_|intro h)
 refine D.PC f2 ?_
 (repeat' first|refine D.S ?_|refine DJ.nil ?_|refine D.W ?_|refine D.Z ?_|refine D.G ?_ ?_|refine D.X ‹_› ?_|refine D.XO ‹_› ?_|refine D.XS ‹_› ?_|intro h)
 refine D.PC o1 ?_
 (repeat' first|refine D.S ?_|refine DJ.nil ?_|refine D.W ?_|refine D.Z ?_|refine D.G ?_ ?_|refine D.X ‹_› ?_|refine D.XO ‹_› ?_|refine D.XS ‹_› ?_|intro h)
 refine D.PC o2 ?_
 (repeat' first|refine D.S ?_|refine DJ.nil ?_|refine D.W ?_|refine D.Z ?_|refine D.G ?_ ?_|refine D.X ‹_› ?_|refine D.XO ‹_› ?_|refine D.XS ‹_› ?_|intro h)
 refine D.PC e1 ?_
 (repeat' first|refine D.S ?_|refine DJ.nil ?_|refine D.W ?_|refine D.Z ?_|refine D.G ?_ ?_|refine D.X ‹_› ?_|refine D.XO ‹_› ?_|refine D.XS ‹_› ?_|intro h)
 refine D.PC e2 ?_
 (repeat' first|refine D.S ?_|refine DJ.nil ?_|refine D.W ?_|refine D.Z ?_|refine D.G ?_ ?_|refine D.X ‹_› ?_|refine D.XO ‹_› ?_|refine D.XS ‹_› ?_|intro h)
 refine D.PC o1 ?_
 (repeat' first|refine D.S ?_|refine DJ.nil ?_|refine D.W ?_|refine D.Z ?_|refine D.G ?_ ?_|refine D.X ‹_› ?_|refine D.XO ‹_› ?_|refine D.XS ‹_› ?_|intro h)
 refine D.PC o1 ?_
 (repeat' first|refine D.S ?_|refine DJ.nil ?_|refine D.W ?_|refine D.Z ?_|refine D.G ?_ ?_|refine D.X ‹_› ?_|refine D.XO ‹_› ?_|refine D.XS ‹_› ?_|intro h)
 refine D.PC e3 ?_
 (repeat' first|refine D.S ?_|refine D.JJ true true ?_|refine DJ.nil ?_|refine J.reg0 ?_|refine D.W ?_|refine D.Z ?_|refine D.G ?_ ?_|refine D.X ‹_› ?_|refine D.XO ‹_› ?_|refine D.XS ‹_› ?_|intro h)
 first|refine D.R ?_|refine D.E ?_
 exact ⟨_, rfl, .wk rfl rfl, trivial, trivial⟩
end Go.Aw.T.N
set_option linter.unusedVariables false
set_option maxRecDepth 100000
namespace Go.Aw.T.N
open Go Go.Aw Go.Proofs Go.ChangeShapes Go.WideShapes Go.RowKit
def elS : List TypeId := [9, 51, 66, 95, 99, 165]
theorem elS_ok : rsE Tryz.prog elS = true := by kernel_rfl
theorem rs51 : rsT Tryz.prog elS 8 51 = some [.lk (.i .i64), .lk .s, .lk .s, .lk .s, .lk (.i .i64), .sl 51] := by kernel_rfl
theorem rs165 : rsT Tryz.prog elS 8 165 = some [.lk (.i .i64), .lk .s, .lk (.i .i64), .lk .s, .lk .s, .lk .s, .lk (.i .i64), .sl 51, .lk (.i .i64), .sl 165, .sl 165] := by kernel_rfl
theorem rs9 : rsT Tryz.prog elS 8 9 = some [.lk .s] := by kernel_rfl
theorem rs95 : rsT Tryz.prog elS 8 95 = some [.lk .s, .lk (.i .i64), .lk (.i .i64), .lk (.i .i64), .lk (.i .i64), .lk (.i .i64), .lk .s] := by kernel_rfl
theorem rs99 : rsT Tryz.prog elS 8 99 = some [.lk .s, .lk .s, .sl 9, .sl 165] := by kernel_rfl
theorem rs66 : rsT Tryz.prog elS 8 66 = some [.lk .s, .lk .s, .sl 51, .sl 51] := by kernel_rfl
theorem rs35 : rsT Tryz.prog elS 8 35 = some [.lk .s, .lk .s, .lk .s, .sl 95, .sl 99, .sl 66] := by kernel_rfl
theorem sz51 : Tryz.prog.cellsOf 51 = 6 := by kernel_rfl
theorem sz165 : Tryz.prog.cellsOf 165 = 11 := by kernel_rfl
theorem cc9 : Tryz.prog.cellsOf 9 = 1 := by kernel_rfl
theorem cc95 : Tryz.prog.cellsOf 95 = 7 := by kernel_rfl
theorem cc99 : Tryz.prog.cellsOf 99 = 4 := by kernel_rfl
theorem cc66 : Tryz.prog.cellsOf 66 = 4 := by kernel_rfl
theorem by51 : Tryz.prog.bytesOf 51 = 88 := by kernel_rfl
theorem by165 : Tryz.prog.bytesOf 165 = 168 := by kernel_rfl
theorem b9 : Tryz.prog.bytesOf 9 = 16 := by kernel_rfl
theorem b95 : Tryz.prog.bytesOf 95 = 72 := by kernel_rfl
theorem b99 : Tryz.prog.bytesOf 99 = 80 := by kernel_rfl
theorem b66 : Tryz.prog.bytesOf 66 = 80 := by kernel_rfl
variable {R : Nat}
theorem exO (n : Nat) (r : List AV) (h : RsR Tryz.prog elS R n 51 r) : ∃ x : Ex, r = x.row ∧ x.ok R := ex_of rs51 sz51 by51 n r h
theorem stO (n : Nat) (r : List AV) (h : RsR Tryz.prog elS R n 165 r) : ∃ x : Sm, r = x.row ∧ x.ok R := st_of rs51 sz51 by51 rs165 sz165 by165 n r h
theorem strO : ∀ (n : Nat) (r : List AV), RsR Tryz.prog elS R n 9 r → ∃ s : List UInt8, r = srow s ∧ s.length ≤ R
 | 0, _, h => h.elim
 | n + 1, r, h => by
  obtain ⟨ks, h1, h2⟩ := h
  rw [rs9] at h1
  cases h1
  simp only [RsL, RS.ok] at h2
  obtain ⟨_, _, rfl, ⟨s, rfl, hs⟩, rfl⟩ := h2
  exact ⟨s, rfl, hs⟩
theorem vrO : ∀ (n : Nat) (r : List AV), RsR Tryz.prog elS R n 95 r → ∃ v : Vr, r = v.row ∧ v.ok R
 | 0, _, h => h.elim
 | n + 1, r, h => by
  obtain ⟨ks, h1, h2⟩ := h
  rw [rs95] at h1
  cases h1
  simp only [RsL, RS.ok] at h2
  obtain ⟨_, _, rfl, ⟨a, rfl, w1⟩, _, _, rfl, ⟨b, rfl, w2⟩, _, _, rfl, ⟨c, rfl, w3⟩, _, _, rfl, ⟨d, rfl, w4⟩, _, _, rfl, ⟨e, rfl, w5⟩, _, _, rfl, ⟨f, rfl, w6⟩, _, _, rfl, ⟨g, rfl, w7⟩, rfl⟩ := h2
  exact ⟨⟨a, b, c, d, e, f, g⟩, rfl, ⟨w1, w7⟩, w2, w3, w4, w5, w6⟩
theorem haO : ∀ (n : Nat) (r : List AV), RsR Tryz.prog elS R n 99 r → ∃ v : Ha, r = v.row ∧ v.ok R
 | 0, _, h => h.elim
 | n + 1, r, h => by
  obtain ⟨ks, h1, h2⟩ := h
  rw [rs99] at h1
  cases h1
  simp only [RsL, RS.ok, cc9, b9, sz165, by165] at h2
  obtain ⟨_, _, rfl, ⟨a, rfl, w1⟩, _, _, rfl, ⟨b, rfl, w2⟩, _, _, rfl, ⟨r1, rfl, w3, k1⟩, _, _, rfl, ⟨r2, rfl, w4, k2⟩, rfl⟩ := h2
  obtain ⟨ps, rfl, hp⟩ := rows_mapP (f := srow) (p := fun s => s.length ≤ R) fun r hm => strO n r (k1 r hm)
  obtain ⟨l, rfl, hl⟩ := rows_mapP (f := Sm.row) (p := Sm.ok R) fun r hm => stO n r (k2 r hm)
  exact ⟨⟨a, b, ps, l⟩, by simp only [Ha.row, Sm.rows_map], w1, w2, by simpa using w3, hp, by simpa using w4, Sm.oks_mem hl⟩
theorem ofO : ∀ (n : Nat) (r : List AV), RsR Tryz.prog elS R n 66 r → ∃ v : Off, r = v.row ∧ v.ok R
 | 0, _, h => h.elim
 | n + 1, r, h => by
  obtain ⟨ks, h1, h2⟩ := h
  rw [rs66] at h1
  cases h1
  simp only [RsL, RS.ok, sz51, by51] at h2
  obtain ⟨_, _, rfl, ⟨a, rfl, w1⟩, _, _, rfl, ⟨b, rfl, w2⟩, _, _, rfl, ⟨r1, rfl, w3, k1⟩, _, _, rfl, ⟨r2, rfl, w4, k2⟩, rfl⟩ := h2
  obtain ⟨l1, rfl, h1⟩ := rows_mapP (f := Ex.row) (p := Ex.ok R) fun r hm => exO n r (k1 r hm)
  obtain ⟨l2, rfl, h2⟩ := rows_mapP (f := Ex.row) (p := Ex.ok R) fun r hm => exO n r (k2 r hm)
  exact ⟨⟨a, b, l1, l2⟩, by simp only [Off.row, Ex.rows_map], w1, w2, by simpa using w3, Ex.oks_mem h1, by simpa using w4, Ex.oks_mem h2⟩
section
variable {H : Type} {enc : TypeId × Value → H} {w : World} {base : Nat} {spare : Nat → Bool} {held : Bool}
theorem open35 {v : Value} {x : DataW H} {p : List MemPlace} {r : Reach} {b0 : Nat} (hz : ∀ n ∈ DataW.weights Tryz.prog 35 x, n ≤ R) (hv : Value.okWide Tryz.prog w r b0 35 v) (h : DataW.Trod enc Tryz.prog w base spare held 35 v x p) :
  ∃ q : Sv, (q.ok R ∧ bkL q.cells ≤ dBk x) ∧ ∀ m : Mem, m.w = w → m.H = AHeap.none → Rv m q.av v := by
 obtain ⟨n, avs, ⟨h1, h2⟩, h3⟩ := rs_struct_open elS_ok Tryz.underlying35 rs35 hz hv h
 simp only [RsL, RS.ok, cc95, cc99, cc66, b95, b99, b66] at h1
 obtain ⟨_, _, rfl, ⟨a, rfl, w1⟩, _, _, rfl, ⟨b, rfl, w2⟩, _, _, rfl, ⟨c, rfl, w3⟩, _, _, rfl, ⟨r1, rfl, w4, k1⟩, _, _, rfl, ⟨r2, rfl, w5, k2⟩, _, _, rfl, ⟨r3, rfl, w6, k3⟩, rfl⟩ := h1
 obtain ⟨l1, rfl, g1⟩ := rows_mapP (f := Vr.row) (p := Vr.ok R) fun r hm => vrO n r (k1 r hm)
 obtain ⟨l2, rfl, g2⟩ := rows_mapP (f := Ha.row) (p := Ha.ok R) fun r hm => haO n r (k2 r hm)
 obtain ⟨l3, rfl, g3⟩ := rows_mapP (f := Off.row) (p := Off.ok R) fun r hm => ofO n r (k3 r hm)
 exact ⟨⟨a, b, c, l1, l2, l3⟩, ⟨⟨w1, w2, w3, by simpa using w4, g1, by simpa using w5, g2, by simpa using w6, g3⟩, h2⟩, h3⟩
end
end Go.Aw.T.N
namespace Go.Proofs.YtjkbgcgljnldeaaGreatDoor
open Go.ChangeShapes Go.WideShapes Go.ChangeAt Go.RowKit
def laidL := Rows.serviceEqualRow.laid
theorem door_met (os : Os) (args : Array Value) : laidMetH Tryz.prog laidL ((World.laidAll Tryz.prog os laidL).forCall (fun _ _ => 0) ⟨#[], args, []⟩).memory := by
 rw [MakeChecks.laidMetH_plain _ _ _ (by kernel_rfl)]
 exact laidMet_laidAll _ (by kernel_rfl) (by kernel_rfl)
section
variable {H : Type} {enc : TypeId × Value → H}
theorem returns_laid_sized {a : Assume} {C : Checked} {os : Os} {f : FuncId} {fn : Func} {s : ChangeSpec} {conds : List PathCond} {apart fresh handsOn again : Bool} {X : World → Array Value → Prop}
  (hX : ∀ (w w' : World) (args : Array Value), w.heap = w'.heap → X w args → X w' args)
  (own : ownKnob C.prog.godebug = none) (started : os.Started) (noInit : C.prog.inits.idxOf? f = none) (hfn : C.prog.funcs[f]? = some fn)
  (witness : ∃ (w : World) (tape : Tape) (i : Input), w.os = os ∧ (w.forCall tape i).Shaped C.prog ∧ i.vars = [] ∧ Input.okWide C.prog (w.forCall tape i) .any w.heap.size f i ∧
   ((s.pre enc C.prog fn conds apart (w.forCall tape i).memory i.args ∧ X (w.forCall tape i).memory i.args) ∧ sizedMet enc C.prog fn (OpenSpec.ofChange s) apart (w.forCall tape i).memory i.args) ∧ a.holds C.prog (lone (Frame.enter C.prog f i.args .normal) [] (w.forCall tape i)))
  (contract : ∀ (W : World) (base : Nat) (args : Array Value) (ds gs : List (DataW H)) (before : List MemPlace),
   (∀ (j : Nat) t v, fn.params[j]? = some t → args[j]? = some v → Value.okWide C.prog W .any base t v) →
   DataW.Whole enc C.prog fn.params.toList s.vars apart W args.toList ds gs before →
   (DataW.weightsEach C.prog (fn.params.toList ++ s.plain.varTypes C.prog) (ds ++ gs)).all (· ≤ reachBytes) = true →
   X W args → W.ShapedOpen C.prog →
   Calls C.prog f args W fun e W' => ∃ v, e = .returned v ∧ s.post enc C.prog fn apart fresh handsOn again W args v W') :
  ReturnsInHanded a C os f .any (fun w args => (s.pre enc C.prog fn conds apart w args ∧ X w args) ∧ sizedMet enc C.prog fn (OpenSpec.ofChange s) apart w args) (s.post enc C.prog fn apart fresh handsOn again) := by
 refine returnsInHanded_of_calls own started noInit witness ?_
 intro w tape i _ hsh _ hok hpre _
 obtain ⟨_, _, _, fn', hfn', _, _, _, _, hval⟩ := hok
 obtain rfl : fn' = fn := Option.some.inj (hfn'.symm.trans hfn)
 obtain ⟨⟨⟨ds, gs, before, hw, _⟩, hx⟩, hz⟩ := hpre
 have hw' := DataW.Whole.of_heap (w' := w.forCall tape i) (by rfl) hw
 refine (contract (w.forCall tape i) w.heap.size i.args ds gs before hval hw' (hz.weights hw) (hX _ _ _ (by rfl) hx) hsh).mono fun e W' ⟨v, he, hp⟩ => ?_
 subst he
 exact ChangeSpec.post_blind hp
end
theorem gTab : Tryz.prog.globalNamed "internal/strconv.uint64pow10" = some 1 := by kernel_rfl
theorem gTabT : (Tryz.prog.globals[1]?).map (·.type) = some 261 := by kernel_rfl
theorem cells261 : Tryz.prog.cellsOf 261 = 20 := by kernel_rfl
theorem cells249 : Tryz.prog.cellsOf 249 = 1 := by kernel_rfl
theorem row1 : (((begin Tryz.prog (fun _ _ => 0) default).world.heap[1]?).bind Obj.row?).map (·.2) = some 261 := by kernel_rfl
theorem gsz : 1 < Tryz.prog.globals.size := of_decide_eq_true (by kernel_rfl)
theorem block_of {W : World} {g t : Nat} (hs : W.ShapedOpen Tryz.prog) (hg : g < Tryz.prog.globals.size) (h : (((begin Tryz.prog (fun _ _ => 0) default).world.heap[g]?).bind Obj.row?).map (·.2) = some t) {name : String} (hn : Tryz.prog.globalNamed name = some g) {cs : Array Value} (hv : W.var? Tryz.prog name = some cs) : W.heap[g]? = some (.cells cs t (0, 0)) := by
 obtain ⟨⟨zero, t'⟩, h1, h2⟩ := Option.map_eq_some_iff.1 h
 simp only at h2
 subst h2
 obtain ⟨cs', h3, _⟩ := hs.1 g zero t' hg h1
 unfold World.var? at hv
 rw [hn] at hv
 simp only [Option.bind_some, h3, Option.some.injEq] at hv
 rw [h3, hv]
theorem globW_of {W : World} (hs : W.ShapedOpen Tryz.prog) (h : laidMetH Tryz.prog laidL W) : Go.Aw.GlobW W := by
 rw [MakeChecks.laidMetH_plain _ _ _ (by kernel_rfl)] at h
 have h2 : laidMet Tryz.prog (("internal/strconv.uint64pow10", Lib.tabData .u64 Lib.pow10Tab) :: [("unicode/utf8.acceptRanges", Rows.laid_unicode_utf8_acceptRanges), ("unicode/utf8.first", Rows.laid_unicode_utf8_first)]) W := h.tail.tail
 have v3 : Lib.TabIs Tryz.prog W "internal/strconv.uint64pow10" .u64 Lib.pow10Tab := Lib.tabIs_of_head gTab gTabT Tryz.underlying261 Tryz.underlying249 cells249 cells261 h2
 have b3 := block_of hs gsz row1 gTab v3
 intro p hp
 simp only [Go.Aw.globs, List.mem_cons, List.not_mem_nil, or_false] at hp
 subst hp
 exact ⟨_, b3, 261, _, rfl⟩
end Go.Proofs.YtjkbgcgljnldeaaGreatDoor
