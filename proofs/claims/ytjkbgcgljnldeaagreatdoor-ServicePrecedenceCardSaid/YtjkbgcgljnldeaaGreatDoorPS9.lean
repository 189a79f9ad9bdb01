/- Part of a proof; own work. -/
import Derived.Test.YtjkbgcgljnldeaaGreatDoorPS8
namespace Go.Aw.T.N
open Go Go.Aw Go.Proofs Go.RowKit
set_option maxRecDepth 100000
attribute [local irreducible] Go.Aw.J Go.Aw.DJ Go.Aw.FC
attribute [local go_sem] wrap64 wrapu64 wrapu8 nnif decide_true decide_false dst gst gv_b gv_u jst jpop bdL bdB bdT bdO AV.bd tfL AV.tf o_mv o_pick o_nilck o_build o_load o_loadD o_loadR o_faddr o_field o_iaddr o_iaddrA o_idxA o_idxS o_bin o_binB o_eqA o_not o_pnil o_neg o_conv o_lenS o_len o_lenA o_minmax o_slS o_slV o_extract o_mkfn o_mkfnB o_convS o_convBS o_mkif o_isnil o_bslice o_box o_alloc o_store o_storeD o_bsliceO o_bsliceM cpv cev_t cev_c Env.get put_some' put_none' of_setB of_addB of_setT of_addT of_upd of_blk of_tok of_nb of_nt of_new rmB rmT rmBs rmTs renB renT apB apT lkB lkT getD_0 getD_s renL AV.ren crange_if cstB_if one_nilS one_pnil oc_nil oc_pnil cbin binInt shInt binStr binBool cbuild_nil cbuild_cons cidx_if AV.cells AV.okc AV.flat flatL flatR setRange minmaxAV AV.one AV.ofCells eqCells eqCell slRows initEnv initFrom cres cresv cresL cond_true cond_false beq_self_eq_true Bool.not_true Bool.not_false beq_true beq_false eq_self if_true Option.some.injEq List.length_cons List.length_nil List.take_succ_cons List.take_zero List.drop_succ_cons List.drop_zero List.set_cons_succ List.set_cons_zero List.nil_append List.cons_append List.append_nil and_self Option.map_some Option.map_none List.map_cons List.map_nil Bool.false_eq_true if_false Nat.zero_add Nat.add_zero true_and and_true Bool.and_true Bool.true_and List.getElem?_cons_zero List.getElem?_cons_succ Nat.zero_le Nat.le_refl List.all_cons List.all_nil List.flatten_cons List.flatten_nil crows crowsOk List.filter_cons List.filter_nil List.contains_cons List.contains_nil Bool.or_false Bool.or_true Bool.false_or Bool.true_or
set_option linter.unusedSimpArgs false
set_option linter.unusedVariables false
section
attribute [local go_sem] Ex.row_mk Sm.row_mk Ex.rowsF Sm.rowsF
end
section
theorem ha_row (h : Ha) : h.row = [.str h.msg, .str h.peer, .vs 1 (h.ps.map srow), .vs 11 (h.body.map Sm.row)] := by rw [Ha.row, Sm.rows_map]
theorem of_row (o : Off) : o.row = [.str o.msg, .str o.peer, .vs 6 (o.args.map Ex.row), .vs 6 (o.whn.map Ex.row)] := by rw [Off.row, Ex.rows_map, Ex.rows_map]
theorem ha_flat (l : List Ha) : flatR (l.map Ha.row) = true := flatR_map (fun h => by simp only [ha_row, flatL, AV.flat, srow_flat, Sm.rowsF, Bool.and_self]) l
theorem of_flat (l : List Off) : flatR (l.map Off.row) = true := flatR_map (fun o => by simp only [of_row, flatL, AV.flat, Ex.rowsF, Bool.and_self]) l
attribute [local go_sem] Ex.row_mk Sm.row_mk Ex.rowsF Sm.rowsF srow srow_flat ha_row of_row ha_flat of_flat
theorem q71 (e : Ex → Ex → Bool) (fe : Nat) (hfe : callable Tryz.prog fe = true) (a b : List Ex) (ha : a.length ≤ maxLen) (h : ∀ (i : Nat) x y, a[i]? = some x → b[i]? = some y → Pure Tryz.prog fe [.agg x.row, .agg y.row] (.bool (e x y))) : Pure Tryz.prog 71 [.vs 6 (a.map Ex.row), .vs 6 (b.map Ex.row), .fn fe []] (.bool (eqF e a b)) := by
 have hl' : a.length ≤ 9223372036854775807 := by unfold maxLen at ha; omega
 refine pure_of mo Tryz.func71 c71 (by simp only [flatL, AV.flat, Ex.rowsF, Bool.and_self]) rfl ?_
 unfold e71 r71
 simp(disch:=omega)only[go_sem,simprocAttr]
 by_cases hab : a.length = b.length
 rotate_left
 ·have d0 : ¬ (((a.map Ex.row).length : Int) = ((b.map Ex.row).length : Int)) := by simp only [List.length_map]; omega
  (have z1:=d0;refine GoG1 ?_;clear z1)
  first|refine D.R ?_|refine D.E ?_
  exact ⟨_, rfl, .wk (by rw [eqF_ne hab]; rfl) rfl, trivial, trivial⟩
 have d0 : ((a.map Ex.row).length : Int) = ((b.map Ex.row).length : Int) := by simp only [List.length_map]; omega
 (have z1:=d0;refine GoG1 ?_;clear z1)
 refine J.loopX (X := Nat) 0 (fun i => [(1, .vs 6 (b.map Ex.row)), (2, .fn fe []), (15, .vs 6 (a.map Ex.row)), (16, .int .i64 ((b.map Ex.row).length : Int)), (17, .int .i64 (i : Int))]) (fun _ => []) (fun _ => []) (fun i => i ≤ a.length ∧ eqF e (a.drop i) (b.drop i) = eqF e a b) (fun i => a.length - i) ⟨Nat.zero_le _, rfl⟩ ⟨rfl, rfl, rfl, rfl, rfl, trivial⟩ trivial trivial ?_
 rintro i ⟨hi, hz⟩
 try simp only at hi hz ⊢
 cases hv : a[i]? with
 | some v =>
  have hlt := (List.getElem?_eq_some_iff.1 hv).1
  obtain ⟨u, hu⟩ : ∃ u, b[i]? = some u := ⟨_, List.getElem?_eq_getElem (by omega)⟩
  have hp := h i v u hv hu
  rw [eqF_drop hv hu] at hz
  generalize hev : e v u = ev at hp hz
  obtain ⟨k, o, m, t, n, l⟩ := v
  obtain ⟨k2, o2, m2, t2, n2, l2⟩ := u
  have d1 : (i : Int) < ((b.map Ex.row).length : Int) := by rw [List.length_map]; omega
  simp(disch:=omega)only[go_sem,simprocAttr] at hp
  (have z1:=d1;refine GoG1 ?_;clear z1)
  refine D.V (hfe) (hp) ?_
  cases ev with
  | true =>
   refine GoG ?_
   refine J.roundC (i + 1) ⟨by omega, by rw [← hz]; rfl⟩ ⟨rfl, rfl, rfl, rfl, rfl, trivial⟩ trivial trivial rfl (by simp only [bdE, bdL, bdB, bdT, bdO, AV.bd, Own.frz, go_sem] <;> rfl) (by show a.length - (i + 1) < a.length - i; omega)
  | false =>
   refine GoG ?_
   first|refine D.R ?_|refine D.E ?_
   exact ⟨_, rfl, .wk (by rw [← hz]; rfl) rfl, trivial, trivial⟩
 | none =>
  have hge := List.getElem?_eq_none_iff.1 hv
  have e0 : i = a.length := by omega
  subst e0
  have d1 : ¬ (a.length : Int) < ((b.map Ex.row).length : Int) := by rw [List.length_map]; omega
  rw [eqF_end (Nat.le_refl _) (by omega)] at hz
  rw [← hz]
  (have z1:=d1;refine GoG1 ?_;clear z1)
  first|refine D.R ?_|refine D.E ?_
  exact ⟨_, rfl, .wk rfl rfl, trivial, trivial⟩
theorem q67 (e : Sm → Sm → Bool) (fe : Nat) (hfe : callable Tryz.prog fe = true) (a b : List Sm) (ha : a.length ≤ maxLen) (h : ∀ (i : Nat) x y, a[i]? = some x → b[i]? = some y → Pure Tryz.prog fe [.agg x.row, .agg y.row] (.bool (e x y))) : Pure Tryz.prog 67 [.vs 11 (a.map Sm.row), .vs 11 (b.map Sm.row), .fn fe []] (.bool (eqF e a b)) := by
 have hl' : a.length ≤ 9223372036854775807 := by unfold maxLen at ha; omega
 refine pure_of mo Tryz.func67 c67 (by simp only [flatL, AV.flat, Sm.rowsF, Bool.and_self]) rfl ?_
 unfold e67 r67
 simp(disch:=omega)only[go_sem,simprocAttr]
 by_cases hab : a.length = b.length
 rotate_left
 ·have d0 : ¬ (((a.map Sm.row).length : Int) = ((b.map Sm.row).length : Int)) := by simp only [List.length_map]; omega
  (have z1:=d0;refine GoG1 ?_;clear z1)
  first|refine D.R ?_|refine D.E ?_
  exact ⟨_, rfl, .wk (by rw [eqF_ne hab]; rfl) rfl, trivial, trivial⟩
 have d0 : ((a.map Sm.row).length : Int) = ((b.map Sm.row).length : Int) := by simp only [List.length_map]; omega
 (have z1:=d0;refine GoG1 ?_;clear z1)
 refine J.loopX (X := Nat) 0 (fun i => [(1, .vs 11 (b.map Sm.row)), (2, .fn fe []), (15, .vs 11 (a.map Sm.row)), (16, .int .i64 ((b.map Sm.row).length : Int)), (17, .int .i64 (i : Int))]) (fun _ => []) (fun _ => []) (fun i => i ≤ a.length ∧ eqF e (a.drop i) (b.drop i) = eqF e a b) (fun i => a.length - i) ⟨Nat.zero_le _, rfl⟩ ⟨rfl, rfl, rfl, rfl, rfl, trivial⟩ trivial trivial ?_
 rintro i ⟨hi, hz⟩
 try simp only at hi hz ⊢
 cases hv : a[i]? with
 | some v =>
  have hlt := (List.getElem?_eq_some_iff.1 hv).1
  obtain ⟨u, hu⟩ : ∃ u, b[i]? = some u := ⟨_, List.getElem?_eq_getElem (by omega)⟩
  have hp := h i v u hv hu
  rw [eqF_drop hv hu] at hz
  generalize hev : e v u = ev at hp hz
  obtain ⟨k, m, ⟨ka, oa, ma, ta, na, la⟩, t, xa, xb⟩ := v
  obtain ⟨k2, m2, ⟨kb, ob, mb, tb, nb, lb⟩, t2, ya, yb⟩ := u
  have d1 : (i : Int) < ((b.map Sm.row).length : Int) := by rw [List.length_map]; omega
  simp(disch:=omega)only[go_sem,simprocAttr] at hp
  (have z1:=d1;refine GoG1 ?_;clear z1)
  refine D.V (hfe) (hp) ?_
  cases ev with
  | true =>
   refine GoG ?_
   refine J.roundC (i + 1) ⟨by omega, by rw [← hz]; rfl⟩ ⟨rfl, rfl, rfl, rfl, rfl, trivial⟩ trivial trivial rfl (by simp only [bdE, bdL, bdB, bdT, bdO, AV.bd, Own.frz, go_sem] <;> rfl) (by show a.length - (i + 1) < a.length - i; omega)
  | false =>
   refine GoG ?_
   first|refine D.R ?_|refine D.E ?_
   exact ⟨_, rfl, .wk (by rw [← hz]; rfl) rfl, trivial, trivial⟩
 | none =>
  have hge := List.getElem?_eq_none_iff.1 hv
  have e0 : i = a.length := by omega
  subst e0
  have d1 : ¬ (a.length : Int) < ((b.map Sm.row).length : Int) := by rw [List.length_map]; omega
  rw [eqF_end (Nat.le_refl _) (by omega)] at hz
  rw [← hz]
  (have z1:=d1;refine GoG1 ?_;clear z1)
  first|refine D.R ?_|refine D.E ?_
  exact ⟨_, rfl, .wk rfl rfl, trivial, trivial⟩
theorem q64 (e : Ha → Ha → Bool) (fe : Nat) (hfe : callable Tryz.prog fe = true) (a b : List Ha) (ha : a.length ≤ maxLen) (h : ∀ (i : Nat) x y, a[i]? = some x → b[i]? = some y → Pure Tryz.prog fe [.agg x.row, .agg y.row] (.bool (e x y))) : Pure Tryz.prog 64 [.vs 4 (a.map Ha.row), .vs 4 (b.map Ha.row), .fn fe []] (.bool (eqF e a b)) := by
 have hl' : a.length ≤ 9223372036854775807 := by unfold maxLen at ha; omega
 refine pure_of mo Tryz.func64 c64 (by simp only [flatL, AV.flat, ha_flat, Bool.and_self]) rfl ?_
 unfold e64 r64
 simp(disch:=omega)only[go_sem,simprocAttr]
 by_cases hab : a.length = b.length
 rotate_left
 ·have d0 : ¬ (((a.map Ha.row).length : Int) = ((b.map Ha.row).length : Int)) := by simp only [List.length_map]; omega
  (have z1:=d0;refine GoG1 ?_;clear z1)
  first|refine D.R ?_|refine D.E ?_
  exact ⟨_, rfl, .wk (by rw [eqF_ne hab]; rfl) rfl, trivial, trivial⟩
 have d0 : ((a.map Ha.row).length : Int) = ((b.map Ha.row).length : Int) := by simp only [List.length_map]; omega
 (have z1:=d0;refine GoG1 ?_;clear z1)
 refine J.loopX (X := Nat) 0 (fun i => [(1, .vs 4 (b.map Ha.row)), (2, .fn fe []), (15, .vs 4 (a.map Ha.row)), (16, .int .i64 ((b.map Ha.row).length : Int)), (17, .int .i64 (i : Int))]) (fun _ => []) (fun _ => []) (fun i => i ≤ a.length ∧ eqF e (a.drop i) (b.drop i) = eqF e a b) (fun i => a.length - i) ⟨Nat.zero_le _, rfl⟩ ⟨rfl, rfl, rfl, rfl, rfl, trivial⟩ trivial trivial ?_
 rintro i ⟨hi, hz⟩
 try simp only at hi hz ⊢
 cases hv : a[i]? with
 | some v =>
  have hlt := (List.getElem?_eq_some_iff.1 hv).1
  obtain ⟨u, hu⟩ : ∃ u, b[i]? = some u := ⟨_, List.getElem?_eq_getElem (by omega)⟩
  have hp := h i v u hv hu
  rw [eqF_drop hv hu] at hz
  generalize hev : e v u = ev at hp hz
  have _ := hlt
  have d1 : (i : Int) < ((b.map Ha.row).length : Int) := by rw [List.length_map]; omega
  simp(disch:=omega)only[go_sem,simprocAttr] at hp
  (have z1:=d1;refine GoG1 ?_;clear z1)
  refine D.V (hfe) (hp) ?_
  cases ev with
  | true =>
   refine GoG ?_
   refine J.roundC (i + 1) ⟨by omega, by rw [← hz]; rfl⟩ ⟨rfl, rfl, rfl, rfl, rfl, trivial⟩ trivial trivial rfl (by simp only [bdE, bdL, bdB, bdT, bdO, AV.bd, Own.frz, go_sem] <;> rfl) (by show a.length - (i + 1) < a.length - i; omega)
  | false =>
   refine GoG ?_
   first|refine D.R ?_|refine D.E ?_
   exact ⟨_, rfl, .wk (by rw [← hz]; rfl) rfl, trivial, trivial⟩
 | none =>
  have hge := List.getElem?_eq_none_iff.1 hv
  have e0 : i = a.length := by omega
  subst e0
  have d1 : ¬ (a.length : Int) < ((b.map Ha.row).length : Int) := by rw [List.length_map]; omega
  rw [eqF_end (Nat.le_refl _) (by omega)] at hz
  rw [← hz]
  (have z1:=d1;refine GoG1 ?_;clear z1)
  first|refine D.R ?_|refine D.E ?_
  exact ⟨_, rfl, .wk rfl rfl, trivial, trivial⟩
theorem q69 (e : Off → Off → Bool) (fe : Nat) (hfe : callable Tryz.prog fe = true) (a b : List Off) (ha : a.length ≤ maxLen) (h : ∀ (i : Nat) x y, a[i]? = some x → b[i]? = some y → Pure Tryz.prog fe [.agg x.row, .agg y.row] (.bool (e x y))) : Pure Tryz.prog 69 [.vs 4 (a.map Off.row), .vs 4 (b.map Off.row), .fn fe []] (.bool (eqF e a b)) := by
 have hl' : a.length ≤ 9223372036854775807 := by unfold maxLen at ha; omega
 refine pure_of mo Tryz.func69 c69 (by simp only [flatL, AV.flat, of_flat, Bool.and_self]) rfl ?_
 unfold e69 r69
 simp(disch:=omega)only[go_sem,simprocAttr]
 by_cases hab : a.length = b.length
 rotate_left
 ·have d0 : ¬ (((a.map Off.row).length : Int) = ((b.map Off.row).length : Int)) := by simp only [List.length_map]; omega
  (have z1:=d0;refine GoG1 ?_;clear z1)
  first|refine D.R ?_|refine D.E ?_
  exact ⟨_, rfl, .wk (by rw [eqF_ne hab]; rfl) rfl, trivial, trivial⟩
 have d0 : ((a.map Off.row).length : Int) = ((b.map Off.row).length : Int) := by simp only [List.length_map]; omega
 (have z1:=d0;refine GoG1 ?_;clear z1)
 refine J.loopX (X := Nat) 0 (fun i => [(1, .vs 4 (b.map Off.row)), (2, .fn fe []), (15, .vs 4 (a.map Off.row)), (16, .int .i64 ((b.map Off.row).length : Int)), (17, .int .i64 (i : Int))]) (fun _ => []) (fun _ => []) (fun i => i ≤ a.length ∧ eqF e (a.drop i) (b.drop i) = eqF e a b) (fun i => a.length - i) ⟨Nat.zero_le _, rfl⟩ ⟨rfl, rfl, rfl, rfl, rfl, trivial⟩ trivial trivial ?_
 rintro i ⟨hi, hz⟩
 try simp only at hi hz ⊢
 cases hv : a[i]? with
 | some v =>
  have hlt := (List.getElem?_eq_some_iff.1 hv).1
  obtain ⟨u, hu⟩ : ∃ u, b[i]? = some u := ⟨_, List.getElem?_eq_getElem (by omega)⟩
  have hp := h i v u hv hu
  rw [eqF_drop hv hu] at hz
  generalize hev : e v u = ev at hp hz
  have _ := hlt
  have d1 : (i : Int) < ((b.map Off.row).length : Int) := by rw [List.length_map]; omega
  simp(disch:=omega)only[go_sem,simprocAttr] at hp
  (have z1:=d1;refine GoG1 ?_;clear z1)
  refine D.V (hfe) (hp) ?_
  cases ev with
  | true =>
   refine GoG ?_
   refine J.roundC (i + 1) ⟨by omega, by rw [← hz]; rfl⟩ ⟨rfl, rfl, rfl, rfl, rfl, trivial⟩ trivial trivial rfl (by simp only [bdE, bdL, bdB, bdT, bdO, AV.bd, Own.frz, go_sem] <;> rfl) (by show a.length - (i + 1) < a.length - i; omega)
  | false =>
   refine GoG ?_
   first|refine D.R ?_|refine D.E ?_
   exact ⟨_, rfl, .wk (by rw [← hz]; rfl) rfl, trivial, trivial⟩
 | none =>
  have hge := List.getElem?_eq_none_iff.1 hv
  have e0 : i = a.length := by omega
  subst e0
  have d1 : ¬ (a.length : Int) < ((b.map Off.row).length : Int) := by rw [List.length_map]; omega
  rw [eqF_end (Nat.le_refl _) (by omega)] at hz
  rw [← hz]
  (have z1:=d1;refine GoG1 ?_;clear z1)
  first|refine D.R ?_|refine D.E ?_
  exact ⟨_, rfl, .wk rfl rfl, trivial, trivial⟩
end
section
attribute [local go_sem] Ex.row_mk Sm.row_mk Ex.rowsF Sm.rowsF srow srow_flat ha_row of_row ha_flat of_flat
theorem len_of {R n b : Nat} (hR : R ≤ 140737488355328) (hb : 1 ≤ b) (h : n * b ≤ R) : n ≤ maxLen := by
 have : n * 1 ≤ n * b := Nat.mul_le_mul_left n hb
 unfold maxLen
 omega
theorem q72 {R : Nat} (hR : R ≤ 140737488355328) : ∀ (N : Nat) (x y : Ex), x.amt ≤ N → x.ok R → Pure Tryz.prog 72 [.agg x.row, .agg y.row] (.bool (exSame x y))
 | N, .mk k o m t n l, .mk k2 o2 m2 t2 n2 l2, hN, hx => by
  have e71 : Pure Tryz.prog 71 [.vs 6 (l.map Ex.row), .vs 6 (l2.map Ex.row), .fn 72 []] (.bool (exSames l l2)) := by
   rw [exSames_eq]
   refine q71 exSame 72 (by kernel_rfl) l l2 (len_of hR (by decide) hx.2.2.2.2.2.1) fun i u v hu hv => ?_
   have hm := Ex.mem_amt hu
   match N, hN with
   | 0, hN => simp only [Ex.amt] at hN; omega
   | N + 1, hN => simp only [Ex.amt] at hN; exact q72 hR N u v (by omega) (Ex.oks_get hx.2.2.2.2.2.2 hu)
  refine pure_of mo Tryz.func72 c72 (by simp only [Ex.row_mk, flatL, AV.flat, Ex.rowsF, Bool.and_self]) rfl ?_
  unfold e72 r72
  simp(disch:=omega)only[go_sem,simprocAttr]
  (repeat' first|refine D.S ?_|refine D.JJ true true ?_|refine DJ.nil ?_|refine J.reg0 ?_|refine D.W ?_|refine D.Z ?_|refine D.G ?_ ?_|refine D.X ‹_› ?_|refine D.XO ‹_› ?_|refine D.XS ‹_› ?_|intro h)
  ·refine D.P (e71) ?_
   refine GoG ?_
   first|refine D.R ?_|refine D.E ?_
   refine ⟨_, rfl, .wk ?_ rfl, trivial, trivial⟩
   simp_all [exSame, AV.wk]
  all_goals
   refine D.R ?_
   refine ⟨_, rfl, .wk ?_ rfl, trivial, trivial⟩
   simp_all [exSame, AV.wk]
end
section
attribute [local go_sem] Ex.row_mk Sm.row_mk Ex.rowsF Sm.rowsF srow srow_flat ha_row of_row ha_flat of_flat
theorem q66 (a b : List (List UInt8)) (ha : a.length ≤ maxLen) : Pure Tryz.prog 66 [.vs 1 (a.map srow), .vs 1 (b.map srow)] (.bool (decide (a = b))) := by
 have hl' : a.length ≤ 9223372036854775807 := by unfold maxLen at ha; omega
 rw [← eqF_dec]
 refine pure_of mo Tryz.func66 c66 (by simp only [flatL, AV.flat, srow_flat, Bool.and_self]) rfl ?_
 unfold e66 r66
 simp(disch:=omega)only[go_sem,simprocAttr]
 by_cases hab : a.length = b.length
 rotate_left
 ·have d0 : ¬ (((a.map srow).length : Int) = ((b.map srow).length : Int)) := by simp only [List.length_map]; omega
  (have z1:=d0;refine GoG1 ?_;clear z1)
  first|refine D.R ?_|refine D.E ?_
  exact ⟨_, rfl, .wk (by rw [eqF_ne hab]; rfl) rfl, trivial, trivial⟩
 have d0 : ((a.map srow).length : Int) = ((b.map srow).length : Int) := by simp only [List.length_map]; omega
 (have z1:=d0;refine GoG1 ?_;clear z1)
 refine J.loopX (X := Nat) 0 (fun i => [(0, .vs 1 (a.map srow)), (1, .vs 1 (b.map srow)), (12, .int .i64 ((b.map srow).length : Int)), (13, .int .i64 (i : Int))]) (fun _ => []) (fun _ => []) (fun i => i ≤ a.length ∧ eqF (fun x y => decide (x = y)) (a.drop i) (b.drop i) = eqF (fun x y => decide (x = y)) a b) (fun i => a.length - i) ⟨Nat.zero_le _, rfl⟩ ⟨rfl, rfl, rfl, rfl, trivial⟩ trivial trivial ?_
 rintro i ⟨hi, hz⟩
 try simp only at hi hz ⊢
 cases hv : a[i]? with
 | some v =>
  have hlt := (List.getElem?_eq_some_iff.1 hv).1
  obtain ⟨u, hu⟩ : ∃ u, b[i]? = some u := ⟨_, List.getElem?_eq_getElem (by omega)⟩
  rw [eqF_drop hv hu] at hz
  have d1 : (i : Int) < ((b.map srow).length : Int) := by rw [List.length_map]; omega
  have d2 : (i : Int) < ((a.map srow).length : Int) := by rw [List.length_map]; omega
  (repeat' first|(apply DJ.s rfl;(· simp(disch:=omega)only[go_sem,simprocAttr,d1, d2]<;>with_reducible rfl))|(apply J.s true true;(· simp(disch:=omega)only[go_sem,simprocAttr,d1, d2]<;>with_reducible rfl))|apply DJ.nil|(refine J.reg0 ?_)|(apply DJ.gw;(· simp(disch:=omega)only[go_sem,simprocAttr,d1, d2]<;>with_reducible rfl))|(apply DJ.gz;(· rfl);(· simp(disch:=omega)only[go_sem,simprocAttr,d1, d2]<;>with_reducible rfl))|(apply DJ.gs;(· simp(disch:=omega)only[go_sem,simprocAttr,d1, d2]<;>with_reducible rfl))|((first|apply DJ.ixm|apply DJ.ixom|apply DJ.ixsm);(· simp(disch:=omega)only[go_sem,simprocAttr,d1, d2]<;>with_reducible rfl);(· simp(disch:=omega)only[go_sem,simprocAttr,d1, d2]<;>with_reducible rfl);(· assumption);(· omega))|intro h|(apply J.cond;(· simp(disch:=omega)only[go_sem,simprocAttr,d1, d2]<;>with_reducible rfl)))
  ·first|refine D.R ?_|refine D.E ?_
   refine ⟨_, rfl, .wk ?_ rfl, trivial, trivial⟩
   rw [← hz]
   have hne : ¬ v = u := by simp at h; exact h
   simp [hne, AV.wk]
  ·refine J.roundX (i + 1) ⟨by omega, ?_⟩ ⟨rfl, rfl, rfl, rfl, trivial⟩ trivial trivial rfl rfl (by show a.length - (i + 1) < a.length - i; omega)
   rw [← hz]
   have heq : v = u := by simp at h; exact h
   simp [heq]
 | none =>
  have hge := List.getElem?_eq_none_iff.1 hv
  have e0 : i = a.length := by omega
  subst e0
  have d1 : ¬ (a.length : Int) < ((b.map srow).length : Int) := by rw [List.length_map]; omega
  have d2 : ¬ (a.length : Int) < ((a.map srow).length : Int) := by rw [List.length_map]; omega
  rw [eqF_end (Nat.le_refl _) (by omega)] at hz
  rw [← hz]
  (have z1:=d1;have z2:=d2;refine GoG2 ?_;clear z1 z2)
  first|refine D.R ?_|refine D.E ?_
  exact ⟨_, rfl, .wk rfl rfl, trivial, trivial⟩
theorem vr_flat (l : List Vr) : flatR (l.map Vr.row) = true := flatR_map (fun _ => rfl) l
attribute [local go_sem] Vr.row vr_flat
theorem q63 (a b : List Vr) (ha : a.length ≤ maxLen) : Pure Tryz.prog 63 [.vs 7 (a.map Vr.row), .vs 7 (b.map Vr.row)] (.bool (decide (a = b))) := by
 have hl' : a.length ≤ 9223372036854775807 := by unfold maxLen at ha; omega
 rw [← eqF_dec]
 refine pure_of mo Tryz.func63 c63 (by simp only [flatL, AV.flat, vr_flat, Bool.and_self]) rfl ?_
 unfold e63 r63
 simp(disch:=omega)only[go_sem,simprocAttr]
 by_cases hab : a.length = b.length
 rotate_left
 ·have d0 : ¬ (((a.map Vr.row).length : Int) = ((b.map Vr.row).length : Int)) := by simp only [List.length_map]; omega
  (have z1:=d0;refine GoG1 ?_;clear z1)
  first|refine D.R ?_|refine D.E ?_
  exact ⟨_, rfl, .wk (by rw [eqF_ne hab]; rfl) rfl, trivial, trivial⟩
 have d0 : ((a.map Vr.row).length : Int) = ((b.map Vr.row).length : Int) := by simp only [List.length_map]; omega
 (have z1:=d0;refine GoG1 ?_;clear z1)
 refine J.loopX (X := Nat) 0 (fun i => [(0, .vs 7 (a.map Vr.row)), (1, .vs 7 (b.map Vr.row)), (12, .int .i64 ((b.map Vr.row).length : Int)), (13, .int .i64 (i : Int))]) (fun _ => []) (fun _ => []) (fun i => i ≤ a.length ∧ eqF (fun x y => decide (x = y)) (a.drop i) (b.drop i) = eqF (fun x y => decide (x = y)) a b) (fun i => a.length - i) ⟨Nat.zero_le _, rfl⟩ ⟨rfl, rfl, rfl, rfl, trivial⟩ trivial trivial ?_
 rintro i ⟨hi, hz⟩
 try simp only at hi hz ⊢
 cases hv : a[i]? with
 | some v =>
  have hlt := (List.getElem?_eq_some_iff.1 hv).1
  obtain ⟨u, hu⟩ : ∃ u, b[i]? = some u := ⟨_, List.getElem?_eq_getElem (by omega)⟩
  rw [eqF_drop hv hu] at hz
  have d1 : (i : Int) < ((b.map Vr.row).length : Int) := by rw [List.length_map]; omega
  have d2 : (i : Int) < ((a.map Vr.row).length : Int) := by rw [List.length_map]; omega
  (repeat' first|(apply DJ.s rfl;(· simp(disch:=omega)only[go_sem,simprocAttr,d1, d2]<;>with_reducible rfl))|(apply J.s true true;(· simp(disch:=omega)only[go_sem,simprocAttr,d1, d2]<;>with_reducible rfl))|apply DJ.nil|(refine J.reg0 ?_)|(apply DJ.gw;(· simp(disch:=omega)only[go_sem,simprocAttr,d1, d2]<;>with_reducible rfl))|(apply DJ.gz;(· rfl);(· simp(disch:=omega)only[go_sem,simprocAttr,d1, d2]<;>with_reducible rfl))|(apply DJ.gs;(· simp(disch:=omega)only[go_sem,simprocAttr,d1, d2]<;>with_reducible rfl))|((first|apply DJ.ixm|apply DJ.ixom|apply DJ.ixsm);(· simp(disch:=omega)only[go_sem,simprocAttr,d1, d2]<;>with_reducible rfl);(· simp(disch:=omega)only[go_sem,simprocAttr,d1, d2]<;>with_reducible rfl);(· assumption);(· omega))|intro h|(apply J.cond;(· simp(disch:=omega)only[go_sem,simprocAttr,d1, d2]<;>with_reducible rfl)))
  ·first|refine D.R ?_|refine D.E ?_
   refine ⟨_, rfl, .wk ?_ rfl, trivial, trivial⟩
   rw [← hz]
   have hne : ¬ v = u := by rintro rfl; simp at h
   simp [hne, AV.wk]
  ·refine J.roundX (i + 1) ⟨by omega, ?_⟩ ⟨rfl, rfl, rfl, rfl, trivial⟩ trivial trivial rfl rfl (by show a.length - (i + 1) < a.length - i; omega)
   rw [← hz]
   have heq : v = u := by obtain ⟨_, _, _, _, _, _, _⟩ := v; obtain ⟨_, _, _, _, _, _, _⟩ := u; simp_all
   simp [heq]
 | none =>
  have hge := List.getElem?_eq_none_iff.1 hv
  have e0 : i = a.length := by omega
  subst e0
  have d1 : ¬ (a.length : Int) < ((b.map Vr.row).length : Int) := by rw [List.length_map]; omega
  have d2 : ¬ (a.length : Int) < ((a.map Vr.row).length : Int) := by rw [List.length_map]; omega
  rw [eqF_end (Nat.le_refl _) (by omega)] at hz
  rw [← hz]
  (have z1:=d1;have z2:=d2;refine GoG2 ?_;clear z1 z2)
  first|refine D.R ?_|refine D.E ?_
  exact ⟨_, rfl, .wk rfl rfl, trivial, trivial⟩
end
section
attribute [local go_sem] psC Tk.row List.tail_cons List.tail_nil nzP gzP nzQ gzQ tk_flat gU gS gI gTk Ex.row_mk Ex.rowsF Ex.row_flat gEx Sm.row_mk Sm.rowsF Sm.row_flat gSm gSs srow srow_flat gVr gHa gOf ha_row of_row ha_flat of_flat Vr.row vr_flat
def gSv : Sv → AV := Sv.av
theorem fSv : FlatF gSv := fun x => by simp only [gSv, Sv.av, Sv.cells, AV.flat, flatL, vr_flat, ha_flat, of_flat, Bool.and_self]
abbrev z6s : List AV := [.str [], .str [], .str [], .nilS, .nilS, .nilS]
set_option maxHeartbeats 8000000 in
theorem q32 (n : Nat) (l : List Tk) (en : Int) (hl : l.length ≤ 1000000) : pSv en n l ≠ .out → FC Tryz.prog 32 [.ptr 0 0] (ps l en) (RP gSv en (pSv en n l)) := by
 intro hno
 refine FC.rpw fSv ?_
 obtain ⟨R, hR⟩ : ∃ R, R = pSv en n l := ⟨_, rfl⟩
 rw [← hR] at hno ⊢
 simp only [pSv] at hR
 refine FC.intro mo Tryz.func32 c32 ?_
 unfold e32 r32
 simp(disch:=omega)only[go_sem,simprocAttr]
 refine GoG ?_
 refine D.Q fU (q85 _ l en) hR hno fun _ r h0 hR => ?_
 have b1 := pExp_len h0
 clear h0
 refine GoG ?_
 refine D.Q fS (q86 r en) hR hno fun a r h0 hR => ?_
 have b2 := pWord_len h0
 clear h0
 refine GoG ?_
 refine D.Q fU (q85 _ r en) hR hno fun _ r h0 hR => ?_
 have b3 := pExp_len h0
 clear h0
 refine GoG ?_
 refine D.Q fS (q86 r en) hR hno fun b r h0 hR => ?_
 have b4 := pWord_len h0
 clear h0
 refine GoG ?_
 refine D.Q fU (q85 _ r en) hR hno fun _ r h0 hR => ?_
 have b5 := pExp_len h0
 clear h0
 refine GoG ?_
 refine D.Q fS (q86 r en) hR hno fun c r h0 hR => ?_
 have b6 := pWord_len h0
 clear h0
 refine GoG ?_
 refine D.Q fU (q85 _ r en) hR hno fun _ r h0 hR => ?_
 have b7 := pExp_len h0
 clear h0
 refine GoD ?_
 refine J.ghB 2 3 7 106 rfl rfl (by decide) ?_
 simp(disch:=omega)only[go_sem,simprocAttr]
 refine J.ghB 2 4 4 109 rfl rfl (by decide) ?_
 simp(disch:=omega)only[go_sem,simprocAttr]
 refine J.ghB 2 5 4 74 rfl rfl (by decide) ?_
 simp(disch:=omega)only[go_sem,simprocAttr]
 refine GoG ?_
 obtain ⟨G, hG, hR⟩ := bind_abs hR
 refine J.loopX (X := List Vr × List Tk × Nat) ([], r, n) (fun x => [(0, .ptr 0 0), (2, .ptr 1 0), (3, .ptr 2 0)]) (fun x => [(0, 83, psC x.2.1 en), (1, 27, z6s), (2, 27, [.str a, .str b, .str c, .own 0 7 (x.1.map Vr.row), .own 1 4 (([] : List Ha).map Ha.row), .own 2 4 (([] : List Off).map Off.row)])]) (fun x => [(0, .frz 106 7 (x.1.map Vr.row).length), (1, .frz 109 4 (([] : List Ha).map Ha.row).length), (2, .frz 74 4 (([] : List Off).map Off.row).length)]) (fun x => x.2.2 ≤ n ∧ x.1.length + x.2.1.length ≤ 1000000 ∧ R = (pVars en n x.2.2 x.1 x.2.1).bind G) (fun x => x.2.2) ⟨Nat.le_refl _, by simp only [List.length_nil]; omega, hR⟩ ⟨rfl, rfl, rfl, trivial⟩ ⟨rfl, rfl, rfl, trivial⟩ ⟨rfl, rfl, rfl, trivial⟩ ?_
 rintro ⟨vs, l, k⟩ ⟨hk, hb, hR⟩
 simp only at hk hb hR ⊢
 rcases k with _ | k
 ·exact absurd hR hno
 simp only [pVars] at hR
 refine GoG ?_
 refine D.A (q87 _ l en) (fun h => ?_) (fun h => ?_)
 ·rw [if_pos h] at hR
  simp only [bind_assoc] at hR
  have b4 := isT_len h
  refine GoG ?_
  refine D.QD ⟨[], 0, 0, 0, 0, 0, []⟩ fVr (q88 l.tail en) hR hno (fun v r h0 hR => ?_) ?_ ?_
  rotate_left
  ·refine GoG ?_
   refine D.ap ?_
   refine GoG ?_
   exact J.dead 3 0 rfl
  ·intro s hs
   simp only [List.mem_singleton] at hs
   subst hs
   exact ⟨1, _, _, rfl, rfl, by simp only [tfL, AV.tf, vr_flat, ha_flat, of_flat, flatR, Bool.and_self]⟩
  have b5 := pVar_len h0
  clear h0
  refine GoG ?_
  refine D.ap ?_
  refine GoG ?_
  refine J.roundX (vs ++ [v], r, k) ⟨by simp only; omega, by simp only [List.length_append, List.length_cons, List.length_nil]; omega, hR⟩ ⟨rfl, rfl, rfl, trivial⟩ ⟨rfl, rfl, by simp only [List.map_append, List.map_cons, List.map_nil, Vr.row]; rfl, trivial⟩ ⟨by simp only [List.map_append, List.map_cons, List.map_nil, List.length_append]; rfl, rfl, rfl, trivial⟩ rfl rfl (by show k < k + 1; omega)
 rw [if_neg (by rw [h]; decide)] at hR
 simp only [okB] at hR
 rw [hG] at hR
 clear h
 refine GoG ?_
 obtain ⟨G2, hG2, hR⟩ := bind_abs hR
 refine J.loopX (X := List Ha × List Off × List Tk × Nat) ([], [], l, n) (fun x => [(0, .ptr 0 0), (2, .ptr 1 0), (3, .ptr 2 0)]) (fun x => [(0, 83, psC x.2.2.1 en), (1, 27, z6s), (2, 27, [.str a, .str b, .str c, .own 0 7 (vs.map Vr.row), .own 1 4 (x.1.map Ha.row), .own 2 4 (x.2.1.map Off.row)])]) (fun x => [(0, .frz 106 7 (vs.map Vr.row).length), (1, .frz 109 4 (x.1.map Ha.row).length), (2, .frz 74 4 (x.2.1.map Off.row).length)]) (fun x => x.2.2.2 ≤ n ∧ x.1.length + x.2.1.length + x.2.2.1.length ≤ 1000000 ∧ R = (pParts en n x.2.2.2 x.1 x.2.1 x.2.2.1).bind G2) (fun x => x.2.2.2) ⟨Nat.le_refl _, by simp only [List.length_nil]; omega, hR⟩ ⟨rfl, rfl, rfl, trivial⟩ ⟨rfl, rfl, rfl, trivial⟩ ⟨rfl, rfl, rfl, trivial⟩ ?_
 rintro ⟨hs, os, l, k⟩ ⟨hk, hb, hR⟩
 simp only at hk hb hR ⊢
 rcases k with _ | k
 ·exact absurd hR hno
 simp only [pParts] at hR
 refine GoG ?_
 refine D.A (q87 _ l en) (fun h => ?_) (fun h => ?_)
 ·rw [if_pos h] at hR
  simp only [okB] at hR
  rw [hG2] at hR
  generalize l.tail = r at hR
  cases r with
  | cons t r =>
   simp only at hR
   refine GoG ?_
   exact D.FP ⟨[0], []⟩ (q91 (t :: r) en 3) fun _ => by rw [hR]; exact rfl
  | nil =>
   simp only at hR
   refine GoG ?_
   first|refine D.R ?_|refine D.E ?_
   rw [hR]
   exact ⟨_, rfl, .agg (.cons (.wk rfl rfl) (.cons (.wk rfl rfl) (.cons (.wk rfl rfl) (.cons (.wk rfl (by simp only [AV.flat, vr_flat])) (.cons (.wk rfl (by simp only [AV.flat, ha_flat])) (.cons (.wk rfl (by simp only [AV.flat, of_flat])) .nil)))))), ⟨rfl, trivial⟩, trivial⟩
 rw [if_neg (by rw [h]; decide)] at hR
 refine GoG ?_
 refine D.A (q87 _ l en) (fun h => ?_) (fun h => ?_)
 ·rw [if_pos h] at hR
  simp only [bind_assoc] at hR
  have b4 := isT_len h
  refine GoG ?_
  refine D.QD ⟨[], [], [], []⟩ fHa (q89 n l.tail en (by omega)) hR hno (fun v r h0 hR => ?_) ?_ ?_
  rotate_left
  ·refine GoG ?_
   refine D.ap ?_
   refine GoG ?_
   exact J.dead 3 0 rfl
  ·intro s hs
   simp only [List.mem_singleton] at hs
   subst hs
   exact ⟨1, _, _, rfl, rfl, by simp only [tfL, AV.tf, vr_flat, ha_flat, of_flat, flatR, Bool.and_self]⟩
  have b5 := pHan_len h0
  clear h0
  refine GoG ?_
  refine D.ap ?_
  refine GoG ?_
  refine J.roundX (hs ++ [v], os, r, k) ⟨by simp only; omega, by simp only [List.length_append, List.length_cons, List.length_nil]; omega, hR⟩ ⟨rfl, rfl, rfl, trivial⟩ ⟨rfl, rfl, by simp only [List.map_append, List.map_cons, List.map_nil, ha_row]; rfl, trivial⟩ ⟨rfl, by simp only [List.map_append, List.map_cons, List.map_nil, List.length_append]; rfl, rfl, trivial⟩ rfl rfl (by show k < k + 1; omega)
 rw [if_neg (by rw [h]; decide)] at hR
 simp only [bind_assoc] at hR
 refine GoG ?_
 refine D.Q fU (q85 _ l en) hR hno fun _ r h0 hR => ?_
 have b4 := pExp_len h0
 clear h0
 refine GoG ?_
 refine D.QD ⟨[], [], [], []⟩ fOf (q90 n r en (by omega)) hR hno (fun v r h0 hR => ?_) ?_ ?_
 rotate_left
 ·refine GoG ?_
  refine D.ap ?_
  refine GoG ?_
  exact J.dead 3 0 rfl
 ·intro s hs
  simp only [List.mem_singleton] at hs
  subst hs
  exact ⟨1, _, _, rfl, rfl, by simp only [tfL, AV.tf, vr_flat, ha_flat, of_flat, flatR, Bool.and_self]⟩
 have b5 := pOff_len h0
 clear h0
 refine GoG ?_
 refine D.ap ?_
 refine GoG ?_
 refine J.roundX (hs, os ++ [v], r, k) ⟨by simp only; omega, by simp only [List.length_append, List.length_cons, List.length_nil]; omega, hR⟩ ⟨rfl, rfl, rfl, trivial⟩ ⟨rfl, rfl, by simp only [List.map_append, List.map_cons, List.map_nil, of_row]; rfl, trivial⟩ ⟨rfl, rfl, by simp only [List.map_append, List.map_cons, List.map_nil, List.length_append]; rfl, trivial⟩ rfl rfl (by show k < k + 1; omega)
end
end Go.Aw.T.N
