/- Part of a proof; own work. -/
import Derived.Lib.ItoaNum
import Derived.Lib.Strings
import Derived.Lib.Join
import Derived.Below
import Derived.Lib.OthersKept
import Derived.Deep.LoopGhost
import Derived.Laws.RangeAny
import Derived.Lib.ItoaLen
import Derived.Test.YtjkbgcgljnldeaaGreatDoorPS10
namespace Go.Aw.T.N
open Go Go.Aw Go.Proofs Go.RowKit
set_option maxRecDepth 100000
attribute [local irreducible] Go.Aw.J Go.Aw.DJ Go.Aw.FC
attribute [local go_sem] wrap64 wrapu64 wrapu8 nnif decide_true decide_false dst gst gv_b gv_u jst jpop bdL bdB bdT bdO AV.bd tfL AV.tf o_mv o_pick o_nilck o_build o_load o_loadD o_loadR o_faddr o_field o_iaddr o_iaddrA o_idxA o_idxS o_bin o_binB o_eqA o_not o_pnil o_neg o_conv o_lenS o_len o_lenA o_minmax o_slS o_slV o_extract o_mkfn o_mkfnB o_convS o_convBS o_mkif o_isnil o_bslice o_box o_alloc o_store o_storeD o_bsliceO o_bsliceM cpv cev_t cev_c Env.get put_some' put_none' of_setB of_addB of_setT of_addT of_upd of_blk of_tok of_nb of_nt of_new rmB rmT rmBs rmTs renB renT apB apT lkB lkT getD_0 getD_s renL AV.ren crange_if cstB_if one_nilS one_pnil oc_nil oc_pnil cbin binInt shInt binStr binBool cbuild_nil cbuild_cons cidx_if AV.cells AV.okc AV.flat flatL flatR setRange minmaxAV AV.one AV.ofCells eqCells eqCell slRows initEnv initFrom cres cresv cresL cond_true cond_false beq_self_eq_true Bool.not_true Bool.not_false beq_true beq_false eq_self if_true Option.some.injEq List.length_cons List.length_nil List.take_succ_cons List.take_zero List.drop_succ_cons List.drop_zero List.set_cons_succ List.set_cons_zero List.nil_append List.cons_append List.append_nil and_self Option.map_some Option.map_none List.map_cons List.map_nil Bool.false_eq_true if_false Nat.zero_add Nat.add_zero true_and and_true Bool.and_true Bool.true_and List.getElem?_cons_zero List.getElem?_cons_succ Nat.zero_le Nat.le_refl List.all_cons List.all_nil List.flatten_cons List.flatten_nil crows crowsOk List.filter_cons List.filter_nil List.contains_cons List.contains_nil Bool.or_false Bool.or_true Bool.false_or Bool.true_or
set_option linter.unusedSimpArgs false
set_option linter.unusedVariables false
section
set_option maxHeartbeats 1000000
abbrev scC (s : List UInt8) (a : Nat) : List AV := [.str s, .int .i64 (a : Int)]
abbrev sc (s : List UInt8) (a : Nat) : CS := CS.of 1 0 [(0, 149, scC s a)] []
attribute [local go_sem] sc scC
theorem mapsto (c : UInt8) : (c.toNat : Int) < 256 := by have := c.toNat_lt; omega
theorem q187 (s t : List UInt8) (hs : s.length ≤ 9223372036854775807) (ht : t.length ≤ 9223372036854775807) : Pure Tryz.prog 187 [.str s, .str t] (.bool (decide (t.length ≤ s.length ∧ s.take t.length = t))) := by
 refine pure_of mo Tryz.func187 c187 rfl rfl ?_
 unfold e187 r187
 simp(disch:=omega)only[go_sem,simprocAttr]
 by_cases h : t.length ≤ s.length
 ·have d : (t.length : Int) ≤ (s.length : Int) := by omega
  (have z1:=d;refine GoG1 ?_;clear z1)
  (apply DJ.sls0 (t.length);(· simp(disch:=omega)only[go_sem,simprocAttr]<;>with_reducible rfl);(· simp(disch:=omega)only[go_sem,simprocAttr]<;>with_reducible rfl);(· omega);(· (try simp only [List.length_map]);omega))
  refine GoG ?_
  first|refine D.R ?_|refine D.E ?_
  refine ⟨_, rfl, .wk ?_ rfl, trivial, trivial⟩
  simp [h, AV.wk]
 ·have d : ¬ (t.length : Int) ≤ (s.length : Int) := by omega
  (have z1:=d;refine GoG1 ?_;clear z1)
  first|refine D.R ?_|refine D.E ?_
  refine ⟨_, rfl, .wk ?_ rfl, trivial, trivial⟩
  simp [h, AV.wk]
theorem q145 (s t : List UInt8) (hs : s.length ≤ 9223372036854775807) (ht : t.length ≤ 9223372036854775807) : Pure Tryz.prog 145 [.str s, .str t] (.bool (decide (t.length ≤ s.length ∧ s.take t.length = t))) := by
 refine pure_of mo Tryz.func145 c145 rfl rfl ?_
 unfold e145 r145
 simp(disch:=omega)only[go_sem,simprocAttr]
 refine GoG ?_
 refine D.P (q187 s t hs ht) ?_
 refine GoG ?_
 first|refine D.R ?_|refine D.E ?_
 exact ⟨_, rfl, .wk rfl rfl, trivial, trivial⟩
theorem q148 (f : FuncId) (p : UInt8 → Bool) (hf : callable Tryz.prog f = true) (hp : ∀ c : UInt8, Pure Tryz.prog f [.int .u8 (c.toNat : Int)] (.bool (p c))) (s x : List UInt8) (a : Nat) (hs : s.length ≤ 1000000) (hx : Suf s x a) :
  FC Tryz.prog 148 [.ptr 0 0, .fn f []] (sc s a) (Ro (.str (x.takeWhile p)) [(0, 149, scC s (a + (x.takeWhile p).length))] []) := by
 refine FC.intro mo Tryz.func148 c148 ?_
 unfold e148 r148
 simp(disch:=omega)only[go_sem,simprocAttr]
 refine GoG ?_
 refine J.loopX (X := List UInt8 × List UInt8 × Nat) ([], x, a) (fun y => [(0, .ptr 0 0), (1, .fn f []), (5, .int .i64 (a : Int))]) (fun y => [(0, 149, scC s y.2.2)]) (fun _ => []) (fun y => x = y.1 ++ y.2.1 ∧ (∀ c ∈ y.1, p c = true) ∧ y.2.2 = a + y.1.length) (fun y => y.2.1.length) ⟨rfl, by simp, rfl⟩ ⟨rfl, rfl, rfl, trivial⟩ ⟨rfl, trivial⟩ trivial ?_
 rintro ⟨u, y, b⟩ ⟨h1, h2, h5⟩
 simp only at h1 h2 h5 ⊢
 have h3 : x.takeWhile p = u ++ y.takeWhile p := by
  rw [h1, List.takeWhile_append_of_pos h2]
 have hsl := (h1 ▸ hx : Suf s (u ++ y) a).sl
 rw [← h5] at hsl
 have hy : Suf s y b := h5 ▸ Suf.app u (h1 ▸ hx)
 have hly := hy.1
 cases y with
 | nil =>
  simp only [List.length_nil] at hly
  have d1 : ¬ (b : Int) < (s.length : Int) := by omega
  refine D.JJ true true ?_
  refine D.JJ true true ?_
  refine J.reg (anns := [.undef]) ?_
  (have z1:=d1;refine GoG1 ?_;clear z1)
  (apply DJ.sls2 (a) (b);(· simp(disch:=omega)only[go_sem,simprocAttr]<;>with_reducible rfl);(· simp(disch:=omega)only[go_sem,simprocAttr]<;>with_reducible rfl);(· simp(disch:=omega)only[go_sem,simprocAttr]<;>with_reducible rfl);(· omega);(· omega);(· omega);(· (try simp only [List.length_map]);omega))
  refine GoG ?_
  first|refine D.R ?_|refine D.E ?_
  rw [h3, hsl, h5]
  simp only [List.takeWhile_nil, List.append_nil]
  exact ⟨rfl, ⟨rfl, trivial⟩, trivial⟩
 | cons c y =>
  have hv := hy.get
  have hc := mapsto c
  simp only [List.length_cons] at hly
  have d1 : (b : Int) < (s.length : Int) := by omega
  refine D.JJ true true ?_
  refine D.JJ true true ?_
  refine J.reg (anns := [.bool (p c)]) ?_
  (have z1:=d1;refine GoG1 ?_;clear z1)
  refine D.PV (hf) (hp c) ?_
  cases hpc : p c
  ·(repeat' first|refine D.S ?_|refine D.JJ true true ?_|refine DJ.nil ?_|refine J.reg0 ?_|refine D.W ?_|refine D.Z ?_|refine D.G ?_ ?_|refine D.X ‹_› ?_|refine D.XO ‹_› ?_|refine D.XS ‹_› ?_|intro h|refine D.C ?_ ?_)
   (apply DJ.sls2 (a) (b);(· simp(disch:=omega)only[go_sem,simprocAttr]<;>with_reducible rfl);(· simp(disch:=omega)only[go_sem,simprocAttr]<;>with_reducible rfl);(· simp(disch:=omega)only[go_sem,simprocAttr]<;>with_reducible rfl);(· omega);(· omega);(· omega);(· (try simp only [List.length_map]);omega))
   refine GoG ?_
   first|refine D.R ?_|refine D.E ?_
   rw [h3, hsl, h5]
   simp only [List.takeWhile_cons, hpc, Bool.false_eq_true, if_false, List.append_nil]
   exact ⟨rfl, ⟨rfl, trivial⟩, trivial⟩
  ·(repeat' first|refine D.S ?_|refine D.JJ true true ?_|refine DJ.nil ?_|refine J.reg0 ?_|refine D.W ?_|refine D.Z ?_|refine D.G ?_ ?_|refine D.X ‹_› ?_|refine D.XO ‹_› ?_|refine D.XS ‹_› ?_|intro h|refine D.C ?_ ?_)
   refine J.roundX (u ++ [c], y, b + 1) ⟨by rw [h1]; simp, fun d hd => ?_, by rw [h5]; simp only [List.length_append, List.length_cons, List.length_nil]; omega⟩ ⟨rfl, rfl, rfl, trivial⟩ ⟨by simp only [Int.natCast_add]; rfl, trivial⟩ trivial rfl rfl (by show y.length < y.length + 1; omega)
   rcases List.mem_append.1 hd with hd | hd
   ·exact h2 d hd
   ·rw [List.mem_singleton.1 hd]; exact hpc
end
section
set_option maxHeartbeats 4000000
attribute [local go_sem] sc scC Tk.row
abbrev z4 : List AV := [.int .i64 0, .str [], .int .i64 0, .int .i64 0]
def LP (s : List UInt8) : LRes → Out → CS → Prop
 | .ok t r => Ro (.tup [.agg t.row, .int .i64 0]) [(0, 149, scC s (s.length - r.length))] []
 | .err e => Ro (.tup [.agg z4, .int .i64 e]) [] []
theorem LP_ok {s r : List UInt8} {t : Tk} {b : Nat} {o : Out} {c : CS} (ht : s.length - r.length = b) (h : Ro (.tup [.agg t.row, .int .i64 0]) [(0, 149, scC s b)] [] o c) : LP s (.ok t r) o c := by subst ht; exact h
theorem cl149 : callable Tryz.prog 149 = true := by kernel_rfl
theorem cl82 : callable Tryz.prog 82 = true := by kernel_rfl
theorem tdw (p : UInt8 → Bool) (x : List UInt8) : (x.takeWhile p).length + (x.dropWhile p).length = x.length := by
 have := congrArg List.length (List.takeWhile_append_dropWhile (p := p) (l := x))
 rw [List.length_append] at this
 exact this
theorem Suf.dw {s x : List UInt8} {a : Nat} (p : UInt8 → Bool) (h : Suf s x a) : Suf s (x.dropWhile p) (a + (x.takeWhile p).length) :=
 Suf.app _ (by rw [List.takeWhile_append_dropWhile]; exact h)
theorem q81 (s x : List UInt8) (a : Nat) (hs : s.length ≤ 1000000) (hx : Suf s x a) : FC Tryz.prog 81 [.ptr 0 0] (sc s a) (LP s (namL x)) := by
 have e := q148 149 innerB cl149 (fun c => q149 _) s x a hs hx
 have ht := (Suf.dw innerB hx).eq
 have hl := hx.1
 have hd := tdw innerB x
 obtain ⟨R, hR⟩ : ∃ R, R = namL x := ⟨_, rfl⟩
 rw [← hR]
 unfold namL at hR
 generalize x.takeWhile innerB = w at *
 generalize x.dropWhile innerB = r at *
 rw [← ht] at e
 refine FC.intro mo Tryz.func81 c81 ?_
 unfold e81 r81
 simp(disch:=omega)only[go_sem,simprocAttr]
 refine GoG ?_
 refine D.F ⟨[0],[]⟩ (e) ?_
 (repeat' first|refine D.S ?_|refine D.JJ true true ?_|refine DJ.nil ?_|refine J.reg0 ?_|refine D.W ?_|refine D.Z ?_|refine D.G ?_ ?_|refine D.X ‹_› ?_|refine D.XO ‹_› ?_|refine D.XS ‹_› ?_|intro h|refine D.C ?_ ?_)
 ·rw [if_pos (by simp at h; omega)] at hR
  first|refine D.R ?_|refine D.E ?_
  rw [hR]
  exact ⟨rfl, trivial, trivial⟩
 ·rw [if_neg (by simp at h; omega)] at hR
  first|refine D.R ?_|refine D.E ?_
  rw [hR]
  exact ⟨rfl, ⟨rfl, trivial⟩, trivial⟩
theorem dig_all {x : List UInt8} {i : Nat} {c : UInt8} (h : (x.takeWhile digitB)[i]? = some c) : 48 ≤ (c.toNat : Int) ∧ (c.toNat : Int) ≤ 57 := by
 have h1 : c ∈ x.takeWhile digitB := List.mem_of_getElem? h
 have h2 : ∀ (l : List UInt8), c ∈ l.takeWhile digitB → digitB c = true := by
  intro l
  induction l with
  | nil => simp
  | cons d l ih =>
   rw [List.takeWhile_cons]
   split
   ·rename_i hd
    intro h
    rcases List.mem_cons.1 h with rfl | h
    ·exact hd
    ·exact ih h
   ·simp
 simpa [digitB, digitZ] using h2 x h1
theorem q83 (s x : List UInt8) (a : Nat) (hs : s.length ≤ 1000000) (hx : Suf s x a) : FC Tryz.prog 83 [.ptr 0 0] (sc s a) (LP s (numL x)) := by
 have e := q148 82 digitB cl82 (fun c => q82 _) s x a hs hx
 have hr := Suf.dw digitB hx
 have ht := hr.eq
 have hl := hx.1
 have hd := tdw digitB x
 have hda := fun (i : Nat) (c : UInt8) => @dig_all x i c
 obtain ⟨R, hR⟩ : ∃ R, R = numL x := ⟨_, rfl⟩
 rw [← hR]
 simp only [numL] at hR
 generalize x.takeWhile digitB = w at *
 generalize x.dropWhile digitB = r at *
 have h1 := hr.1
 obtain ⟨b, hb⟩ : ∃ b, b = a + w.length := ⟨_, rfl⟩
 rw [← hb] at e hr ht h1
 refine FC.intro mo Tryz.func83 c83 ?_
 unfold e83 r83
 simp(disch:=omega)only[go_sem,simprocAttr]
 refine GoG ?_
 refine D.F ⟨[0],[]⟩ (e) ?_
 refine GoD ?_
 refine D.JJ true true ?_
 refine D.JJ true true ?_
 clear e hx hb hd hl
 unfold numR at hR
 rcases r with _ | ⟨c, y⟩
 focus
  simp only [List.length_nil] at h1
  have d1 : ¬ (b : Int) < (s.length : Int) := by omega
  refine J.reg (anns := [.undef]) ?_
  (have z1:=d1;refine GoD1 ?_;clear z1)
  refine D.JJ true true ?_
  rw [if_neg (by simp [hdInner])] at hR
  clear hr d1 h1
 rotate_left
 focus
  have hv := hr.get
  have hc := mapsto c
  simp only [List.length_cons] at h1
  have d1 : (b : Int) < (s.length : Int) := by omega
  have e149 : Pure Tryz.prog 149 [.int .u8 (c.toNat : Int)] (.bool (innerB c)) := q149 _
  cases hi : innerB c
  rotate_left
  ·rw [hi] at e149
   rw [if_pos (show hdInner (c :: y) = true from hi)] at hR
   refine J.reg (anns := [.bool true]) ?_
   (have z1:=d1;refine GoG1 ?_;clear z1)
   refine D.PC (e149) ?_
   refine GoG ?_
   first|refine D.R ?_|refine D.E ?_
   rw [hR]
   exact ⟨rfl, trivial, trivial⟩
  rw [hi] at e149
  rw [if_neg (by rw [show hdInner (c :: y) = false from hi]; decide)] at hR
  refine J.reg (anns := [.bool false]) ?_
  (have z1:=d1;refine GoD1 ?_;clear z1)
  refine D.PC (e149) ?_
  refine GoD ?_
  refine D.JJ true true ?_
  clear hr d1 h1 e149 hv hc hi
 all_goals
  by_cases h6 : 6 < w.length
  ·rw [if_pos (.inl h6)] at hR
   have d6 : (6 : Int) < (w.length : Int) := by omega
   (have z1:=d6;refine GoG1 ?_;clear z1)
   first|refine D.R ?_|refine D.E ?_
   rw [hR]
   exact ⟨rfl, trivial, trivial⟩
  have d6 : ¬ (6 : Int) < (w.length : Int) := by omega
  by_cases h0 : 1 < w.length ∧ w.head? = some 48
  ·rw [if_pos (.inr h0)] at hR
   have d2 : (1 : Int) < (w.length : Int) := by omega
   have hv : w[0]? = some 48 := by rw [← List.head?_eq_getElem?]; exact h0.2
   have e48 : ((48 : UInt8).toNat : Int) = 48 := rfl
   (have z1:=d6;have z2:=d2;have z3:=e48;refine GoG3 ?_;clear z1 z2 z3)
   first|refine D.R ?_|refine D.E ?_
   rw [hR]
   exact ⟨rfl, trivial, trivial⟩
  rw [if_neg (fun hh => hh.elim h6 h0)] at hR
  by_cases h2 : 1 < w.length
  focus
   have d2 : (1 : Int) < (w.length : Int) := by omega
   obtain ⟨c0, hv⟩ : ∃ c0, w[0]? = some c0 := ⟨_, List.getElem?_eq_getElem (by omega)⟩
   have d3 : ¬ (c0.toNat : Int) = 48 := fun e => h0 ⟨h2, by
    rw [List.head?_eq_getElem?, hv]
    congr 1
    apply UInt8.toNat_inj.1
    have : (48 : UInt8).toNat = 48 := rfl
    omega⟩
   (repeat' first|(apply DJ.s rfl;(· simp(disch:=omega)only[go_sem,simprocAttr,d6, d2, d3]<;>with_reducible rfl))|(apply J.s true true;(· simp(disch:=omega)only[go_sem,simprocAttr,d6, d2, d3]<;>with_reducible rfl))|apply DJ.nil|(refine J.reg0 ?_)|(apply DJ.gw;(· simp(disch:=omega)only[go_sem,simprocAttr,d6, d2, d3]<;>with_reducible rfl))|(apply DJ.gz;(· rfl);(· simp(disch:=omega)only[go_sem,simprocAttr,d6, d2, d3]<;>with_reducible rfl))|(apply DJ.gs;(· simp(disch:=omega)only[go_sem,simprocAttr,d6, d2, d3]<;>with_reducible rfl))|((first|apply DJ.ixm|apply DJ.ixom|apply DJ.ixsm);(· simp(disch:=omega)only[go_sem,simprocAttr,d6, d2, d3]<;>with_reducible rfl);(· simp(disch:=omega)only[go_sem,simprocAttr,d6, d2, d3]<;>with_reducible rfl);(· assumption);(· omega))|intro h)
  rotate_left
  focus
   have d2 : ¬ (1 : Int) < (w.length : Int) := by omega
   (repeat' first|(apply DJ.s rfl;(· simp(disch:=omega)only[go_sem,simprocAttr,d6, d2]<;>with_reducible rfl))|(apply J.s true true;(· simp(disch:=omega)only[go_sem,simprocAttr,d6, d2]<;>with_reducible rfl))|apply DJ.nil|(refine J.reg0 ?_)|(apply DJ.gw;(· simp(disch:=omega)only[go_sem,simprocAttr,d6, d2]<;>with_reducible rfl))|(apply DJ.gz;(· rfl);(· simp(disch:=omega)only[go_sem,simprocAttr,d6, d2]<;>with_reducible rfl))|(apply DJ.gs;(· simp(disch:=omega)only[go_sem,simprocAttr,d6, d2]<;>with_reducible rfl))|((first|apply DJ.ixm|apply DJ.ixom|apply DJ.ixsm);(· simp(disch:=omega)only[go_sem,simprocAttr,d6, d2]<;>with_reducible rfl);(· simp(disch:=omega)only[go_sem,simprocAttr,d6, d2]<;>with_reducible rfl);(· assumption);(· omega))|intro h)
  all_goals
   refine J.loopX (X := Nat × Int) (0, 0) (fun y => [(2, .ptr 1 0), (3, .int .i64 0), (4, .str w), (5, .ptr 2 0), (48, .int .i64 (w.length : Int)), (49, .int .i64 (y.1 : Int))]) (fun y => [(0, 149, [.str s, .int .i64 (b : Int)]), (1, 152, z4), (2, 152, [.int .i64 2, .str [], .int .i64 y.2, .int .i64 0])]) (fun _ => []) (fun y => y.1 ≤ w.length ∧ 0 ≤ y.2 ∧ y.2 < 10 ^ y.1 ∧ valD (w.drop y.1) y.2 = valD w 0) (fun y => w.length - y.1) ⟨Nat.zero_le _, Int.le_refl _, by decide, rfl⟩ ⟨rfl, rfl, rfl, rfl, rfl, rfl, trivial⟩ ⟨rfl, rfl, rfl, trivial⟩ trivial ?_
   rintro ⟨i, v⟩ ⟨hi, hv0, hv1, hz⟩
   simp only at hi hv0 hv1 hz ⊢
   cases hv : w[i]? with
   | some c =>
    have hlt := (List.getElem?_eq_some_iff.1 hv).1
    have d4 : (i : Int) < (w.length : Int) := by omega
    have hdg := hda i c hv
    rw [drop_cons' hv] at hz
    simp only [valD] at hz
    have hp : (10 : Int) ^ i ≤ 100000 := by
     have : (10 : Int) ^ i ≤ 10 ^ 5 := by exact_mod_cast Nat.pow_le_pow_right (by decide) (show i ≤ 5 by omega)
     simpa using this
    have hq : (10 : Int) ^ (i + 1) = 10 * 10 ^ i := by rw [Int.pow_succ, Int.mul_comm]
    generalize (10 : Int) ^ i = P at hp hq hv1
    (have z1:=d4;refine GoG1 ?_;clear z1)
    refine J.roundX (i + 1, 10 * v + ((c.toNat : Int) - 48)) ⟨by simp only; omega, by simp only; omega, by simp only; rw [hq]; omega, hz⟩ ⟨rfl, rfl, rfl, rfl, rfl, by simp only [Int.natCast_add]; rfl, trivial⟩ ⟨rfl, rfl, rfl, trivial⟩ trivial rfl rfl (by show w.length - (i + 1) < w.length - i; omega)
   | none =>
    have hge := List.getElem?_eq_none_iff.1 hv
    have d4 : ¬ (i : Int) < (w.length : Int) := by omega
    rw [List.drop_eq_nil_of_le hge] at hz
    simp only [valD] at hz
    (have z1:=d4;refine GoG1 ?_;clear z1)
    first|refine D.R ?_|refine D.E ?_
    rw [hR, ← hz]
    exact LP_ok ht ⟨rfl, ⟨rfl, trivial⟩, trivial⟩
theorem not_in2 {x : List UInt8} (h : x.take 2 ∉ marks2) {m : List UInt8} (hm : m ∈ marks2) : ¬ (m.length ≤ x.length ∧ x.take m.length = m) := by
 rintro ⟨_, h2⟩
 have e : m.length = 2 := by
  simp only [marks2, List.mem_cons, List.not_mem_nil, or_false] at hm
  rcases hm with rfl | rfl | rfl | rfl | rfl | rfl | rfl | rfl <;> rfl
 rw [e] at h2
 exact h (h2 ▸ hm)
theorem in2 {x m : List UInt8} (hm : m ∈ marks2) : (m.length ≤ x.length ∧ x.take m.length = m) ↔ x.take 2 = m := by
 have e : m.length = 2 := by
  simp only [marks2, List.mem_cons, List.not_mem_nil, or_false] at hm
  rcases hm with rfl | rfl | rfl | rfl | rfl | rfl | rfl | rfl <;> rfl
 rw [e]
 refine ⟨fun h => h.2, fun h => ⟨?_, h⟩⟩
 have := congrArg List.length h
 rw [List.length_take, e] at this
 omega
end
section
set_option maxHeartbeats 4000000
attribute [local go_sem] sc scC Tk.row
theorem idx_marks (c : UInt8) : decide (0 ≤ Lib.indexByte marks1 c) = decide (c ∈ marks1) := by
 have key : ∀ n : Fin 256, decide (0 ≤ Lib.indexByte marks1 (UInt8.ofNat n.val)) = decide (UInt8.ofNat n.val ∈ marks1) := by decide +kernel
 have := key ⟨c.toNat, c.toNat_lt⟩
 simpa using this
theorem q79 (s : List UInt8) (c : UInt8) (y : List UInt8) (a : Nat) (hs : s.length ≤ 1000000) (hx : Suf s (c :: y) a) : FC Tryz.prog 79 [.ptr 0 0] (sc s a) (LP s (mrkL (c :: y))) := by
 have hx2 := hx.2
 have hl := hx.1
 have hsl := (Suf.sl (u := [c]) hx)
 have e147 : Pure Tryz.prog 147 [.str [40, 41, 123, 125, 44, 59, 58, 46, 43, 45, 42, 47, 37, 60, 62, 61, 33], .str [c]] (.bool (decide (c ∈ marks1))) := by
  have := p147 marks1 c
  rw [idx_marks] at this
  exact this
 obtain ⟨R, hR⟩ : ∃ R, R = mrkL (c :: y) := ⟨_, rfl⟩
 rw [← hR]
 unfold mrkL at hR
 obtain ⟨x, hxe⟩ : ∃ x, x = c :: y := ⟨_, rfl⟩
 rw [← hxe] at hx2 hl hR
 have hxl : x.length ≤ 9223372036854775807 := by omega
 have hx1 : 1 ≤ x.length := by rw [hxe]; simp
 refine FC.intro mo Tryz.func79 c79 ?_
 unfold e79 r79
 simp(disch:=omega)only[go_sem,simprocAttr]
 refine GoG ?_
 refine J.loopX (X := Nat) 0 (fun i => [(0, .ptr 0 0), (2, .ptr 1 0), (3, .int .i64 0), (7, .agg [.str [45, 62], .str [46, 46], .str [60, 61], .str [62, 61], .str [61, 61], .str [33, 61], .str [38, 38], .str [124, 124]]), (8, .int .i64 (i : Int))]) (fun _ => [(0, 149, [.str s, .int .i64 (a : Int)]), (1, 152, z4)]) (fun _ => []) (fun i => i ≤ 8 ∧ ∀ m ∈ marks2.take i, ¬ x.take 2 = m) (fun i => 8 - i) ⟨Nat.zero_le _, by simp⟩ ⟨rfl, rfl, rfl, rfl, rfl, trivial⟩ ⟨rfl, rfl, trivial⟩ trivial ?_
 rintro i ⟨hi, hn⟩
 try simp only at hi hn
 have hi8 : i = 8 ∨ i < 8 := by omega
 rcases hi8 with rfl | hi8
 ·have hm : x.take 2 ∉ marks2 := fun h => hn _ (by simpa [marks2] using h) rfl
  rw [if_neg hm, hxe] at hR
  simp only at hR
  refine GoG ?_
  (apply DJ.sls2 (a) (a + 1);(· simp(disch:=omega)only[go_sem,simprocAttr]<;>with_reducible rfl);(· simp(disch:=omega)only[go_sem,simprocAttr]<;>with_reducible rfl);(· simp(disch:=omega)only[go_sem,simprocAttr]<;>with_reducible rfl);(· omega);(· omega);(· omega);(· (try simp only [List.length_map]);omega))
  rw [show (s.take (a + 1)).drop a = [c] from hsl]
  refine GoG ?_
  refine D.P (e147) ?_
  by_cases hc : c ∈ marks1
  ·rw [if_pos hc] at hR
   simp only [decide_eq_true hc]
   refine GoG ?_
   first|refine D.R ?_|refine D.E ?_
   rw [hR]
   rw [hxe] at hl
   exact LP_ok (b := a + 1) (by simp only [List.length_cons] at hl; omega) ⟨rfl, ⟨by simp only [Int.natCast_add]; rfl, trivial⟩, trivial⟩
  ·rw [if_neg hc] at hR
   simp only [decide_eq_false hc]
   refine GoG ?_
   first|refine D.R ?_|refine D.E ?_
   rw [hR]
   exact ⟨rfl, trivial, trivial⟩
 ·obtain ⟨m, hm⟩ : ∃ m, marks2[i]? = some m := ⟨_, List.getElem?_eq_getElem (by simpa [marks2] using hi8)⟩
  have hmm : m ∈ marks2 := List.mem_of_getElem? hm
  have hml : m.length = 2 := by
   have : ∀ m ∈ marks2, m.length = 2 := by decide
   exact this m hmm
  have e145 := q145 x m hxl (by omega)
  rw [decide_eq_decide.2 (in2 hmm)] at e145
  obtain ⟨bb, hbb⟩ : ∃ bb, bb = decide (x.take 2 = m) := ⟨_, rfl⟩
  rw [← hbb] at e145
  have hnx : bb = false → ∀ m' ∈ marks2.take (i + 1), ¬ x.take 2 = m' := by
   intro hb m' hm'
   rw [List.take_add_one, hm] at hm'
   rcases List.mem_append.1 hm' with h | h
   ·exact hn m' h
   ·have : m' = m := by simpa using h
    subst this
    rw [hb] at hbb
    simpa using hbb.symm
  have hok : bb = true → R = .ok ⟨4, m, 0, 0⟩ (x.drop 2) ∧ 2 ≤ x.length := by
   intro hb
   rw [hb] at hbb
   have e : x.take 2 = m := by simpa using hbb.symm
   rw [e, if_pos hmm] at hR
   have := congrArg List.length e
   rw [List.length_take, hml] at this
   exact ⟨hR, by omega⟩
  clear hn hbb hR e147 hsl hmm hml
  have hi9 : i = 0 ∨ i = 1 ∨ i = 2 ∨ i = 3 ∨ i = 4 ∨ i = 5 ∨ i = 6 ∨ i = 7 := by omega
  rcases hi9 with rfl | rfl | rfl | rfl | rfl | rfl | rfl | rfl
  all_goals
   cases hm
   refine GoB ?_
   repeat refine D.JJ true true ?_
   refine J.reg0 ?_
   refine GoD ?_
   repeat refine D.JJ true true ?_
   refine J.reg (anns := [.bool bb]) ?_
   refine GoD ?_
   (apply DJ.sls1 (a);(· simp(disch:=omega)only[go_sem,simprocAttr]<;>with_reducible rfl);(· simp(disch:=omega)only[go_sem,simprocAttr]<;>with_reducible rfl);(· omega);(· (try simp only [List.length_map]);omega))
   rw [hx2]
   refine GoD ?_
   refine D.PC (e145) ?_
   cases bb
   ·refine GoG ?_
    refine J.roundX _ ⟨?_, hnx rfl⟩ ⟨rfl, rfl, rfl, rfl, rfl, trivial⟩ ⟨rfl, rfl, trivial⟩ trivial rfl rfl ?_
    ·decide
    ·decide
   ·obtain ⟨hR, h2⟩ := hok rfl
    refine GoG ?_
    first|refine D.R ?_|refine D.E ?_
    rw [hR]
    exact LP_ok (b := a + 2) (by rw [List.length_drop]; omega) ⟨rfl, ⟨by simp only [Int.natCast_add]; rfl, trivial⟩, trivial⟩
end
section
set_option maxHeartbeats 4000000
attribute [local go_sem] sc scC Tk.row
def urow (c : UInt8) : List AV := [.int .u8 (c.toNat : Int)]
theorem ur_flat (l : List UInt8) : flatR (l.map urow) = true := flatR_map (fun _ => rfl) l
theorem byteRows_ur : ∀ l : List UInt8, byteRows (l.map urow) = some l
 | [] => rfl
 | c :: l => by
  simp only [List.map_cons, urow, byteRows]
  have := byteRows_ur l
  rw [this]
  simp
theorem txtL_cons (b : List UInt8) (c : UInt8) (x : List UInt8) : txtL b (c :: x) = if c.toNat = 34 then (if 40 < b.length then .err 6 else .ok ⟨3, b, 0, 0⟩ x)
  else if c.toNat = 92 then (match x with
   | [] => .err 3
   | d :: y => if d.toNat = 34 ∨ d.toNat = 92 then txtL (b ++ [d]) y else .err 3)
  else if c.toNat < 32 ∨ 126 < c.toNat then .err 3 else txtL (b ++ [c]) x := by
 cases x with
 | nil => simp only [txtL]
 | cons d y => rw [txtL]
attribute [local go_sem] urow ur_flat
theorem q84 (s : List UInt8) (y : List UInt8) (a : Nat) (hs : s.length ≤ 1000000) (hx : Suf s y (a + 1)) : FC Tryz.prog 84 [.ptr 0 0] (sc s a) (LP s (txtL [] y)) := by
 have hl := hx.1
 obtain ⟨R, hR⟩ : ∃ R, R = txtL [] y := ⟨_, rfl⟩
 rw [← hR]
 refine FC.intro mo Tryz.func84 c84 ?_
 unfold e84 r84
 simp(disch:=omega)only[go_sem,simprocAttr]
 refine GoB ?_
 refine J.ghE 4 1 5 rfl (by decide) ?_
 simp(disch:=omega)only[go_sem,simprocAttr]
 refine GoG ?_
 refine J.loopX (X := List UInt8 × List UInt8 × Nat) ([], y, a + 1) (fun x => [(0, .ptr 0 0), (2, .ptr 1 0), (3, .int .i64 0), (4, .own 0 1 (x.1.map urow))]) (fun x => [(0, 149, [.str s, .int .i64 (x.2.2 : Int)]), (1, 152, z4)]) (fun x => [(0, .frz 5 1 (x.1.map urow).length)]) (fun x => Suf s x.2.1 x.2.2 ∧ x.1.length ≤ x.2.2 ∧ R = txtL x.1 x.2.1) (fun x => x.2.1.length) ⟨hx, Nat.zero_le _, hR⟩ ⟨rfl, rfl, rfl, rfl, trivial⟩ ⟨by simp only [Int.natCast_add]; rfl, rfl, trivial⟩ ⟨rfl, trivial⟩ ?_
 rintro ⟨acc, y, p⟩ ⟨hy, hb, hR⟩
 simp only at hy hb hR ⊢
 have hly := hy.1
 clear hx hl
 cases y with
 | nil =>
  simp only [List.length_nil] at hly
  simp only [txtL] at hR
  have d1 : ¬ (p : Int) < (s.length : Int) := by omega
  (have z1:=d1;refine GoG1 ?_;clear z1)
  first|refine D.R ?_|refine D.E ?_
  rw [hR]
  exact ⟨rfl, trivial, trivial⟩
 | cons c y =>
 have hv := hy.get
 have hc := mapsto c
 have ht := hy.tail
 simp only [List.length_cons] at hly
 have d1 : (p : Int) < (s.length : Int) := by omega
 rw [txtL_cons] at hR
 (have z1:=d1;refine GoG1 ?_;clear z1)
 clear hv
 by_cases h34 : c.toNat = 34
 ·rw [if_pos h34] at hR
  have d2 : (c.toNat : Int) = 34 := by omega
  by_cases h40 : 40 < acc.length
  ·rw [if_pos h40] at hR
   have d3 : (40 : Int) < ((acc.map urow).length : Int) := by rw [List.length_map]; omega
   (have z1:=d2;have z2:=d3;refine GoG2 ?_;clear z1 z2)
   first|refine D.R ?_|refine D.E ?_
   rw [hR]
   exact ⟨rfl, trivial, trivial⟩
  ·rw [if_neg h40] at hR
   have d3 : ¬ (40 : Int) < ((acc.map urow).length : Int) := by rw [List.length_map]; omega
   (have z1:=d2;have z2:=d3;refine GoG2 ?_;clear z1 z2)
   refine DJ.cvo rfl rfl (byteRows_ur acc) ?_
   refine GoG ?_
   first|refine D.R ?_|refine D.E ?_
   rw [hR]
   exact LP_ok ht.eq ⟨rfl, ⟨by simp only [Int.natCast_add]; rfl, trivial⟩, trivial⟩
 rw [if_neg h34] at hR
 have d2 : ¬ (c.toNat : Int) = 34 := by omega
 by_cases h92 : c.toNat = 92
 ·rw [if_pos h92] at hR
  have d3 : (c.toNat : Int) = 92 := by omega
  cases y with
  | nil =>
   simp only [List.length_nil] at hly
   have d4 : (p : Int) + 1 = (s.length : Int) := by omega
   (have z1:=d2;have z2:=d3;have z3:=d4;refine GoG3 ?_;clear z1 z2 z3)
   first|refine D.R ?_|refine D.E ?_
   rw [hR]
   exact ⟨rfl, trivial, trivial⟩
  | cons e y =>
  have hv2 := ht.get
  have he := mapsto e
  have ht2 := ht.tail
  simp only [List.length_cons] at hly
  have d4 : ¬ (p : Int) + 1 = (s.length : Int) := by omega
  simp only at hR
  by_cases h1 : e.toNat = 34 ∨ e.toNat = 92
  ·rw [if_pos h1] at hR
   have f2 : ¬ (e.toNat : Int) < 32 := by omega
   have f3 : ¬ 126 < (e.toNat : Int) := by omega
   rcases h1 with h1 | h1
   focus
    have f1 : (e.toNat : Int) = 34 := by omega
    (repeat' first|(apply DJ.s rfl;(· simp(disch:=omega)only[go_sem,simprocAttr,d2, d3, d4, f1, f2, f3]<;>with_reducible rfl))|(apply J.s true true;(· simp(disch:=omega)only[go_sem,simprocAttr,d2, d3, d4, f1, f2, f3]<;>with_reducible rfl))|apply DJ.nil|(refine J.reg0 ?_)|(apply DJ.gw;(· simp(disch:=omega)only[go_sem,simprocAttr,d2, d3, d4, f1, f2, f3]<;>with_reducible rfl))|(apply DJ.gz;(· rfl);(· simp(disch:=omega)only[go_sem,simprocAttr,d2, d3, d4, f1, f2, f3]<;>with_reducible rfl))|(apply DJ.gs;(· simp(disch:=omega)only[go_sem,simprocAttr,d2, d3, d4, f1, f2, f3]<;>with_reducible rfl))|((first|apply DJ.ixm|apply DJ.ixom|apply DJ.ixsm);(· simp(disch:=omega)only[go_sem,simprocAttr,d2, d3, d4, f1, f2, f3]<;>with_reducible rfl);(· simp(disch:=omega)only[go_sem,simprocAttr,d2, d3, d4, f1, f2, f3]<;>with_reducible rfl);(· assumption);(· omega))|intro h)
   rotate_left
   focus
    have f0 : ¬ (e.toNat : Int) = 34 := by omega
    have f1 : (e.toNat : Int) = 92 := by omega
    (repeat' first|(apply DJ.s rfl;(· simp(disch:=omega)only[go_sem,simprocAttr,d2, d3, d4, f0, f1, f2, f3]<;>with_reducible rfl))|(apply J.s true true;(· simp(disch:=omega)only[go_sem,simprocAttr,d2, d3, d4, f0, f1, f2, f3]<;>with_reducible rfl))|apply DJ.nil|(refine J.reg0 ?_)|(apply DJ.gw;(· simp(disch:=omega)only[go_sem,simprocAttr,d2, d3, d4, f0, f1, f2, f3]<;>with_reducible rfl))|(apply DJ.gz;(· rfl);(· simp(disch:=omega)only[go_sem,simprocAttr,d2, d3, d4, f0, f1, f2, f3]<;>with_reducible rfl))|(apply DJ.gs;(· simp(disch:=omega)only[go_sem,simprocAttr,d2, d3, d4, f0, f1, f2, f3]<;>with_reducible rfl))|((first|apply DJ.ixm|apply DJ.ixom|apply DJ.ixsm);(· simp(disch:=omega)only[go_sem,simprocAttr,d2, d3, d4, f0, f1, f2, f3]<;>with_reducible rfl);(· simp(disch:=omega)only[go_sem,simprocAttr,d2, d3, d4, f0, f1, f2, f3]<;>with_reducible rfl);(· assumption);(· omega))|intro h)
   all_goals
    refine D.ap ?_
    refine GoG ?_
    refine J.roundX (acc ++ [e], y, p + 1 + 1) ⟨ht2, by simp only [List.length_append, List.length_cons, List.length_nil]; omega, hR⟩ ⟨rfl, rfl, rfl, by simp only [List.map_append, List.map_cons, List.map_nil, urow, f1]; rfl, trivial⟩ ⟨by simp only [Int.natCast_add]; rfl, rfl, trivial⟩ ⟨by simp only [List.map_append, List.map_cons, List.map_nil, List.length_append]; rfl, trivial⟩ rfl rfl (by show y.length < y.length + 1 + 1; omega)
  ·rw [if_neg h1] at hR
   have f0 : ¬ (e.toNat : Int) = 34 := by omega
   have f1 : ¬ (e.toNat : Int) = 92 := by omega
   (repeat' first|(apply DJ.s rfl;(· simp(disch:=omega)only[go_sem,simprocAttr,d2, d3, d4, f0, f1]<;>with_reducible rfl))|(apply J.s true true;(· simp(disch:=omega)only[go_sem,simprocAttr,d2, d3, d4, f0, f1]<;>with_reducible rfl))|apply DJ.nil|(refine J.reg0 ?_)|(apply DJ.gw;(· simp(disch:=omega)only[go_sem,simprocAttr,d2, d3, d4, f0, f1]<;>with_reducible rfl))|(apply DJ.gz;(· rfl);(· simp(disch:=omega)only[go_sem,simprocAttr,d2, d3, d4, f0, f1]<;>with_reducible rfl))|(apply DJ.gs;(· simp(disch:=omega)only[go_sem,simprocAttr,d2, d3, d4, f0, f1]<;>with_reducible rfl))|((first|apply DJ.ixm|apply DJ.ixom|apply DJ.ixsm);(· simp(disch:=omega)only[go_sem,simprocAttr,d2, d3, d4, f0, f1]<;>with_reducible rfl);(· simp(disch:=omega)only[go_sem,simprocAttr,d2, d3, d4, f0, f1]<;>with_reducible rfl);(· assumption);(· omega))|intro h)
   first|refine D.R ?_|refine D.E ?_
   rw [hR]
   exact ⟨rfl, trivial, trivial⟩
 rw [if_neg h92] at hR
 have d3 : ¬ (c.toNat : Int) = 92 := by omega
 by_cases h1 : c.toNat < 32
 ·rw [if_pos (.inl h1)] at hR
  have f2 : (c.toNat : Int) < 32 := by omega
  (have z1:=d2;have z2:=d3;have z3:=f2;refine GoG3 ?_;clear z1 z2 z3)
  first|refine D.R ?_|refine D.E ?_
  rw [hR]
  exact ⟨rfl, trivial, trivial⟩
 have f2 : ¬ (c.toNat : Int) < 32 := by omega
 by_cases h2 : 126 < c.toNat
 ·rw [if_pos (.inr h2)] at hR
  have f3 : 126 < (c.toNat : Int) := by omega
  (repeat' first|(apply DJ.s rfl;(· simp(disch:=omega)only[go_sem,simprocAttr,d2, d3, f2, f3]<;>with_reducible rfl))|(apply J.s true true;(· simp(disch:=omega)only[go_sem,simprocAttr,d2, d3, f2, f3]<;>with_reducible rfl))|apply DJ.nil|(refine J.reg0 ?_)|(apply DJ.gw;(· simp(disch:=omega)only[go_sem,simprocAttr,d2, d3, f2, f3]<;>with_reducible rfl))|(apply DJ.gz;(· rfl);(· simp(disch:=omega)only[go_sem,simprocAttr,d2, d3, f2, f3]<;>with_reducible rfl))|(apply DJ.gs;(· simp(disch:=omega)only[go_sem,simprocAttr,d2, d3, f2, f3]<;>with_reducible rfl))|((first|apply DJ.ixm|apply DJ.ixom|apply DJ.ixsm);(· simp(disch:=omega)only[go_sem,simprocAttr,d2, d3, f2, f3]<;>with_reducible rfl);(· simp(disch:=omega)only[go_sem,simprocAttr,d2, d3, f2, f3]<;>with_reducible rfl);(· assumption);(· omega))|intro h)
  first|refine D.R ?_|refine D.E ?_
  rw [hR]
  exact ⟨rfl, trivial, trivial⟩
 have f3 : ¬ 126 < (c.toNat : Int) := by omega
 rw [if_neg (by omega)] at hR
 (repeat' first|(apply DJ.s rfl;(· simp(disch:=omega)only[go_sem,simprocAttr,d2, d3, f2, f3]<;>with_reducible rfl))|(apply J.s true true;(· simp(disch:=omega)only[go_sem,simprocAttr,d2, d3, f2, f3]<;>with_reducible rfl))|apply DJ.nil|(refine J.reg0 ?_)|(apply DJ.gw;(· simp(disch:=omega)only[go_sem,simprocAttr,d2, d3, f2, f3]<;>with_reducible rfl))|(apply DJ.gz;(· rfl);(· simp(disch:=omega)only[go_sem,simprocAttr,d2, d3, f2, f3]<;>with_reducible rfl))|(apply DJ.gs;(· simp(disch:=omega)only[go_sem,simprocAttr,d2, d3, f2, f3]<;>with_reducible rfl))|((first|apply DJ.ixm|apply DJ.ixom|apply DJ.ixsm);(· simp(disch:=omega)only[go_sem,simprocAttr,d2, d3, f2, f3]<;>with_reducible rfl);(· simp(disch:=omega)only[go_sem,simprocAttr,d2, d3, f2, f3]<;>with_reducible rfl);(· assumption);(· omega))|intro h)
 refine D.ap ?_
 refine GoG ?_
 refine J.roundX (acc ++ [c], y, p + 1) ⟨ht, by simp only [List.length_append, List.length_cons, List.length_nil]; omega, hR⟩ ⟨rfl, rfl, rfl, by simp only [List.map_append, List.map_cons, List.map_nil, urow]; rfl, trivial⟩ ⟨by simp only [Int.natCast_add]; rfl, rfl, trivial⟩ ⟨by simp only [List.map_append, List.map_cons, List.map_nil, List.length_append]; rfl, trivial⟩ rfl rfl (by show y.length < y.length + 1; omega)
end
section
set_option maxHeartbeats 4000000
attribute [local go_sem] sc scC Tk.row
theorem line_ix : ∀ x : List UInt8, (Lib.indexByte x 10 = -1 ∧ lineR x = []) ∨ ∃ o : Nat, Lib.indexByte x 10 = (o : Int) ∧ o < x.length ∧ lineR x = x.drop (o + 1)
 | [] => .inl ⟨rfl, rfl⟩
 | c :: x => by
  unfold Lib.indexByte lineR
  rw [List.dropWhile_cons]
  by_cases h : c = 10
  ·subst h
   exact .inr ⟨0, rfl, by simp, rfl⟩
  ·have h1 : (c == 10) = false := by simpa using h
   have h2 : (c != 10) = true := by simp [bne, h1]
   simp only [h1, h2, if_true, Bool.false_eq_true, if_false]
   rcases line_ix x with ⟨e1, e2⟩ | ⟨o, e1, e2, e3⟩
   ·left
    rw [e1]
    exact ⟨rfl, e2⟩
   ·right
    rw [e1]
    refine ⟨o + 1, ?_, by simp only [List.length_cons]; omega, e3⟩
    rw [if_neg (by simp only [beq_iff_eq]; omega)]
    omega
theorem blank_ix (c : UInt8) : decide (0 ≤ Lib.indexByte [32, 9, 10, 13] ((c.toNat : Int)).toNat.toUInt8) = blankB c := by
 have key : ∀ n : Fin 256, decide (0 ≤ Lib.indexByte [32, 9, 10, 13] (((UInt8.ofNat n.val).toNat : Int)).toNat.toUInt8) = blankB (UInt8.ofNat n.val) := by decide +kernel
 have := key ⟨c.toNat, c.toNat_lt⟩
 simpa using this
theorem q145b (s t : List UInt8) (b : Bool) (hs : s.length ≤ 9223372036854775807) (ht : t.length ≤ 9223372036854775807) (h : (t.length ≤ s.length ∧ s.take t.length = t) ↔ b = true) : Pure Tryz.prog 145 [.str s, .str t] (.bool b) := by
 have e := q145 s t hs ht
 have : decide (t.length ≤ s.length ∧ s.take t.length = t) = b := by rw [Bool.eq_iff_iff, ← h]; simp only [decide_eq_true_eq]
 rw [this] at e
 exact e
theorem e144A (c : UInt8) : Pure Tryz.prog 144 [.str [32, 9, 10, 13], .int .i32 (c.toNat : Int)] (.bool (blankB c)) := by
 have hc : c.toNat < 256 := c.toNat_lt
 by_cases h : c.toNat < 128
 ·have e := p144 [32, 9, 10, 13] (c.toNat : Int) (by omega) (by omega)
  rw [blank_ix] at e
  exact e
 ·have e := p144b (c.toNat : Int) (by omega) (by omega)
  have : blankB c = false := by
   have k1 : c ≠ 32 := fun e => by subst e; exact h (by decide)
   have k2 : c ≠ 9 := fun e => by subst e; exact h (by decide)
   have k3 : c ≠ 10 := fun e => by subst e; exact h (by decide)
   have k4 : c ≠ 13 := fun e => by subst e; exact h (by decide)
   simp [blankB, k1, k2, k3, k4]
  rw [this]
  exact e
theorem q78 (s x : List UInt8) (a : Nat) (hs : s.length ≤ 1000000) (hx : Suf s x a) :
  FC Tryz.prog 78 [.ptr 0 0] (sc s a) (Ro (.tup []) [(0, 149, scC s (s.length - (skipR (x.length + 1) x).length))] []) := by
 obtain ⟨R, hR⟩ : ∃ R, R = skipR (x.length + 1) x := ⟨_, rfl⟩
 rw [← hR]
 refine FC.intro mo Tryz.func78 c78 ?_
 unfold e78 r78
 simp(disch:=omega)only[go_sem,simprocAttr]
 refine D.JJ true true ?_
 refine J.loopX (X := List UInt8 × Nat × Nat) (x, a, x.length + 1) (fun y => [(0, .ptr 0 0)]) (fun y => [(0, 149, [.str s, .int .i64 (y.2.1 : Int)])]) (fun _ => []) (fun y => Suf s y.1 y.2.1 ∧ y.1.length < y.2.2 ∧ R = skipR y.2.2 y.1) (fun y => y.1.length) ⟨hx, by simp, hR⟩ ⟨rfl, trivial⟩ ⟨rfl, trivial⟩ trivial ?_
 rintro ⟨y, p, n⟩ ⟨hy, hn, hR⟩
 simp only at hy hn hR ⊢
 clear hx
 have hly := hy.1
 rcases n with _ | n
 ·omega
 cases y with
 | nil =>
  simp only [List.length_nil] at hly
  simp only [skipR] at hR
  have d1 : ¬ (p : Int) < (s.length : Int) := by omega
  (have z1:=d1;refine GoG1 ?_;clear z1)
  first|refine D.R ?_|refine D.E ?_
  rw [hR]
  exact ⟨rfl, ⟨by rw [List.length_nil, show s.length - 0 = p by omega]; rfl, trivial⟩, trivial⟩
 | cons c y =>
 have hv : (c :: y)[0]? = some c := rfl
 have hc : c.toNat < 256 := c.toNat_lt
 have hy2 := hy.2
 have ht := hy.tail
 simp only [List.length_cons] at hly hn
 simp only [skipR] at hR
 have d1 : (p : Int) < (s.length : Int) := by omega
 have e144 := e144A c
 obtain ⟨Y, hY⟩ : ∃ Y, Y = c :: y := ⟨_, rfl⟩
 have hYl : Y.length = y.length + 1 := by rw [hY]; rfl
 rw [← hY] at hR hy2 hv hy
 have w32 : IntKind.i32.wrap (c.toNat : Int) = (c.toNat : Int) := by rw [IntKind.wrap_i32]; omega
 (have z1:=d1;refine GoG1 ?_;clear z1)
 (apply DJ.sls1 (p);(· simp(disch:=omega)only[go_sem,simprocAttr]<;>with_reducible rfl);(· simp(disch:=omega)only[go_sem,simprocAttr]<;>with_reducible rfl);(· omega);(· (try simp only [List.length_map]);omega))
 rw [hy2]
 (have z1:=w32;refine GoG1 ?_;clear z1)
 refine D.P (e144) ?_
 by_cases hb : blankB c = true
 ·rw [if_pos hb] at hR
  rw [hb]
  refine GoG ?_
  refine J.roundX (y, p + 1, n) ⟨ht, by simp only; omega, hR⟩ ⟨rfl, trivial⟩ ⟨by simp only [Int.natCast_add]; rfl, trivial⟩ trivial rfl rfl (by show y.length < y.length + 1; omega)
 rw [if_neg hb] at hR
 have hb' : blankB c = false := by simpa using hb
 rw [hb']
 refine GoG ?_
 by_cases h2 : Y.take 2 = [47, 47]
 ·rw [if_pos h2] at hR
  have h3 : 2 ≤ Y.length := by
   have := congrArg List.length h2
   rw [List.length_take] at this
   simp at this
   omega
  refine D.P (q145b Y [47, 47] true (by omega) (by decide) (iff_of_true ⟨h3, h2⟩ rfl)) ?_
  have e146 := p146 Y 10
  rw [show (10 : Int).toNat.toUInt8 = 10 from rfl] at e146
  refine GoG ?_
  refine D.P (e146) ?_
  rcases line_ix Y with ⟨i1, i2⟩ | ⟨o, i1, i2, i3⟩
  ·rw [i1]
   rw [i2] at hR
   refine GoG ?_
   refine J.roundX ([], p + Y.length, n) ⟨⟨by show p + Y.length + 0 = s.length; omega, by show s.drop (p + Y.length) = []; exact List.drop_eq_nil_of_le (by omega)⟩, by simp only [List.length_nil]; omega, hR⟩ ⟨rfl, trivial⟩ ⟨by simp only [hYl]; rw [show ((p + (y.length + 1) : Nat) : Int) = (p : Int) + ((y.length : Int) + 1 - 1 + 1) by omega]; rfl, trivial⟩ trivial rfl rfl (by show 0 < y.length + 1; omega)
  ·rw [i1]
   rw [i3] at hR
   have d5 : ¬ (o : Int) < 0 := by omega
   (have z1:=d5;refine GoG1 ?_;clear z1)
   have hs2 : Suf s (Y.drop (o + 1)) (p + (o + 1)) := by
    have := Suf.app (Y.take (o + 1)) (by rw [List.take_append_drop]; exact hy)
    rw [List.length_take, Nat.min_eq_left (by omega)] at this
    exact this
   refine J.roundX (Y.drop (o + 1), p + (o + 1), n) ⟨hs2, by simp only [List.length_drop]; omega, hR⟩ ⟨rfl, trivial⟩ ⟨by simp only [Int.natCast_add]; rfl, trivial⟩ trivial rfl rfl (by show (Y.drop (o + 1)).length < y.length + 1; rw [List.length_drop]; omega)
 ·rw [if_neg h2] at hR
  refine D.P (q145b Y [47, 47] false (by omega) (by decide) (iff_of_false (fun h => h2 h.2) (by decide))) ?_
  refine GoG ?_
  first|refine D.R ?_|refine D.E ?_
  rw [hR]
  exact ⟨rfl, ⟨by rw [hy.eq]; rfl, trivial⟩, trivial⟩
end
section
set_option maxHeartbeats 4000000
attribute [local go_sem] sc scC Tk.row tk_flat
theorem D.B {Pr : Program} {anns : List AV} {l : List EI} {env : Env} {c c2 : CS} {K : Env → CS → Prop} {Rp : AV → CS → Prop} {f : FuncId} {args : List EOpd} {x : EOpd} {as0 cap : List AV} {v v' : AV} {d : Nat} (s : Sg) {bl0 bl1 : BL} {tl0 tl1 : TL} {n q : Nat} (hf : callable Pr f = true) (h : FC Pr f as0 (CS.of n q bl0 tl0) (Ro v bl1 tl1)) (hk : DJ Pr anns l ((d, v') :: env) c2 K Rp)
  (hx : cev env x = .fn (f + bnd) cap := by simp (disch := omega) only [go_sem, simprocAttr] <;> with_reducible rfl)
  (hc : (nodupB s.b && nodupB s.t && s.b.all (fun x => Nat.blt x c.nb) && s.t.all (fun x => Nat.blt x c.nt)) = true := by simp (disch := omega) only [go_sem, simprocAttr] <;> rfl) (hn : s.b.length = n := by rfl) (ht : s.t.length = q := by rfl) (hb : (bdL n q as0 && (bdB n q bl0 && bdT n q tl0)) = true := by simp (disch := omega) only [go_sem, simprocAttr] <;> rfl) (h1 : (bdB n q bl1 && (bdT n q tl1 && v.bd n q)) = true := by simp (disch := omega) only [go_sem, simprocAttr] <;> rfl)
  (hB : hasP c.H.blk s bl0 := by repeat first | exact trivial | refine ⟨rfl, ?_⟩) (hT : hasPT c.H.tok s tl0 := by repeat first | exact trivial | refine ⟨rfl, ?_⟩) (ha : cap ++ args.map (cev env) = renL s as0 := by simp (disch := omega) only [go_sem, simprocAttr] <;> rfl) (hv : v.ren s = v' := by simp (disch := omega) only [go_sem, simprocAttr] <;> with_reducible rfl) (hu : c.upd s bl1 tl1 = c2 := by simp (disch := omega) only [go_sem, simprocAttr] <;> with_reducible rfl) : DJ Pr anns (⟨some d, none, .callv x args⟩ :: l) env c K Rp := by
 subst hv hu
 exact DJ.br rfl hx hf (FC.fr s h hn ht hc hB hT hb h1 rfl) ha hk
theorem cl79 : callable Tryz.prog 79 = true := by kernel_rfl
theorem cl81 : callable Tryz.prog 81 = true := by kernel_rfl
theorem cl83 : callable Tryz.prog 83 = true := by kernel_rfl
theorem cl84 : callable Tryz.prog 84 = true := by kernel_rfl
theorem q30 (s : List UInt8) (hs : s.length ≤ 1000000) : Pure Tryz.prog 30 [.str s] (lexV (lexA s)) := by
 obtain ⟨R, hR⟩ : ∃ R, R = lexA s := ⟨_, rfl⟩
 rw [← hR]
 refine pure_of mo Tryz.func30 c30 rfl (by cases R <;> simp only [lexV, AV.flat, flatL, tk_flat, flatR, Bool.and_self]) ?_
 unfold e30 r30
 unfold lexA at hR
 simp(disch:=omega)only[go_sem,simprocAttr]
 by_cases h8 : 8000 < s.length
 ·rw [if_pos h8] at hR
  have d1 : (8000 : Int) < (s.length : Int) := by omega
  (have z1:=d1;refine GoG1 ?_;clear z1)
  first|refine D.R ?_|refine D.E ?_
  rw [hR]
  exact ⟨_, rfl, .tup (.cons .nil (.cons (.wk rfl rfl) (.cons (.wk rfl rfl) .nil))), trivial, trivial⟩
 rw [if_neg h8, lexL_succ] at hR
 have d1 : ¬ (8000 : Int) < (s.length : Int) := by omega
 have e78 := q78 s s 0 hs (Suf.refl s)
 obtain ⟨u0, hu0⟩ := skipR_suf (s.length + 1) s
 obtain ⟨p0, hp0, hy0, _⟩ := (Suf.refl s).of hu0
 generalize skipR (s.length + 1) s = y0 at *
 rw [hp0] at e78
 clear hp0 hu0
 (have z1:=d1;refine GoB1 ?_;clear z1)
 refine D.F ⟨[0],[]⟩ (e78) ?_
 refine GoB ?_
 refine J.ghE 2 4 152 rfl (by decide) ?_
 simp(disch:=omega)only[go_sem,simprocAttr]
 refine D.JJ true true ?_
 have hb0 : y0.length ≤ s.length := by have := hy0.1; omega
 clear e78 d1
 refine J.loopX (X := List Tk × List UInt8 × Nat × Nat) ([], y0, p0, s.length) (fun x => [(0, .str s), (5, .ptr 0 0), (2, .own 0 4 (x.1.map Tk.row))]) (fun x => [(0, 149, [.str s, .int .i64 (x.2.2.1 : Int)])]) (fun x => [(0, .frz 152 4 (x.1.map Tk.row).length)]) (fun x => Suf s x.2.1 x.2.2.1 ∧ x.1.length ≤ x.2.2.1 ∧ x.2.1.length ≤ x.2.2.2 ∧ R = lexB s.length x.2.2.2 x.1 x.2.1) (fun x => x.2.1.length) ⟨hy0, Nat.zero_le _, hb0, hR⟩ ⟨rfl, rfl, rfl, trivial⟩ ⟨rfl, trivial⟩ ⟨rfl, trivial⟩ ?_
 rintro ⟨acc, y, p, n⟩ ⟨hy, hb, hn, hR⟩
 simp only at hy hb hn hR ⊢
 clear hy0 hb0
 have hly := hy.1
 cases y with
 | nil =>
  simp only [List.length_nil] at hly
  simp only [lexB] at hR
  have d1 : ¬ (p : Int) < (s.length : Int) := by omega
  (have z1:=d1;refine GoG1 ?_;clear z1)
  first|refine D.R ?_|refine D.E ?_
  rw [hR]
  exact ⟨_, rfl, .tup (.cons (.wk rfl (by simp only [AV.flat, tk_flat])) (.cons (.wk rfl rfl) (.cons (.wk rfl rfl) .nil))), trivial, trivial⟩
 | cons c y =>
 have hv := hy.get
 have hc := mapsto c
 simp only [List.length_cons] at hly
 have d1 : (p : Int) < (s.length : Int) := by omega
 simp only [lexB] at hR
 rw [hy.eq] at hR
 obtain ⟨T, hT⟩ : ∃ T, T = tokL (c :: y) := ⟨_, rfl⟩
 have hsuf : ∀ t r, T = .ok t r → ∃ d u, c :: y = (d :: u) ++ r := fun t r h => tokL_suf (hT ▸ h)
 have herr : ∀ er, T = .err er → er ≠ 0 := fun er h => tokL_err (hT ▸ h)
 rw [← hT] at hR
 simp only [tokL] at hT
 have eL : Pure Tryz.prog 80 [.int .u8 (c.toNat : Int)] (.bool (letterB c)) := q80 _
 have eD : Pure Tryz.prog 82 [.int .u8 (c.toNat : Int)] (.bool (digitB c)) := q82 _
 (have z1:=d1;refine GoB1 ?_;clear z1)
 refine D.JJ true true ?_
 refine GoB ?_
 clear hv
 refine J.blkX (X := FuncId) (fun f => [(0, .str s), (5, .ptr 0 0), (2, .own 0 4 (acc.map Tk.row)), (6, .fn (f + bnd) [.ptr 0 0])]) (fun _ => [(0, 149, [.str s, .int .i64 (p : Int)])]) (fun _ => [(0, .frz 152 4 (acc.map Tk.row).length)]) (fun f => callable Tryz.prog f = true ∧ FC Tryz.prog f [.ptr 0 0] (sc s p) (LP s T)) ?_ ?_
 rotate_left
 ·intro hj
  refine GoG ?_
  refine D.P (eL) ?_
  cases hL : letterB c
  rotate_left
  ·rw [if_pos hL] at hT
   have e := q81 s (c :: y) p hs hy
   rw [← hT] at e
   refine GoD ?_
   refine D.JJ true true ?_
   refine J.reg0 ?_
   refine GoD ?_
   refine J.blkEnd ?_
   refine hj _ _ 81 ⟨cl81, e⟩ ?_ ?_ ?_ ?_ ?_
   all_goals first | rfl | exact ⟨rfl, trivial⟩ | exact ⟨rfl, rfl, rfl, rfl, trivial⟩
  rw [if_neg (by rw [hL]; decide)] at hT
  refine GoG ?_
  refine D.P (eD) ?_
  cases hD : digitB c
  rotate_left
  ·rw [if_pos hD] at hT
   have e := q83 s (c :: y) p hs hy
   rw [← hT] at e
   refine GoD ?_
   refine D.JJ true true ?_
   refine J.reg0 ?_
   refine GoD ?_
   refine J.blkEnd ?_
   refine hj _ _ 83 ⟨cl83, e⟩ ?_ ?_ ?_ ?_ ?_
   all_goals first | rfl | exact ⟨rfl, trivial⟩ | exact ⟨rfl, rfl, rfl, rfl, trivial⟩
  rw [if_neg (by rw [hD]; decide)] at hT
  refine GoG ?_
  by_cases h34 : c.toNat = 34
  ·rw [if_pos h34] at hT
   have e := q84 s y p hs hy.tail
   rw [← hT] at e
   have d2 : (c.toNat : Int) = 34 := by omega
   simp only [decide_eq_true d2]
   refine D.JJ true true ?_
   refine J.reg0 ?_
   refine GoD ?_
   refine J.blkEnd ?_
   refine hj _ _ 84 ⟨cl84, e⟩ ?_ ?_ ?_ ?_ ?_
   all_goals first | rfl | exact ⟨rfl, trivial⟩ | exact ⟨rfl, rfl, rfl, rfl, trivial⟩
  ·rw [if_neg h34] at hT
   have e := q79 s c y p hs hy
   rw [← hT] at e
   have d2 : ¬ (c.toNat : Int) = 34 := by omega
   simp only [decide_eq_false d2]
   refine D.JJ true true ?_
   refine J.skip ?_
   refine J.blkEnd ?_
   refine hj _ _ 79 ⟨cl79, e⟩ ?_ ?_ ?_ ?_ ?_
   all_goals first | rfl | exact ⟨rfl, trivial⟩ | exact ⟨rfl, rfl, rfl, rfl, trivial⟩
 rintro f ⟨hcl, e⟩
 simp(disch:=omega)only[go_sem,simprocAttr]
 refine GoG ?_
 clear hT
 cases T with
 | err er =>
  simp only at hR
  have d2 : ¬ er = 0 := herr er rfl
  refine D.B ⟨[0], []⟩ hcl e ?_
  (have z1:=d2;refine GoG1 ?_;clear z1)
  first|refine D.R ?_|refine D.E ?_
  rw [hR]
  exact ⟨_, rfl, .tup (.cons .nil (.cons (.wk rfl rfl) (.cons (.wk rfl rfl) .nil))), trivial, trivial⟩
 | ok t r =>
  simp only at hR
  obtain ⟨d, u, hu⟩ := hsuf t r rfl
  obtain ⟨p1, hp1, hr1, hl1⟩ := hy.of hu
  rw [show LP s (.ok t r) = Ro (.tup [.agg t.row, .int .i64 0]) [(0, 149, scC s p1)] [] by simp only [LP, hp1]] at e
  have e78 := q78 s r p1 hs hr1
  obtain ⟨u2, hu2⟩ := skipR_suf (r.length + 1) r
  obtain ⟨p2, hp2, hr2, hl2⟩ := hr1.of hu2
  have hrl : r.length < (c :: y).length := by rw [hu]; simp only [List.length_append, List.length_cons]; omega
  rcases n with _ | n
  ·simp at hn
  rw [lexL_succ] at hR
  have hyl : (skipR (r.length + 1) r).length ≤ r.length := by have := congrArg List.length hu2; rw [List.length_append] at this; omega
  generalize skipR (r.length + 1) r = y2 at *
  rw [hp2] at e78
  refine D.B ⟨[0], []⟩ hcl e ?_
  refine GoG ?_
  refine D.ap ?_
  refine GoG ?_
  refine D.F ⟨[0],[]⟩ (e78) ?_
  refine GoG ?_
  simp only [List.length_cons] at hn hrl hl1
  refine J.roundC (acc ++ [⟨t.kind, t.text, t.val, (p : Int)⟩], y2, p2, n) ⟨hr2, by simp only [List.length_append, List.length_cons, List.length_nil]; omega, by simp only; omega, hR⟩ ⟨rfl, rfl, by simp only [List.map_append, List.map_cons, List.map_nil, Tk.row]; rfl, trivial⟩ ⟨rfl, trivial⟩ ⟨by simp only [List.map_append, List.map_cons, List.map_nil, List.length_append]; rfl, trivial⟩ rfl (by simp only [bdE, bdL, bdB, bdT, bdO, AV.bd, Own.frz, tk_flat, go_sem] <;> rfl) (by show y2.length < y.length + 1; omega)
end
end Go.Aw.T.N
namespace Go.Aw
open Go
set_option linter.unusedVariables false
abbrev Bs := List UInt8
def quoteR : Bs → Bs
 | [] => []
 | c :: s => (if c.toNat = 34 ∨ c.toNat = 92 then [92, c] else [c]) ++ quoteR s
def quoteB (s : Bs) : Bs := [34] ++ quoteR s ++ [34]
def Ex.kind : Ex → Int | .mk k _ _ _ _ _ => k
def Ex.op : Ex → Bs | .mk _ o _ _ _ _ => o
def Ex.args : Ex → List Ex | .mk _ _ _ _ _ l => l
def Sm.kind : Sm → Int | .mk k _ _ _ _ _ => k
def opdB (x : Ex) (s : Bs) (k : Int) : Bs := if x.kind = 6 ∧ precP x.op < k then [40] ++ s ++ [41] else s
def len1 : List Bs → Bs
 | s :: _ => [108, 101, 110, 40] ++ s ++ [41]
 | [] => []
def un1 (o : Bs) : List Ex → List Bs → Bs
 | x :: _, s :: _ => o ++ opdB x s 7
 | _, _ => []
def bin2 (o : Bs) : List Ex → List Bs → Bs
 | x :: y :: _, s :: u :: _ => opdB x s (precP o) ++ [32] ++ o ++ [32] ++ opdB y u (precP o + 1)
 | _, _ => []
def fmtE (k : Int) (o m t : Bs) (n : Int) (l : List Ex) (ss : List Bs) : Bs :=
 if k = 1 then Lib.itoa n else if k = 2 then quoteB t else if k = 3 then m else if k = 4 then len1 ss else if k = 5 then un1 o l ss else bin2 o l ss
mutual
def showE : Ex → Bs
 | .mk k o m t n l => fmtE k o m t n l (showEs l)
def showEs : List Ex → List Bs
 | [] => []
 | x :: l => showE x :: showEs l
end
theorem showEs_map : ∀ l, showEs l = l.map showE
 | [] => rfl
 | x :: l => by simp only [showEs, List.map_cons, showEs_map l]
def lineB (d : Nat) (ps : List Bs) : Bs := List.replicate d 9 ++ ps.flatten ++ [10]
def isElif : List Sm → Bool
 | [y] => decide (y.kind = 2)
 | _ => false
mutual
def Sm.pr (d : Nat) (hd : Bs) : Sm → Bs
 | .mk k m x t a b => if k = 1 then lineB d [m, [32, 61, 32], showE x, [59]]
  else if k = 3 then lineB d [[119, 104, 105, 108, 101, 32], showE x, [32, 116, 105, 109, 101, 115, 32], Lib.itoa t, [32, 123]] ++ Sm.prs (d + 1) a ++ lineB d [[125]]
  else lineB d [hd, showE x, [32, 123]] ++ Sm.prs (d + 1) a ++ (if isElif b = true then Sm.elif d b else (if b.isEmpty = true then [] else lineB d [[125, 32, 101, 108, 115, 101, 32, 123]] ++ Sm.prs (d + 1) b) ++ lineB d [[125]])
def Sm.prs (d : Nat) : List Sm → Bs
 | [] => []
 | x :: l => Sm.pr d [105, 102, 32] x ++ Sm.prs d l
def Sm.elif (d : Nat) : List Sm → Bs
 | [] => []
 | y :: _ => Sm.pr d [125, 32, 101, 108, 115, 101, 32, 105, 102, 32] y
end
def initB (k n : Int) (s : Bs) : Bs := if k = 2 then quoteB s else Lib.itoa n
def varB (v : Vr) : Bs := lineB 1 [[118, 97, 114, 32], v.name, [58, 32], if v.sk = 2 then [116, 101, 120, 116, 32] else [105, 110, 116, 32], Lib.itoa v.lo, [32, 46, 46, 32], Lib.itoa v.hi, [32, 61, 32], initB v.ik v.n v.s, [59]]
def hanB (h : Ha) : Bs := lineB 1 [[111, 110, 32], h.msg, [40], Lib.join h.ps [44, 32], [41, 32, 102, 114, 111, 109, 32], h.peer, [32, 123]] ++ Sm.prs 2 h.body ++ lineB 1 [[125]]
def whenB : List Ex → Bs
 | [] => []
 | x :: _ => [32, 119, 104, 101, 114, 101, 32] ++ showE x
def offB (o : Off) : Bs := lineB 1 [[111, 102, 102, 101, 114, 32], o.msg, [40], Lib.join (o.args.map showE) [44, 32], [41, 32, 116, 111, 32], o.peer, whenB o.whn, [59]]
def canonB (x : Sv) : Bs :=
 lineB 0 [[115, 101, 114, 118, 105, 99, 101, 32], x.name, [32, 112, 108, 97, 121, 115, 32], x.role, [32, 111, 102, 32], x.proto, [32, 123]] ++ (x.vars.map varB).flatten ++ (x.hs.map hanB).flatten ++ (x.os.map offB).flatten ++ lineB 0 [[125]]
end Go.Aw
namespace Go.Aw.T.N
open Go Go.Aw Go.Proofs Go.RowKit
set_option maxRecDepth 100000
attribute [local irreducible] Go.Aw.J Go.Aw.DJ Go.Aw.FC
attribute [local go_sem] wrap64 wrapu64 wrapu8 nnif decide_true decide_false dst gst gv_b gv_u jst jpop bdL bdB bdT bdO AV.bd tfL AV.tf o_mv o_pick o_nilck o_build o_load o_loadD o_loadR o_faddr o_field o_iaddr o_iaddrA o_idxA o_idxS o_bin o_binB o_eqA o_not o_pnil o_neg o_conv o_lenS o_len o_lenA o_minmax o_slS o_slV o_extract o_mkfn o_mkfnB o_convS o_convBS o_mkif o_isnil o_bslice o_box o_alloc o_store o_storeD o_bsliceO o_bsliceM cpv cev_t cev_c Env.get put_some' put_none' of_setB of_addB of_setT of_addT of_upd of_blk of_tok of_nb of_nt of_new rmB rmT rmBs rmTs renB renT apB apT lkB lkT getD_0 getD_s renL AV.ren crange_if cstB_if one_nilS one_pnil oc_nil oc_pnil cbin binInt shInt binStr binBool cbuild_nil cbuild_cons cidx_if AV.cells AV.okc AV.flat flatL flatR setRange minmaxAV AV.one AV.ofCells eqCells eqCell slRows initEnv initFrom cres cresv cresL cond_true cond_false beq_self_eq_true Bool.not_true Bool.not_false beq_true beq_false eq_self if_true Option.some.injEq List.length_cons List.length_nil List.take_succ_cons List.take_zero List.drop_succ_cons List.drop_zero List.set_cons_succ List.set_cons_zero List.nil_append List.cons_append List.append_nil and_self Option.map_some Option.map_none List.map_cons List.map_nil Bool.false_eq_true if_false Nat.zero_add Nat.add_zero true_and and_true Bool.and_true Bool.true_and List.getElem?_cons_zero List.getElem?_cons_succ Nat.zero_le Nat.le_refl List.all_cons List.all_nil List.flatten_cons List.flatten_nil crows crowsOk List.filter_cons List.filter_nil List.contains_cons List.contains_nil Bool.or_false Bool.or_true Bool.false_or Bool.true_or
set_option linter.unusedSimpArgs false
set_option linter.unusedVariables false
section
set_option maxHeartbeats 4000000
theorem by_flat (l : List UInt8) : flatR (l.map byR) = true := flatR_map (fun _ => rfl) l
attribute [local go_sem] byR by_flat
abbrev bb (T : TypeId) (A : AV) (out : List UInt8) (cs : List AV) : BL := [(0, T, A :: .own 0 1 (out.map byR) :: cs)]
abbrev bt (out : List UInt8) : TL := [(0, .frz 5 1 (out.map byR).length)]
abbrev bw (T : TypeId) (A : AV) (out : List UInt8) (cs : List AV) : CS := CS.of 1 1 (bb T A out cs) (bt out)
def BT (T : TypeId) (cs : List AV) : Prop := (T = 180 ∧ cs = []) ∨ (T = 182 ∧ ∃ d : Int, cs = [.int .i64 d])
theorem t199 {T : TypeId} {A : AV} {cs : List AV} (hT : BT T cs) (out : List UInt8) (hA : okAddr 0 A = true) : FC Tryz.prog 199 [.ptr 0 0] (bw T A out cs) (Ro (.tup []) (bb T (.ptr 0 0) out cs) (bt out)) := by
 have hl : liesAt Tryz.prog Tryz.prog.depth T ((AV.own 0 1 (out.map byR) :: cs).length + 1 |> (· / Tryz.prog.cellsOf T)) 0 (Tryz.lays156_ren.t 72) 1 = true := by
  rcases hT with ⟨rfl, rfl⟩ | ⟨rfl, d, rfl⟩
  ·kernel_rfl
  ·kernel_rfl
 have := cc_fc (c := bw T A out cs) Tryz.lays240 Tryz.extra156.toX72 (T := T) (b := 0) (a := A) (cs := .own 0 1 (out.map byR) :: cs) hl rfl hA
 rw [of_setB] at this
 exact this.mono fun o c ⟨e1, e2⟩ => by subst e1 e2; exact ⟨rfl, ⟨rfl, trivial⟩, rfl, trivial⟩
def AT (A : AV) : Prop := A = .raw (.pointer none) ∨ A = .ptr 0 0
theorem at_ok {A : AV} (h : AT A) : okAddr 0 A = true := by rcases h with rfl | rfl <;> rfl
theorem q176 {T : TypeId} {A : AV} {cs : List AV} (hT : BT T cs) (hA : AT A) (out s : List UInt8) (hl : out.length + s.length ≤ 1000000000) : FC Tryz.prog 176 [.ptr 0 0, .str s] (bw T A out cs) (Ro (.tup [.int .i64 (s.length : Int), .raw .nilIface]) (bb T (.ptr 0 0) (out ++ s) cs) (bt (out ++ s))) := by
 have e := t199 hT out (at_ok hA)
 have hb : rowsOf 1 (.str s) = some (s.map byR) := rfl
 have hl2 : (out.map byR).length = out.length := List.length_map _
 rcases hA with rfl | rfl <;> rcases hT with ⟨rfl, rfl⟩ | ⟨rfl, d, rfl⟩
 all_goals
  refine FC.intro mo Tryz.func176 c176 ?_
  unfold e176 r176
  simp(disch:=omega)only[go_sem,simprocAttr]
  refine GoG ?_
  refine D.F ⟨[0],[0]⟩ (e) ?_
  refine GoG ?_
  (apply DJ.ap' (new := s.map byR);(· simp(disch:=omega)only[go_sem,simprocAttr]<;>with_reducible rfl);(· simp(disch:=omega)only[go_sem,simprocAttr]<;>with_reducible rfl);(· exact hb);(· simp only [List.length_map]; omega);(· simp only [List.length_map, maxLen]; omega))
  refine GoG ?_
  first|refine D.R ?_|refine D.E ?_
  refine ⟨rfl, ⟨?_, trivial⟩, ?_, trivial⟩
  ·simp only [List.map_append]; rfl
  ·simp only [List.map_append, List.length_append]; rfl
theorem q178 {T : TypeId} {A : AV} {cs : List AV} (hT : BT T cs) (hA : AT A) (out : List UInt8) (c : UInt8) (z : Int) (hz : (c.toNat : Int) = z) (hl : out.length + 1 ≤ 1000000000) : FC Tryz.prog 178 [.ptr 0 0, .int .u8 z] (bw T A out cs) (Ro (.raw .nilIface) (bb T (.ptr 0 0) (out ++ [c]) cs) (bt (out ++ [c]))) := by
 have e := t199 hT out (at_ok hA)
 have hl2 : (out.map byR).length = out.length := List.length_map _
 subst hz
 rcases hA with rfl | rfl <;> rcases hT with ⟨rfl, rfl⟩ | ⟨rfl, d, rfl⟩
 all_goals
  refine FC.intro mo Tryz.func178 c178 ?_
  unfold e178 r178
  simp(disch:=omega)only[go_sem,simprocAttr]
  refine GoG ?_
  refine D.F ⟨[0],[0]⟩ (e) ?_
  refine GoG ?_
  refine D.ap ?_
  refine GoG ?_
  first|refine D.R ?_|refine D.E ?_
  refine ⟨rfl, ⟨?_, trivial⟩, ?_, trivial⟩
  ·simp only [List.map_append]; rfl
  ·simp only [List.map_append, List.length_append]; rfl
end
section
set_option maxHeartbeats 4000000
attribute [local go_sem] byR by_flat
theorem t129 {T : TypeId} {A : AV} {cs : List AV} (hA : True) (out : List UInt8) (h0 : out ≠ []) : FC Tryz.prog 129 [.ptr 0 0] (bw T A out cs) (Ro (.str out) [] []) := by
 have := str_fc (c := bw T A out cs) Tryz.lays169 Tryz.extra156 (T := T) (b := 0) (t := 0) (cs := A :: .own 0 1 (out.map byR) :: cs) (l := out) rfl rfl (by simp only [bw, bt, List.length_map]; rfl) h0
 exact this.mono fun o c ⟨e1, e2⟩ => by subst e1; exact ⟨rfl, trivial, trivial⟩
theorem quoteR_app : ∀ a b : Bs, quoteR (a ++ b) = quoteR a ++ quoteR b
 | [], b => rfl
 | c :: a, b => by simp only [List.cons_append, quoteR, quoteR_app a b, List.append_assoc]
theorem quoteR_len : ∀ a : Bs, (quoteR a).length ≤ 2 * a.length
 | [] => Nat.le_refl _
 | c :: a => by
  have := quoteR_len a
  simp only [quoteR, List.length_append, List.length_cons]
  split <;> simp only [List.length_cons, List.length_nil] <;> omega
theorem quoteR_take {s : Bs} {i : Nat} {c : UInt8} (h : s[i]? = some c) : quoteR (s.take (i + 1)) = quoteR (s.take i) ++ (if c.toNat = 34 ∨ c.toNat = 92 then [92, c] else [c]) := by
 rw [List.take_add_one, h, quoteR_app]
 simp only [Option.toList_some, quoteR, List.append_nil]
theorem q180 (s : Bs) (hs : s.length ≤ 100000000) : Pure Tryz.prog 180 [.str s] (.str (quoteB s)) := by
 refine pure_of mo Tryz.func180 c180 rfl rfl ?_
 unfold e180 r180
 simp(disch:=omega)only[go_sem,simprocAttr]
 refine D.JJ true true ?_
 refine J.reg0 ?_
 refine GoD ?_
 refine D.JJ true true ?_
 refine J.reg0 ?_
 refine GoD ?_
 have hB : BT 180 [] := .inl ⟨rfl, rfl⟩
 refine J.ghB 0 1 1 5 rfl rfl (by decide) ?_
 simp(disch:=omega)only[go_sem,simprocAttr]
 refine GoG ?_
 refine D.F ⟨[0],[0]⟩ (q178 hB (.inl rfl) [] 34 34 rfl (by decide)) ?_
 refine GoG ?_
 refine J.loopX (X := Nat) 0 (fun i => [(0, .str s), (3, .ptr 0 0), (7, .int .i64 (s.length : Int)), (8, .int .i64 (i : Int))]) (fun i => bb 180 (.ptr 0 0) ([34] ++ quoteR (s.take i)) []) (fun i => bt ([34] ++ quoteR (s.take i))) (fun i => i ≤ s.length) (fun i => s.length - i) (Nat.zero_le _) ⟨rfl, rfl, rfl, rfl, trivial⟩ ⟨rfl, trivial⟩ ⟨rfl, trivial⟩ ?_
 intro i hi
 try simp only at hi ⊢
 have hql := quoteR_len (s.take i)
 rw [List.length_take] at hql
 cases hv : s[i]? with
 | some c =>
  have hlt := (List.getElem?_eq_some_iff.1 hv).1
  have d1 : (i : Int) < (s.length : Int) := by omega
  have hsn := quoteR_take hv
  obtain ⟨Y, hY⟩ : ∃ Y, Y = [34] ++ quoteR (s.take i) := ⟨_, rfl⟩
  have hYl : Y.length ≤ 400000000 := by rw [hY]; simp only [List.length_append, List.length_cons, List.length_nil]; omega
  rw [← hY]
  by_cases h34 : c.toNat = 34 ∨ c.toNat = 92
  ·rw [if_pos h34] at hsn
   have hy2 : 34 :: quoteR (s.take (i + 1)) = Y ++ [92] ++ [c] := by rw [hsn, hY]; simp
   clear hY hsn
   rcases h34 with h | h
   focus
    have d2 : (c.toNat : Int) = 34 := by omega
    (repeat' first|(apply DJ.s rfl;(· simp(disch:=omega)only[go_sem,simprocAttr,d1, d2]<;>with_reducible rfl))|(apply J.s true true;(· simp(disch:=omega)only[go_sem,simprocAttr,d1, d2]<;>with_reducible rfl))|apply DJ.nil|(refine J.reg0 ?_)|(apply DJ.gw;(· simp(disch:=omega)only[go_sem,simprocAttr,d1, d2]<;>with_reducible rfl))|(apply DJ.gz;(· rfl);(· simp(disch:=omega)only[go_sem,simprocAttr,d1, d2]<;>with_reducible rfl))|(apply DJ.gs;(· simp(disch:=omega)only[go_sem,simprocAttr,d1, d2]<;>with_reducible rfl))|((first|apply DJ.ixm|apply DJ.ixom|apply DJ.ixsm);(· simp(disch:=omega)only[go_sem,simprocAttr,d1, d2]<;>with_reducible rfl);(· simp(disch:=omega)only[go_sem,simprocAttr,d1, d2]<;>with_reducible rfl);(· assumption);(· omega))|intro h)
   rotate_left
   focus
    have d2 : ¬ (c.toNat : Int) = 34 := by omega
    have d3 : (c.toNat : Int) = 92 := by omega
    (repeat' first|(apply DJ.s rfl;(· simp(disch:=omega)only[go_sem,simprocAttr,d1, d2, d3]<;>with_reducible rfl))|(apply J.s true true;(· simp(disch:=omega)only[go_sem,simprocAttr,d1, d2, d3]<;>with_reducible rfl))|apply DJ.nil|(refine J.reg0 ?_)|(apply DJ.gw;(· simp(disch:=omega)only[go_sem,simprocAttr,d1, d2, d3]<;>with_reducible rfl))|(apply DJ.gz;(· rfl);(· simp(disch:=omega)only[go_sem,simprocAttr,d1, d2, d3]<;>with_reducible rfl))|(apply DJ.gs;(· simp(disch:=omega)only[go_sem,simprocAttr,d1, d2, d3]<;>with_reducible rfl))|((first|apply DJ.ixm|apply DJ.ixom|apply DJ.ixsm);(· simp(disch:=omega)only[go_sem,simprocAttr,d1, d2, d3]<;>with_reducible rfl);(· simp(disch:=omega)only[go_sem,simprocAttr,d1, d2, d3]<;>with_reducible rfl);(· assumption);(· omega))|intro h)
   all_goals
    refine D.F ⟨[0],[0]⟩ (q178 hB (.inr rfl) Y 92 92 rfl (by omega)) ?_
    refine GoG ?_
    refine D.F ⟨[0],[0]⟩ (q178 hB (.inr rfl) (Y ++ [92]) c _ rfl (by simp only [List.length_append, List.length_cons, List.length_nil]; omega)) ?_
    refine GoG ?_
    refine J.roundX (i + 1) (by omega) ⟨rfl, rfl, rfl, by simp only [Int.natCast_add]; rfl, trivial⟩ (by rw [hy2]; exact ⟨rfl, trivial⟩) (by rw [hy2]; exact ⟨rfl, trivial⟩) rfl rfl (by show s.length - (i + 1) < s.length - i; omega)
  ·rw [if_neg h34] at hsn
   have hy2 : 34 :: quoteR (s.take (i + 1)) = Y ++ [c] := by rw [hsn, hY]; simp
   clear hY hsn
   have d2 : ¬ (c.toNat : Int) = 34 := by omega
   have d3 : ¬ (c.toNat : Int) = 92 := by omega
   (have z1:=d1;have z2:=d2;have z3:=d3;refine GoG3 ?_;clear z1 z2 z3)
   refine D.F ⟨[0],[0]⟩ (q178 hB (.inr rfl) Y c _ rfl (by omega)) ?_
   refine GoG ?_
   refine J.roundX (i + 1) (by omega) ⟨rfl, rfl, rfl, by simp only [Int.natCast_add]; rfl, trivial⟩ (by rw [hy2]; exact ⟨rfl, trivial⟩) (by rw [hy2]; exact ⟨rfl, trivial⟩) rfl rfl (by show s.length - (i + 1) < s.length - i; omega)
 | none =>
  have hge := List.getElem?_eq_none_iff.1 hv
  have e0 : i = s.length := by omega
  subst e0
  have d1 : ¬ (s.length : Int) < (s.length : Int) := by omega
  rw [List.take_length] at hql ⊢
  (have z1:=d1;refine GoG1 ?_;clear z1)
  refine D.F ⟨[0],[0]⟩ (q178 hB (.inr rfl) (34 :: quoteR s) 34 34 rfl (by simp only [List.length_cons]; omega)) ?_
  refine GoG ?_
  refine D.F ⟨[0],[0]⟩ (t129 (T := 180) (A := .ptr 0 0) (cs := []) trivial (34 :: quoteR s ++ [34]) (by simp)) ?_
  refine GoG ?_
  first|refine D.R ?_|refine D.E ?_
  exact ⟨_, rfl, .wk rfl rfl, trivial, trivial⟩
end
end Go.Aw.T.N
namespace Go.Aw.T.N
open Go Go.Aw Go.Proofs Go.RowKit
set_option maxRecDepth 100000
attribute [local irreducible] Go.Aw.DM Go.Aw.AHeap.setB Go.Aw.AHeap.setT
attribute [local go_sem] peval EOpd.ev Env.get binInt binStr binBool buildParts AV.cells AV.okc setRange minmaxAV AV.one AV.ofCells eqCells eqCell bslRows cond_true cond_false beq_self_eq_true Bool.not_true Bool.not_false beq_true beq_false eq_self if_true Option.some.injEq List.length_cons List.length_nil List.take_succ_cons List.take_zero List.drop_succ_cons List.drop_zero List.set_cons_succ List.set_cons_zero List.nil_append List.cons_append List.append_nil and_self Option.map_some List.map_cons List.map_nil Bool.false_eq_true if_false Nat.zero_add Nat.add_zero true_and and_true Bool.and_true Bool.true_and List.getElem?_cons_zero List.getElem?_cons_succ Nat.zero_le Nat.le_refl
set_option linter.unusedSimpArgs false
set_option linter.unusedVariables false
section
theorem calls_plain {P : Program} {f : FuncId} {args : List AV} {r : AV} (h : Pure P f args r) (w : World) (vs : List Value) (ha : ∀ m, RvL m args vs) (hG : GlobW w) :
  Calls P f ⟨vs⟩ w fun e w' => (∃ v, e = .returned v ∧ ∃ m : Mem, Rv m r v) ∧ Below w.heap.size w w' := by
 have := h AHeap.none ⟨w, AHeap.none, fun _ => .nilFunc, 0⟩ vs rfl ⟨fun b T cs hb => by simp [AHeap.none] at hb, fun t i hi => by simp [AHeap.none] at hi, hG, fun p hp => ⟨rfl, fun t i hi => by simp [AHeap.none] at hi⟩⟩ (ha _)
 refine this.mono fun e w' ⟨o, H', L', T', g1, g2, g3, g4, g5⟩ => ?_
 subst g4
 simp only [RvOut] at g3
 obtain ⟨v, e1, e2⟩ := g3
 exact ⟨⟨v, e1, _, e2⟩, ⟨g2.os, g2.tape, g2.output, g2.size, fun b hb => (g2.block b hb rfl (fun t i hi => by simp [AHeap.none] at hi)).1⟩⟩
def bad (n : Nat) : Bool := decide ((n : Int) < 32) || decide ((126 : Int) < n)
theorem p162 (n : Nat) : Pure Tryz.prog 162 [.int .i32 (n : Int)] (.bool (bad n)) := by
 refine pure_intro mo Tryz.func162 c162 fun H => ?_
 unfold e162 r162
 simp only [initEnv, initFrom]
 repeat' first|refine Sp.g ?_|(intro b hb;repeat first|(refine fe hb ?_;intro _ _ hb)|(refine fT hb ?_;intro hb))|refine rt ?_|refine gA rfl ?_|refine gB rfl ?_|apply cT rfl|apply cF rfl|(apply DM.gbT;rfl)|(apply DM.gbF;rfl)|intro h
 all_goals (refine Sr.g ?_)
 all_goals (refine avle_eq ?_; rw [AV.bool.injEq, Bool.eq_iff_iff]; simp [bad] at *; try omega)
def idxFrom (s : ByteArray) : Nat → Nat → Int
 | 0, _ => -1
 | f + 1, pos => if pos < s.size then (if bad (Utf8.decode s pos).1 then (pos : Int) else idxFrom s f (pos + (Utf8.decode s pos).2)) else -1
theorem idxFrom_end (s : ByteArray) (f pos : Nat) (h : ¬ pos < s.size) : idxFrom s f pos = -1 := by cases f <;> simp [idxFrom, h]
theorem width_pos' (s : ByteArray) (pos : Nat) (h : pos < s.size) : 1 ≤ (Utf8.decode s pos).2 := by
 by_cases ha : (s[pos]'h).toNat < 128
 ·rw [decode_ascii s pos h ha]; exact Nat.le_refl _
 ·exact (decode_high s pos h (by omega)).2
open Go.Lib in
set_option maxHeartbeats 2000000 in
theorem w210 (s : ByteArray) (w : World) (hG : GlobW w) : Calls Tryz.prog 210 #[.string s, .func (.func 162) #[] #[], .bool true] w fun e w' => e = .returned (.int .i64 (idxFrom s s.size 0)) ∧ Below w.heap.size w w' := by
 have hp : ∀ (W : World) (r : Nat), GlobW W → Calls Tryz.prog 162 #[.int .i32 (r : Int)] W fun e w' => e = .returned (.bool (bad r)) ∧ Below W.heap.size W w' := by
  intro W r hGW
  refine (calls_plain (hG := hGW) (p162 r) W [.int .i32 (r : Int)] (fun m => by simp only [RvL, Rv]; exact ⟨_, _, rfl, rfl, rfl⟩)).mono ?_
  rintro e w' ⟨⟨v, rfl, m, hv⟩, hb⟩
  simp only [Rv] at hv
  subst hv
  exact ⟨rfl, hb⟩
 go_enter Tryz.func210, Tryz.ntmps210
 go_wp2
 go_loopg [] s.size (fun gf wx => ∃ pos : Nat, wx.heap[w.heap.size]? = some (.stringIter s pos) ∧ Below w.heap.size w wx ∧ idxFrom s gf pos = idxFrom s s.size 0 ∧ s.size ≤ pos + gf)
 case atStart => exact ⟨0, World.iter_heap w s 0, (Below.refl _ w).alloc (Nat.le_refl _) _, rfl, by omega⟩
 case round =>
  obtain ⟨pos, hit, hbw, hleft, hfu⟩ := hrel
  by_cases hps : pos < s.size
  ·obtain ⟨g', rfl⟩ : ∃ g', gk = g' + 1 := ⟨gk - 1, by omega⟩
   have hnx : ∀ ty, (Instr.next (.pointer (some ⟨w.heap.size, 0, none⟩)) true ty).run Tryz.prog wr = _ := fun ty => Lib.run_next_any_at wr w.heap.size s pos ty hit hps
   have hwd := width_pos' s pos hps
   obtain ⟨R, hR⟩ : ∃ R, (Utf8.decode s pos).1 = R := ⟨_, rfl⟩
   obtain ⟨K, hK⟩ : ∃ K, (Utf8.decode s pos).2 = K := ⟨_, rfl⟩
   simp only [idxFrom, hps, if_true, hR, hK] at hleft
   rw [hR, hK] at hnx
   rw [hK] at hwd
   have hit2 := Lib.iterAt_heap wr w.heap.size s pos (pos + K) hit
   have hbw2 := Lib.below_iterAt hbw (k := w.heap.size) (Nat.le_refl _) s (pos + K)
   obtain ⟨W, hWd⟩ : ∃ W, wr.iterAt w.heap.size s (pos + K) = W := ⟨_, rfl⟩
   rw [hWd] at hnx hit2 hbw2
   have cS := hp W R (GlobW.below hG (Nat.le_refl _) hbw2)
   clear hp
   have hlt : w.heap.size < W.heap.size := (Array.getElem?_eq_some_iff.1 hit2).1
   cases hsp : bad R <;> rw [hsp] at cS <;> simp only [hsp, if_true, Bool.false_eq_true, if_false] at hleft
   ·go_wp2_with (refine cS.mono ?_; rintro e W' ⟨rfl, q⟩)
    go_roundg g'
    case measure => omega
    case rel => exact ⟨pos + K, (q.block _ hlt).trans hit2, hbw2.trans (q.mono (by omega)), hleft, by omega⟩
   ·go_wp2_with (refine cS.mono ?_; rintro e W' ⟨rfl, q⟩)
    go_ret
    exact ⟨by rw [← hleft] <;> rfl, hbw2.trans (q.mono (by omega))⟩
  ·have hnx : ∀ ty, (Instr.next (.pointer (some ⟨w.heap.size, 0, none⟩)) true ty).run Tryz.prog wr = _ := fun ty => Lib.run_next_end_at wr w.heap.size s pos ty hit hps
   rw [idxFrom_end s gk pos hps] at hleft
   go_wp2
   go_ret
   exact ⟨by rw [← hleft] <;> rfl, hbw⟩
def okc (b : UInt8) : Bool := decide (32 ≤ b.toNat) && decide (b.toNat ≤ 126)
theorem idx_ok (bs : ByteArray) : ∀ (f pos : Nat), bs.size ≤ pos + f → decide (0 ≤ idxFrom bs f pos) = !((bs.data.toList.drop pos).all okc)
 | 0, pos, h => by
  have : bs.data.toList.drop pos = [] := List.drop_eq_nil_of_le (by rw [Array.length_toList]; exact (by omega : bs.size ≤ pos))
  simp [idxFrom, this]
 | f + 1, pos, h => by
  by_cases hp : pos < bs.size
  ·have hd : bs.data.toList.drop pos = bs[pos] :: bs.data.toList.drop (pos + 1) := by
    rw [List.drop_eq_getElem_cons (by rw [Array.length_toList]; exact hp)]
    rfl
   simp only [idxFrom, hp, if_true, hd, List.all_cons]
   by_cases ha : (bs[pos]'hp).toNat < 128
   ·rw [decode_ascii bs pos hp ha]
    have ih := idx_ok bs f (pos + 1) (by omega)
    by_cases hb : okc bs[pos] = true
    ·have : bad (bs[pos]).toNat = false := by simp [okc] at hb; simp [bad]; omega
     simp only [this, hb, Bool.true_and, Bool.false_eq_true, if_false]
     exact ih
    ·have : bad (bs[pos]).toNat = true := by simp [okc] at hb; simp [bad]; omega
     have hb' : okc bs[pos] = false := by simpa using hb
     simp [this, hb']
   ·have hh := (decode_high bs pos hp (by omega)).1
    have : bad (Utf8.decode bs pos).1 = true := by simp [bad]; omega
    have hb' : okc bs[pos] = false := by simp [okc]; omega
    simp [this, hb']
  ·have : bs.data.toList.drop pos = [] := List.drop_eq_nil_of_le (by rw [Array.length_toList]; exact (by omega : bs.size ≤ pos))
   simp [idxFrom, hp, this]
def idxBad (s : List UInt8) : Int := idxFrom ⟨⟨s⟩⟩ s.length 0
theorem idxBad_ok (s : List UInt8) : decide (0 ≤ idxBad s) = !(s.all okc) := by
 have := idx_ok ⟨⟨s⟩⟩ s.length 0 (by show s.length ≤ 0 + s.length; omega)
 exact this
theorem p210 (s : List UInt8) : Pure Tryz.prog 210 [.str s, .fn 162 [], .bool true] (.int .i64 (idxBad s)) := by
 refine pure_of_plain fun m vs hG hv => ?_
 simp only [RvL, Rv] at hv
 obtain ⟨_, _, rfl, ⟨rfl, _⟩, _, _, rfl, ⟨l, rfl, rfl⟩, _, _, rfl, rfl, rfl⟩ := hv
 have e : fnV 162 [] = .func (.func 162) #[] #[] := fnV_lt (by decide) []
 rw [e]
 refine (w210 ⟨⟨s⟩⟩ m.w hG).mono ?_
 rintro e w' ⟨rfl, hb⟩
 exact ⟨_, rfl, fun m' => by simp only [Rv]; rfl, hb⟩
theorem p193 (s : List UInt8) : Pure Tryz.prog 193 [.str s, .fn 162 []] (.int .i64 (idxBad s)) := by
 refine pure_intro mo Tryz.func193 c193 fun H => ?_
 unfold e193 r193
 simp only [initEnv, initFrom]
 repeat' first|refine Sp.g ?_|(intro b hb;repeat first|(refine fe hb ?_;intro _ _ hb)|(refine fT hb ?_;intro hb))|refine rt ?_|refine gA rfl ?_|refine gB rfl ?_|apply cT rfl|apply cF rfl|(apply DM.gbT;rfl)|(apply DM.gbF;rfl)|intro h
 (apply DM.pcs (p210 _); (· simp only [go_sem, Nat.reduceBEq, Nat.reduceAdd] <;> rfl); (· exact AVLes.refl _))
 repeat' first|refine Sp.g ?_|(intro b hb;repeat first|(refine fe hb ?_;intro _ _ hb)|(refine fT hb ?_;intro hb))|refine rt ?_|refine gA rfl ?_|refine gB rfl ?_|apply cT rfl|apply cF rfl|(apply DM.gbT;rfl)|(apply DM.gbF;rfl)|intro h
 refine Sr.g ?_
 exact AVLe.refl _
theorem p161 (s : List UInt8) : Pure Tryz.prog 161 [.str s, .fn 162 []] (.bool (!(s.all okc))) := by
 refine pure_intro mo Tryz.func161 c161 fun H => ?_
 unfold e161 r161
 simp only [initEnv, initFrom]
 repeat' first|refine Sp.g ?_|(intro b hb;repeat first|(refine fe hb ?_;intro _ _ hb)|(refine fT hb ?_;intro hb))|refine rt ?_|refine gA rfl ?_|refine gB rfl ?_|apply cT rfl|apply cF rfl|(apply DM.gbT;rfl)|(apply DM.gbF;rfl)|intro h
 (apply DM.pcs (p193 _); (· simp only [go_sem, Nat.reduceBEq, Nat.reduceAdd] <;> rfl); (· exact AVLes.refl _))
 repeat' first|refine Sp.g ?_|(intro b hb;repeat first|(refine fe hb ?_;intro _ _ hb)|(refine fT hb ?_;intro hb))|refine rt ?_|refine gA rfl ?_|refine gB rfl ?_|apply cT rfl|apply cF rfl|(apply DM.gbT;rfl)|(apply DM.gbF;rfl)|intro h
 refine Sr.g ?_
 rw [idxBad_ok]
 exact AVLe.refl _
end
end Go.Aw.T.N
namespace Go.Aw.T.N
open Go Go.Aw Go.Proofs Go.RowKit
set_option maxRecDepth 100000
attribute [local irreducible] Go.Aw.J Go.Aw.DJ Go.Aw.FC
attribute [local go_sem] wrap64 wrapu64 wrapu8 nnif decide_true decide_false dst gst gv_b gv_u jst jpop bdL bdB bdT bdO AV.bd tfL AV.tf o_mv o_pick o_nilck o_build o_load o_loadD o_loadR o_faddr o_field o_iaddr o_iaddrA o_idxA o_idxS o_bin o_binB o_eqA o_not o_pnil o_neg o_conv o_lenS o_len o_lenA o_minmax o_slS o_slV o_extract o_mkfn o_mkfnB o_convS o_convBS o_mkif o_isnil o_bslice o_box o_alloc o_store o_storeD o_bsliceO o_bsliceM cpv cev_t cev_c Env.get put_some' put_none' of_setB of_addB of_setT of_addT of_upd of_blk of_tok of_nb of_nt of_new rmB rmT rmBs rmTs renB renT apB apT lkB lkT getD_0 getD_s renL AV.ren crange_if cstB_if one_nilS one_pnil oc_nil oc_pnil cbin binInt shInt binStr binBool cbuild_nil cbuild_cons cidx_if AV.cells AV.okc AV.flat flatL flatR setRange minmaxAV AV.one AV.ofCells eqCells eqCell slRows initEnv initFrom cres cresv cresL cond_true cond_false beq_self_eq_true Bool.not_true Bool.not_false beq_true beq_false eq_self if_true Option.some.injEq List.length_cons List.length_nil List.take_succ_cons List.take_zero List.drop_succ_cons List.drop_zero List.set_cons_succ List.set_cons_zero List.nil_append List.cons_append List.append_nil and_self Option.map_some Option.map_none List.map_cons List.map_nil Bool.false_eq_true if_false Nat.zero_add Nat.add_zero true_and and_true Bool.and_true Bool.true_and List.getElem?_cons_zero List.getElem?_cons_succ Nat.zero_le Nat.le_refl List.all_cons List.all_nil List.flatten_cons List.flatten_nil crows crowsOk List.filter_cons List.filter_nil List.contains_cons List.contains_nil Bool.or_false Bool.or_true Bool.false_or Bool.true_or
set_option linter.unusedSimpArgs false
set_option linter.unusedVariables false
section
set_option maxHeartbeats 4000000
attribute [local go_sem] Ex.row_mk Ex.rowsF Ex.row_flat Sm.row_mk Sm.rowsF Sm.row_flat srow srow_flat ha_row of_row ha_flat of_flat Vr.row vr_flat
theorem D.FV {Pr : Program} {anns : List AV} {l : List EI} {env : Env} {c c2 : CS} {K : Env → CS → Prop} {Rp : AV → CS → Prop} {f : FuncId} {args : List EOpd} {x : EOpd} {as0 cap : List AV} {v v' : AV} {d : Nat} (s : Sg) {bl0 bl1 : BL} {tl0 tl1 : TL} {n q : Nat} (hf : callable Pr f = true) (h : FC Pr f as0 (CS.of n q bl0 tl0) (Ro v bl1 tl1)) (hk : DJ Pr anns l ((d, v') :: env) c2 K Rp)
  (hx : cev env x = .fn f cap := by simp (disch := omega) only [go_sem, simprocAttr] <;> with_reducible rfl)
  (hc : (nodupB s.b && nodupB s.t && s.b.all (fun x => Nat.blt x c.nb) && s.t.all (fun x => Nat.blt x c.nt)) = true := by simp (disch := omega) only [go_sem, simprocAttr] <;> rfl) (hn : s.b.length = n := by rfl) (ht : s.t.length = q := by rfl) (hb : (bdL n q as0 && (bdB n q bl0 && bdT n q tl0)) = true := by simp (disch := omega) only [go_sem, simprocAttr] <;> rfl) (h1 : (bdB n q bl1 && (bdT n q tl1 && v.bd n q)) = true := by simp (disch := omega) only [go_sem, simprocAttr] <;> rfl)
  (hB : hasP c.H.blk s bl0 := by repeat first | exact trivial | refine ⟨rfl, ?_⟩) (hT : hasPT c.H.tok s tl0 := by repeat first | exact trivial | refine ⟨rfl, ?_⟩) (ha : args.map (cev env) ++ cap = renL s as0 := by simp (disch := omega) only [go_sem, simprocAttr] <;> rfl) (hv : v.ren s = v' := by simp (disch := omega) only [go_sem, simprocAttr] <;> with_reducible rfl) (hu : c.upd s bl1 tl1 = c2 := by simp (disch := omega) only [go_sem, simprocAttr] <;> with_reducible rfl) : DJ Pr anns (⟨some d, none, .callv x args⟩ :: l) env c K Rp := by
 subst hv hu
 exact DJ.vr rfl hx hf (FC.fr s h hn ht hc hB hT hb h1 rfl) ha hk
def posG {α : Type} (g : α → Bool) : List α → Nat → Int
 | [], _ => -1
 | x :: l, i => bif g x then posG g l (i + 1) else (i : Int)
theorem posG_iff {α : Type} (g : α → Bool) : ∀ (l : List α) (i : Nat), 0 ≤ posG g l i ↔ l.all g = false
 | [], _ => by simp [posG]
 | x :: l, i => by
  simp only [posG, List.all_cons]
  have := posG_iff g l (i + 1)
  cases h : g x with
  | true => simpa using this
  | false => simp
theorem posG_all {α : Type} (g : α → Bool) (l : List α) (i : Nat) : decide (0 ≤ posG g l i) = !(l.all g) := by
 have := posG_iff g l i
 cases h : l.all g with
 | true => rw [h] at this; simpa using this
 | false => rw [h] at this; simpa using this
theorem k174 : callable Tryz.prog 174 = true := by kernel_rfl
theorem q174 {f : FuncId} (hf : callable Tryz.prog f = true) (v : Ex) (b : Bool) (h : Pure Tryz.prog f [.agg (Ex.row v)] (.bool b)) : FC Tryz.prog 174 [.agg (Ex.row v), .ptr 0 0] (CS.of 1 0 [(0, 174, [.fn f []])] []) (Ro (.bool (!b)) [(0, 174, [.fn f []])] []) := by
 rcases v with ⟨xk, xo, xm, xt, xn, xl⟩
 simp(disch:=omega)only[go_sem,simprocAttr] at h
 refine FC.intro mo Tryz.func174 c174 ?_
 unfold e174 r174
 simp(disch:=omega)only[go_sem,simprocAttr]
 refine GoG ?_
 refine D.V (hf) (h) ?_
 refine GoG ?_
 first|refine D.R ?_|refine D.E ?_
 exact ⟨rfl, ⟨rfl, trivial⟩, trivial⟩
theorem q198 {f : FuncId} (hf : callable Tryz.prog f = true) (g : Ex → Bool) (l : List (Ex)) (hl : l.length ≤ 1000000000000) (h : ∀ v ∈ l, Pure Tryz.prog f [.agg (Ex.row v)] (.bool (g v))) : FC Tryz.prog 198 [.vs 6 (l.map Ex.row), .fn 174 [.ptr 0 0]] (CS.of 1 0 [(0, 174, [.fn f []])] []) (Ro (.int .i64 (posG g l 0)) [(0, 174, [.fn f []])] []) := by
 refine FC.intro mo Tryz.func198 c198 ?_
 unfold e198 r198
 simp(disch:=omega)only[go_sem,simprocAttr]
 refine GoG ?_
 refine J.loopX (X := Nat) 0 (fun i => [(0, .vs 6 (l.map Ex.row)), (1, .fn 174 [.ptr 0 0]), (7, .int .i64 ((l.map Ex.row).length : Int)), (8, .int .i64 (i : Int))]) (fun _ => [(0, 174, [.fn f []])]) (fun _ => []) (fun i => i ≤ l.length ∧ posG g (l.drop i) i = posG g l 0) (fun i => l.length - i) ⟨Nat.zero_le _, rfl⟩ ⟨rfl, rfl, rfl, rfl, trivial⟩ ⟨rfl, trivial⟩ trivial ?_
 rintro i ⟨hi, hz⟩
 try simp only at hi hz ⊢
 cases hv : l[i]? with
 | some v =>
  have hlt := (List.getElem?_eq_some_iff.1 hv).1
  rw [drop_cons' hv] at hz
  simp only [posG] at hz
  have d1 : (i : Int) < ((l.map Ex.row).length : Int) := by rw [List.length_map]; omega
  have e := q174 hf v (g v) (h v (List.mem_of_getElem? hv))
  generalize g v = b at e hz
  clear h
  rcases v with ⟨xk, xo, xm, xt, xn, xl⟩
  simp(disch:=omega)only[go_sem,simprocAttr] at e
  (have z1:=d1;refine GoG1 ?_;clear z1)
  refine D.FV ⟨[0], []⟩ k174 e ?_
  cases b
  ·refine GoG ?_
   first|refine D.R ?_|refine D.E ?_
   exact ⟨by rw [← hz]; rfl, ⟨rfl, trivial⟩, trivial⟩
  ·refine GoG ?_
   refine J.roundX (i + 1) ⟨by omega, hz⟩ ⟨rfl, rfl, rfl, by simp only [Int.natCast_add]; rfl, trivial⟩ ⟨rfl, trivial⟩ trivial rfl rfl (by show l.length - (i + 1) < l.length - i; omega)
 | none =>
  have hge := List.getElem?_eq_none_iff.1 hv
  have e0 : i = l.length := by omega
  subst e0
  have d1 : ¬ (l.length : Int) < ((l.map Ex.row).length : Int) := by rw [List.length_map]; omega
  rw [List.drop_length] at hz
  (have z1:=d1;refine GoG1 ?_;clear z1)
  first|refine D.R ?_|refine D.E ?_
  exact ⟨by rw [← hz]; rfl, ⟨rfl, trivial⟩, trivial⟩
theorem q173 {f : FuncId} (hf : callable Tryz.prog f = true) (g : Ex → Bool) (l : List (Ex)) (hl : l.length ≤ 1000000000000) (h : ∀ v ∈ l, Pure Tryz.prog f [.agg (Ex.row v)] (.bool (g v))) : FC Tryz.prog 173 [.vs 6 (l.map Ex.row), .fn 174 [.ptr 0 0]] (CS.of 1 0 [(0, 174, [.fn f []])] []) (Ro (.bool (!(l.all g))) [(0, 174, [.fn f []])] []) := by
 have e := q198 hf g l hl h
 refine FC.intro mo Tryz.func173 c173 ?_
 unfold e173 r173
 simp(disch:=omega)only[go_sem,simprocAttr]
 refine GoG ?_
 refine D.F ⟨[0],[]⟩ (e) ?_
 refine GoG ?_
 first|refine D.R ?_|refine D.E ?_
 exact ⟨by rw [← posG_all g l 0], ⟨rfl, trivial⟩, trivial⟩
theorem q120 {f : FuncId} (hf : callable Tryz.prog f = true) (g : Ex → Bool) (l : List (Ex)) (hl : l.length ≤ 1000000000000) (h : ∀ v ∈ l, Pure Tryz.prog f [.agg (Ex.row v)] (.bool (g v))) : Pure Tryz.prog 120 [.vs 6 (l.map Ex.row), .fn f []] (.bool (l.all g)) := by
 have e := q173 hf g l hl h
 refine pure_of mo Tryz.func120 c120 (by simp only [flatL, AV.flat, Ex.rowsF, Bool.and_self]) rfl ?_
 unfold e120 r120
 simp(disch:=omega)only[go_sem,simprocAttr]
 refine GoG ?_
 refine D.F ⟨[0],[]⟩ (e) ?_
 refine GoG ?_
 first|refine D.R ?_|refine D.E ?_
 exact ⟨_, rfl, .wk (by rw [Bool.not_not]; rfl) rfl, trivial, trivial⟩
theorem k170 : callable Tryz.prog 170 = true := by kernel_rfl
theorem q170 {f : FuncId} (hf : callable Tryz.prog f = true) (v : Sm) (b : Bool) (h : Pure Tryz.prog f [.agg (Sm.row v)] (.bool b)) : FC Tryz.prog 170 [.agg (Sm.row v), .ptr 0 0] (CS.of 1 0 [(0, 170, [.fn f []])] []) (Ro (.bool (!b)) [(0, 170, [.fn f []])] []) := by
 rcases v with ⟨k, nm, ⟨xk, xo, xm, xt, xn, xl⟩, tm, sa, sb⟩
 simp(disch:=omega)only[go_sem,simprocAttr] at h
 refine FC.intro mo Tryz.func170 c170 ?_
 unfold e170 r170
 simp(disch:=omega)only[go_sem,simprocAttr]
 refine GoG ?_
 refine D.V (hf) (h) ?_
 refine GoG ?_
 first|refine D.R ?_|refine D.E ?_
 exact ⟨rfl, ⟨rfl, trivial⟩, trivial⟩
theorem q197 {f : FuncId} (hf : callable Tryz.prog f = true) (g : Sm → Bool) (l : List (Sm)) (hl : l.length ≤ 1000000000000) (h : ∀ v ∈ l, Pure Tryz.prog f [.agg (Sm.row v)] (.bool (g v))) : FC Tryz.prog 197 [.vs 11 (l.map Sm.row), .fn 170 [.ptr 0 0]] (CS.of 1 0 [(0, 170, [.fn f []])] []) (Ro (.int .i64 (posG g l 0)) [(0, 170, [.fn f []])] []) := by
 refine FC.intro mo Tryz.func197 c197 ?_
 unfold e197 r197
 simp(disch:=omega)only[go_sem,simprocAttr]
 refine GoG ?_
 refine J.loopX (X := Nat) 0 (fun i => [(0, .vs 11 (l.map Sm.row)), (1, .fn 170 [.ptr 0 0]), (7, .int .i64 ((l.map Sm.row).length : Int)), (8, .int .i64 (i : Int))]) (fun _ => [(0, 170, [.fn f []])]) (fun _ => []) (fun i => i ≤ l.length ∧ posG g (l.drop i) i = posG g l 0) (fun i => l.length - i) ⟨Nat.zero_le _, rfl⟩ ⟨rfl, rfl, rfl, rfl, trivial⟩ ⟨rfl, trivial⟩ trivial ?_
 rintro i ⟨hi, hz⟩
 try simp only at hi hz ⊢
 cases hv : l[i]? with
 | some v =>
  have hlt := (List.getElem?_eq_some_iff.1 hv).1
  rw [drop_cons' hv] at hz
  simp only [posG] at hz
  have d1 : (i : Int) < ((l.map Sm.row).length : Int) := by rw [List.length_map]; omega
  have e := q170 hf v (g v) (h v (List.mem_of_getElem? hv))
  generalize g v = b at e hz
  clear h
  rcases v with ⟨k, nm, ⟨xk, xo, xm, xt, xn, xl⟩, tm, sa, sb⟩
  simp(disch:=omega)only[go_sem,simprocAttr] at e
  (have z1:=d1;refine GoG1 ?_;clear z1)
  refine D.FV ⟨[0], []⟩ k170 e ?_
  cases b
  ·refine GoG ?_
   first|refine D.R ?_|refine D.E ?_
   exact ⟨by rw [← hz]; rfl, ⟨rfl, trivial⟩, trivial⟩
  ·refine GoG ?_
   refine J.roundX (i + 1) ⟨by omega, hz⟩ ⟨rfl, rfl, rfl, by simp only [Int.natCast_add]; rfl, trivial⟩ ⟨rfl, trivial⟩ trivial rfl rfl (by show l.length - (i + 1) < l.length - i; omega)
 | none =>
  have hge := List.getElem?_eq_none_iff.1 hv
  have e0 : i = l.length := by omega
  subst e0
  have d1 : ¬ (l.length : Int) < ((l.map Sm.row).length : Int) := by rw [List.length_map]; omega
  rw [List.drop_length] at hz
  (have z1:=d1;refine GoG1 ?_;clear z1)
  first|refine D.R ?_|refine D.E ?_
  exact ⟨by rw [← hz]; rfl, ⟨rfl, trivial⟩, trivial⟩
theorem q169 {f : FuncId} (hf : callable Tryz.prog f = true) (g : Sm → Bool) (l : List (Sm)) (hl : l.length ≤ 1000000000000) (h : ∀ v ∈ l, Pure Tryz.prog f [.agg (Sm.row v)] (.bool (g v))) : FC Tryz.prog 169 [.vs 11 (l.map Sm.row), .fn 170 [.ptr 0 0]] (CS.of 1 0 [(0, 170, [.fn f []])] []) (Ro (.bool (!(l.all g))) [(0, 170, [.fn f []])] []) := by
 have e := q197 hf g l hl h
 refine FC.intro mo Tryz.func169 c169 ?_
 unfold e169 r169
 simp(disch:=omega)only[go_sem,simprocAttr]
 refine GoG ?_
 refine D.F ⟨[0],[]⟩ (e) ?_
 refine GoG ?_
 first|refine D.R ?_|refine D.E ?_
 exact ⟨by rw [← posG_all g l 0], ⟨rfl, trivial⟩, trivial⟩
theorem q113 {f : FuncId} (hf : callable Tryz.prog f = true) (g : Sm → Bool) (l : List (Sm)) (hl : l.length ≤ 1000000000000) (h : ∀ v ∈ l, Pure Tryz.prog f [.agg (Sm.row v)] (.bool (g v))) : Pure Tryz.prog 113 [.vs 11 (l.map Sm.row), .fn f []] (.bool (l.all g)) := by
 have e := q169 hf g l hl h
 refine pure_of mo Tryz.func113 c113 (by simp only [flatL, AV.flat, Sm.rowsF, Bool.and_self]) rfl ?_
 unfold e113 r113
 simp(disch:=omega)only[go_sem,simprocAttr]
 refine GoG ?_
 refine D.F ⟨[0],[]⟩ (e) ?_
 refine GoG ?_
 first|refine D.R ?_|refine D.E ?_
 exact ⟨_, rfl, .wk (by rw [Bool.not_not]; rfl) rfl, trivial, trivial⟩
theorem k104 : callable Tryz.prog 104 = true := by kernel_rfl
theorem q104 {f : FuncId} (hf : callable Tryz.prog f = true) (v : Vr) (b : Bool) (h : Pure Tryz.prog f [.agg (Vr.row v)] (.bool b)) : FC Tryz.prog 104 [.agg (Vr.row v), .ptr 0 0] (CS.of 1 0 [(0, 113, [.fn f []])] []) (Ro (.bool (!b)) [(0, 113, [.fn f []])] []) := by
 simp(disch:=omega)only[go_sem,simprocAttr] at h
 refine FC.intro mo Tryz.func104 c104 ?_
 unfold e104 r104
 simp(disch:=omega)only[go_sem,simprocAttr]
 refine GoG ?_
 refine D.V (hf) (h) ?_
 refine GoG ?_
 first|refine D.R ?_|refine D.E ?_
 exact ⟨rfl, ⟨rfl, trivial⟩, trivial⟩
theorem q160 {f : FuncId} (hf : callable Tryz.prog f = true) (g : Vr → Bool) (l : List (Vr)) (hl : l.length ≤ 1000000000000) (h : ∀ v ∈ l, Pure Tryz.prog f [.agg (Vr.row v)] (.bool (g v))) : FC Tryz.prog 160 [.vs 7 (l.map Vr.row), .fn 104 [.ptr 0 0]] (CS.of 1 0 [(0, 113, [.fn f []])] []) (Ro (.int .i64 (posG g l 0)) [(0, 113, [.fn f []])] []) := by
 refine FC.intro mo Tryz.func160 c160 ?_
 unfold e160 r160
 simp(disch:=omega)only[go_sem,simprocAttr]
 refine GoG ?_
 refine J.loopX (X := Nat) 0 (fun i => [(0, .vs 7 (l.map Vr.row)), (1, .fn 104 [.ptr 0 0]), (7, .int .i64 ((l.map Vr.row).length : Int)), (8, .int .i64 (i : Int))]) (fun _ => [(0, 113, [.fn f []])]) (fun _ => []) (fun i => i ≤ l.length ∧ posG g (l.drop i) i = posG g l 0) (fun i => l.length - i) ⟨Nat.zero_le _, rfl⟩ ⟨rfl, rfl, rfl, rfl, trivial⟩ ⟨rfl, trivial⟩ trivial ?_
 rintro i ⟨hi, hz⟩
 try simp only at hi hz ⊢
 cases hv : l[i]? with
 | some v =>
  have hlt := (List.getElem?_eq_some_iff.1 hv).1
  rw [drop_cons' hv] at hz
  simp only [posG] at hz
  have d1 : (i : Int) < ((l.map Vr.row).length : Int) := by rw [List.length_map]; omega
  have e := q104 hf v (g v) (h v (List.mem_of_getElem? hv))
  generalize g v = b at e hz
  clear h
  simp(disch:=omega)only[go_sem,simprocAttr] at e
  (have z1:=d1;refine GoG1 ?_;clear z1)
  refine D.FV ⟨[0], []⟩ k104 e ?_
  cases b
  ·refine GoG ?_
   first|refine D.R ?_|refine D.E ?_
   exact ⟨by rw [← hz]; rfl, ⟨rfl, trivial⟩, trivial⟩
  ·refine GoG ?_
   refine J.roundX (i + 1) ⟨by omega, hz⟩ ⟨rfl, rfl, rfl, by simp only [Int.natCast_add]; rfl, trivial⟩ ⟨rfl, trivial⟩ trivial rfl rfl (by show l.length - (i + 1) < l.length - i; omega)
 | none =>
  have hge := List.getElem?_eq_none_iff.1 hv
  have e0 : i = l.length := by omega
  subst e0
  have d1 : ¬ (l.length : Int) < ((l.map Vr.row).length : Int) := by rw [List.length_map]; omega
  rw [List.drop_length] at hz
  (have z1:=d1;refine GoG1 ?_;clear z1)
  first|refine D.R ?_|refine D.E ?_
  exact ⟨by rw [← hz]; rfl, ⟨rfl, trivial⟩, trivial⟩
theorem q103 {f : FuncId} (hf : callable Tryz.prog f = true) (g : Vr → Bool) (l : List (Vr)) (hl : l.length ≤ 1000000000000) (h : ∀ v ∈ l, Pure Tryz.prog f [.agg (Vr.row v)] (.bool (g v))) : FC Tryz.prog 103 [.vs 7 (l.map Vr.row), .fn 104 [.ptr 0 0]] (CS.of 1 0 [(0, 113, [.fn f []])] []) (Ro (.bool (!(l.all g))) [(0, 113, [.fn f []])] []) := by
 have e := q160 hf g l hl h
 refine FC.intro mo Tryz.func103 c103 ?_
 unfold e103 r103
 simp(disch:=omega)only[go_sem,simprocAttr]
 refine GoG ?_
 refine D.F ⟨[0],[]⟩ (e) ?_
 refine GoG ?_
 first|refine D.R ?_|refine D.E ?_
 exact ⟨by rw [← posG_all g l 0], ⟨rfl, trivial⟩, trivial⟩
theorem q46 {f : FuncId} (hf : callable Tryz.prog f = true) (g : Vr → Bool) (l : List (Vr)) (hl : l.length ≤ 1000000000000) (h : ∀ v ∈ l, Pure Tryz.prog f [.agg (Vr.row v)] (.bool (g v))) : Pure Tryz.prog 46 [.vs 7 (l.map Vr.row), .fn f []] (.bool (l.all g)) := by
 have e := q103 hf g l hl h
 refine pure_of mo Tryz.func46 c46 (by simp only [flatL, AV.flat, vr_flat, Bool.and_self]) rfl ?_
 unfold e46 r46
 simp(disch:=omega)only[go_sem,simprocAttr]
 refine GoG ?_
 refine D.F ⟨[0],[]⟩ (e) ?_
 refine GoG ?_
 first|refine D.R ?_|refine D.E ?_
 exact ⟨_, rfl, .wk (by rw [Bool.not_not]; rfl) rfl, trivial, trivial⟩
theorem k108 : callable Tryz.prog 108 = true := by kernel_rfl
theorem q108 {f : FuncId} (hf : callable Tryz.prog f = true) (v : Ha) (b : Bool) (h : Pure Tryz.prog f [.agg (Ha.row v)] (.bool b)) : FC Tryz.prog 108 [.agg (Ha.row v), .ptr 0 0] (CS.of 1 0 [(0, 115, [.fn f []])] []) (Ro (.bool (!b)) [(0, 115, [.fn f []])] []) := by
 simp(disch:=omega)only[go_sem,simprocAttr] at h
 refine FC.intro mo Tryz.func108 c108 ?_
 unfold e108 r108
 simp(disch:=omega)only[go_sem,simprocAttr]
 refine GoG ?_
 refine D.V (hf) (h) ?_
 refine GoG ?_
 first|refine D.R ?_|refine D.E ?_
 exact ⟨rfl, ⟨rfl, trivial⟩, trivial⟩
theorem q163 {f : FuncId} (hf : callable Tryz.prog f = true) (g : Ha → Bool) (l : List (Ha)) (hl : l.length ≤ 1000000000000) (h : ∀ v ∈ l, Pure Tryz.prog f [.agg (Ha.row v)] (.bool (g v))) : FC Tryz.prog 163 [.vs 4 (l.map Ha.row), .fn 108 [.ptr 0 0]] (CS.of 1 0 [(0, 115, [.fn f []])] []) (Ro (.int .i64 (posG g l 0)) [(0, 115, [.fn f []])] []) := by
 refine FC.intro mo Tryz.func163 c163 ?_
 unfold e163 r163
 simp(disch:=omega)only[go_sem,simprocAttr]
 refine GoG ?_
 refine J.loopX (X := Nat) 0 (fun i => [(0, .vs 4 (l.map Ha.row)), (1, .fn 108 [.ptr 0 0]), (7, .int .i64 ((l.map Ha.row).length : Int)), (8, .int .i64 (i : Int))]) (fun _ => [(0, 115, [.fn f []])]) (fun _ => []) (fun i => i ≤ l.length ∧ posG g (l.drop i) i = posG g l 0) (fun i => l.length - i) ⟨Nat.zero_le _, rfl⟩ ⟨rfl, rfl, rfl, rfl, trivial⟩ ⟨rfl, trivial⟩ trivial ?_
 rintro i ⟨hi, hz⟩
 try simp only at hi hz ⊢
 cases hv : l[i]? with
 | some v =>
  have hlt := (List.getElem?_eq_some_iff.1 hv).1
  rw [drop_cons' hv] at hz
  simp only [posG] at hz
  have d1 : (i : Int) < ((l.map Ha.row).length : Int) := by rw [List.length_map]; omega
  have e := q108 hf v (g v) (h v (List.mem_of_getElem? hv))
  generalize g v = b at e hz
  clear h
  simp(disch:=omega)only[go_sem,simprocAttr] at e
  (have z1:=d1;refine GoG1 ?_;clear z1)
  refine D.FV ⟨[0], []⟩ k108 e ?_
  cases b
  ·refine GoG ?_
   first|refine D.R ?_|refine D.E ?_
   exact ⟨by rw [← hz]; rfl, ⟨rfl, trivial⟩, trivial⟩
  ·refine GoG ?_
   refine J.roundX (i + 1) ⟨by omega, hz⟩ ⟨rfl, rfl, rfl, by simp only [Int.natCast_add]; rfl, trivial⟩ ⟨rfl, trivial⟩ trivial rfl rfl (by show l.length - (i + 1) < l.length - i; omega)
 | none =>
  have hge := List.getElem?_eq_none_iff.1 hv
  have e0 : i = l.length := by omega
  subst e0
  have d1 : ¬ (l.length : Int) < ((l.map Ha.row).length : Int) := by rw [List.length_map]; omega
  rw [List.drop_length] at hz
  (have z1:=d1;refine GoG1 ?_;clear z1)
  first|refine D.R ?_|refine D.E ?_
  exact ⟨by rw [← hz]; rfl, ⟨rfl, trivial⟩, trivial⟩
theorem q107 {f : FuncId} (hf : callable Tryz.prog f = true) (g : Ha → Bool) (l : List (Ha)) (hl : l.length ≤ 1000000000000) (h : ∀ v ∈ l, Pure Tryz.prog f [.agg (Ha.row v)] (.bool (g v))) : FC Tryz.prog 107 [.vs 4 (l.map Ha.row), .fn 108 [.ptr 0 0]] (CS.of 1 0 [(0, 115, [.fn f []])] []) (Ro (.bool (!(l.all g))) [(0, 115, [.fn f []])] []) := by
 have e := q163 hf g l hl h
 refine FC.intro mo Tryz.func107 c107 ?_
 unfold e107 r107
 simp(disch:=omega)only[go_sem,simprocAttr]
 refine GoG ?_
 refine D.F ⟨[0],[]⟩ (e) ?_
 refine GoG ?_
 first|refine D.R ?_|refine D.E ?_
 exact ⟨by rw [← posG_all g l 0], ⟨rfl, trivial⟩, trivial⟩
theorem q48 {f : FuncId} (hf : callable Tryz.prog f = true) (g : Ha → Bool) (l : List (Ha)) (hl : l.length ≤ 1000000000000) (h : ∀ v ∈ l, Pure Tryz.prog f [.agg (Ha.row v)] (.bool (g v))) : Pure Tryz.prog 48 [.vs 4 (l.map Ha.row), .fn f []] (.bool (l.all g)) := by
 have e := q107 hf g l hl h
 refine pure_of mo Tryz.func48 c48 (by simp only [flatL, AV.flat, ha_flat, Bool.and_self]) rfl ?_
 unfold e48 r48
 simp(disch:=omega)only[go_sem,simprocAttr]
 refine GoG ?_
 refine D.F ⟨[0],[]⟩ (e) ?_
 refine GoG ?_
 first|refine D.R ?_|refine D.E ?_
 exact ⟨_, rfl, .wk (by rw [Bool.not_not]; rfl) rfl, trivial, trivial⟩
theorem k116 : callable Tryz.prog 116 = true := by kernel_rfl
theorem q116 {f : FuncId} (hf : callable Tryz.prog f = true) (v : Off) (b : Bool) (h : Pure Tryz.prog f [.agg (Off.row v)] (.bool b)) : FC Tryz.prog 116 [.agg (Off.row v), .ptr 0 0] (CS.of 1 0 [(0, 117, [.fn f []])] []) (Ro (.bool (!b)) [(0, 117, [.fn f []])] []) := by
 simp(disch:=omega)only[go_sem,simprocAttr] at h
 refine FC.intro mo Tryz.func116 c116 ?_
 unfold e116 r116
 simp(disch:=omega)only[go_sem,simprocAttr]
 refine GoG ?_
 refine D.V (hf) (h) ?_
 refine GoG ?_
 first|refine D.R ?_|refine D.E ?_
 exact ⟨rfl, ⟨rfl, trivial⟩, trivial⟩
theorem q171 {f : FuncId} (hf : callable Tryz.prog f = true) (g : Off → Bool) (l : List (Off)) (hl : l.length ≤ 1000000000000) (h : ∀ v ∈ l, Pure Tryz.prog f [.agg (Off.row v)] (.bool (g v))) : FC Tryz.prog 171 [.vs 4 (l.map Off.row), .fn 116 [.ptr 0 0]] (CS.of 1 0 [(0, 117, [.fn f []])] []) (Ro (.int .i64 (posG g l 0)) [(0, 117, [.fn f []])] []) := by
 refine FC.intro mo Tryz.func171 c171 ?_
 unfold e171 r171
 simp(disch:=omega)only[go_sem,simprocAttr]
 refine GoG ?_
 refine J.loopX (X := Nat) 0 (fun i => [(0, .vs 4 (l.map Off.row)), (1, .fn 116 [.ptr 0 0]), (7, .int .i64 ((l.map Off.row).length : Int)), (8, .int .i64 (i : Int))]) (fun _ => [(0, 117, [.fn f []])]) (fun _ => []) (fun i => i ≤ l.length ∧ posG g (l.drop i) i = posG g l 0) (fun i => l.length - i) ⟨Nat.zero_le _, rfl⟩ ⟨rfl, rfl, rfl, rfl, trivial⟩ ⟨rfl, trivial⟩ trivial ?_
 rintro i ⟨hi, hz⟩
 try simp only at hi hz ⊢
 cases hv : l[i]? with
 | some v =>
  have hlt := (List.getElem?_eq_some_iff.1 hv).1
  rw [drop_cons' hv] at hz
  simp only [posG] at hz
  have d1 : (i : Int) < ((l.map Off.row).length : Int) := by rw [List.length_map]; omega
  have e := q116 hf v (g v) (h v (List.mem_of_getElem? hv))
  generalize g v = b at e hz
  clear h
  simp(disch:=omega)only[go_sem,simprocAttr] at e
  (have z1:=d1;refine GoG1 ?_;clear z1)
  refine D.FV ⟨[0], []⟩ k116 e ?_
  cases b
  ·refine GoG ?_
   first|refine D.R ?_|refine D.E ?_
   exact ⟨by rw [← hz]; rfl, ⟨rfl, trivial⟩, trivial⟩
  ·refine GoG ?_
   refine J.roundX (i + 1) ⟨by omega, hz⟩ ⟨rfl, rfl, rfl, by simp only [Int.natCast_add]; rfl, trivial⟩ ⟨rfl, trivial⟩ trivial rfl rfl (by show l.length - (i + 1) < l.length - i; omega)
 | none =>
  have hge := List.getElem?_eq_none_iff.1 hv
  have e0 : i = l.length := by omega
  subst e0
  have d1 : ¬ (l.length : Int) < ((l.map Off.row).length : Int) := by rw [List.length_map]; omega
  rw [List.drop_length] at hz
  (have z1:=d1;refine GoG1 ?_;clear z1)
  first|refine D.R ?_|refine D.E ?_
  exact ⟨by rw [← hz]; rfl, ⟨rfl, trivial⟩, trivial⟩
theorem q115 {f : FuncId} (hf : callable Tryz.prog f = true) (g : Off → Bool) (l : List (Off)) (hl : l.length ≤ 1000000000000) (h : ∀ v ∈ l, Pure Tryz.prog f [.agg (Off.row v)] (.bool (g v))) : FC Tryz.prog 115 [.vs 4 (l.map Off.row), .fn 116 [.ptr 0 0]] (CS.of 1 0 [(0, 117, [.fn f []])] []) (Ro (.bool (!(l.all g))) [(0, 117, [.fn f []])] []) := by
 have e := q171 hf g l hl h
 refine FC.intro mo Tryz.func115 c115 ?_
 unfold e115 r115
 simp(disch:=omega)only[go_sem,simprocAttr]
 refine GoG ?_
 refine D.F ⟨[0],[]⟩ (e) ?_
 refine GoG ?_
 first|refine D.R ?_|refine D.E ?_
 exact ⟨by rw [← posG_all g l 0], ⟨rfl, trivial⟩, trivial⟩
theorem q50 {f : FuncId} (hf : callable Tryz.prog f = true) (g : Off → Bool) (l : List (Off)) (hl : l.length ≤ 1000000000000) (h : ∀ v ∈ l, Pure Tryz.prog f [.agg (Off.row v)] (.bool (g v))) : Pure Tryz.prog 50 [.vs 4 (l.map Off.row), .fn f []] (.bool (l.all g)) := by
 have e := q115 hf g l hl h
 refine pure_of mo Tryz.func50 c50 (by simp only [flatL, AV.flat, of_flat, Bool.and_self]) rfl ?_
 unfold e50 r50
 simp(disch:=omega)only[go_sem,simprocAttr]
 refine GoG ?_
 refine D.F ⟨[0],[]⟩ (e) ?_
 refine GoG ?_
 first|refine D.R ?_|refine D.E ?_
 exact ⟨_, rfl, .wk (by rw [Bool.not_not]; rfl) rfl, trivial, trivial⟩
theorem k168 : callable Tryz.prog 168 = true := by kernel_rfl
theorem q168 {f : FuncId} (hf : callable Tryz.prog f = true) (v : List UInt8) (b : Bool) (h : Pure Tryz.prog f [.str v] (.bool b)) : FC Tryz.prog 168 [.str v, .ptr 0 0] (CS.of 1 0 [(0, 41, [.fn f []])] []) (Ro (.bool (!b)) [(0, 41, [.fn f []])] []) := by
 refine FC.intro mo Tryz.func168 c168 ?_
 unfold e168 r168
 simp(disch:=omega)only[go_sem,simprocAttr]
 refine GoG ?_
 refine D.V (hf) (h) ?_
 refine GoG ?_
 first|refine D.R ?_|refine D.E ?_
 exact ⟨rfl, ⟨rfl, trivial⟩, trivial⟩
theorem q195 {f : FuncId} (hf : callable Tryz.prog f = true) (g : List UInt8 → Bool) (l : List (List UInt8)) (hl : l.length ≤ 1000000000000) (h : ∀ v ∈ l, Pure Tryz.prog f [.str v] (.bool (g v))) : FC Tryz.prog 195 [.vs 1 (l.map srow), .fn 168 [.ptr 0 0]] (CS.of 1 0 [(0, 41, [.fn f []])] []) (Ro (.int .i64 (posG g l 0)) [(0, 41, [.fn f []])] []) := by
 refine FC.intro mo Tryz.func195 c195 ?_
 unfold e195 r195
 simp(disch:=omega)only[go_sem,simprocAttr]
 refine GoG ?_
 refine J.loopX (X := Nat) 0 (fun i => [(0, .vs 1 (l.map srow)), (1, .fn 168 [.ptr 0 0]), (7, .int .i64 ((l.map srow).length : Int)), (8, .int .i64 (i : Int))]) (fun _ => [(0, 41, [.fn f []])]) (fun _ => []) (fun i => i ≤ l.length ∧ posG g (l.drop i) i = posG g l 0) (fun i => l.length - i) ⟨Nat.zero_le _, rfl⟩ ⟨rfl, rfl, rfl, rfl, trivial⟩ ⟨rfl, trivial⟩ trivial ?_
 rintro i ⟨hi, hz⟩
 try simp only at hi hz ⊢
 cases hv : l[i]? with
 | some v =>
  have hlt := (List.getElem?_eq_some_iff.1 hv).1
  rw [drop_cons' hv] at hz
  simp only [posG] at hz
  have d1 : (i : Int) < ((l.map srow).length : Int) := by rw [List.length_map]; omega
  have e := q168 hf v (g v) (h v (List.mem_of_getElem? hv))
  generalize g v = b at e hz
  clear h
  (have z1:=d1;refine GoG1 ?_;clear z1)
  refine D.FV ⟨[0], []⟩ k168 e ?_
  cases b
  ·refine GoG ?_
   first|refine D.R ?_|refine D.E ?_
   exact ⟨by rw [← hz]; rfl, ⟨rfl, trivial⟩, trivial⟩
  ·refine GoG ?_
   refine J.roundX (i + 1) ⟨by omega, hz⟩ ⟨rfl, rfl, rfl, by simp only [Int.natCast_add]; rfl, trivial⟩ ⟨rfl, trivial⟩ trivial rfl rfl (by show l.length - (i + 1) < l.length - i; omega)
 | none =>
  have hge := List.getElem?_eq_none_iff.1 hv
  have e0 : i = l.length := by omega
  subst e0
  have d1 : ¬ (l.length : Int) < ((l.map srow).length : Int) := by rw [List.length_map]; omega
  rw [List.drop_length] at hz
  (have z1:=d1;refine GoG1 ?_;clear z1)
  first|refine D.R ?_|refine D.E ?_
  exact ⟨by rw [← hz]; rfl, ⟨rfl, trivial⟩, trivial⟩
theorem q165 {f : FuncId} (hf : callable Tryz.prog f = true) (g : List UInt8 → Bool) (l : List (List UInt8)) (hl : l.length ≤ 1000000000000) (h : ∀ v ∈ l, Pure Tryz.prog f [.str v] (.bool (g v))) : FC Tryz.prog 165 [.vs 1 (l.map srow), .fn 168 [.ptr 0 0]] (CS.of 1 0 [(0, 41, [.fn f []])] []) (Ro (.bool (!(l.all g))) [(0, 41, [.fn f []])] []) := by
 have e := q195 hf g l hl h
 refine FC.intro mo Tryz.func165 c165 ?_
 unfold e165 r165
 simp(disch:=omega)only[go_sem,simprocAttr]
 refine GoG ?_
 refine D.F ⟨[0],[]⟩ (e) ?_
 refine GoG ?_
 first|refine D.R ?_|refine D.E ?_
 exact ⟨by rw [← posG_all g l 0], ⟨rfl, trivial⟩, trivial⟩
theorem q112 {f : FuncId} (hf : callable Tryz.prog f = true) (g : List UInt8 → Bool) (l : List (List UInt8)) (hl : l.length ≤ 1000000000000) (h : ∀ v ∈ l, Pure Tryz.prog f [.str v] (.bool (g v))) : Pure Tryz.prog 112 [.vs 1 (l.map srow), .fn f []] (.bool (l.all g)) := by
 have e := q165 hf g l hl h
 refine pure_of mo Tryz.func112 c112 (by simp only [flatL, AV.flat, srow_flat, Bool.and_self]) rfl ?_
 unfold e112 r112
 simp(disch:=omega)only[go_sem,simprocAttr]
 refine GoG ?_
 refine D.F ⟨[0],[]⟩ (e) ?_
 refine GoG ?_
 first|refine D.R ?_|refine D.E ?_
 exact ⟨_, rfl, .wk (by rw [Bool.not_not]; rfl) rfl, trivial, trivial⟩
end
section
set_option maxHeartbeats 4000000
attribute [local go_sem] Ex.row_mk Ex.rowsF Ex.row_flat Sm.row_mk Sm.rowsF Sm.row_flat srow srow_flat ha_row of_row ha_flat of_flat Vr.row vr_flat
def textB (s : Bs) : Bool := decide (s.length ≤ 40) && s.all okc
def constB (n : Int) : Bool := decide (-999999 ≤ n) && decide (n ≤ 999999)
theorem q105 (n : Int) : Pure Tryz.prog 105 [.int .i64 n] (.bool (constB n)) := by
  refine pure_of mo Tryz.func105 c105 rfl rfl ?_
  unfold e105 r105
  simp(disch:=omega)only[go_sem,simprocAttr]
  (repeat' first|refine D.S ?_|refine D.JJ true true ?_|refine DJ.nil ?_|refine J.reg0 ?_|refine D.W ?_|refine D.Z ?_|refine D.G ?_ ?_|refine D.X ‹_› ?_|refine D.XO ‹_› ?_|refine D.XS ‹_› ?_|intro h|refine D.C ?_ ?_)
  all_goals (refine D.R ?_; refine ⟨_, rfl, .wk ?_ rfl, trivial, trivial⟩; simp_all [constB, AV.wk] <;> (try omega))
theorem q106 (s : Bs) : Pure Tryz.prog 106 [.str s] (.bool (textB s)) := by
  refine pure_of mo Tryz.func106 c106 rfl rfl ?_
  unfold e106 r106
  simp(disch:=omega)only[go_sem,simprocAttr]
  (repeat' first|refine D.S ?_|refine D.JJ true true ?_|refine DJ.nil ?_|refine J.reg0 ?_|refine D.W ?_|refine D.Z ?_|refine D.G ?_ ?_|refine D.X ‹_› ?_|refine D.XO ‹_› ?_|refine D.XS ‹_› ?_|intro h|refine D.C ?_ ?_)
  · refine D.P (p161 s) ?_
    refine GoG ?_
    first|refine D.R ?_|refine D.E ?_
    refine ⟨_, rfl, .wk ?_ rfl, trivial, trivial⟩
    simp only [decide_eq_true_eq] at h
    have h2 : s.length ≤ 40 := by omega
    simp [textB, h2, AV.wk]
  · first|refine D.R ?_|refine D.E ?_
    refine ⟨_, rfl, .wk ?_ rfl, trivial, trivial⟩
    simp only [decide_eq_false_iff_not] at h
    have h2 : ¬ s.length ≤ 40 := by omega
    simp [textB, h2, AV.wk]
def headE (k : Int) (o m t : Bs) (n : Int) (na : Nat) : Bool :=
  if k = 1 then decide (0 ≤ n) && (decide (n ≤ 1000) && (decide (na = 0) && (decide (o = []) && (decide (m = []) && decide (t = [])))))
  else if k = 2 then textB t && (decide (na = 0) && (decide (o = []) && (decide (m = []) && decide (n = 0))))
  else if k = 3 then isWordB m && (decide (na = 0) && (decide (o = []) && (decide (t = []) && decide (n = 0))))
  else if k = 4 then decide (na = 1) && (decide (o = []) && (decide (m = []) && (decide (t = []) && decide (n = 0))))
  else if k = 5 then (decide (o = [45]) || decide (o = [33])) && (decide (na = 1) && (decide (m = []) && (decide (t = []) && decide (n = 0))))
  else if k = 6 then !(decide (precP o = 0)) && (decide (na = 2) && (decide (m = []) && (decide (t = []) && decide (n = 0))))
  else false
mutual
def goodE : Ex → Bool
  | .mk k o m t n l => headE k o m t n l.length && goodEs l
def goodEs : List Ex → Bool
  | [] => true
  | x :: l => goodE x && goodEs l
end
theorem goodEs_all : ∀ l, goodEs l = l.all goodE
  | [] => rfl
  | x :: l => by simp only [goodEs, List.all_cons, goodEs_all l]
theorem k121 : callable Tryz.prog 121 = true := by kernel_rfl
theorem q121 : ∀ (N : Nat) (x : Ex), x.amt ≤ N → N ≤ 1000000000 → Pure Tryz.prog 121 [.agg x.row] (.bool (goodE x))
  | 0, .mk k o m t n l, h, _ => by simp only [Ex.amt] at h; omega
  | N + 1, .mk k o m t n l, hN, hM => by
    simp only [Ex.amt] at hN
    have hll : l.length ≤ 1000000000 := by have := Ex.len_amt l; omega
    have e1 := q120 k121 goodE l (by omega) fun v hv => by
      obtain ⟨i, hi⟩ := List.getElem?_of_mem hv
      exact q121 N v (by have := Ex.mem_amt hi; omega) (by omega)
    simp only [goodE, goodEs_all]
    generalize l.all goodE = ga at e1
    have z0 : ((l.map Ex.row).length : Int) = (l.length : Int) := by rw [List.length_map]
    refine pure_of mo Tryz.func121 c121 (by simp only [flatL, AV.flat, Ex.row_flat, Bool.and_self]) rfl ?_
    unfold e121 r121
    simp(disch:=omega)only[go_sem,simprocAttr]
    by_cases h1 : k = 1
    · subst h1
      (repeat' first|(apply DJ.s rfl;(· simp(disch:=omega)only[go_sem,simprocAttr,z0]<;>with_reducible rfl))|(apply J.s true true;(· simp(disch:=omega)only[go_sem,simprocAttr,z0]<;>with_reducible rfl))|apply DJ.nil|(refine J.reg0 ?_)|(apply DJ.gw;(· simp(disch:=omega)only[go_sem,simprocAttr,z0]<;>with_reducible rfl))|(apply DJ.gz;(· rfl);(· simp(disch:=omega)only[go_sem,simprocAttr,z0]<;>with_reducible rfl))|(apply DJ.gs;(· simp(disch:=omega)only[go_sem,simprocAttr,z0]<;>with_reducible rfl))|((first|apply DJ.ixm|apply DJ.ixom|apply DJ.ixsm);(· simp(disch:=omega)only[go_sem,simprocAttr,z0]<;>with_reducible rfl);(· simp(disch:=omega)only[go_sem,simprocAttr,z0]<;>with_reducible rfl);(· assumption);(· omega))|intro h|(apply J.cond;(· simp(disch:=omega)only[go_sem,simprocAttr,z0]<;>with_reducible rfl)))
      all_goals first
        | (refine D.R ?_
           refine ⟨_, rfl, .wk ?_ rfl, trivial, trivial⟩
           first
             | (simp_all [headE, AV.wk]; done)
             | (simp_all [headE, AV.wk]; intros; omega))
        | skip
      refine D.P (e1) ?_
      refine GoG ?_
      first|refine D.R ?_|refine D.E ?_
      refine ⟨_, rfl, .wk ?_ rfl, trivial, trivial⟩
      first
        | (simp_all [headE, AV.wk]; done)
        | (simp_all [headE, AV.wk]; intros; omega)
    by_cases h2 : k = 2
    · subst h2
      (have z1:=z0;refine GoG1 ?_;clear z1)
      refine D.P (q106 t) ?_
      cases ht : textB t
      all_goals
        (repeat' first|(apply DJ.s rfl;(· simp(disch:=omega)only[go_sem,simprocAttr,z0]<;>with_reducible rfl))|(apply J.s true true;(· simp(disch:=omega)only[go_sem,simprocAttr,z0]<;>with_reducible rfl))|apply DJ.nil|(refine J.reg0 ?_)|(apply DJ.gw;(· simp(disch:=omega)only[go_sem,simprocAttr,z0]<;>with_reducible rfl))|(apply DJ.gz;(· rfl);(· simp(disch:=omega)only[go_sem,simprocAttr,z0]<;>with_reducible rfl))|(apply DJ.gs;(· simp(disch:=omega)only[go_sem,simprocAttr,z0]<;>with_reducible rfl))|((first|apply DJ.ixm|apply DJ.ixom|apply DJ.ixsm);(· simp(disch:=omega)only[go_sem,simprocAttr,z0]<;>with_reducible rfl);(· simp(disch:=omega)only[go_sem,simprocAttr,z0]<;>with_reducible rfl);(· assumption);(· omega))|intro h|(apply J.cond;(· simp(disch:=omega)only[go_sem,simprocAttr,z0]<;>with_reducible rfl)))
      all_goals first
        | (refine D.R ?_
           refine ⟨_, rfl, .wk ?_ rfl, trivial, trivial⟩
           first
             | (simp_all [headE, AV.wk]; done)
             | (simp_all [headE, AV.wk]; intros; omega))
        | skip
      refine D.P (e1) ?_
      refine GoG ?_
      first|refine D.R ?_|refine D.E ?_
      refine ⟨_, rfl, .wk ?_ rfl, trivial, trivial⟩
      first
        | (simp_all [headE, AV.wk]; done)
        | (simp_all [headE, AV.wk]; intros; omega)
    by_cases h3 : k = 3
    · subst h3
      (have z1:=z0;refine GoG1 ?_;clear z1)
      refine D.P (p45 m) ?_
      cases ht : isWordB m
      all_goals
        (repeat' first|(apply DJ.s rfl;(· simp(disch:=omega)only[go_sem,simprocAttr,z0]<;>with_reducible rfl))|(apply J.s true true;(· simp(disch:=omega)only[go_sem,simprocAttr,z0]<;>with_reducible rfl))|apply DJ.nil|(refine J.reg0 ?_)|(apply DJ.gw;(· simp(disch:=omega)only[go_sem,simprocAttr,z0]<;>with_reducible rfl))|(apply DJ.gz;(· rfl);(· simp(disch:=omega)only[go_sem,simprocAttr,z0]<;>with_reducible rfl))|(apply DJ.gs;(· simp(disch:=omega)only[go_sem,simprocAttr,z0]<;>with_reducible rfl))|((first|apply DJ.ixm|apply DJ.ixom|apply DJ.ixsm);(· simp(disch:=omega)only[go_sem,simprocAttr,z0]<;>with_reducible rfl);(· simp(disch:=omega)only[go_sem,simprocAttr,z0]<;>with_reducible rfl);(· assumption);(· omega))|intro h|(apply J.cond;(· simp(disch:=omega)only[go_sem,simprocAttr,z0]<;>with_reducible rfl)))
      all_goals first
        | (refine D.R ?_
           refine ⟨_, rfl, .wk ?_ rfl, trivial, trivial⟩
           first
             | (simp_all [headE, AV.wk]; done)
             | (simp_all [headE, AV.wk]; intros; omega))
        | skip
      refine D.P (e1) ?_
      refine GoG ?_
      first|refine D.R ?_|refine D.E ?_
      refine ⟨_, rfl, .wk ?_ rfl, trivial, trivial⟩
      first
        | (simp_all [headE, AV.wk]; done)
        | (simp_all [headE, AV.wk]; intros; omega)
    by_cases h4 : k = 4
    · subst h4
      (repeat' first|(apply DJ.s rfl;(· simp(disch:=omega)only[go_sem,simprocAttr,z0]<;>with_reducible rfl))|(apply J.s true true;(· simp(disch:=omega)only[go_sem,simprocAttr,z0]<;>with_reducible rfl))|apply DJ.nil|(refine J.reg0 ?_)|(apply DJ.gw;(· simp(disch:=omega)only[go_sem,simprocAttr,z0]<;>with_reducible rfl))|(apply DJ.gz;(· rfl);(· simp(disch:=omega)only[go_sem,simprocAttr,z0]<;>with_reducible rfl))|(apply DJ.gs;(· simp(disch:=omega)only[go_sem,simprocAttr,z0]<;>with_reducible rfl))|((first|apply DJ.ixm|apply DJ.ixom|apply DJ.ixsm);(· simp(disch:=omega)only[go_sem,simprocAttr,z0]<;>with_reducible rfl);(· simp(disch:=omega)only[go_sem,simprocAttr,z0]<;>with_reducible rfl);(· assumption);(· omega))|intro h|(apply J.cond;(· simp(disch:=omega)only[go_sem,simprocAttr,z0]<;>with_reducible rfl)))
      all_goals first
        | (refine D.R ?_
           refine ⟨_, rfl, .wk ?_ rfl, trivial, trivial⟩
           first
             | (simp_all [headE, AV.wk]; done)
             | (simp_all [headE, AV.wk]; intros; omega))
        | skip
      refine D.P (e1) ?_
      refine GoG ?_
      first|refine D.R ?_|refine D.E ?_
      refine ⟨_, rfl, .wk ?_ rfl, trivial, trivial⟩
      first
        | (simp_all [headE, AV.wk]; done)
        | (simp_all [headE, AV.wk]; intros; omega)
    by_cases h5 : k = 5
    · subst h5
      (repeat' first|(apply DJ.s rfl;(· simp(disch:=omega)only[go_sem,simprocAttr,z0]<;>with_reducible rfl))|(apply J.s true true;(· simp(disch:=omega)only[go_sem,simprocAttr,z0]<;>with_reducible rfl))|apply DJ.nil|(refine J.reg0 ?_)|(apply DJ.gw;(· simp(disch:=omega)only[go_sem,simprocAttr,z0]<;>with_reducible rfl))|(apply DJ.gz;(· rfl);(· simp(disch:=omega)only[go_sem,simprocAttr,z0]<;>with_reducible rfl))|(apply DJ.gs;(· simp(disch:=omega)only[go_sem,simprocAttr,z0]<;>with_reducible rfl))|((first|apply DJ.ixm|apply DJ.ixom|apply DJ.ixsm);(· simp(disch:=omega)only[go_sem,simprocAttr,z0]<;>with_reducible rfl);(· simp(disch:=omega)only[go_sem,simprocAttr,z0]<;>with_reducible rfl);(· assumption);(· omega))|intro h|(apply J.cond;(· simp(disch:=omega)only[go_sem,simprocAttr,z0]<;>with_reducible rfl)))
      all_goals first
        | (refine D.R ?_
           refine ⟨_, rfl, .wk ?_ rfl, trivial, trivial⟩
           first
             | (simp_all [headE, AV.wk]; done)
             | (simp_all [headE, AV.wk]; intros; omega))
        | skip
      all_goals
        refine D.P (e1) ?_
        refine GoG ?_
        first|refine D.R ?_|refine D.E ?_
        refine ⟨_, rfl, .wk ?_ rfl, trivial, trivial⟩
        first
          | (simp_all [headE, AV.wk]; done)
          | (simp_all [headE, AV.wk]; intros; omega)
    by_cases h6 : k = 6
    · subst h6
      (have z1:=z0;refine GoG1 ?_;clear z1)
      refine D.P (q175 o) ?_
      (repeat' first|(apply DJ.s rfl;(· simp(disch:=omega)only[go_sem,simprocAttr,z0]<;>with_reducible rfl))|(apply J.s true true;(· simp(disch:=omega)only[go_sem,simprocAttr,z0]<;>with_reducible rfl))|apply DJ.nil|(refine J.reg0 ?_)|(apply DJ.gw;(· simp(disch:=omega)only[go_sem,simprocAttr,z0]<;>with_reducible rfl))|(apply DJ.gz;(· rfl);(· simp(disch:=omega)only[go_sem,simprocAttr,z0]<;>with_reducible rfl))|(apply DJ.gs;(· simp(disch:=omega)only[go_sem,simprocAttr,z0]<;>with_reducible rfl))|((first|apply DJ.ixm|apply DJ.ixom|apply DJ.ixsm);(· simp(disch:=omega)only[go_sem,simprocAttr,z0]<;>with_reducible rfl);(· simp(disch:=omega)only[go_sem,simprocAttr,z0]<;>with_reducible rfl);(· assumption);(· omega))|intro h|(apply J.cond;(· simp(disch:=omega)only[go_sem,simprocAttr,z0]<;>with_reducible rfl)))
      all_goals first
        | (refine D.R ?_
           refine ⟨_, rfl, .wk ?_ rfl, trivial, trivial⟩
           first
             | (simp_all [headE, AV.wk]; done)
             | (simp_all [headE, AV.wk]; intros; omega))
        | skip
      refine D.P (e1) ?_
      refine GoG ?_
      first|refine D.R ?_|refine D.E ?_
      refine ⟨_, rfl, .wk ?_ rfl, trivial, trivial⟩
      first
        | (simp_all [headE, AV.wk]; done)
        | (simp_all [headE, AV.wk]; intros; omega)
    (repeat' first|(apply DJ.s rfl;(· simp(disch:=omega)only[go_sem,simprocAttr,z0, h1, h2, h3, h4, h5, h6]<;>with_reducible rfl))|(apply J.s true true;(· simp(disch:=omega)only[go_sem,simprocAttr,z0, h1, h2, h3, h4, h5, h6]<;>with_reducible rfl))|apply DJ.nil|(refine J.reg0 ?_)|(apply DJ.gw;(· simp(disch:=omega)only[go_sem,simprocAttr,z0, h1, h2, h3, h4, h5, h6]<;>with_reducible rfl))|(apply DJ.gz;(· rfl);(· simp(disch:=omega)only[go_sem,simprocAttr,z0, h1, h2, h3, h4, h5, h6]<;>with_reducible rfl))|(apply DJ.gs;(· simp(disch:=omega)only[go_sem,simprocAttr,z0, h1, h2, h3, h4, h5, h6]<;>with_reducible rfl))|((first|apply DJ.ixm|apply DJ.ixom|apply DJ.ixsm);(· simp(disch:=omega)only[go_sem,simprocAttr,z0, h1, h2, h3, h4, h5, h6]<;>with_reducible rfl);(· simp(disch:=omega)only[go_sem,simprocAttr,z0, h1, h2, h3, h4, h5, h6]<;>with_reducible rfl);(· assumption);(· omega))|intro h)
    first|refine D.R ?_|refine D.E ?_
    refine ⟨_, rfl, .wk ?_ rfl, trivial, trivial⟩
    simp [headE, h1, h2, h3, h4, h5, h6, AV.wk]
end
end Go.Aw.T.N
set_option linter.unusedVariables false
set_option maxRecDepth 1000000
namespace Go.Aw.T.N
open Go Go.Aw Go.Proofs Go.Shelf
def strRows : List (List AV) → Option (List (List UInt8))
 | [] => some []
 | [.str s] :: rs => match strRows rs with
  | some l => some (s :: l)
  | none => none
 | _ => none
theorem info_at {P : Program} {t : TypeId} {z : Value} {n b : Nat} (h : (P.info? t).map (fun i => (i.zero, i.size, i.bytes)) = some (some z, n, b)) : ∃ i, P.info? t = some i ∧ i.zero = some z ∧ i.size = n ∧ i.bytes = b := by
 cases hi : P.info? t with
 | none => rw [hi] at h; cases h
 | some i =>
  rw [hi] at h
  simp only [Option.map_some, Option.some.injEq, Prod.mk.injEq] at h
  exact ⟨i, rfl, h.1, h.2.1, h.2.2⟩
def zE : Value := .agg #[.int .i64 0, .string ByteArray.empty, .string ByteArray.empty, .string ByteArray.empty, .int .i64 0, .slice none 0 0]
def zT : Value := .agg #[.int .i64 0, .string ByteArray.empty, .int .i64 0, .string ByteArray.empty, .string ByteArray.empty, .string ByteArray.empty, .int .i64 0, .slice none 0 0, .int .i64 0, .slice none 0 0, .slice none 0 0]
end Go.Aw.T.N
namespace Go.Aw.T.N
open Go Go.Aw Go.Proofs Go.RowKit
set_option maxRecDepth 100000
attribute [local irreducible] Go.Aw.J Go.Aw.DJ Go.Aw.FC
attribute [local go_sem] wrap64 wrapu64 wrapu8 nnif decide_true decide_false dst gst gv_b gv_u jst jpop bdL bdB bdT bdO AV.bd tfL AV.tf o_mv o_pick o_nilck o_build o_load o_loadD o_loadR o_faddr o_field o_iaddr o_iaddrA o_idxA o_idxS o_bin o_binB o_eqA o_not o_pnil o_neg o_conv o_lenS o_len o_lenA o_minmax o_slS o_slV o_extract o_mkfn o_mkfnB o_convS o_convBS o_mkif o_isnil o_bslice o_box o_alloc o_store o_storeD o_bsliceO o_bsliceM cpv cev_t cev_c Env.get put_some' put_none' of_setB of_addB of_setT of_addT of_upd of_blk of_tok of_nb of_nt of_new rmB rmT rmBs rmTs renB renT apB apT lkB lkT getD_0 getD_s renL AV.ren crange_if cstB_if one_nilS one_pnil oc_nil oc_pnil cbin binInt shInt binStr binBool cbuild_nil cbuild_cons cidx_if AV.cells AV.okc AV.flat flatL flatR setRange minmaxAV AV.one AV.ofCells eqCells eqCell slRows initEnv initFrom cres cresv cresL cond_true cond_false beq_self_eq_true Bool.not_true Bool.not_false beq_true beq_false eq_self if_true Option.some.injEq List.length_cons List.length_nil List.take_succ_cons List.take_zero List.drop_succ_cons List.drop_zero List.set_cons_succ List.set_cons_zero List.nil_append List.cons_append List.append_nil and_self Option.map_some Option.map_none List.map_cons List.map_nil Bool.false_eq_true if_false Nat.zero_add Nat.add_zero true_and and_true Bool.and_true Bool.true_and List.getElem?_cons_zero List.getElem?_cons_succ Nat.zero_le Nat.le_refl List.all_cons List.all_nil List.flatten_cons List.flatten_nil crows crowsOk List.filter_cons List.filter_nil List.contains_cons List.contains_nil Bool.or_false Bool.or_true Bool.false_or Bool.true_or
set_option linter.unusedSimpArgs false
set_option linter.unusedVariables false
section
set_option maxHeartbeats 4000000
attribute [local go_sem] Ex.row_mk Ex.rowsF Ex.row_flat Sm.row_mk Sm.rowsF Sm.row_flat srow srow_flat
mutual
def depE : Ex → Nat
 | .mk _ _ _ _ _ l => 1 + depEs l
def depEs : List Ex → Nat
 | [] => 0
 | x :: l => max (depE x) (depEs l)
end
mutual
theorem depE_amt : ∀ x : Ex, depE x ≤ x.amt
 | .mk _ _ _ _ _ l => by
  have := depEs_amt l
  simp only [depE, Ex.amt]
  omega
theorem depEs_amt : ∀ l : List Ex, depEs l ≤ Ex.amts l
 | [] => Nat.le_refl _
 | x :: l => by
  have := depE_amt x
  have := depEs_amt l
  simp only [depEs, Ex.amts]
  omega
end
theorem q118 : ∀ (N : Nat) (x : Ex), x.amt ≤ N → N ≤ 1000000000 → Pure Tryz.prog 118 [.agg x.row] (.int .i64 (depE x : Int))
 | 0, .mk k o m t n l, h, _ => by simp only [Ex.amt] at h; omega
 | N + 1, .mk k o m t n l, hN, hM => by
  simp only [Ex.amt] at hN
  have hll : l.length ≤ 1000000000 := by have := Ex.len_amt l; omega
  have hda := depEs_amt l
  simp only [depE]
  refine pure_of mo Tryz.func118 c118 (by simp only [flatL, AV.flat, Ex.row_flat, Bool.and_self]) rfl ?_
  unfold e118 r118
  simp(disch:=omega)only[go_sem,simprocAttr]
  refine GoG ?_
  refine J.loopX (X := Nat × Nat) (0, 0) (fun y => [(7, .vs 6 (l.map Ex.row)), (8, .int .i64 ((l.map Ex.row).length : Int)), (9, .int .i64 (y.1 : Int)), (3, .int .i64 (y.2 : Int))]) (fun _ => []) (fun _ => []) (fun y => y.1 ≤ l.length ∧ y.2 ≤ depEs l ∧ max y.2 (depEs (l.drop y.1)) = depEs l) (fun y => l.length - y.1) ⟨Nat.zero_le _, Nat.zero_le _, by simp⟩ ⟨rfl, rfl, rfl, rfl, trivial⟩ trivial trivial ?_
  rintro ⟨i, a⟩ ⟨hi, ha, hz⟩
  simp only at hi ha hz ⊢
  cases hv : l[i]? with
  | some v =>
   have hlt := (List.getElem?_eq_some_iff.1 hv).1
   rw [drop_cons' hv] at hz
   simp only [depEs] at hz
   have d1 : (i : Int) < ((l.map Ex.row).length : Int) := by rw [List.length_map]; omega
   have e := q118 N v (by have := Ex.mem_amt hv; omega) (by omega)
   obtain ⟨q, hq⟩ : ∃ q, q = depE v := ⟨_, rfl⟩
   rw [← hq] at e hz
   rcases v with ⟨xk, xo, xm, xt, xn, xl⟩
   simp(disch:=omega)only[go_sem,simprocAttr] at e
   (have z1:=d1;refine GoG1 ?_;clear z1)
   refine D.P (e) ?_
   refine GoG ?_
   refine J.roundC (i + 1, max a q) ⟨by simp only; omega, by simp only; omega, by simp only; omega⟩ ⟨rfl, rfl, by simp only [Int.natCast_add]; rfl, by rw [show ((max a q : Nat) : Int) = max (a : Int) (q : Int) by omega]; rfl, trivial⟩ trivial trivial rfl (by simp only [bdE, bdL, bdB, bdT, bdO, AV.bd, Own.frz, go_sem] <;> rfl) (by show l.length - (i + 1) < l.length - i; omega)
  | none =>
   have hge := List.getElem?_eq_none_iff.1 hv
   have e0 : i = l.length := by omega
   subst e0
   have d1 : ¬ (l.length : Int) < ((l.map Ex.row).length : Int) := by rw [List.length_map]; omega
   rw [List.drop_length] at hz
   simp only [depEs] at hz
   (have z1:=d1;refine GoG1 ?_;clear z1)
   first|refine D.R ?_|refine D.E ?_
   refine ⟨_, rfl, .wk ?_ rfl, trivial, trivial⟩
   simp only [AV.wk, AV.int.injEq, true_and]
   omega
theorem k117 : callable Tryz.prog 117 = true := by kernel_rfl
theorem q117 (x : Ex) (hx : x.amt ≤ 1000000000) : Pure Tryz.prog 117 [.agg x.row] (.bool (decide (depE x ≤ 10))) := by
 have e := q118 1000000000 x hx (Nat.le_refl _)
 obtain ⟨q, hq⟩ : ∃ q, q = depE x := ⟨_, rfl⟩
 rw [← hq] at e ⊢
 rcases x with ⟨xk, xo, xm, xt, xn, xl⟩
 simp(disch:=omega)only[go_sem,simprocAttr] at e
 refine pure_of mo Tryz.func117 c117 (by simp only [flatL, AV.flat, Ex.row_flat, Bool.and_self]) rfl ?_
 unfold e117 r117
 simp(disch:=omega)only[go_sem,simprocAttr]
 refine GoG ?_
 refine D.P (e) ?_
 refine GoG ?_
 first|refine D.R ?_|refine D.E ?_
 refine ⟨_, rfl, .wk ?_ rfl, trivial, trivial⟩
 simp only [AV.wk, AV.bool.injEq]
 exact decide_eq_decide.2 (by omega)
theorem grE (n : Nat) (h0 : 0 < n) (hn : n ≤ 100000000000) {c : CS} : FC Tryz.prog 172 [.nilS, .int .i64 (n : Int)] c (Rt (.own c.nt 6 []) (c.addT (.frz 131 6 0))) := by
 obtain ⟨i, h1, h2, h3, h4⟩ := info_at (P := Tryz.prog) (t := 131) (z := zE) (n := 6) (b := 88) (by kernel_rfl)
 have := grow_fc (c := c) Tryz.growE (i0 := i) (z := zE) h1 h2 (by omega) (by rw [h3]; rfl) (n := n) h0 (by rw [h4]; omega) (by omega)
 rw [h3] at this
 exact this
theorem gr0E {c : CS} : FC Tryz.prog 172 [.nilS, .int .i64 0] c (Rt .nilS c) := grow0_fc Tryz.growE
theorem grS (n : Nat) (h0 : 0 < n) (hn : n ≤ 100000000000) {c : CS} : FC Tryz.prog 194 [.nilS, .int .i64 (n : Int)] c (Rt (.own c.nt 11 []) (c.addT (.frz 133 11 0))) := by
 obtain ⟨i, h1, h2, h3, h4⟩ := info_at (P := Tryz.prog) (t := 133) (z := zT) (n := 11) (b := 168) (by kernel_rfl)
 have := grow_fc (c := c) Tryz.growS (i0 := i) (z := zT) h1 h2 (by omega) (by rw [h3]; rfl) (n := n) h0 (by rw [h4]; omega) (by omega)
 rw [h3] at this
 exact this
theorem gr0S {c : CS} : FC Tryz.prog 194 [.nilS, .int .i64 0] c (Rt .nilS c) := grow0_fc Tryz.growS
theorem q119 (a b : List Ex) (ha : a.length ≤ 1000000000) (hb : b.length ≤ 1000000000) : Pure Tryz.prog 119 [.vs 1 [[.vs 6 (a.map Ex.row)], [.vs 6 (b.map Ex.row)]]] (.vs 6 ((a ++ b).map Ex.row)) := by
 have za : ((a.map Ex.row).length : Int) = (a.length : Int) := by rw [List.length_map]
 have zb : ((b.map Ex.row).length : Int) = (b.length : Int) := by rw [List.length_map]
 refine pure_of mo Tryz.func119 c119 (by simp only [flatL, AV.flat, flatR, Ex.rowsF, Bool.and_self]) (by simp only [AV.flat, Ex.rowsF]) ?_
 unfold e119 r119
 simp(disch:=omega)only[go_sem,simprocAttr]
 refine GoG ?_
 refine J.loopX (X := Nat × Int) (0, 0) (fun i => [(0, .vs 1 [[.vs 6 (a.map Ex.row)], [.vs 6 (b.map Ex.row)]]), (2, .nilS), (9, .vs 1 [[.vs 6 (a.map Ex.row)], [.vs 6 (b.map Ex.row)]]), (10, .int .i64 2), (11, .int .i64 (i.1 : Int)), (3, .int .i64 i.2)]) (fun _ => []) (fun _ => []) (fun i => (i.1 = 0 ∧ i.2 = 0) ∨ (i.1 = 1 ∧ i.2 = a.length) ∨ (i.1 = 2 ∧ i.2 = (a.length : Int) + b.length)) (fun i => 2 - i.1) (.inl ⟨rfl, rfl⟩) ⟨rfl, rfl, rfl, rfl, rfl, rfl, trivial⟩ trivial trivial ?_
 rintro ⟨i, v⟩ (⟨h1, h2⟩ | ⟨h1, h2⟩ | ⟨h1, h2⟩)
 all_goals
  simp only at h1 h2
  subst h1 h2
 ·have d1 : ¬ (a.length : Int) < 0 := by omega
  have z00 : (0 : Int) + (a.length : Int) = (a.length : Int) := by omega
  simp(disch:=omega)only[go_sem,simprocAttr]
  (have z1:=za;have z2:=z00;have z3:=d1;refine GoG3 ?_;clear z1 z2 z3)
  refine J.roundX (1, (a.length : Int)) (.inr (.inl ⟨rfl, rfl⟩)) ⟨rfl, rfl, rfl, rfl, rfl, rfl, trivial⟩ trivial trivial rfl rfl (by show 2 - 1 < 2 - 0; decide)
 ·have d1 : ¬ (a.length : Int) + (b.length : Int) < 0 := by omega
  simp(disch:=omega)only[go_sem,simprocAttr]
  (have z1:=zb;have z2:=d1;refine GoG2 ?_;clear z1 z2)
  refine J.roundX (2, (a.length : Int) + (b.length : Int)) (.inr (.inr ⟨rfl, rfl⟩)) ⟨rfl, rfl, rfl, rfl, rfl, rfl, trivial⟩ trivial trivial rfl rfl (by show 2 - 2 < 2 - 1; decide)
 refine GoG ?_
 by_cases h0 : a.length + b.length = 0
 focus
  have e : (a.length : Int) + (b.length : Int) = 0 := by omega
  rw [e]
  (apply DJ.cr rfl (gr0E);(· simp(disch:=omega)only[go_sem,simprocAttr]<;>rfl))
  simp only [put_some', put_none']
  refine GoD ?_
  refine J.ghE 6 6 131 rfl (by decide) ?_
  simp(disch:=omega)only[go_sem,simprocAttr]
 rotate_left
 focus
  rw [show (a.length : Int) + (b.length : Int) = ((a.length + b.length : Nat) : Int) by omega]
  (apply DJ.cr rfl (grE (a.length + b.length) (by omega) (by omega));(· simp(disch:=omega)only[go_sem,simprocAttr]<;>rfl))
  simp only [put_some', put_none']
  simp(disch:=omega)only[go_sem,simprocAttr]
  (repeat' first|refine D.S ?_|refine DJ.nil ?_|refine D.W ?_|refine D.Z ?_|refine D.G ?_ ?_|refine D.X ‹_› ?_|refine D.XO ‹_› ?_|refine D.XS ‹_› ?_|intro h)
 all_goals
  refine GoG ?_
  refine J.loopX (X := Nat × List Ex) (0, []) (fun i => [(25, .vs 1 [[.vs 6 (a.map Ex.row)], [.vs 6 (b.map Ex.row)]]), (26, .int .i64 2), (27, .int .i64 (i.1 : Int)), (6, .own 0 6 (i.2.map Ex.row))]) (fun _ => []) (fun i => [(0, .frz 131 6 (i.2.map Ex.row).length)]) (fun i => (i.1 = 0 ∧ i.2 = []) ∨ (i.1 = 1 ∧ i.2 = a) ∨ (i.1 = 2 ∧ i.2 = a ++ b)) (fun i => 2 - i.1) (.inl ⟨rfl, rfl⟩) ⟨rfl, rfl, rfl, rfl, trivial⟩ trivial ⟨rfl, trivial⟩ ?_
  rintro ⟨i, v⟩ (⟨h1, h2⟩ | ⟨h1, h2⟩ | ⟨h1, h2⟩)
  ·simp only at h1 h2
   subst h1 h2
   refine GoG ?_
   refine D.ap ?_
   refine GoG ?_
   refine J.roundX (1, a) (.inr (.inl ⟨rfl, rfl⟩)) ⟨rfl, rfl, rfl, by simp only [List.map_nil, List.nil_append]; rfl, trivial⟩ trivial ⟨by simp only [List.map_nil, List.length_nil, Nat.zero_add]; rfl, trivial⟩ rfl rfl (by show 2 - 1 < 2 - 0; decide)
  ·simp only at h1 h2
   subst h1 h2
   refine GoG ?_
   refine D.ap ?_
   refine GoG ?_
   refine J.roundX (2, v ++ b) (.inr (.inr ⟨rfl, rfl⟩)) ⟨rfl, rfl, rfl, by simp only [List.map_append]; rfl, trivial⟩ trivial ⟨by simp only [List.map_append, List.length_append]; rfl, trivial⟩ rfl rfl (by show 2 - 2 < 2 - 1; decide)
  ·simp only at h1 h2
   subst h1 h2
   refine GoG ?_
   first|refine D.R ?_|refine D.E ?_
   exact ⟨_, rfl, .wk rfl (by simp only [AV.flat, Ex.rowsF]), trivial, trivial⟩
theorem q164 (a b : List Sm) (ha : a.length ≤ 1000000000) (hb : b.length ≤ 1000000000) : Pure Tryz.prog 164 [.vs 1 [[.vs 11 (a.map Sm.row)], [.vs 11 (b.map Sm.row)]]] (.vs 11 ((a ++ b).map Sm.row)) := by
 have za : ((a.map Sm.row).length : Int) = (a.length : Int) := by rw [List.length_map]
 have zb : ((b.map Sm.row).length : Int) = (b.length : Int) := by rw [List.length_map]
 refine pure_of mo Tryz.func164 c164 (by simp only [flatL, AV.flat, flatR, Sm.rowsF, Bool.and_self]) (by simp only [AV.flat, Sm.rowsF]) ?_
 unfold e164 r164
 simp(disch:=omega)only[go_sem,simprocAttr]
 refine GoG ?_
 refine J.loopX (X := Nat × Int) (0, 0) (fun i => [(0, .vs 1 [[.vs 11 (a.map Sm.row)], [.vs 11 (b.map Sm.row)]]), (2, .nilS), (9, .vs 1 [[.vs 11 (a.map Sm.row)], [.vs 11 (b.map Sm.row)]]), (10, .int .i64 2), (11, .int .i64 (i.1 : Int)), (3, .int .i64 i.2)]) (fun _ => []) (fun _ => []) (fun i => (i.1 = 0 ∧ i.2 = 0) ∨ (i.1 = 1 ∧ i.2 = a.length) ∨ (i.1 = 2 ∧ i.2 = (a.length : Int) + b.length)) (fun i => 2 - i.1) (.inl ⟨rfl, rfl⟩) ⟨rfl, rfl, rfl, rfl, rfl, rfl, trivial⟩ trivial trivial ?_
 rintro ⟨i, v⟩ (⟨h1, h2⟩ | ⟨h1, h2⟩ | ⟨h1, h2⟩)
 all_goals
  simp only at h1 h2
  subst h1 h2
 ·have d1 : ¬ (a.length : Int) < 0 := by omega
  have z00 : (0 : Int) + (a.length : Int) = (a.length : Int) := by omega
  simp(disch:=omega)only[go_sem,simprocAttr]
  (have z1:=za;have z2:=z00;have z3:=d1;refine GoG3 ?_;clear z1 z2 z3)
  refine J.roundX (1, (a.length : Int)) (.inr (.inl ⟨rfl, rfl⟩)) ⟨rfl, rfl, rfl, rfl, rfl, rfl, trivial⟩ trivial trivial rfl rfl (by show 2 - 1 < 2 - 0; decide)
 ·have d1 : ¬ (a.length : Int) + (b.length : Int) < 0 := by omega
  simp(disch:=omega)only[go_sem,simprocAttr]
  (have z1:=zb;have z2:=d1;refine GoG2 ?_;clear z1 z2)
  refine J.roundX (2, (a.length : Int) + (b.length : Int)) (.inr (.inr ⟨rfl, rfl⟩)) ⟨rfl, rfl, rfl, rfl, rfl, rfl, trivial⟩ trivial trivial rfl rfl (by show 2 - 2 < 2 - 1; decide)
 refine GoG ?_
 by_cases h0 : a.length + b.length = 0
 focus
  have e : (a.length : Int) + (b.length : Int) = 0 := by omega
  rw [e]
  (apply DJ.cr rfl (gr0S);(· simp(disch:=omega)only[go_sem,simprocAttr]<;>rfl))
  simp only [put_some', put_none']
  refine GoD ?_
  refine J.ghE 6 11 133 rfl (by decide) ?_
  simp(disch:=omega)only[go_sem,simprocAttr]
 rotate_left
 focus
  rw [show (a.length : Int) + (b.length : Int) = ((a.length + b.length : Nat) : Int) by omega]
  (apply DJ.cr rfl (grS (a.length + b.length) (by omega) (by omega));(· simp(disch:=omega)only[go_sem,simprocAttr]<;>rfl))
  simp only [put_some', put_none']
  simp(disch:=omega)only[go_sem,simprocAttr]
  (repeat' first|refine D.S ?_|refine DJ.nil ?_|refine D.W ?_|refine D.Z ?_|refine D.G ?_ ?_|refine D.X ‹_› ?_|refine D.XO ‹_› ?_|refine D.XS ‹_› ?_|intro h)
 all_goals
  refine GoG ?_
  refine J.loopX (X := Nat × List Sm) (0, []) (fun i => [(25, .vs 1 [[.vs 11 (a.map Sm.row)], [.vs 11 (b.map Sm.row)]]), (26, .int .i64 2), (27, .int .i64 (i.1 : Int)), (6, .own 0 11 (i.2.map Sm.row))]) (fun _ => []) (fun i => [(0, .frz 133 11 (i.2.map Sm.row).length)]) (fun i => (i.1 = 0 ∧ i.2 = []) ∨ (i.1 = 1 ∧ i.2 = a) ∨ (i.1 = 2 ∧ i.2 = a ++ b)) (fun i => 2 - i.1) (.inl ⟨rfl, rfl⟩) ⟨rfl, rfl, rfl, rfl, trivial⟩ trivial ⟨rfl, trivial⟩ ?_
  rintro ⟨i, v⟩ (⟨h1, h2⟩ | ⟨h1, h2⟩ | ⟨h1, h2⟩)
  ·simp only at h1 h2
   subst h1 h2
   refine GoG ?_
   refine D.ap ?_
   refine GoG ?_
   refine J.roundX (1, a) (.inr (.inl ⟨rfl, rfl⟩)) ⟨rfl, rfl, rfl, by simp only [List.map_nil, List.nil_append]; rfl, trivial⟩ trivial ⟨by simp only [List.map_nil, List.length_nil, Nat.zero_add]; rfl, trivial⟩ rfl rfl (by show 2 - 1 < 2 - 0; decide)
  ·simp only at h1 h2
   subst h1 h2
   refine GoG ?_
   refine D.ap ?_
   refine GoG ?_
   refine J.roundX (2, v ++ b) (.inr (.inr ⟨rfl, rfl⟩)) ⟨rfl, rfl, rfl, by simp only [List.map_append]; rfl, trivial⟩ trivial ⟨by simp only [List.map_append, List.length_append]; rfl, trivial⟩ rfl rfl (by show 2 - 2 < 2 - 1; decide)
  ·simp only at h1 h2
   subst h1 h2
   refine GoG ?_
   first|refine D.R ?_|refine D.E ?_
   exact ⟨_, rfl, .wk rfl (by simp only [AV.flat, Sm.rowsF]), trivial, trivial⟩
end
section
set_option maxHeartbeats 4000000
attribute [local go_sem] Ex.row_mk Ex.rowsF Ex.row_flat Sm.row_mk Sm.rowsF Sm.row_flat srow srow_flat
mutual
def depS : Sm → Nat
 | .mk _ _ x _ a b => 1 + max (depE x) (max (depSs a) (depSs b))
def depSs : List Sm → Nat
 | [] => 0
 | x :: l => max (depS x) (depSs l)
end
theorem depSs_app : ∀ a b, depSs (a ++ b) = max (depSs a) (depSs b)
 | [], b => by simp [depSs]
 | x :: a, b => by simp only [List.cons_append, depSs, depSs_app a b]; omega
mutual
theorem depS_amt : ∀ x : Sm, depS x ≤ x.amt
 | .mk _ _ x _ a b => by
  have := depE_amt x
  have := depSs_amt a
  have := depSs_amt b
  simp only [depS, Sm.amt]
  omega
theorem depSs_amt : ∀ l : List Sm, depSs l ≤ Sm.amts l
 | [] => Nat.le_refl _
 | x :: l => by
  have := depS_amt x
  have := depSs_amt l
  simp only [depSs, Sm.amts]
  omega
end
theorem Sm.amts_app : ∀ a b : List Sm, Sm.amts (a ++ b) = Sm.amts a + Sm.amts b
 | [], b => by simp [Sm.amts]
 | x :: a, b => by simp only [List.cons_append, Sm.amts, Sm.amts_app a b]; omega
theorem q110 : ∀ (N : Nat) (x : Sm), x.amt ≤ N → N ≤ 1000000000 → Pure Tryz.prog 110 [.agg x.row] (.int .i64 (depS x : Int))
 | 0, .mk k nm x t a b, h, _ => by simp only [Sm.amt] at h; omega
 | N + 1, .mk k nm x t sa sb, hN, hM => by
  simp only [Sm.amt] at hN
  have hla := Sm.len_amt sa
  have hlb := Sm.len_amt sb
  have hll := Sm.len_amt (sa ++ sb)
  have hap := Sm.amts_app sa sb
  have hda := depSs_amt (sa ++ sb)
  have hdx := depE_amt x
  have ex := q118 N x (by omega) (by omega)
  have ec := q164 sa sb (by omega) (by omega)
  simp only [depS]
  rw [← depSs_app]
  obtain ⟨l, hl⟩ : ∃ l, l = sa ++ sb := ⟨_, rfl⟩
  rw [← hl] at ec hda hap hll ⊢
  obtain ⟨q0, hq0⟩ : ∃ q, q = depE x := ⟨_, rfl⟩
  rw [← hq0] at ex hdx ⊢
  clear hl
  rcases x with ⟨xk, xo, xm, xt, xn, xl⟩
  simp(disch:=omega)only[go_sem,simprocAttr] at ex
  refine pure_of mo Tryz.func110 c110 (by simp only [flatL, AV.flat, Sm.row_flat, Bool.and_self]) rfl ?_
  unfold e110 r110
  simp(disch:=omega)only[go_sem,simprocAttr]
  refine GoG ?_
  refine D.P (ex) ?_
  refine GoG ?_
  refine D.P (ec) ?_
  refine GoG ?_
  refine J.loopX (X := Nat × Nat) (0, q0) (fun y => [(14, .vs 11 (l.map Sm.row)), (15, .int .i64 ((l.map Sm.row).length : Int)), (16, .int .i64 (y.1 : Int)), (3, .int .i64 (y.2 : Int))]) (fun _ => []) (fun _ => []) (fun y => y.1 ≤ l.length ∧ y.2 ≤ max q0 (depSs l) ∧ max y.2 (depSs (l.drop y.1)) = max q0 (depSs l)) (fun y => l.length - y.1) ⟨Nat.zero_le _, by simp only; omega, by simp⟩ ⟨rfl, rfl, rfl, rfl, trivial⟩ trivial trivial ?_
  rintro ⟨i, a⟩ ⟨hi, ha, hz⟩
  simp only at hi ha hz ⊢
  cases hv : l[i]? with
  | some v =>
   have hlt := (List.getElem?_eq_some_iff.1 hv).1
   rw [drop_cons' hv] at hz
   simp only [depSs] at hz
   have d1 : (i : Int) < ((l.map Sm.row).length : Int) := by rw [List.length_map]; omega
   have e := q110 N v (by have := Sm.mem_amt hv; omega) (by omega)
   obtain ⟨q, hq⟩ : ∃ q, q = depS v := ⟨_, rfl⟩
   rw [← hq] at e hz
   rcases v with ⟨k', nm', ⟨xk', xo', xm', xt', xn', xl'⟩, tm', sa', sb'⟩
   simp(disch:=omega)only[go_sem,simprocAttr] at e
   (have z1:=d1;refine GoG1 ?_;clear z1)
   refine D.P (e) ?_
   refine GoG ?_
   refine J.roundC (i + 1, max a q) ⟨by simp only; omega, by simp only; omega, by simp only; omega⟩ ⟨rfl, rfl, by simp only [Int.natCast_add]; rfl, by rw [show ((max a q : Nat) : Int) = max (a : Int) (q : Int) by omega]; rfl, trivial⟩ trivial trivial rfl (by simp only [bdE, bdL, bdB, bdT, bdO, AV.bd, Own.frz, go_sem] <;> rfl) (by show l.length - (i + 1) < l.length - i; omega)
  | none =>
   have hge := List.getElem?_eq_none_iff.1 hv
   have e0 : i = l.length := by omega
   subst e0
   have d1 : ¬ (l.length : Int) < ((l.map Sm.row).length : Int) := by rw [List.length_map]; omega
   rw [List.drop_length] at hz
   simp only [depSs] at hz
   (have z1:=d1;refine GoG1 ?_;clear z1)
   first|refine D.R ?_|refine D.E ?_
   refine ⟨_, rfl, .wk ?_ rfl, trivial, trivial⟩
   simp only [AV.wk, AV.int.injEq, true_and]
   omega
theorem k109 : callable Tryz.prog 109 = true := by kernel_rfl
theorem q109 (x : Sm) (hx : x.amt ≤ 1000000000) : Pure Tryz.prog 109 [.agg x.row] (.bool (decide (depS x ≤ 10))) := by
 have e := q110 1000000000 x hx (Nat.le_refl _)
 obtain ⟨q, hq⟩ : ∃ q, q = depS x := ⟨_, rfl⟩
 rw [← hq] at e ⊢
 rcases x with ⟨k, nm, ⟨xk, xo, xm, xt, xn, xl⟩, t, a, b⟩
 simp(disch:=omega)only[go_sem,simprocAttr] at e
 refine pure_of mo Tryz.func109 c109 (by simp only [flatL, AV.flat, Sm.row_flat, Bool.and_self]) rfl ?_
 unfold e109 r109
 simp(disch:=omega)only[go_sem,simprocAttr]
 refine GoG ?_
 refine D.P (e) ?_
 refine GoG ?_
 first|refine D.R ?_|refine D.E ?_
 refine ⟨_, rfl, .wk ?_ rfl, trivial, trivial⟩
 simp only [AV.wk, AV.bool.injEq]
 exact decide_eq_decide.2 (by omega)
end
section
set_option maxHeartbeats 8000000
attribute [local go_sem] Ex.row_mk Ex.rowsF Ex.row_flat Sm.row_mk Sm.rowsF Sm.row_flat srow srow_flat Vr.row vr_flat
def headS (k : Int) (m : Bs) (t : Int) (na nb : Nat) : Bool :=
  if k = 1 then isWordB m && (decide (t = 0) && (decide (na = 0) && decide (nb = 0)))
  else if k = 2 then decide (m = []) && decide (t = 0)
  else if k = 3 then decide (m = []) && (decide (1 ≤ t) && (decide (t ≤ 50) && decide (nb = 0)))
  else false
mutual
def goodS : Sm → Bool
  | .mk k m x t a b => headS k m t a.length b.length && (goodE x && (goodSs a && goodSs b))
def goodSs : List Sm → Bool
  | [] => true
  | x :: l => goodS x && goodSs l
end
theorem goodSs_all : ∀ l, goodSs l = l.all goodS
  | [] => rfl
  | x :: l => by simp only [goodSs, List.all_cons, goodSs_all l]
theorem k114 : callable Tryz.prog 114 = true := by kernel_rfl
theorem q114 : ∀ (N : Nat) (x : Sm), x.amt ≤ N → N ≤ 1000000000 → Pure Tryz.prog 114 [.agg x.row] (.bool (goodS x))
  | 0, .mk k nm x t a b, h, _ => by simp only [Sm.amt] at h; omega
  | N + 1, .mk k nm x t sa sb, hN, hM => by
    simp only [Sm.amt] at hN
    have hla := Sm.len_amt sa
    have hlb := Sm.len_amt sb
    have ex := q121 N x (by omega) (by omega)
    have ea := q113 k114 goodS sa (by omega) fun v hv => by
      obtain ⟨i, hi⟩ := List.getElem?_of_mem hv
      exact q114 N v (by have := Sm.mem_amt hi; omega) (by omega)
    have eb := q113 k114 goodS sb (by omega) fun v hv => by
      obtain ⟨i, hi⟩ := List.getElem?_of_mem hv
      exact q114 N v (by have := Sm.mem_amt hi; omega) (by omega)
    have za : ((sa.map Sm.row).length : Int) = (sa.length : Int) := by rw [List.length_map]
    have zb : ((sb.map Sm.row).length : Int) = (sb.length : Int) := by rw [List.length_map]
    simp only [goodS, goodSs_all]
    generalize sa.all goodS = ga at ea
    generalize sb.all goodS = gb at eb
    generalize goodE x = gx at ex
    clear hla hlb hN
    generalize sa.length = na at za ⊢
    generalize sb.length = nb at zb ⊢
    rcases x with ⟨xk, xo, xm, xt, xn, xl⟩
    simp(disch:=omega)only[go_sem,simprocAttr] at ex
    refine pure_of mo Tryz.func114 c114 (by simp only [flatL, AV.flat, Sm.row_flat, Bool.and_self]) rfl ?_
    unfold e114 r114
    simp(disch:=omega)only[go_sem,simprocAttr]
    by_cases h1 : k = 1
    · subst h1
      (have z1:=za;have z2:=zb;refine GoG2 ?_;clear z1 z2)
      refine D.P (p45 nm) ?_
      cases ht : isWordB nm
      · refine GoG ?_
        first|refine D.R ?_|refine D.E ?_
        refine ⟨_, rfl, .wk ?_ rfl, trivial, trivial⟩
        simp_all [headS, AV.wk]
      (repeat' first|(apply DJ.s rfl;(· simp(disch:=omega)only[go_sem,simprocAttr,za, zb]<;>with_reducible rfl))|(apply J.s true true;(· simp(disch:=omega)only[go_sem,simprocAttr,za, zb]<;>with_reducible rfl))|apply DJ.nil|(refine J.reg0 ?_)|(apply DJ.gw;(· simp(disch:=omega)only[go_sem,simprocAttr,za, zb]<;>with_reducible rfl))|(apply DJ.gz;(· rfl);(· simp(disch:=omega)only[go_sem,simprocAttr,za, zb]<;>with_reducible rfl))|(apply DJ.gs;(· simp(disch:=omega)only[go_sem,simprocAttr,za, zb]<;>with_reducible rfl))|((first|apply DJ.ixm|apply DJ.ixom|apply DJ.ixsm);(· simp(disch:=omega)only[go_sem,simprocAttr,za, zb]<;>with_reducible rfl);(· simp(disch:=omega)only[go_sem,simprocAttr,za, zb]<;>with_reducible rfl);(· assumption);(· omega))|intro h|(apply J.cond;(· simp(disch:=omega)only[go_sem,simprocAttr,za, zb]<;>with_reducible rfl)))
      all_goals first
        | (refine D.R ?_
           refine ⟨_, rfl, .wk ?_ rfl, trivial, trivial⟩
           first
           | (simp_all [headS, AV.wk]; done)
           | (simp_all [headS, AV.wk]; intros; omega)
           | (simp_all [headS, AV.wk]; omega))
        | skip
      refine D.P (ex) ?_
      cases gx
      · refine GoG ?_
        first|refine D.R ?_|refine D.E ?_
        refine ⟨_, rfl, .wk ?_ rfl, trivial, trivial⟩
        first
        | (simp_all [headS, AV.wk]; done)
        | (simp_all [headS, AV.wk]; intros; omega)
        | (simp_all [headS, AV.wk]; omega)
      refine GoG ?_
      refine D.P (ea) ?_
      cases ga
      · refine GoG ?_
        first|refine D.R ?_|refine D.E ?_
        refine ⟨_, rfl, .wk ?_ rfl, trivial, trivial⟩
        first
        | (simp_all [headS, AV.wk]; done)
        | (simp_all [headS, AV.wk]; intros; omega)
        | (simp_all [headS, AV.wk]; omega)
      refine GoG ?_
      refine D.P (eb) ?_
      refine GoG ?_
      first|refine D.R ?_|refine D.E ?_
      refine ⟨_, rfl, .wk ?_ rfl, trivial, trivial⟩
      first
      | (simp_all [headS, AV.wk]; done)
      | (simp_all [headS, AV.wk]; intros; omega)
      | (simp_all [headS, AV.wk]; omega)
    by_cases h2 : k = 2
    · subst h2
      (repeat' first|(apply DJ.s rfl;(· simp(disch:=omega)only[go_sem,simprocAttr,za, zb]<;>with_reducible rfl))|(apply J.s true true;(· simp(disch:=omega)only[go_sem,simprocAttr,za, zb]<;>with_reducible rfl))|apply DJ.nil|(refine J.reg0 ?_)|(apply DJ.gw;(· simp(disch:=omega)only[go_sem,simprocAttr,za, zb]<;>with_reducible rfl))|(apply DJ.gz;(· rfl);(· simp(disch:=omega)only[go_sem,simprocAttr,za, zb]<;>with_reducible rfl))|(apply DJ.gs;(· simp(disch:=omega)only[go_sem,simprocAttr,za, zb]<;>with_reducible rfl))|((first|apply DJ.ixm|apply DJ.ixom|apply DJ.ixsm);(· simp(disch:=omega)only[go_sem,simprocAttr,za, zb]<;>with_reducible rfl);(· simp(disch:=omega)only[go_sem,simprocAttr,za, zb]<;>with_reducible rfl);(· assumption);(· omega))|intro h|(apply J.cond;(· simp(disch:=omega)only[go_sem,simprocAttr,za, zb]<;>with_reducible rfl)))
      all_goals first
        | (refine D.R ?_
           refine ⟨_, rfl, .wk ?_ rfl, trivial, trivial⟩
           first
           | (simp_all [headS, AV.wk]; done)
           | (simp_all [headS, AV.wk]; intros; omega)
           | (simp_all [headS, AV.wk]; omega))
        | skip
      refine D.P (ex) ?_
      cases gx
      · refine GoG ?_
        first|refine D.R ?_|refine D.E ?_
        refine ⟨_, rfl, .wk ?_ rfl, trivial, trivial⟩
        first
        | (simp_all [headS, AV.wk]; done)
        | (simp_all [headS, AV.wk]; intros; omega)
        | (simp_all [headS, AV.wk]; omega)
      refine GoG ?_
      refine D.P (ea) ?_
      cases ga
      · refine GoG ?_
        first|refine D.R ?_|refine D.E ?_
        refine ⟨_, rfl, .wk ?_ rfl, trivial, trivial⟩
        first
        | (simp_all [headS, AV.wk]; done)
        | (simp_all [headS, AV.wk]; intros; omega)
        | (simp_all [headS, AV.wk]; omega)
      refine GoG ?_
      refine D.P (eb) ?_
      refine GoG ?_
      first|refine D.R ?_|refine D.E ?_
      refine ⟨_, rfl, .wk ?_ rfl, trivial, trivial⟩
      first
      | (simp_all [headS, AV.wk]; done)
      | (simp_all [headS, AV.wk]; intros; omega)
      | (simp_all [headS, AV.wk]; omega)
    by_cases h3 : k = 3
    · subst h3
      (repeat' first|(apply DJ.s rfl;(· simp(disch:=omega)only[go_sem,simprocAttr,za, zb]<;>with_reducible rfl))|(apply J.s true true;(· simp(disch:=omega)only[go_sem,simprocAttr,za, zb]<;>with_reducible rfl))|apply DJ.nil|(refine J.reg0 ?_)|(apply DJ.gw;(· simp(disch:=omega)only[go_sem,simprocAttr,za, zb]<;>with_reducible rfl))|(apply DJ.gz;(· rfl);(· simp(disch:=omega)only[go_sem,simprocAttr,za, zb]<;>with_reducible rfl))|(apply DJ.gs;(· simp(disch:=omega)only[go_sem,simprocAttr,za, zb]<;>with_reducible rfl))|((first|apply DJ.ixm|apply DJ.ixom|apply DJ.ixsm);(· simp(disch:=omega)only[go_sem,simprocAttr,za, zb]<;>with_reducible rfl);(· simp(disch:=omega)only[go_sem,simprocAttr,za, zb]<;>with_reducible rfl);(· assumption);(· omega))|intro h|(apply J.cond;(· simp(disch:=omega)only[go_sem,simprocAttr,za, zb]<;>with_reducible rfl)))
      all_goals first
        | (refine D.R ?_
           refine ⟨_, rfl, .wk ?_ rfl, trivial, trivial⟩
           first
           | (simp_all [headS, AV.wk]; done)
           | (simp_all [headS, AV.wk]; intros; omega)
           | (simp_all [headS, AV.wk]; omega))
        | skip
      refine D.P (ex) ?_
      cases gx
      · refine GoG ?_
        first|refine D.R ?_|refine D.E ?_
        refine ⟨_, rfl, .wk ?_ rfl, trivial, trivial⟩
        first
        | (simp_all [headS, AV.wk]; done)
        | (simp_all [headS, AV.wk]; intros; omega)
        | (simp_all [headS, AV.wk]; omega)
      refine GoG ?_
      refine D.P (ea) ?_
      cases ga
      · refine GoG ?_
        first|refine D.R ?_|refine D.E ?_
        refine ⟨_, rfl, .wk ?_ rfl, trivial, trivial⟩
        first
        | (simp_all [headS, AV.wk]; done)
        | (simp_all [headS, AV.wk]; intros; omega)
        | (simp_all [headS, AV.wk]; omega)
      refine GoG ?_
      refine D.P (eb) ?_
      refine GoG ?_
      first|refine D.R ?_|refine D.E ?_
      refine ⟨_, rfl, .wk ?_ rfl, trivial, trivial⟩
      first
      | (simp_all [headS, AV.wk]; done)
      | (simp_all [headS, AV.wk]; intros; omega)
      | (simp_all [headS, AV.wk]; omega)
    (have z1:=h1;have z2:=h2;have z3:=h3;refine GoG3 ?_;clear z1 z2 z3)
    first|refine D.R ?_|refine D.E ?_
    refine ⟨_, rfl, .wk ?_ rfl, trivial, trivial⟩
    simp [headS, h1, h2, h3, AV.wk]
def goodV (v : Vr) : Bool := isWordB v.name && (constB v.lo && (constB v.hi && ((decide (v.sk = 1) || (decide (v.sk = 2) && (decide (0 ≤ v.lo) && decide (0 ≤ v.hi)))) &&
  (if v.ik = 1 then constB v.n && decide (v.s = []) else if v.ik = 2 then decide (v.n = 0) && textB v.s else false))))
theorem k47 : callable Tryz.prog 47 = true := by kernel_rfl
theorem q47 (v : Vr) : Pure Tryz.prog 47 [.agg v.row] (.bool (goodV v)) := by
  obtain ⟨nm, sk, lo, hi, ik, n, s⟩ := v
  have eW := p45 nm
  have eL := q105 lo
  have eH := q105 hi
  have eN := q105 n
  have eT := q106 s
  simp only [goodV]
  generalize isWordB nm = bW at *
  generalize constB lo = bL at *
  generalize constB hi = bH at *
  generalize constB n = bN at *
  generalize textB s = bT at *
  refine pure_of mo Tryz.func47 c47 rfl rfl ?_
  unfold e47 r47
  simp(disch:=omega)only[go_sem,simprocAttr]
  refine GoG ?_
  refine D.P (eW) ?_
  cases bW
  · refine GoG ?_
    first|refine D.R ?_|refine D.E ?_
    exact ⟨_, rfl, .wk rfl rfl, trivial, trivial⟩
  refine GoG ?_
  refine D.P (eL) ?_
  cases bL
  · refine GoG ?_
    first|refine D.R ?_|refine D.E ?_
    exact ⟨_, rfl, .wk rfl rfl, trivial, trivial⟩
  refine GoG ?_
  refine D.P (eH) ?_
  cases bH
  · refine GoG ?_
    first|refine D.R ?_|refine D.E ?_
    exact ⟨_, rfl, .wk rfl rfl, trivial, trivial⟩
  by_cases k1 : sk = 1
  focus
    subst k1
    (repeat' first|refine D.S ?_|refine D.JJ true true ?_|refine DJ.nil ?_|refine J.reg0 ?_|refine D.W ?_|refine D.Z ?_|refine D.G ?_ ?_|refine D.X ‹_› ?_|refine D.XO ‹_› ?_|refine D.XS ‹_› ?_|intro h)
  rotate_left
  focus
    by_cases k2 : sk = 2
    · subst k2
      by_cases l0 : lo < 0
      · (have z1:=l0;refine GoG1 ?_;clear z1)
        first|refine D.R ?_|refine D.E ?_
        refine ⟨_, rfl, .wk ?_ rfl, trivial, trivial⟩
        simp [AV.wk, show ¬ 0 ≤ lo by omega]
      by_cases l1 : hi < 0
      · (have z1:=l0;have z2:=l1;refine GoG2 ?_;clear z1 z2)
        first|refine D.R ?_|refine D.E ?_
        refine ⟨_, rfl, .wk ?_ rfl, trivial, trivial⟩
        simp [AV.wk, show ¬ 0 ≤ hi by omega]
      (have z1:=l0;have z2:=l1;refine GoG2 ?_;clear z1 z2)
      have l2 : 0 ≤ lo := by omega
      have l3 : 0 ≤ hi := by omega
      rw [show (decide ((2 : Int) = 1) || (decide ((2 : Int) = 2) && (decide (0 ≤ lo) && decide (0 ≤ hi)))) = true by simp [l2, l3]]
      clear l0 l1 l2 l3
      by_cases j1 : ik = 1
      · subst j1
        refine GoG ?_
        refine D.P (eN) ?_
        cases bN
        · refine GoG ?_
          first|refine D.R ?_|refine D.E ?_
          exact ⟨_, rfl, .wk rfl rfl, trivial, trivial⟩
        refine GoG ?_
        first|refine D.R ?_|refine D.E ?_
        exact ⟨_, rfl, .wk rfl rfl, trivial, trivial⟩
      by_cases j2 : ik = 2
      · subst j2
        by_cases n0 : n = 0
        · (have z1:=n0;refine GoG1 ?_;clear z1)
          refine D.P (eT) ?_
          refine GoG ?_
          first|refine D.R ?_|refine D.E ?_
          refine ⟨_, rfl, .wk ?_ rfl, trivial, trivial⟩
          simp [AV.wk, n0]
        · (have z1:=n0;refine GoG1 ?_;clear z1)
          first|refine D.R ?_|refine D.E ?_
          refine ⟨_, rfl, .wk ?_ rfl, trivial, trivial⟩
          simp [AV.wk, n0]
      (have z1:=j1;have z2:=j2;refine GoG2 ?_;clear z1 z2)
      first|refine D.R ?_|refine D.E ?_
      refine ⟨_, rfl, .wk ?_ rfl, trivial, trivial⟩
      simp [AV.wk, j1, j2]
    · (have z1:=k1;have z2:=k2;refine GoG2 ?_;clear z1 z2)
      first|refine D.R ?_|refine D.E ?_
      refine ⟨_, rfl, .wk ?_ rfl, trivial, trivial⟩
      simp [AV.wk, k1, k2]
  rw [show (decide ((1 : Int) = 1) || (decide ((1 : Int) = 2) && (decide (0 ≤ lo) && decide (0 ≤ hi)))) = true by simp]
  by_cases j1 : ik = 1
  · subst j1
    refine GoG ?_
    refine D.P (eN) ?_
    cases bN
    · refine GoG ?_
      first|refine D.R ?_|refine D.E ?_
      exact ⟨_, rfl, .wk rfl rfl, trivial, trivial⟩
    refine GoG ?_
    first|refine D.R ?_|refine D.E ?_
    exact ⟨_, rfl, .wk rfl rfl, trivial, trivial⟩
  by_cases j2 : ik = 2
  · subst j2
    by_cases n0 : n = 0
    · (have z1:=n0;refine GoG1 ?_;clear z1)
      refine D.P (eT) ?_
      refine GoG ?_
      first|refine D.R ?_|refine D.E ?_
      refine ⟨_, rfl, .wk ?_ rfl, trivial, trivial⟩
      simp [AV.wk, n0]
    · (have z1:=n0;refine GoG1 ?_;clear z1)
      first|refine D.R ?_|refine D.E ?_
      refine ⟨_, rfl, .wk ?_ rfl, trivial, trivial⟩
      simp [AV.wk, n0]
  (have z1:=j1;have z2:=j2;refine GoG2 ?_;clear z1 z2)
  first|refine D.R ?_|refine D.E ?_
  refine ⟨_, rfl, .wk ?_ rfl, trivial, trivial⟩
  simp [AV.wk, j1, j2]
end
section
set_option maxHeartbeats 4000000
attribute [local go_sem] Ex.row_mk Ex.rowsF Ex.row_flat Sm.row_mk Sm.rowsF Sm.row_flat srow srow_flat ha_row of_row ha_flat of_flat
theorem splitP_len (s : Bs) : (splitP s).length ≤ s.length + 1 := by
 have hlen := Lib.splitB_all dotB (Nat.le_refl _) 0 _ ⟨⟨s⟩⟩ rfl
 have hle := Lib.countB_le dotB (Nat.le_refl _) s.length ⟨⟨s⟩⟩ (Nat.le_refl _)
 rw [splitP, List.length_map, hlen]
 exact Nat.succ_le_succ hle
theorem k167 : callable Tryz.prog 167 = true := by kernel_rfl
theorem q167 (s : Bs) : Pure Tryz.prog 167 [.str s] (.bool (!(isWordB s))) := by
 refine pure_of mo Tryz.func167 c167 rfl rfl ?_
 unfold e167 r167
 simp(disch:=omega)only[go_sem,simprocAttr]
 refine GoG ?_
 refine D.P (p45 s) ?_
 refine GoG ?_
 first|refine D.R ?_|refine D.E ?_
 exact ⟨_, rfl, .wk rfl rfl, trivial, trivial⟩
theorem q195P {f : FuncId} (hf : callable Tryz.prog f = true) (g : Bs → Bool) (l : List Bs) (hl : l.length ≤ 1000000000000) (h : ∀ v ∈ l, Pure Tryz.prog f [.str v] (.bool (!(g v)))) : Pure Tryz.prog 195 [.vs 1 (l.map srow), .fn f []] (.int .i64 (posG g l 0)) := by
 refine pure_of mo Tryz.func195 c195 (by simp only [flatL, AV.flat, srow_flat, Bool.and_self]) rfl ?_
 unfold e195 r195
 simp(disch:=omega)only[go_sem,simprocAttr]
 refine GoG ?_
 refine J.loopX (X := Nat) 0 (fun i => [(0, .vs 1 (l.map srow)), (1, .fn f []), (7, .int .i64 ((l.map srow).length : Int)), (8, .int .i64 (i : Int))]) (fun _ => []) (fun _ => []) (fun i => i ≤ l.length ∧ posG g (l.drop i) i = posG g l 0) (fun i => l.length - i) ⟨Nat.zero_le _, rfl⟩ ⟨rfl, rfl, rfl, rfl, trivial⟩ trivial trivial ?_
 rintro i ⟨hi, hz⟩
 try simp only at hi hz ⊢
 cases hv : l[i]? with
 | some v =>
  have hlt := (List.getElem?_eq_some_iff.1 hv).1
  rw [drop_cons' hv] at hz
  simp only [posG] at hz
  have d1 : (i : Int) < ((l.map srow).length : Int) := by rw [List.length_map]; omega
  have e := h v (List.mem_of_getElem? hv)
  generalize g v = b at e hz
  clear h
  (have z1:=d1;refine GoG1 ?_;clear z1)
  refine D.V (hf) (e) ?_
  cases b
  ·refine GoG ?_
   first|refine D.R ?_|refine D.E ?_
   exact ⟨_, rfl, .wk (by rw [← hz]; rfl) rfl, trivial, trivial⟩
  ·refine GoG ?_
   refine J.roundX (i + 1) ⟨by omega, hz⟩ ⟨rfl, rfl, rfl, by simp only [Int.natCast_add]; rfl, trivial⟩ trivial trivial rfl rfl (by show l.length - (i + 1) < l.length - i; omega)
 | none =>
  have hge := List.getElem?_eq_none_iff.1 hv
  have e0 : i = l.length := by omega
  subst e0
  have d1 : ¬ (l.length : Int) < ((l.map srow).length : Int) := by rw [List.length_map]; omega
  rw [List.drop_length] at hz
  (have z1:=d1;refine GoG1 ?_;clear z1)
  first|refine D.R ?_|refine D.E ?_
  exact ⟨_, rfl, .wk (by rw [← hz]; rfl) rfl, trivial, trivial⟩
theorem q165P {f : FuncId} (hf : callable Tryz.prog f = true) (g : Bs → Bool) (l : List Bs) (hl : l.length ≤ 1000000000000) (h : ∀ v ∈ l, Pure Tryz.prog f [.str v] (.bool (!(g v)))) : Pure Tryz.prog 165 [.vs 1 (l.map srow), .fn f []] (.bool (!(l.all g))) := by
 have e := q195P hf g l hl h
 refine pure_of mo Tryz.func165 c165 (by simp only [flatL, AV.flat, srow_flat, Bool.and_self]) rfl ?_
 unfold e165 r165
 simp(disch:=omega)only[go_sem,simprocAttr]
 refine GoG ?_
 refine D.P (e) ?_
 refine GoG ?_
 first|refine D.R ?_|refine D.E ?_
 exact ⟨_, rfl, .wk (by rw [← posG_all g l 0]; rfl) rfl, trivial, trivial⟩
def pathB (s : Bs) : Bool := decide (s.length ≤ 50) && (splitP s).all isWordB
theorem q111 (s : Bs) : Pure Tryz.prog 111 [.str s] (.bool (pathB s)) := by
 unfold pathB
 refine pure_of mo Tryz.func111 c111 rfl rfl ?_
 unfold e111 r111
 simp(disch:=omega)only[go_sem,simprocAttr]
 by_cases h : s.length ≤ 50
 ·have d : (s.length : Int) ≤ 50 := by omega
  have hl := splitP_len s
  have e := q165P k167 isWordB (splitP s) (by omega) fun v _ => q167 v
  (have z1:=d;refine GoG1 ?_;clear z1)
  refine D.P (p166 s (by omega)) ?_
  refine GoG ?_
  refine D.P (e) ?_
  refine GoG ?_
  first|refine D.R ?_|refine D.E ?_
  refine ⟨_, rfl, .wk ?_ rfl, trivial, trivial⟩
  simp [AV.wk, h]
 ·have d : ¬ (s.length : Int) ≤ 50 := by omega
  (have z1:=d;refine GoG1 ?_;clear z1)
  first|refine D.R ?_|refine D.E ?_
  refine ⟨_, rfl, .wk ?_ rfl, trivial, trivial⟩
  simp [AV.wk, h]
theorem k45 : callable Tryz.prog 45 = true := by kernel_rfl
theorem k49 : callable Tryz.prog 49 = true := by kernel_rfl
theorem k51 : callable Tryz.prog 51 = true := by kernel_rfl
def goodH (h : Ha) : Bool := pathB h.msg && (isWordB h.peer && (decide (h.ps.length ≤ 4) && (h.ps.all isWordB && (h.body.all goodS && h.body.all (fun x => decide (depS x ≤ 10))))))
def goodO (o : Off) : Bool := pathB o.msg && (isWordB o.peer && (decide (o.args.length ≤ 4) && (decide (o.whn.length ≤ 1) && ((o.args ++ o.whn).all goodE && (o.args ++ o.whn).all (fun x => decide (depE x ≤ 10))))))
theorem Sm.mem_le {l : List Sm} {v : Sm} (h : v ∈ l) : v.amt ≤ Sm.amts l := by
 obtain ⟨i, hi⟩ := List.getElem?_of_mem h
 exact Sm.mem_amt hi
theorem Ex.mem_le {l : List Ex} {v : Ex} (h : v ∈ l) : v.amt ≤ Ex.amts l := by
 obtain ⟨i, hi⟩ := List.getElem?_of_mem h
 exact Ex.mem_amt hi
theorem q49 (h : Ha) (hb : Sm.amts h.body ≤ 1000000000) (hp : h.ps.length ≤ 1000000000) : Pure Tryz.prog 49 [.agg h.row] (.bool (goodH h)) := by
 obtain ⟨msg, peer, ps, body⟩ := h
 simp only at hb hp
 have hbl := Sm.len_amt body
 have e1 := q111 msg
 have e2 := p45 peer
 have e3 := q112 k45 isWordB ps (by omega) fun v _ => p45 v
 have e4 := q113 k114 goodS body (by omega) fun v hv => q114 1000000000 v (by have := Sm.mem_le hv; omega) (Nat.le_refl _)
 have e5 := q113 k109 (fun x => decide (depS x ≤ 10)) body (by omega) fun v hv => q109 v (by have := Sm.mem_le hv; omega)
 have zp : ((ps.map srow).length : Int) = (ps.length : Int) := by rw [List.length_map]
 simp only [goodH]
 generalize pathB msg = b1 at *
 generalize isWordB peer = b2 at *
 generalize ps.all isWordB = b3 at *
 generalize body.all goodS = b4 at *
 generalize (body.all fun x => decide (depS x ≤ 10)) = b5 at *
 refine pure_of mo Tryz.func49 c49 (by simp only [flatL, AV.flat, ha_row, srow_flat, Sm.rowsF, Bool.and_self]) rfl ?_
 unfold e49 r49
 simp(disch:=omega)only[go_sem,simprocAttr]
 refine GoG ?_
 refine D.P (e1) ?_
 cases b1
 ·refine GoG ?_
  first|refine D.R ?_|refine D.E ?_
  exact ⟨_, rfl, .wk rfl rfl, trivial, trivial⟩
 refine GoG ?_
 refine D.P (e2) ?_
 cases b2
 ·refine GoG ?_
  first|refine D.R ?_|refine D.E ?_
  exact ⟨_, rfl, .wk rfl rfl, trivial, trivial⟩
 by_cases h4 : ps.length ≤ 4
 rotate_left
 ·have d : ¬ (ps.length : Int) ≤ 4 := by omega
  (have z1:=zp;have z2:=d;refine GoG2 ?_;clear z1 z2)
  first|refine D.R ?_|refine D.E ?_
  refine ⟨_, rfl, .wk ?_ rfl, trivial, trivial⟩
  simp [AV.wk, h4]
 have d : (ps.length : Int) ≤ 4 := by omega
 simp only [decide_eq_true h4, Bool.true_and]
 (have z1:=zp;have z2:=d;refine GoG2 ?_;clear z1 z2)
 refine D.P (e3) ?_
 cases b3
 ·refine GoG ?_
  first|refine D.R ?_|refine D.E ?_
  exact ⟨_, rfl, .wk rfl rfl, trivial, trivial⟩
 refine GoG ?_
 refine D.P (e4) ?_
 cases b4
 ·refine GoG ?_
  first|refine D.R ?_|refine D.E ?_
  exact ⟨_, rfl, .wk rfl rfl, trivial, trivial⟩
 refine GoG ?_
 refine D.P (e5) ?_
 refine GoG ?_
 first|refine D.R ?_|refine D.E ?_
 exact ⟨_, rfl, .wk rfl rfl, trivial, trivial⟩
end
section
set_option maxHeartbeats 4000000
attribute [local go_sem] Ex.row_mk Ex.rowsF Ex.row_flat Sm.row_mk Sm.rowsF Sm.row_flat srow srow_flat ha_row of_row ha_flat of_flat
theorem Ex.amts_app : ∀ a b : List Ex, Ex.amts (a ++ b) = Ex.amts a + Ex.amts b
 | [], b => by simp [Ex.amts]
 | x :: a, b => by simp only [List.cons_append, Ex.amts, Ex.amts_app a b]; omega
theorem q51 (o : Off) (hb : Ex.amts o.args + Ex.amts o.whn ≤ 1000000000) : Pure Tryz.prog 51 [.agg o.row] (.bool (goodO o)) := by
 obtain ⟨msg, peer, as1, wn⟩ := o
 simp only at hb
 have hla := Ex.len_amt as1
 have hlw := Ex.len_amt wn
 have hap := Ex.amts_app as1 wn
 have hl2 := Ex.len_amt (as1 ++ wn)
 have e1 := q111 msg
 have e2 := p45 peer
 have e0 := q119 as1 wn (by omega) (by omega)
 have e4 := q120 k121 goodE (as1 ++ wn) (by omega) fun v hv => q121 1000000000 v (by have := Ex.mem_le hv; omega) (Nat.le_refl _)
 have e5 := q120 k117 (fun x => decide (depE x ≤ 10)) (as1 ++ wn) (by omega) fun v hv => q117 v (by have := Ex.mem_le hv; omega)
 have zp : ((as1.map Ex.row).length : Int) = (as1.length : Int) := by rw [List.length_map]
 have zw : ((wn.map Ex.row).length : Int) = (wn.length : Int) := by rw [List.length_map]
 simp only [goodO]
 generalize pathB msg = b1 at *
 generalize isWordB peer = b2 at *
 generalize (as1 ++ wn).all goodE = b4 at *
 generalize ((as1 ++ wn).all fun x => decide (depE x ≤ 10)) = b5 at *
 generalize as1 ++ wn = cc at *
 clear hap hl2 hb hla hlw
 refine pure_of mo Tryz.func51 c51 (by simp only [flatL, AV.flat, of_row, Ex.rowsF, Bool.and_self]) rfl ?_
 unfold e51 r51
 simp(disch:=omega)only[go_sem,simprocAttr]
 refine GoG ?_
 refine D.P (e0) ?_
 refine GoG ?_
 refine D.P (e1) ?_
 cases b1
 ·refine GoG ?_
  first|refine D.R ?_|refine D.E ?_
  exact ⟨_, rfl, .wk rfl rfl, trivial, trivial⟩
 refine GoG ?_
 refine D.P (e2) ?_
 cases b2
 ·refine GoG ?_
  first|refine D.R ?_|refine D.E ?_
  exact ⟨_, rfl, .wk rfl rfl, trivial, trivial⟩
 by_cases h4 : as1.length ≤ 4
 rotate_left
 ·have d : ¬ (as1.length : Int) ≤ 4 := by omega
  (have z1:=zp;have z2:=d;refine GoG2 ?_;clear z1 z2)
  first|refine D.R ?_|refine D.E ?_
  refine ⟨_, rfl, .wk ?_ rfl, trivial, trivial⟩
  simp [AV.wk, h4]
 have d : (as1.length : Int) ≤ 4 := by omega
 simp only [decide_eq_true h4, Bool.true_and]
 by_cases h1 : wn.length ≤ 1
 rotate_left
 ·have d1 : ¬ (wn.length : Int) ≤ 1 := by omega
  (repeat' first|(apply DJ.s rfl;(· simp(disch:=omega)only[go_sem,simprocAttr,zp, d, zw, d1]<;>with_reducible rfl))|(apply J.s true true;(· simp(disch:=omega)only[go_sem,simprocAttr,zp, d, zw, d1]<;>with_reducible rfl))|apply DJ.nil|(refine J.reg0 ?_)|(apply DJ.gw;(· simp(disch:=omega)only[go_sem,simprocAttr,zp, d, zw, d1]<;>with_reducible rfl))|(apply DJ.gz;(· rfl);(· simp(disch:=omega)only[go_sem,simprocAttr,zp, d, zw, d1]<;>with_reducible rfl))|(apply DJ.gs;(· simp(disch:=omega)only[go_sem,simprocAttr,zp, d, zw, d1]<;>with_reducible rfl))|((first|apply DJ.ixm|apply DJ.ixom|apply DJ.ixsm);(· simp(disch:=omega)only[go_sem,simprocAttr,zp, d, zw, d1]<;>with_reducible rfl);(· simp(disch:=omega)only[go_sem,simprocAttr,zp, d, zw, d1]<;>with_reducible rfl);(· assumption);(· omega))|intro h)
  first|refine D.R ?_|refine D.E ?_
  refine ⟨_, rfl, .wk ?_ rfl, trivial, trivial⟩
  simp [AV.wk, h1]
 have d1 : (wn.length : Int) ≤ 1 := by omega
 simp only [decide_eq_true h1, Bool.true_and]
 (repeat' first|(apply DJ.s rfl;(· simp(disch:=omega)only[go_sem,simprocAttr,zp, d, zw, d1]<;>with_reducible rfl))|(apply J.s true true;(· simp(disch:=omega)only[go_sem,simprocAttr,zp, d, zw, d1]<;>with_reducible rfl))|apply DJ.nil|(refine J.reg0 ?_)|(apply DJ.gw;(· simp(disch:=omega)only[go_sem,simprocAttr,zp, d, zw, d1]<;>with_reducible rfl))|(apply DJ.gz;(· rfl);(· simp(disch:=omega)only[go_sem,simprocAttr,zp, d, zw, d1]<;>with_reducible rfl))|(apply DJ.gs;(· simp(disch:=omega)only[go_sem,simprocAttr,zp, d, zw, d1]<;>with_reducible rfl))|((first|apply DJ.ixm|apply DJ.ixom|apply DJ.ixsm);(· simp(disch:=omega)only[go_sem,simprocAttr,zp, d, zw, d1]<;>with_reducible rfl);(· simp(disch:=omega)only[go_sem,simprocAttr,zp, d, zw, d1]<;>with_reducible rfl);(· assumption);(· omega))|intro h)
 refine D.P (e4) ?_
 cases b4
 ·refine GoG ?_
  first|refine D.R ?_|refine D.E ?_
  exact ⟨_, rfl, .wk rfl rfl, trivial, trivial⟩
 refine GoG ?_
 refine D.P (e5) ?_
 refine GoG ?_
 first|refine D.R ?_|refine D.E ?_
 exact ⟨_, rfl, .wk rfl rfl, trivial, trivial⟩
theorem headE_n {k : Int} {o m t : Bs} {n : Int} {na : Nat} (h : headE k o m t n na = true) : (k = 1 ∧ 0 ≤ n ∧ n ≤ 1000 ∧ na = 0) ∨ (k = 2 ∧ t.length ≤ 40 ∧ na = 0) ∨ (k = 3 ∧ na = 0) ∨ (k = 4 ∧ na = 1) ∨ (k = 5 ∧ na = 1) ∨ (k = 6 ∧ na = 2) := by
 unfold headE at h
 by_cases h1 : k = 1
 ·simp [h1] at h; simp [h1, h.1, h.2.1, h.2.2.1]
 by_cases h2 : k = 2
 ·simp [h2, textB] at h; simp [h2, h.1.1, h.2.1]
 by_cases h3 : k = 3
 ·simp [h3] at h; simp [h3, h.2.1]
 by_cases h4 : k = 4
 ·simp [h4] at h; simp [h4, h.1]
 by_cases h5 : k = 5
 ·simp [h5] at h; simp [h5, h.2.1]
 by_cases h6 : k = 6
 ·simp [h6] at h; simp [h6, h.2.1]
 simp [h1, h2, h3, h4, h5, h6] at h
theorem q127A : ∀ (N : Nat), (∀ x : Ex, x.amt ≤ N → goodE x = true → (showE x).length ≤ 1000000000 → Pure Tryz.prog 127 [.agg x.row] (.str (showE x))) ∧ (∀ (x : Ex) (k : Int), x.amt ≤ N → goodE x = true → (opdB x (showE x) k).length ≤ 1000000000 → Pure Tryz.prog 183 [.agg x.row, .int .i64 k] (.str (opdB x (showE x) k)))
 | 0 => ⟨fun x h => by cases x; simp only [Ex.amt] at h; omega, fun x k h => by cases x; simp only [Ex.amt] at h; omega⟩
 | N + 1 => by
  have key : ∀ x : Ex, x.amt ≤ N + 1 → goodE x = true → (showE x).length ≤ 1000000000 → Pure Tryz.prog 127 [.agg x.row] (.str (showE x)) := by
   rintro ⟨k, o, m, t, n, l⟩ hN hg hs
   simp only [Ex.amt] at hN
   simp only [goodE, Bool.and_eq_true] at hg
   obtain ⟨hh, hgl⟩ := hg
   simp only [showE, showEs_map] at hs ⊢
   have hx2 := hs
   unfold fmtE at hs ⊢
   refine pure_of mo Tryz.func127 c127 (by simp only [flatL, AV.flat, Ex.row_flat, Bool.and_self]) rfl ?_
   unfold e127 r127
   simp(disch:=omega)only[go_sem,simprocAttr]
   rcases headE_n hh with ⟨rfl, h0, h1, h2⟩ | ⟨rfl, h0, h1⟩ | ⟨rfl, h0⟩ | ⟨rfl, h0⟩ | ⟨rfl, h0⟩ | ⟨rfl, h0⟩
   ·refine GoG ?_
    refine D.P (p123 n (by omega) (by omega)) ?_
    refine GoG ?_
    first|refine D.R ?_|refine D.E ?_
    exact ⟨_, rfl, .wk rfl rfl, trivial, trivial⟩
   ·refine GoG ?_
    refine D.P (q180 t (by omega)) ?_
    refine GoG ?_
    first|refine D.R ?_|refine D.E ?_
    exact ⟨_, rfl, .wk rfl rfl, trivial, trivial⟩
   ·refine GoG ?_
    first|refine D.R ?_|refine D.E ?_
    exact ⟨_, rfl, .wk rfl rfl, trivial, trivial⟩
   ·match l, h0 with
    | [x], _ =>
    simp only [goodEs, Bool.and_true] at hgl
    simp only [Ex.amts] at hN
    have hs' : ([108, 101, 110, 40] ++ showE x ++ [41]).length ≤ 1000000000 := hs
    simp only [List.length_append, List.length_cons, List.length_nil] at hs'
    have e := (q127A N).1 x (by omega) hgl (by omega)
    rcases x with ⟨xk, xo, xm, xt, xn, xl⟩
    simp(disch:=omega)only[go_sem,simprocAttr] at e
    refine GoG ?_
    refine D.P (e) ?_
    refine D.cat ?_
    refine D.cat ?_
    refine GoG ?_
    first|refine D.R ?_|refine D.E ?_
    exact ⟨_, rfl, .wk rfl rfl, trivial, trivial⟩
   ·match l, h0 with
    | [x], _ =>
    simp only [goodEs, Bool.and_true] at hgl
    simp only [Ex.amts] at hN
    have hs' : (o ++ opdB x (showE x) 7).length ≤ 1000000000 := hs
    simp only [List.length_append] at hs'
    have e := (q127A N).2 x 7 (by omega) hgl (by omega)
    show J Tryz.prog _ _ _ _ (Rw (.str (o ++ opdB x (showE x) 7)) [] []) _ _
    generalize opdB x (showE x) 7 = sx at e hs' ⊢
    clear hs hx2
    rcases x with ⟨xk, xo, xm, xt, xn, xl⟩
    simp(disch:=omega)only[go_sem,simprocAttr] at e
    iterate 7 refine GoK ?_
    repeat refine D.JJ true true ?_
    refine J.reg (anns := [.str sx]) ?_
    refine GoD ?_
    refine D.PC (e) ?_
    refine D.cat ?_ (hb:=by simp only [maxLen]; omega)
    refine GoG ?_
    first|refine D.R ?_|refine D.E ?_
    exact ⟨_, rfl, .wk rfl rfl, trivial, trivial⟩
   ·match l, h0 with
    | [x, y], _ =>
    simp only [goodEs, Bool.and_true, Bool.and_eq_true] at hgl
    simp only [Ex.amts] at hN
    have hs' : (opdB x (showE x) (precP o) ++ [32] ++ o ++ [32] ++ opdB y (showE y) (precP o + 1)).length ≤ 1000000000 := hs
    simp only [List.length_append, List.length_cons, List.length_nil] at hs'
    have e := (q127A N).2 x (precP o) (by omega) hgl.1 (by omega)
    have e2 := (q127A N).2 y (precP o + 1) (by omega) hgl.2 (by omega)
    show J Tryz.prog _ _ _ _ (Rw (.str (opdB x (showE x) (precP o) ++ [32] ++ o ++ [32] ++ opdB y (showE y) (precP o + 1))) [] []) _ _
    generalize opdB x (showE x) (precP o) = sx at e hs' ⊢
    generalize opdB y (showE y) (precP o + 1) = sy at e2 hs' ⊢
    have hp := precP_le o
    have eo := q175 o
    generalize precP o = pr at *
    clear hs hx2
    rcases x with ⟨xk, xo, xm, xt, xn, xl⟩
    rcases y with ⟨yk, yo, ym, yt, yn, yl⟩
    simp(disch:=omega)only[go_sem,simprocAttr] at e
    simp(disch:=omega)only[go_sem,simprocAttr] at e2
    iterate 7 refine GoK ?_
    repeat refine D.JJ true true ?_
    refine J.reg0 ?_
    refine GoD ?_
    refine D.P (eo) ?_
    refine GoD ?_
    repeat refine D.JJ true true ?_
    refine J.reg (anns := [.str sx, .str sy]) ?_
    refine GoD ?_
    refine D.PC (e) ?_
    refine D.cat ?_
    refine GoD ?_
    refine D.cat ?_
    refine D.cat ?_
    refine GoD ?_
    refine D.PC (e2) ?_
    refine D.cat ?_
    refine GoG ?_
    first|refine D.R ?_|refine D.E ?_
    exact ⟨_, rfl, .wk rfl rfl, trivial, trivial⟩
  refine ⟨key, fun x k hN hg hs => ?_⟩
  have eo := q175 x.op
  by_cases h6 : x.kind = 6
  ·by_cases hk : precP x.op < k
   ·have hop : opdB x (showE x) k = [40] ++ showE x ++ [41] := if_pos ⟨h6, hk⟩
    rw [hop] at hs ⊢
    simp only [List.length_append, List.length_cons, List.length_nil] at hs
    have e := key x hN hg (by omega)
    generalize showE x = sx at *
    rcases x with ⟨xk, xo, xm, xt, xn, xl⟩
    simp only [Ex.kind, Ex.op] at h6 hk eo
    subst h6
    simp(disch:=omega)only[go_sem,simprocAttr] at e
    refine pure_of mo Tryz.func183 c183 (by simp only [flatL, AV.flat, Ex.row_flat, Bool.and_self]) rfl ?_
    unfold e183 r183
    simp(disch:=omega)only[go_sem,simprocAttr]
    refine GoG ?_
    refine D.P (eo) ?_
    (have z1:=hk;refine GoG1 ?_;clear z1)
    refine D.P (e) ?_
    refine D.cat ?_
    refine D.cat ?_
    refine GoG ?_
    first|refine D.R ?_|refine D.E ?_
    exact ⟨_, rfl, .wk rfl rfl, trivial, trivial⟩
   ·have hop : opdB x (showE x) k = showE x := if_neg fun h => hk h.2
    rw [hop] at hs ⊢
    have e := key x hN hg (by omega)
    generalize showE x = sx at *
    rcases x with ⟨xk, xo, xm, xt, xn, xl⟩
    simp only [Ex.kind, Ex.op] at h6 hk eo
    subst h6
    simp(disch:=omega)only[go_sem,simprocAttr] at e
    refine pure_of mo Tryz.func183 c183 (by simp only [flatL, AV.flat, Ex.row_flat, Bool.and_self]) rfl ?_
    unfold e183 r183
    simp(disch:=omega)only[go_sem,simprocAttr]
    refine GoG ?_
    refine D.P (eo) ?_
    (have z1:=hk;refine GoG1 ?_;clear z1)
    refine D.P (e) ?_
    refine GoG ?_
    first|refine D.R ?_|refine D.E ?_
    exact ⟨_, rfl, .wk rfl rfl, trivial, trivial⟩
  ·have hop : opdB x (showE x) k = showE x := if_neg fun h => h6 h.1
   rw [hop] at hs ⊢
   have e := key x hN hg (by omega)
   generalize showE x = sx at *
   rcases x with ⟨xk, xo, xm, xt, xn, xl⟩
   simp only [Ex.kind] at h6
   simp(disch:=omega)only[go_sem,simprocAttr] at e
   refine pure_of mo Tryz.func183 c183 (by simp only [flatL, AV.flat, Ex.row_flat, Bool.and_self]) rfl ?_
   unfold e183 r183
   simp(disch:=omega)only[go_sem,simprocAttr]
   (have z1:=h6;refine GoG1 ?_;clear z1)
   refine D.P (e) ?_
   refine GoG ?_
   first|refine D.R ?_|refine D.E ?_
   exact ⟨_, rfl, .wk rfl rfl, trivial, trivial⟩
end
section
set_option maxHeartbeats 4000000
attribute [local go_sem] byR by_flat Ex.row_mk Ex.rowsF Ex.row_flat Sm.row_mk Sm.rowsF Sm.row_flat srow srow_flat
theorem q124 (k n : Int) (s : Bs) (hn : k ≠ 2 → -1000000000 ≤ n ∧ n ≤ 1000000000) (hs : s.length ≤ 100000000) : Pure Tryz.prog 124 [.agg [.int .i64 k, .int .i64 n, .str s]] (.str (initB k n s)) := by
 refine pure_of mo Tryz.func124 c124 rfl rfl ?_
 unfold e124 r124
 unfold initB
 simp(disch:=omega)only[go_sem,simprocAttr]
 by_cases h : k = 2
 ·rw [if_pos h]
  (have z1:=h;refine GoG1 ?_;clear z1)
  refine D.P (q180 s hs) ?_
  refine GoG ?_
  first|refine D.R ?_|refine D.E ?_
  exact ⟨_, rfl, .wk rfl rfl, trivial, trivial⟩
 ·rw [if_neg h]
  (have z1:=h;refine GoG1 ?_;clear z1)
  refine D.P (p123 n (hn h).1 (hn h).2) ?_
  refine GoG ?_
  first|refine D.R ?_|refine D.E ?_
  exact ⟨_, rfl, .wk rfl rfl, trivial, trivial⟩
theorem join_len {xs : List Bs} {sep s : Bs} (h : s ∈ xs) : s.length ≤ (Lib.join xs sep).length := by
 unfold Lib.join
 induction xs with
 | nil => cases h
 | cons x l ih =>
  cases l with
  | nil => simp at h; subst h; simp
  | cons y l =>
   rw [List.intercalate_cons_cons]
   rcases List.mem_cons.1 h with rfl | h
   ·simp only [List.length_append]; omega
   ·have := ih h
    simp only [List.length_append]; omega
theorem q128 (l : List Ex) (ha : Ex.amts l ≤ 1000000) (hg : l.all goodE = true) (hs : (Lib.join (l.map showE) [44, 32]).length ≤ 1000000000) : Pure Tryz.prog 128 [.vs 6 (l.map Ex.row)] (.str (Lib.join (l.map showE) [44, 32])) := by
 have hll := Ex.len_amt l
 have ej := p125 (l.map showE) [44, 32] (by rw [List.length_map]; omega) hs
 refine pure_of mo Tryz.func128 c128 (by simp only [flatL, AV.flat, Ex.rowsF, Bool.and_self]) rfl ?_
 unfold e128 r128
 simp(disch:=omega)only[go_sem,simprocAttr]
 iterate 2 refine GoK ?_
 refine J.ghE 3 1 9 rfl (by decide) ?_
 simp(disch:=omega)only[go_sem,simprocAttr]
 refine GoG ?_
 refine J.loopX (X := Nat) 0 (fun i => [(6, .vs 6 (l.map Ex.row)), (7, .int .i64 ((l.map Ex.row).length : Int)), (8, .int .i64 (i : Int)), (3, .own 0 1 (((l.take i).map showE).map srow))]) (fun _ => []) (fun i => [(0, .frz 9 1 (((l.take i).map showE).map srow).length)]) (fun i => i ≤ l.length) (fun i => l.length - i) (Nat.zero_le _) ⟨rfl, rfl, rfl, rfl, trivial⟩ trivial ⟨rfl, trivial⟩ ?_
 intro i hi
 try simp only at hi ⊢
 cases hv : l[i]? with
 | some v =>
  have hlt := (List.getElem?_eq_some_iff.1 hv).1
  have hmem := List.mem_of_getElem? hv
  have hsn : ((l.take (i + 1)).map showE).map srow = ((l.take i).map showE).map srow ++ [srow (showE v)] := by
   rw [List.take_add_one, hv]; simp
  have hlen : (((l.take i).map showE).map srow).length = i := by simp; omega
  have d1 : (i : Int) < ((l.map Ex.row).length : Int) := by rw [List.length_map]; omega
  have e := (q127A 1000000).1 v (by have := Ex.mem_le hmem; omega) (by simpa using List.all_eq_true.1 hg v hmem) (Nat.le_trans (join_len (List.mem_map_of_mem hmem)) hs)
  obtain ⟨sv, hsv⟩ : ∃ sv, sv = showE v := ⟨_, rfl⟩
  rw [← hsv] at e hsn
  generalize ((l.take i).map showE).map srow = rows at hsn hlen ⊢
  rcases v with ⟨xk, xo, xm, xt, xn, xl⟩
  simp(disch:=omega)only[go_sem,simprocAttr] at e
  (have z1:=d1;refine GoG1 ?_;clear z1)
  refine D.P (e) ?_
  refine GoG ?_
  refine D.ap ?_
  refine GoG ?_
  refine J.roundC (i + 1) (by omega) ⟨rfl, rfl, by simp only [Int.natCast_add]; rfl, by simp only [hsn]; rfl, trivial⟩ trivial ⟨by simp only [hsn, List.length_append]; rfl, trivial⟩ rfl (by simp only [bdE, bdL, bdB, bdT, bdO, AV.bd, Own.frz, srow_flat, go_sem] <;> rfl) (by show l.length - (i + 1) < l.length - i; omega)
 | none =>
  have hge := List.getElem?_eq_none_iff.1 hv
  have e0 : i = l.length := by omega
  subst e0
  have d1 : ¬ (l.length : Int) < ((l.map Ex.row).length : Int) := by rw [List.length_map]; omega
  rw [List.take_length]
  (have z1:=d1;refine GoG1 ?_;clear z1)
  refine D.P (ej) ?_
  refine GoG ?_
  first|refine D.R ?_|refine D.E ?_
  exact ⟨_, rfl, .wk rfl rfl, trivial, trivial⟩
end
section
set_option maxHeartbeats 4000000
attribute [local go_sem] byR by_flat Ex.row_mk Ex.rowsF Ex.row_flat Sm.row_mk Sm.rowsF Sm.row_flat srow srow_flat
theorem bt182 (d : Nat) : BT 182 [.int .i64 (d : Int)] := .inr ⟨rfl, _, rfl⟩
theorem flat_take {ps : List Bs} {i : Nat} {v : Bs} (h : ps[i]? = some v) : (ps.take (i + 1)).flatten = (ps.take i).flatten ++ v := by
 rw [List.take_add_one, h]; simp
theorem flat_le (ps : List Bs) (i : Nat) : (ps.take i).flatten.length ≤ ps.flatten.length := by
 conv => rhs; rw [← List.take_append_drop i ps]
 rw [List.flatten_append, List.length_append]
 omega
theorem q122 (d : Nat) (hd : d ≤ 1000000) {A : AV} (hA : AT A) (out : Bs) (ps : List Bs) (hn : ps.length ≤ 1000) (hl : out.length + (lineB d ps).length ≤ 1000000000) : FC Tryz.prog 122 [.ptr 0 0, .vs 1 (ps.map srow)] (bw 182 A out [.int .i64 (d : Int)]) (Ro (.tup []) (bb 182 (.ptr 0 0) (out ++ lineB d ps) [.int .i64 (d : Int)]) (bt (out ++ lineB d ps))) := by
 have hl2 : out.length + (d + ps.flatten.length + 1) ≤ 1000000000 := by
  simp only [lineB, List.length_append, List.length_replicate, List.length_cons, List.length_nil] at hl
  omega
 have e0 := q176 (bt182 d) hA out (List.replicate d 9) (by rw [List.length_replicate]; omega)
 have ep := p177 d hd
 have hrl : (List.replicate d (9 : UInt8)).length = d := List.length_replicate
 unfold lineB
 generalize List.replicate d (9 : UInt8) = tb at *
 rcases hA with rfl | rfl
 all_goals
  have hq := hl2
  refine FC.intro mo Tryz.func122 c122 ?_
  unfold e122 r122
  simp(disch:=omega)only[go_sem,simprocAttr]
  repeat refine D.JJ true true ?_
  refine J.reg (anns := [.str tb]) ?_
  refine GoD ?_
  refine D.PC (ep) ?_
  refine GoD ?_
  refine D.F ⟨[0],[0]⟩ (e0) ?_
  refine GoG ?_
  refine J.loopX (X := Nat) 0 (fun i => [(0, .ptr 0 0), (15, .vs 1 (ps.map srow)), (16, .int .i64 ((ps.map srow).length : Int)), (17, .int .i64 (i : Int))]) (fun i => [(0, 182, [.ptr 0 0, .own 0 1 ((out ++ tb ++ (ps.take i).flatten).map byR), .int .i64 (d : Int)])]) (fun i => [(0, .frz 5 1 ((out ++ tb ++ (ps.take i).flatten).map byR).length)]) (fun i => i ≤ ps.length) (fun i => ps.length - i) (Nat.zero_le _) ⟨rfl, rfl, rfl, rfl, trivial⟩ ⟨by simp only [List.take_zero, List.flatten_nil, List.append_nil]; rfl, trivial⟩ ⟨by simp only [List.take_zero, List.flatten_nil, List.append_nil]; rfl, trivial⟩ ?_
  intro i hi
  try simp only at hi ⊢
  have hfl := flat_le ps i
  cases hv : ps[i]? with
  | some v =>
   have hlt := (List.getElem?_eq_some_iff.1 hv).1
   have hsn := flat_take hv
   have hfl2 := flat_le ps (i + 1)
   rw [hsn, List.length_append] at hfl2
   have d1 : (i : Int) < ((ps.map srow).length : Int) := by rw [List.length_map]; omega
   have hY : (out ++ tb ++ (ps.take i).flatten).length + v.length ≤ 1000000000 := by simp only [List.length_append]; omega
   have hsn2 : out ++ tb ++ (ps.take (i + 1)).flatten = (out ++ tb ++ (ps.take i).flatten) ++ v := by rw [hsn, List.append_assoc, List.append_assoc, List.append_assoc]
   generalize out ++ tb ++ (ps.take i).flatten = Y at hY hsn2 ⊢
   (have z1:=d1;refine GoG1 ?_;clear z1)
   refine D.F ⟨[0],[0]⟩ (q176 (bt182 d) (.inr rfl) Y v hY) ?_
   refine GoG ?_
   refine J.roundX (i + 1) (by omega) ⟨rfl, rfl, rfl, by simp only [Int.natCast_add]; rfl, trivial⟩ (by simp only [hsn2]; exact ⟨rfl, trivial⟩) (by simp only [hsn2]; exact ⟨rfl, trivial⟩) rfl rfl (by show ps.length - (i + 1) < ps.length - i; omega)
  | none =>
   have hge := List.getElem?_eq_none_iff.1 hv
   have e0 : i = ps.length := by omega
   subst e0
   have d1 : ¬ (ps.length : Int) < ((ps.map srow).length : Int) := by rw [List.length_map]; omega
   rw [List.take_length]
   have hY : (out ++ tb ++ ps.flatten).length + 1 ≤ 1000000000 := by simp only [List.length_append]; omega
   rw [show out ++ (tb ++ ps.flatten ++ [10]) = (out ++ tb ++ ps.flatten) ++ [10] by simp only [List.append_assoc]]
   generalize out ++ tb ++ ps.flatten = Y at hY ⊢
   (have z1:=d1;refine GoG1 ?_;clear z1)
   refine D.F ⟨[0],[0]⟩ (q178 (bt182 d) (.inr rfl) Y 10 10 rfl hY) ?_
   refine GoG ?_
   first|refine D.R ?_|refine D.E ?_
   exact ⟨rfl, ⟨rfl, trivial⟩, rfl, trivial⟩
end
section
set_option maxHeartbeats 8000000
attribute [local go_sem] byR by_flat Ex.row_mk Ex.rowsF Ex.row_flat Sm.row_mk Sm.rowsF Sm.row_flat srow srow_flat
abbrev pb (out : Bs) (d : Nat) : BL := bb 182 (.ptr 0 0) out [.int .i64 (d : Int)]
theorem prs_take (d : Nat) {l : List Sm} {i : Nat} {v : Sm} (h : l[i]? = some v) : Sm.prs d (l.take (i + 1)) = Sm.prs d (l.take i) ++ Sm.pr d [105, 102, 32] v := by
 have app : ∀ a b : List Sm, Sm.prs d (a ++ b) = Sm.prs d a ++ Sm.prs d b := by
  intro a
  induction a with
  | nil => intro b; rfl
  | cons x a ih => intro b; simp only [List.cons_append, Sm.prs, ih b, List.append_assoc]
 rw [List.take_add_one, h, app]
 simp only [Option.toList_some, Sm.prs, List.append_nil]
theorem prs_le (d : Nat) (l : List Sm) (i : Nat) : (Sm.prs d (l.take i)).length ≤ (Sm.prs d l).length := by
 induction l generalizing i with
 | nil => simp
 | cons x l ih =>
  cases i with
  | zero => simp [Sm.prs]
  | succ i =>
   simp only [List.take_succ_cons, Sm.prs, List.length_append]
   have := ih i
   omega
theorem prs_le2 (d : Nat) {l : List Sm} {i : Nat} {v : Sm} (h : l[i]? = some v) : (Sm.prs d (l.take i)).length + (Sm.pr d [105, 102, 32] v).length ≤ (Sm.prs d l).length := by
 have := prs_le d l (i + 1)
 rw [prs_take d h, List.length_append] at this
 exact this
def PS (N : Nat) : Prop := ∀ (x : Sm) (d : Nat) (out : Bs), x.amt ≤ N → goodS x = true → d + x.amt ≤ 1000000 → out.length + (Sm.pr d [105, 102, 32] x).length ≤ 1000000000 → FC Tryz.prog 182 [.ptr 0 0, .agg x.row] (bw 182 (.ptr 0 0) out [.int .i64 (d : Int)]) (Ro (.tup []) (pb (out ++ Sm.pr d [105, 102, 32] x) d) (bt (out ++ Sm.pr d [105, 102, 32] x)))
def PB (N : Nat) : Prop := ∀ (l : List Sm) (d : Nat) (out : Bs), Sm.amts l ≤ N → goodSs l = true → d + 1 + Sm.amts l ≤ 1000000 → out.length + (Sm.prs (d + 1) l).length ≤ 1000000000 → FC Tryz.prog 126 [.ptr 0 0, .vs 11 (l.map Sm.row)] (bw 182 (.ptr 0 0) out [.int .i64 (d : Int)]) (Ro (.tup []) (pb (out ++ Sm.prs (d + 1) l) d) (bt (out ++ Sm.prs (d + 1) l)))
theorem pb_of {N : Nat} (hS : PS N) : PB N := by
 intro l d out hN hg hd hl
 have hll := Sm.len_amt l
 rw [goodSs_all] at hg
 refine FC.intro mo Tryz.func126 c126 ?_
 unfold e126 r126
 simp(disch:=omega)only[go_sem,simprocAttr]
 refine GoG ?_
 refine J.loopX (X := Nat) 0 (fun i => [(0, .ptr 0 0), (13, .vs 11 (l.map Sm.row)), (14, .int .i64 ((l.map Sm.row).length : Int)), (15, .int .i64 (i : Int))]) (fun i => pb (out ++ Sm.prs (d + 1) (l.take i)) (d + 1)) (fun i => bt (out ++ Sm.prs (d + 1) (l.take i))) (fun i => i ≤ l.length) (fun i => l.length - i) (Nat.zero_le _) ⟨rfl, rfl, rfl, rfl, trivial⟩ ⟨by simp only [List.take_zero, Sm.prs, List.append_nil, Int.natCast_add]; rfl, trivial⟩ ⟨by simp only [List.take_zero, Sm.prs, List.append_nil]; rfl, trivial⟩ ?_
 intro i hi
 try simp only at hi ⊢
 have hfl := prs_le (d + 1) l i
 cases hv : l[i]? with
 | some v =>
  have hlt := (List.getElem?_eq_some_iff.1 hv).1
  have hmem := List.mem_of_getElem? hv
  have hvm := Sm.mem_le hmem
  have hgv : goodS v = true := by simpa using List.all_eq_true.1 hg v hmem
  have hfl2 := prs_le2 (d + 1) hv
  have hsn2 : out ++ Sm.prs (d + 1) (l.take (i + 1)) = (out ++ Sm.prs (d + 1) (l.take i)) ++ Sm.pr (d + 1) [105, 102, 32] v := by rw [prs_take _ hv, List.append_assoc]
  have d1 : (i : Int) < ((l.map Sm.row).length : Int) := by rw [List.length_map]; omega
  have hY : (out ++ Sm.prs (d + 1) (l.take i)).length + (Sm.pr (d + 1) [105, 102, 32] v).length ≤ 1000000000 := by simp only [List.length_append]; omega
  generalize out ++ Sm.prs (d + 1) (l.take i) = Y at hY hsn2 ⊢
  have e := hS v (d + 1) Y (by omega) hgv (by omega) hY
  generalize Sm.pr (d + 1) [105, 102, 32] v = pv at e hsn2
  rcases v with ⟨k', nm', ⟨xk', xo', xm', xt', xn', xl'⟩, tm', sa', sb'⟩
  simp(disch:=omega)only[go_sem,simprocAttr] at e
  (have z1:=d1;refine GoG1 ?_;clear z1)
  refine D.F ⟨[0],[0]⟩ (e) ?_
  refine GoG ?_
  refine J.roundC (i + 1) (by omega) ⟨rfl, rfl, rfl, by simp only [Int.natCast_add]; rfl, trivial⟩ (by simp only [hsn2, pb, bb, Int.natCast_add]; exact ⟨rfl, trivial⟩) (by simp only [hsn2]; exact ⟨rfl, trivial⟩) rfl (by simp only [bdE, bdL, bdB, bdT, bdO, AV.bd, Own.frz, pb, bb, by_flat, Sm.rowsF, go_sem] <;> rfl) (by show l.length - (i + 1) < l.length - i; omega)
 | none =>
  have hge := List.getElem?_eq_none_iff.1 hv
  have e0 : i = l.length := by omega
  subst e0
  have d1 : ¬ (l.length : Int) < ((l.map Sm.row).length : Int) := by rw [List.length_map]; omega
  rw [List.take_length]
  (have z1:=d1;refine GoG1 ?_;clear z1)
  first|refine D.R ?_|refine D.E ?_
  refine ⟨rfl, ⟨?_, trivial⟩, rfl, trivial⟩
  simp only [pb, bb]
  rw [show ((d + 1 : Nat) : Int) - 1 = (d : Int) by omega]
  rfl
theorem headS_n {k : Int} {m : Bs} {t : Int} {na nb : Nat} (h : headS k m t na nb = true) : (k = 1 ∧ t = 0 ∧ na = 0 ∧ nb = 0) ∨ (k = 2 ∧ m = [] ∧ t = 0) ∨ (k = 3 ∧ m = [] ∧ 1 ≤ t ∧ t ≤ 50 ∧ nb = 0) := by
 unfold headS at h
 by_cases h1 : k = 1
 ·simp [h1] at h; simp [h1, h.2.1, h.2.2.1, h.2.2.2]
 by_cases h2 : k = 2
 ·simp [h2] at h; simp [h2, h.1, h.2]
 by_cases h3 : k = 3
 ·simp [h3] at h; simp [h3, h.1, h.2.1, h.2.2.1, h.2.2.2]
 simp [h1, h2, h3] at h
theorem show_le {d : Nat} {s : Bs} {ps : List Bs} (h : s ∈ ps) : s.length ≤ (lineB d ps).length := by
 have : ∀ (l : List Bs), s ∈ l → s.length ≤ l.flatten.length := by
  intro l
  induction l with
  | nil => intro h; cases h
  | cons x l ih =>
   intro h
   rw [List.flatten_cons, List.length_append]
   rcases List.mem_cons.1 h with rfl | h
   ·omega
   ·have := ih h; omega
 have := this ps h
 simp only [lineB, List.length_append]
 omega
theorem ps_of {N : Nat} (hB : PB N) : PS (N + 1) := by
 rintro ⟨k, nm, x, t, sa, sb⟩ d out hN hg hd hl
 simp only [Sm.amt] at hN hd
 simp only [goodS, Bool.and_eq_true] at hg
 obtain ⟨hh, hgx, hga, hgb⟩ := hg
 have hax : x.amt ≤ 1000000 := by omega
 rcases headS_n hh with ⟨rfl, rfl, h2, h3⟩ | ⟨rfl, rfl, rfl⟩ | ⟨rfl, rfl, h1, h2, h3⟩
 ·have e0 : Sm.pr d [105, 102, 32] (.mk 1 nm x 0 sa sb) = lineB d [nm, [32, 61, 32], showE x, [59]] := by simp only [Sm.pr, if_true]
  rw [e0] at hl ⊢
  have hs : (showE x).length ≤ 1000000000 := by have := show_le (d := d) (s := showE x) (ps := [nm, [32, 61, 32], showE x, [59]]) (by simp); omega
  have e := (q127A 1000000).1 x hax hgx hs
  have el := q122 d (by omega) (.inr rfl) out [nm, [32, 61, 32], showE x, [59]] (by simp) hl
  generalize lineB d [nm, [32, 61, 32], showE x, [59]] = L at *
  generalize showE x = sx at *
  rcases x with ⟨xk, xo, xm, xt, xn, xl⟩
  simp(disch:=omega)only[go_sem,simprocAttr] at e
  refine FC.intro mo Tryz.func182 c182 ?_
  unfold e182 r182
  simp(disch:=omega)only[go_sem,simprocAttr]
  iterate 3 refine GoK ?_
  repeat refine D.JJ true true ?_
  refine J.reg (anns := [.str sx]) ?_
  refine GoD ?_
  refine D.PC (e) ?_
  refine GoD ?_
  refine D.F ⟨[0],[0]⟩ (el) ?_
  refine GoG ?_
  first|refine D.R ?_|refine D.E ?_
  exact ⟨rfl, ⟨rfl, trivial⟩, rfl, trivial⟩
 ·have hF : ∃ F, F = out ++ Sm.pr d [105, 102, 32] (.mk 2 [] x 0 sa sb) := ⟨_, rfl⟩
  obtain ⟨F, hF⟩ := hF
  have hFl : F.length ≤ 1000000000 := by rw [hF, List.length_append]; omega
  rw [← hF]
  rcases x with ⟨xk, xo, xm, xt, xn, xl⟩
  refine FC.intro mo Tryz.func182 c182 ?_
  unfold e182 r182
  simp(disch:=omega)only[go_sem,simprocAttr]
  iterate 4 refine GoK ?_
  refine GoG ?_
  refine J.loopX (X := Bs × Ex × List Sm × List Sm × Bs) ([105, 102, 32], .mk xk xo xm xt xn xl, sa, sb, out) (fun y => [(0, .ptr 0 0), (3, .ptr 1 0), (4, .str y.1)]) (fun y => [(0, 182, [.ptr 0 0, .own 0 1 (y.2.2.2.2.map byR), .int .i64 (d : Int)]), (1, 133, (Sm.mk 2 [] y.2.1 0 y.2.2.1 y.2.2.2.1).row)]) (fun y => [(0, .frz 5 1 (y.2.2.2.2.map byR).length)]) (fun y => goodE y.2.1 = true ∧ goodSs y.2.2.1 = true ∧ goodSs y.2.2.2.1 = true ∧ y.2.1.amt + Sm.amts y.2.2.1 + Sm.amts y.2.2.2.1 ≤ N ∧ d + (1 + y.2.1.amt + Sm.amts y.2.2.1 + Sm.amts y.2.2.2.1) ≤ 1000000 ∧ F = y.2.2.2.2 ++ Sm.pr d y.1 (.mk 2 [] y.2.1 0 y.2.2.1 y.2.2.2.1)) (fun y => Sm.amts y.2.2.2.1) ⟨hgx, hga, hgb, by simp only; omega, by simp only; omega, hF⟩ ⟨rfl, rfl, rfl, trivial⟩ ⟨rfl, by simp only [Sm.row_mk, Ex.row_mk]; rfl, trivial⟩ ⟨rfl, trivial⟩ ?_
  rintro ⟨hd', x, a, b, O⟩ ⟨hgx, hga, hgb, hN, hd, hF⟩
  simp only at hgx hga hgb hN hd hF ⊢
  have hO := congrArg List.length hF
  simp only [Sm.pr, show ¬ (2 : Int) = 1 by decide, show ¬ (2 : Int) = 3 by decide, if_false] at hF
  obtain ⟨L, hL⟩ : ∃ L, L = lineB d [hd', showE x, [32, 123]] := ⟨_, rfl⟩
  obtain ⟨BA, hBA⟩ : ∃ BA, BA = Sm.prs (d + 1) a := ⟨_, rfl⟩
  obtain ⟨T, hT⟩ : ∃ T, T = (if isElif b = true then Sm.elif d b else (if b.isEmpty = true then [] else lineB d [[125, 32, 101, 108, 115, 101, 32, 123]] ++ Sm.prs (d + 1) b) ++ lineB d [[125]]) := ⟨_, rfl⟩
  rw [← hL, ← hBA, ← hT] at hF
  have hFl2 : O.length + L.length + BA.length + T.length = F.length := by rw [hF]; simp only [List.length_append]; omega
  have hs : (showE x).length ≤ 1000000000 := by have := show_le (d := d) (s := showE x) (ps := [hd', showE x, [32, 123]]) (by simp); rw [← hL] at this; omega
  have e := (q127A 1000000).1 x (by omega) hgx hs
  have el := q122 d (by omega) (.inr rfl) O [hd', showE x, [32, 123]] (by simp) (by rw [← hL]; omega)
  rw [← hL] at el
  have eb := hB a d (O ++ L) (by omega) hga (by omega) (by rw [← hBA, List.length_append]; omega)
  rw [← hBA] at eb
  clear hL hBA hO
  generalize showE x = sx at *
  rcases x with ⟨xk, xo, xm, xt, xn, xl⟩
  simp only [Sm.row_mk, Ex.row_mk]
  simp(disch:=omega)only[go_sem,simprocAttr] at e
  refine GoG ?_
  refine D.P (e) ?_
  refine GoG ?_
  refine D.F ⟨[0],[0]⟩ (el) ?_
  refine GoG ?_
  refine D.F ⟨[0],[0]⟩ (eb) ?_
  have hF2 : F = (O ++ L ++ BA) ++ T := by rw [hF]; simp only [List.append_assoc]
  have hOl : (O ++ L ++ BA).length + T.length ≤ 1000000000 := by simp only [List.length_append]; omega
  generalize O ++ L ++ BA = Y at hF2 hOl ⊢
  clear hF hFl2 el eb e
  by_cases hb0 : b = []
  ·subst hb0
   simp only [isElif, List.isEmpty_nil, Bool.false_eq_true, if_false, if_true, List.nil_append] at hT
   have ee := q122 d (by omega) (.inr rfl) Y [[125]] (by simp) (by rw [← hT]; exact hOl)
   rw [← hT, ← hF2] at ee
   refine GoG ?_
   refine D.F ⟨[0],[0]⟩ (ee) ?_
   refine GoG ?_
   first|refine D.R ?_|refine D.E ?_
   exact ⟨rfl, ⟨rfl, trivial⟩, rfl, trivial⟩
  cases hel : isElif b with
  | true =>
   rw [hel, if_pos rfl] at hT
   match b, hel, hgb, hN, hd, hT with
   | [.mk yk yn yx yt ya yb], hel, hgb, hN, hd, hT =>
   have hel : yk = 2 := of_decide_eq_true hel
   subst hel
   simp only [goodSs, goodS, Bool.and_true, Bool.and_eq_true] at hgb
   obtain ⟨hyh, hyx, hya, hyb⟩ := hgb
   rcases headS_n hyh with ⟨h, _⟩ | ⟨_, rfl, rfl⟩ | ⟨h, _⟩
   ·cases h
   rotate_left
   ·cases h
   simp only [Sm.amts, Sm.amt] at hN hd
   simp only [Sm.elif] at hT
   rw [hT] at hF2
   have hyl : Sm.amts yb < Sm.amts [Sm.mk 2 [] yx 0 ya yb] := by simp only [Sm.amts, Sm.amt]; omega
   rcases yx with ⟨yxk, yxo, yxm, yxt, yxn, yxl⟩
   refine GoG ?_
   refine J.roundX ([125, 32, 101, 108, 115, 101, 32, 105, 102, 32], .mk yxk yxo yxm yxt yxn yxl, ya, yb, Y) ⟨hyx, hya, hyb, by simp only; omega, by simp only; omega, hF2⟩ ⟨rfl, rfl, rfl, trivial⟩ ⟨rfl, by simp only [Sm.row_mk, Ex.row_mk]; rfl, trivial⟩ ⟨rfl, trivial⟩ rfl rfl hyl
  | false =>
   have hem : b.isEmpty = false := by cases b with | nil => exact absurd rfl hb0 | cons _ _ => rfl
   rw [hel, hem] at hT
   simp only [Bool.false_eq_true, if_false] at hT
   obtain ⟨L1, hL1⟩ : ∃ L1, L1 = lineB d [[125, 32, 101, 108, 115, 101, 32, 123]] := ⟨_, rfl⟩
   obtain ⟨BB, hBB⟩ : ∃ BB, BB = Sm.prs (d + 1) b := ⟨_, rfl⟩
   obtain ⟨E, hE⟩ : ∃ E, E = lineB d [[125]] := ⟨_, rfl⟩
   rw [← hL1, ← hBB, ← hE] at hT
   have hTl := congrArg List.length hT
   simp only [List.length_append] at hTl
   have e1 := q122 d (by omega) (.inr rfl) Y [[125, 32, 101, 108, 115, 101, 32, 123]] (by simp) (by rw [← hL1]; omega)
   rw [← hL1] at e1
   have e2 := hB b d (Y ++ L1) (by omega) hgb (by omega) (by rw [← hBB, List.length_append]; omega)
   rw [← hBB] at e2
   have e3 := q122 d (by omega) (.inr rfl) (Y ++ L1 ++ BB) [[125]] (by simp) (by rw [← hE]; simp only [List.length_append]; omega)
   rw [← hE] at e3
   have hF3 : F = Y ++ L1 ++ BB ++ E := by rw [hF2, hT]; simp only [List.append_assoc]
   clear hT hL1 hBB hE hF2 hTl
   by_cases hlen : b.length = 1
   focus
    match b, hlen, hel with
    | [.mk yk yn ⟨yxk, yxo, yxm, yxt, yxn, yxl⟩ yt ya yb], _, hel =>
    have hel : ¬ yk = 2 := of_decide_eq_false hel
    simp(disch:=omega)only[go_sem,simprocAttr] at e2
    (have z1:=hel;refine GoG1 ?_;clear z1)
    refine D.F ⟨[0],[0]⟩ (e1) ?_
    refine GoG ?_
    refine D.F ⟨[0],[0]⟩ (e2) ?_
    refine GoG ?_
    refine D.F ⟨[0],[0]⟩ (e3) ?_
    refine GoG ?_
    first|refine D.R ?_|refine D.E ?_
    rw [hF3]
    exact ⟨rfl, ⟨rfl, trivial⟩, rfl, trivial⟩
   have hb1 : 0 < b.length := by cases b with | nil => exact absurd rfl hb0 | cons _ _ => simp
   have d5 : ¬ ((b.map Sm.row).length : Int) = 1 := by rw [List.length_map]; omega
   have d6 : (0 : Int) < ((b.map Sm.row).length : Int) := by rw [List.length_map]; omega
   (have z1:=d5;have z2:=d6;refine GoG2 ?_;clear z1 z2)
   refine D.F ⟨[0],[0]⟩ (e1) ?_
   refine GoG ?_
   refine D.F ⟨[0],[0]⟩ (e2) ?_
   refine GoG ?_
   refine D.F ⟨[0],[0]⟩ (e3) ?_
   refine GoG ?_
   first|refine D.R ?_|refine D.E ?_
   rw [hF3]
   exact ⟨rfl, ⟨rfl, trivial⟩, rfl, trivial⟩
 ·have e0 : Sm.pr d [105, 102, 32] (.mk 3 [] x t sa sb) = lineB d [[119, 104, 105, 108, 101, 32], showE x, [32, 116, 105, 109, 101, 115, 32], Lib.itoa t, [32, 123]] ++ Sm.prs (d + 1) sa ++ lineB d [[125]] := by simp only [Sm.pr, show ¬ (3 : Int) = 1 by decide, if_false, if_true]
  rw [e0] at hl ⊢
  obtain ⟨L, hL⟩ : ∃ L, L = lineB d [[119, 104, 105, 108, 101, 32], showE x, [32, 116, 105, 109, 101, 115, 32], Lib.itoa t, [32, 123]] := ⟨_, rfl⟩
  obtain ⟨BA, hBA⟩ : ∃ BA, BA = Sm.prs (d + 1) sa := ⟨_, rfl⟩
  obtain ⟨E, hE⟩ : ∃ E, E = lineB d [[125]] := ⟨_, rfl⟩
  rw [← hL, ← hBA, ← hE] at hl ⊢
  simp only [List.length_append] at hl
  have hs : (showE x).length ≤ 1000000000 := by have := show_le (d := d) (s := showE x) (ps := [[119, 104, 105, 108, 101, 32], showE x, [32, 116, 105, 109, 101, 115, 32], Lib.itoa t, [32, 123]]) (by simp); rw [← hL] at this; omega
  have e := (q127A 1000000).1 x hax hgx hs
  have ei := p123 t (by omega) (by omega)
  have el := q122 d (by omega) (.inr rfl) out [[119, 104, 105, 108, 101, 32], showE x, [32, 116, 105, 109, 101, 115, 32], Lib.itoa t, [32, 123]] (by simp) (by rw [← hL]; omega)
  rw [← hL] at el
  have eb := hB sa d (out ++ L) (by omega) hga (by omega) (by rw [← hBA, List.length_append]; omega)
  rw [← hBA] at eb
  have ee := q122 d (by omega) (.inr rfl) (out ++ L ++ BA) [[125]] (by simp) (by rw [← hE]; simp only [List.length_append]; omega)
  rw [← hE] at ee
  clear hL hBA hE
  generalize showE x = sx at *
  generalize Lib.itoa t = si at *
  rcases x with ⟨xk, xo, xm, xt, xn, xl⟩
  simp(disch:=omega)only[go_sem,simprocAttr] at e
  refine FC.intro mo Tryz.func182 c182 ?_
  unfold e182 r182
  simp(disch:=omega)only[go_sem,simprocAttr]
  iterate 4 refine GoK ?_
  repeat refine D.JJ true true ?_
  refine J.reg (anns := [.str sx, .str si]) ?_
  refine GoD ?_
  refine D.PC (e) ?_
  refine GoD ?_
  refine D.PC (ei) ?_
  refine GoD ?_
  refine D.F ⟨[0],[0]⟩ (el) ?_
  refine GoG ?_
  refine D.F ⟨[0],[0]⟩ (eb) ?_
  refine GoG ?_
  refine D.F ⟨[0],[0]⟩ (ee) ?_
  refine GoG ?_
  first|refine D.R ?_|refine D.E ?_
  refine ⟨rfl, ⟨?_, trivial⟩, ?_, trivial⟩
  ·simp only [pb, bb, List.append_assoc]; rfl
  ·simp only [bt, List.append_assoc]; rfl
theorem psb : ∀ N, PS N ∧ PB N
 | 0 => by
  have h : PS 0 := fun x d out h => by cases x; simp only [Sm.amt] at h; omega
  exact ⟨h, pb_of h⟩
 | N + 1 => by
  have h := ps_of (psb N).2
  exact ⟨h, pb_of h⟩
end
section
attribute [local go_sem] Ex.row_mk Sm.row_mk Ex.rowsF Sm.rowsF srow srow_flat ha_row of_row ha_flat of_flat
attribute [local go_sem] Vr.row vr_flat
theorem q68 {R : Nat} (hR : R ≤ 140737488355328) : ∀ (N : Nat) (x y : Sm), x.amt ≤ N → x.ok R → Pure Tryz.prog 68 [.agg x.row, .agg y.row] (.bool (stSame x y))
 | N, .mk k m x t a b, .mk k2 m2 x2 t2 a2 b2, hN, hx => by
  have key : ∀ (l l2 : List Sm), Sm.amts l + 1 ≤ N → l.length * 168 ≤ R → Sm.oks R l → Pure Tryz.prog 67 [.vs 11 (l.map Sm.row), .vs 11 (l2.map Sm.row), .fn 68 []] (.bool (stSames l l2)) := fun l l2 hl hlen hk => by
   rw [stSames_eq]
   refine q67 stSame 68 (by kernel_rfl) l l2 (len_of hR (by decide) hlen) fun i u v hu hv => ?_
   have hm := Sm.mem_amt hu
   match N, hl with
   | 0, hl => omega
   | N + 1, hl => exact q68 hR N u v (by omega) (Sm.oks_get hk hu)
  simp only [Sm.amt] at hN
  have ea := key a a2 (by omega) hx.2.2.2.2.1 hx.2.2.2.2.2.2.1
  have eb := key b b2 (by omega) hx.2.2.2.2.2.1 hx.2.2.2.2.2.2.2
  have ex := q72 hR x.amt x x2 (Nat.le_refl _) hx.2.2.1
  clear hx key
  obtain ⟨k3, o3, m3, t3, n3, l3⟩ := x
  obtain ⟨k4, o4, m4, t4, n4, l4⟩ := x2
  simp(disch:=omega)only[go_sem,simprocAttr] at ex
  refine pure_of mo Tryz.func68 c68 (by simp only [Sm.row_mk, Ex.row_mk, List.cons_append, List.nil_append, flatL, AV.flat, Ex.rowsF, Sm.rowsF, Bool.and_self]) rfl ?_
  unfold e68 r68
  simp only [stSame]
  generalize exSame (Ex.mk k3 o3 m3 t3 n3 l3) (Ex.mk k4 o4 m4 t4 n4 l4) = be at ex
  generalize stSames a a2 = ba at ea
  generalize stSames b b2 = bb at eb
  simp(disch:=omega)only[go_sem,simprocAttr]
  (repeat' first|refine D.S ?_|refine D.JJ true true ?_|refine DJ.nil ?_|refine J.reg0 ?_|refine D.W ?_|refine D.Z ?_|refine D.G ?_ ?_|refine D.X ‹_› ?_|refine D.XO ‹_› ?_|refine D.XS ‹_› ?_|intro h)
  ·refine D.P (ex) ?_
   (repeat' first|refine D.S ?_|refine D.JJ true true ?_|refine DJ.nil ?_|refine J.reg0 ?_|refine D.W ?_|refine D.Z ?_|refine D.G ?_ ?_|refine D.X ‹_› ?_|refine D.XO ‹_› ?_|refine D.XS ‹_› ?_|intro h)
   ·refine D.P (ea) ?_
    (repeat' first|refine D.S ?_|refine D.JJ true true ?_|refine DJ.nil ?_|refine J.reg0 ?_|refine D.W ?_|refine D.Z ?_|refine D.G ?_ ?_|refine D.X ‹_› ?_|refine D.XO ‹_› ?_|refine D.XS ‹_› ?_|intro h)
    ·refine D.P (eb) ?_
     refine GoG ?_
     first|refine D.R ?_|refine D.E ?_
     refine ⟨_, rfl, .wk ?_ rfl, trivial, trivial⟩
     simp_all [AV.wk]
    all_goals
     refine D.R ?_
     refine ⟨_, rfl, .wk ?_ rfl, trivial, trivial⟩
     simp_all [AV.wk]
   all_goals
    refine D.R ?_
    refine ⟨_, rfl, .wk ?_ rfl, trivial, trivial⟩
    simp_all [AV.wk]
  all_goals
   refine D.R ?_
   refine ⟨_, rfl, .wk ?_ rfl, trivial, trivial⟩
   simp_all [AV.wk]
theorem stSames67 {R : Nat} (hR : R ≤ 140737488355328) (l l2 : List Sm) (hlen : l.length * 168 ≤ R) (hk : Sm.oks R l) : Pure Tryz.prog 67 [.vs 11 (l.map Sm.row), .vs 11 (l2.map Sm.row), .fn 68 []] (.bool (stSames l l2)) := by
 rw [stSames_eq]
 exact q67 stSame 68 (by kernel_rfl) l l2 (len_of hR (by decide) hlen) fun i u v hu hv => q68 hR u.amt u v (Nat.le_refl _) (Sm.oks_get hk hu)
theorem exSames71 {R : Nat} (hR : R ≤ 140737488355328) (l l2 : List Ex) (hlen : l.length * 88 ≤ R) (hk : Ex.oks R l) : Pure Tryz.prog 71 [.vs 6 (l.map Ex.row), .vs 6 (l2.map Ex.row), .fn 72 []] (.bool (exSames l l2)) := by
 rw [exSames_eq]
 exact q71 exSame 72 (by kernel_rfl) l l2 (len_of hR (by decide) hlen) fun i u v hu hv => q72 hR u.amt u v (Nat.le_refl _) (Ex.oks_get hk hu)
theorem q65 {R : Nat} (hR : R ≤ 140737488355328) (a b : Ha) (ha : a.ok R) : Pure Tryz.prog 65 [.agg a.row, .agg b.row] (.bool (haSame a b)) := by
 have e1 := q66 a.ps b.ps (len_of hR (by decide) ha.2.2.1)
 have e2 := stSames67 hR a.body b.body ha.2.2.2.2.1 ha.2.2.2.2.2
 refine pure_of mo Tryz.func65 c65 (by simp only [ha_row, flatL, AV.flat, srow_flat, Sm.rowsF, Bool.and_self]) rfl ?_
 unfold e65 r65
 simp only [haSame]
 generalize decide (a.ps = b.ps) = b1 at e1
 generalize stSames a.body b.body = b2 at e2
 simp(disch:=omega)only[go_sem,simprocAttr]
 (repeat' first|refine D.S ?_|refine D.JJ true true ?_|refine DJ.nil ?_|refine J.reg0 ?_|refine D.W ?_|refine D.Z ?_|refine D.G ?_ ?_|refine D.X ‹_› ?_|refine D.XO ‹_› ?_|refine D.XS ‹_› ?_|intro h)
 ·refine D.P (e1) ?_
  (repeat' first|refine D.S ?_|refine D.JJ true true ?_|refine DJ.nil ?_|refine J.reg0 ?_|refine D.W ?_|refine D.Z ?_|refine D.G ?_ ?_|refine D.X ‹_› ?_|refine D.XO ‹_› ?_|refine D.XS ‹_› ?_|intro h)
  ·refine D.P (e2) ?_
   refine GoG ?_
   first|refine D.R ?_|refine D.E ?_
   refine ⟨_, rfl, .wk ?_ rfl, trivial, trivial⟩
   simp_all [AV.wk]
  all_goals
   refine D.R ?_
   refine ⟨_, rfl, .wk ?_ rfl, trivial, trivial⟩
   simp_all [AV.wk]
 all_goals
  refine D.R ?_
  refine ⟨_, rfl, .wk ?_ rfl, trivial, trivial⟩
  simp_all [AV.wk]
theorem q70 {R : Nat} (hR : R ≤ 140737488355328) (a b : Off) (ha : a.ok R) : Pure Tryz.prog 70 [.agg a.row, .agg b.row] (.bool (ofSame a b)) := by
 have e1 := exSames71 hR a.args b.args ha.2.2.1 ha.2.2.2.1
 have e2 := exSames71 hR a.whn b.whn ha.2.2.2.2.1 ha.2.2.2.2.2
 refine pure_of mo Tryz.func70 c70 (by simp only [of_row, flatL, AV.flat, Ex.rowsF, Bool.and_self]) rfl ?_
 unfold e70 r70
 simp only [ofSame]
 generalize exSames a.args b.args = b1 at e1
 generalize exSames a.whn b.whn = b2 at e2
 simp(disch:=omega)only[go_sem,simprocAttr]
 (repeat' first|refine D.S ?_|refine D.JJ true true ?_|refine DJ.nil ?_|refine J.reg0 ?_|refine D.W ?_|refine D.Z ?_|refine D.G ?_ ?_|refine D.X ‹_› ?_|refine D.XO ‹_› ?_|refine D.XS ‹_› ?_|intro h)
 ·refine D.P (e1) ?_
  (repeat' first|refine D.S ?_|refine D.JJ true true ?_|refine DJ.nil ?_|refine J.reg0 ?_|refine D.W ?_|refine D.Z ?_|refine D.G ?_ ?_|refine D.X ‹_› ?_|refine D.XO ‹_› ?_|refine D.XS ‹_› ?_|intro h)
  ·refine D.P (e2) ?_
   refine GoG ?_
   first|refine D.R ?_|refine D.E ?_
   refine ⟨_, rfl, .wk ?_ rfl, trivial, trivial⟩
   simp_all [AV.wk]
  all_goals
   refine D.R ?_
   refine ⟨_, rfl, .wk ?_ rfl, trivial, trivial⟩
   simp_all [AV.wk]
 all_goals
  refine D.R ?_
  refine ⟨_, rfl, .wk ?_ rfl, trivial, trivial⟩
  simp_all [AV.wk]
theorem sv_av (x : Sv) : x.av = .agg [.str x.name, .str x.role, .str x.proto, .vs 7 (x.vars.map Vr.row), .vs 4 (x.hs.map Ha.row), .vs 4 (x.os.map Off.row)] := rfl
theorem q22 {R : Nat} (hR : R ≤ 140737488355328) (x y : Sv) (hx : x.ok R) : Pure Tryz.prog 22 [x.av, y.av] (.bool (svSame x y)) := by
 have e1 := q63 x.vars y.vars (len_of hR (by decide) hx.nv)
 have e2 := q64 haSame 65 (by kernel_rfl) x.hs y.hs (len_of hR (by decide) hx.nh) fun i u v hu hv => q65 hR u v (hx.hs u (List.mem_of_getElem? hu))
 have e3 := q69 ofSame 70 (by kernel_rfl) x.os y.os (len_of hR (by decide) hx.no) fun i u v hu hv => q70 hR u v (hx.os u (List.mem_of_getElem? hu))
 rw [sv_av, sv_av]
 refine pure_of mo Tryz.func22 c22 (by simp only [flatL, AV.flat, vr_flat, ha_flat, of_flat, Bool.and_self]) rfl ?_
 unfold e22 r22
 simp only [svSame]
 generalize decide (x.vars = y.vars) = b1 at e1
 generalize eqF haSame x.hs y.hs = b2 at e2
 generalize eqF ofSame x.os y.os = b3 at e3
 simp(disch:=omega)only[go_sem,simprocAttr]
 (repeat' first|refine D.S ?_|refine D.JJ true true ?_|refine DJ.nil ?_|refine J.reg0 ?_|refine D.W ?_|refine D.Z ?_|refine D.G ?_ ?_|refine D.X ‹_› ?_|refine D.XO ‹_› ?_|refine D.XS ‹_› ?_|intro h)
 ·refine D.P (e1) ?_
  (repeat' first|refine D.S ?_|refine D.JJ true true ?_|refine DJ.nil ?_|refine J.reg0 ?_|refine D.W ?_|refine D.Z ?_|refine D.G ?_ ?_|refine D.X ‹_› ?_|refine D.XO ‹_› ?_|refine D.XS ‹_› ?_|intro h)
  ·refine D.P (e2) ?_
   (repeat' first|refine D.S ?_|refine D.JJ true true ?_|refine DJ.nil ?_|refine J.reg0 ?_|refine D.W ?_|refine D.Z ?_|refine D.G ?_ ?_|refine D.X ‹_› ?_|refine D.XO ‹_› ?_|refine D.XS ‹_› ?_|intro h)
   ·refine D.P (e3) ?_
    refine GoG ?_
    first|refine D.R ?_|refine D.E ?_
    refine ⟨_, rfl, .wk ?_ rfl, trivial, trivial⟩
    simp_all [AV.wk]
   all_goals
    refine D.R ?_
    refine ⟨_, rfl, .wk ?_ rfl, trivial, trivial⟩
    simp_all [AV.wk]
  all_goals
   refine D.R ?_
   refine ⟨_, rfl, .wk ?_ rfl, trivial, trivial⟩
   simp_all [AV.wk]
 all_goals
  refine D.R ?_
  refine ⟨_, rfl, .wk ?_ rfl, trivial, trivial⟩
  simp_all [AV.wk]
end
section
attribute [local go_sem] Ex.row_mk Sm.row_mk Ex.rowsF Sm.rowsF srow srow_flat ha_row of_row ha_flat of_flat
attribute [local go_sem] Vr.row vr_flat
end
section
attribute [local go_sem] Ex.row_mk Sm.row_mk Ex.rowsF Sm.rowsF srow srow_flat ha_row of_row ha_flat of_flat
attribute [local go_sem] Vr.row vr_flat
theorem sv_cells (x : Sv) : x.cells = [.str x.name, .str x.role, .str x.proto, .vs 7 (x.vars.map Vr.row), .vs 4 (x.hs.map Ha.row), .vs 4 (x.os.map Off.row)] := rfl
attribute [local go_sem] sv_cells cnot
end
section
set_option maxHeartbeats 16000000
attribute [local go_sem] byR by_flat Ex.row_mk Ex.rowsF Ex.row_flat Sm.row_mk Sm.rowsF Sm.row_flat srow srow_flat ha_row of_row ha_flat of_flat Vr.row vr_flat sv_cells
theorem mf_take {α : Type} (f : α → Bs) {l : List α} {i : Nat} {v : α} (h : l[i]? = some v) : ((l.take (i + 1)).map f).flatten = ((l.take i).map f).flatten ++ f v := by
 rw [List.take_add_one, h]; simp
theorem mf_le {α : Type} (f : α → Bs) (l : List α) (i : Nat) : ((l.take i).map f).flatten.length ≤ (l.map f).flatten.length := by
 conv => rhs; rw [← List.take_append_drop i l]
 rw [List.map_append, List.flatten_append, List.length_append]
 omega
theorem mf_le2 {α : Type} (f : α → Bs) {l : List α} {i : Nat} {v : α} (h : l[i]? = some v) : ((l.take i).map f).flatten.length + (f v).length ≤ (l.map f).flatten.length := by
 have := mf_le f l (i + 1)
 rw [mf_take f h, List.length_append] at this
 exact this
theorem goodV_n {v : Vr} (h : goodV v = true) : -1000000000 ≤ v.lo ∧ v.lo ≤ 1000000000 ∧ -1000000000 ≤ v.hi ∧ v.hi ≤ 1000000000 ∧ (v.ik ≠ 2 → -1000000000 ≤ v.n ∧ v.n ≤ 1000000000) ∧ v.s.length ≤ 40 := by
 simp only [goodV, Bool.and_eq_true, constB, decide_eq_true_eq] at h
 obtain ⟨_, h1, h2, _, h3⟩ := h
 by_cases k1 : v.ik = 1
 ·rw [if_pos k1] at h3
  simp only [Bool.and_eq_true, decide_eq_true_eq] at h3
  exact ⟨by omega, by omega, by omega, by omega, fun _ => by omega, by rw [h3.2]; decide⟩
 rw [if_neg k1] at h3
 by_cases k2 : v.ik = 2
 ·rw [if_pos k2] at h3
  simp only [Bool.and_eq_true, decide_eq_true_eq, textB] at h3
  exact ⟨by omega, by omega, by omega, by omega, fun h => absurd k2 h, h3.2.1⟩
 ·rw [if_neg k2] at h3
  cases h3
theorem goodH_n {h : Ha} (hg : goodH h = true) : goodSs h.body = true ∧ h.ps.length ≤ 4 := by
 simp only [goodH, Bool.and_eq_true, decide_eq_true_eq] at hg
 rw [goodSs_all]
 exact ⟨hg.2.2.2.2.1, hg.2.2.1⟩
theorem goodO_n {o : Off} (hg : goodO o = true) : o.args.all goodE = true ∧ o.whn.all goodE = true ∧ o.whn.length ≤ 1 := by
 simp only [goodO, Bool.and_eq_true, decide_eq_true_eq, List.all_append] at hg
 exact ⟨hg.2.2.2.2.1.1, hg.2.2.2.2.1.2, hg.2.2.2.1⟩
structure SvP (x : Sv) : Prop where
 vs : x.vars.all goodV = true
 hs : x.hs.all goodH = true
 os : x.os.all goodO = true
 ha : ∀ h ∈ x.hs, Sm.amts h.body ≤ 900000
 oa : ∀ o ∈ x.os, Ex.amts o.args ≤ 900000 ∧ Ex.amts o.whn ≤ 900000
 nv : x.vars.length ≤ 1000000
 nh : x.hs.length ≤ 1000000
 no : x.os.length ≤ 1000000
 len : (canonB x).length ≤ 900000000
theorem q52 (x : Sv) (hx : SvP x) : Pure Tryz.prog 52 [x.av] (.str (canonB x)) := by
 have hF := hx.len
 have hnv := hx.nv
 have hnh := hx.nh
 have hno := hx.no
 obtain ⟨F, hFe⟩ : ∃ F, F = canonB x := ⟨_, rfl⟩
 rw [← hFe] at hF ⊢
 unfold canonB at hFe
 obtain ⟨H0, hH0⟩ : ∃ H0, H0 = lineB 0 [[115, 101, 114, 118, 105, 99, 101, 32], x.name, [32, 112, 108, 97, 121, 115, 32], x.role, [32, 111, 102, 32], x.proto, [32, 123]] := ⟨_, rfl⟩
 obtain ⟨E, hE⟩ : ∃ E, E = lineB 0 [[125]] := ⟨_, rfl⟩
 rw [← hH0, ← hE] at hFe
 have hFl := congrArg List.length hFe
 simp only [List.length_append] at hFl
 have e1 := q122 0 (by decide) (.inl rfl) [] [[115, 101, 114, 118, 105, 99, 101, 32], x.name, [32, 112, 108, 97, 121, 115, 32], x.role, [32, 111, 102, 32], x.proto, [32, 123]] (by simp) (by rw [← hH0, List.length_nil]; omega)
 rw [← hH0, List.nil_append] at e1
 rw [sv_av]
 refine pure_of mo Tryz.func52 c52 (by simp only [flatL, AV.flat, vr_flat, ha_flat, of_flat, Bool.and_self]) rfl ?_
 unfold e52 r52
 simp(disch:=omega)only[go_sem,simprocAttr]
 iterate 2 refine GoK ?_
 refine J.ghB 1 1 1 5 rfl rfl (by decide) ?_
 simp(disch:=omega)only[go_sem,simprocAttr]
 refine GoG ?_
 refine D.F ⟨[1],[0]⟩ (e1) ?_
 refine GoG ?_
 clear e1
 obtain ⟨V, hV⟩ : ∃ V, V = H0 ++ (x.vars.map varB).flatten := ⟨_, rfl⟩
 have hVl : V.length = H0.length + (x.vars.map varB).flatten.length := by rw [hV, List.length_append]
 refine J.loopX (X := Nat) 0 (fun i => [(1, .ptr 0 0), (3, .ptr 1 0), (27, .vs 7 (x.vars.map Vr.row)), (28, .int .i64 ((x.vars.map Vr.row).length : Int)), (29, .int .i64 (i : Int))]) (fun i => [(0, 27, x.cells), (1, 182, [.ptr 1 0, .own 0 1 ((H0 ++ ((x.vars.take i).map varB).flatten).map byR), .int .i64 1])]) (fun i => [(0, .frz 5 1 ((H0 ++ ((x.vars.take i).map varB).flatten).map byR).length)]) (fun i => i ≤ x.vars.length) (fun i => x.vars.length - i) (Nat.zero_le _) ⟨rfl, rfl, rfl, rfl, rfl, trivial⟩ ⟨rfl, by simp only [List.take_zero, List.map_nil, List.flatten_nil, List.append_nil]; rfl, trivial⟩ ⟨by simp only [List.take_zero, List.map_nil, List.flatten_nil, List.append_nil]; rfl, trivial⟩ ?_
 intro i hi
 try simp only at hi ⊢
 cases hv : x.vars[i]? with
 | some v =>
  have hlt := (List.getElem?_eq_some_iff.1 hv).1
  have hmem := List.mem_of_getElem? hv
  have hgv : goodV v = true := by simpa using List.all_eq_true.1 hx.vs v hmem
  have hsn := mf_take varB hv
  have hle := mf_le2 varB hv
  have d1 : (i : Int) < ((x.vars.map Vr.row).length : Int) := by rw [List.length_map]; omega
  obtain ⟨Y, hY⟩ : ∃ Y, Y = H0 ++ ((x.vars.take i).map varB).flatten := ⟨_, rfl⟩
  have hsn2 : H0 ++ ((x.vars.take (i + 1)).map varB).flatten = Y ++ varB v := by rw [hsn, hY, List.append_assoc]
  have hYl : Y.length + (varB v).length ≤ 900000000 := by rw [hY, List.length_append]; omega
  obtain ⟨g1, g2, g3, g4, g5, g6⟩ := goodV_n hgv
  obtain ⟨s1, hs1⟩ : ∃ s1, s1 = Lib.itoa v.lo := ⟨_, rfl⟩
  obtain ⟨s2, hs2⟩ : ∃ s2, s2 = Lib.itoa v.hi := ⟨_, rfl⟩
  obtain ⟨s3, hs3⟩ : ∃ s3, s3 = initB v.ik v.n v.s := ⟨_, rfl⟩
  have p1 := p123 v.lo g1 g2
  have p2 := p123 v.hi g3 g4
  have p3 := q124 v.ik v.n v.s g5 (by omega)
  have hvB : varB v = lineB 1 [[118, 97, 114, 32], v.name, [58, 32], if v.sk = 2 then [116, 101, 120, 116, 32] else [105, 110, 116, 32], s1, [32, 46, 46, 32], s2, [32, 61, 32], s3, [59]] := by rw [hs1, hs2, hs3]; rfl
  rw [← hs1] at p1
  rw [← hs2] at p2
  rw [← hs3] at p3
  rw [← hY]
  generalize varB v = L at *
  clear hsn hle hY hs1 hs2 hs3
  by_cases h2 : v.sk = 2
  focus
   rw [if_pos h2] at hvB
   have e := q122 1 (by decide) (.inr rfl) Y [[118, 97, 114, 32], v.name, [58, 32], [116, 101, 120, 116, 32], s1, [32, 46, 46, 32], s2, [32, 61, 32], s3, [59]] (by simp) (by rw [← hvB]; omega)
   rw [← hvB] at e
   (have z1:=d1;have z2:=h2;refine GoK2 ?_;refine GoK2 ?_;refine GoK2 ?_;refine GoK2 ?_;refine GoK2 ?_;clear z1 z2)
   (have z1:=d1;have z2:=h2;refine GoJ2 ?_;clear z1 z2)
  rotate_left
  focus
   rw [if_neg h2] at hvB
   have e := q122 1 (by decide) (.inr rfl) Y [[118, 97, 114, 32], v.name, [58, 32], [105, 110, 116, 32], s1, [32, 46, 46, 32], s2, [32, 61, 32], s3, [59]] (by simp) (by rw [← hvB]; omega)
   rw [← hvB] at e
   (have z1:=d1;have z2:=h2;refine GoK2 ?_;refine GoK2 ?_;refine GoK2 ?_;refine GoK2 ?_;clear z1 z2)
   (have z1:=d1;have z2:=h2;refine GoJ2 ?_;clear z1 z2)
  all_goals
   refine J.reg (anns := [.str s1, .str s2, .str s3]) ?_
   (have z1:=h2;refine GoD1 ?_;clear z1)
   refine D.PC (p1) ?_
   refine GoD ?_
   refine D.PC (p2) ?_
   refine GoD ?_
   refine D.PC (p3) ?_
   refine GoD ?_
   refine D.F ⟨[1],[0]⟩ (e) ?_
   refine GoG ?_
   refine J.roundC (i + 1) (by omega) ⟨rfl, rfl, rfl, rfl, by simp only [Int.natCast_add]; rfl, trivial⟩ (by simp only [hsn2]; exact ⟨rfl, rfl, trivial⟩) (by simp only [hsn2]; exact ⟨rfl, trivial⟩) rfl (by simp only [bdE, bdL, bdB, bdT, bdO, AV.bd, Own.frz, sv_cells, by_flat, vr_flat, ha_flat, of_flat, go_sem] <;> rfl) (by show x.vars.length - (i + 1) < x.vars.length - i; omega)
 | none =>
 have hge := List.getElem?_eq_none_iff.1 hv
 have e0 : i = x.vars.length := by omega
 subst e0
 have d1 : ¬ (x.vars.length : Int) < ((x.vars.map Vr.row).length : Int) := by rw [List.length_map]; omega
 rw [List.take_length, ← hV]
 rw [← hV] at hFe
 clear hi hv hge
 obtain ⟨U, hU⟩ : ∃ U, U = V ++ (x.hs.map hanB).flatten := ⟨_, rfl⟩
 have hUl : U.length = V.length + (x.hs.map hanB).flatten.length := by rw [hU, List.length_append]
 (have z1:=d1;refine GoG1 ?_;clear z1)
 refine J.loopX (X := Nat) 0 (fun i => [(1, .ptr 0 0), (3, .ptr 1 0), (56, .vs 4 (x.hs.map Ha.row)), (57, .int .i64 ((x.hs.map Ha.row).length : Int)), (58, .int .i64 (i : Int))]) (fun i => [(0, 27, x.cells), (1, 182, [.ptr 1 0, .own 0 1 ((V ++ ((x.hs.take i).map hanB).flatten).map byR), .int .i64 1])]) (fun i => [(0, .frz 5 1 ((V ++ ((x.hs.take i).map hanB).flatten).map byR).length)]) (fun i => i ≤ x.hs.length) (fun i => x.hs.length - i) (Nat.zero_le _) ⟨rfl, rfl, rfl, rfl, rfl, trivial⟩ ⟨rfl, by simp only [List.take_zero, List.map_nil, List.flatten_nil, List.append_nil]; rfl, trivial⟩ ⟨by simp only [List.take_zero, List.map_nil, List.flatten_nil, List.append_nil]; rfl, trivial⟩ ?_
 intro i hi
 try simp only at hi ⊢
 cases hv : x.hs[i]? with
 | some v =>
  have hlt := (List.getElem?_eq_some_iff.1 hv).1
  have hmem := List.mem_of_getElem? hv
  have hgv : goodH v = true := by simpa using List.all_eq_true.1 hx.hs v hmem
  have hav := hx.ha v hmem
  have hsn := mf_take hanB hv
  have hle := mf_le2 hanB hv
  have d1 : (i : Int) < ((x.hs.map Ha.row).length : Int) := by rw [List.length_map]; omega
  obtain ⟨Y, hY⟩ : ∃ Y, Y = V ++ ((x.hs.take i).map hanB).flatten := ⟨_, rfl⟩
  have hsn2 : V ++ ((x.hs.take (i + 1)).map hanB).flatten = Y ++ hanB v := by rw [hsn, hY, List.append_assoc]
  have hYl : Y.length + (hanB v).length ≤ 900000000 := by rw [hY, List.length_append]; omega
  obtain ⟨g1, g2⟩ := goodH_n hgv
  obtain ⟨s1, hs1⟩ : ∃ s1, s1 = Lib.join v.ps [44, 32] := ⟨_, rfl⟩
  obtain ⟨L, hL⟩ : ∃ L, L = lineB 1 [[111, 110, 32], v.msg, [40], s1, [41, 32, 102, 114, 111, 109, 32], v.peer, [32, 123]] := ⟨_, rfl⟩
  obtain ⟨B, hB⟩ : ∃ B, B = Sm.prs (1 + 1) v.body := ⟨_, rfl⟩
  obtain ⟨Z, hZ⟩ : ∃ Z, Z = lineB 1 [[125]] := ⟨_, rfl⟩
  have hhB : hanB v = L ++ B ++ Z := by rw [hL, hB, hZ, hs1]; rfl
  rw [hhB] at hYl hsn2
  simp only [List.length_append] at hYl
  have hs1l : s1.length ≤ L.length := by rw [hL]; exact show_le (by simp)
  have p1 := p125 v.ps [44, 32] (by omega) (by rw [← hs1]; omega)
  have e := q122 1 (by decide) (.inr rfl) Y [[111, 110, 32], v.msg, [40], s1, [41, 32, 102, 114, 111, 109, 32], v.peer, [32, 123]] (by simp) (by rw [← hL]; omega)
  have eb := (psb 1000000).2 v.body 1 (Y ++ L) (by omega) g1 (by omega) (by rw [← hB, List.length_append]; omega)
  have ee := q122 1 (by decide) (.inr rfl) (Y ++ L ++ B) [[125]] (by simp) (by rw [← hZ, List.length_append, List.length_append]; omega)
  rw [← hs1] at p1
  rw [← hL] at e
  rw [← hB] at eb
  rw [← hZ] at ee
  have hsn3 : V ++ ((x.hs.take (i + 1)).map hanB).flatten = Y ++ L ++ B ++ Z := by rw [hsn2]; simp only [List.append_assoc]
  rw [← hY]
  clear hsn hsn2 hle hY hs1 hL hB hZ hhB
  (have z1:=d1;refine GoK1 ?_;refine GoK1 ?_;clear z1)
  (have z1:=d1;refine GoJ1 ?_;clear z1)
  refine J.reg (anns := [.str s1]) ?_
  refine GoD ?_
  refine D.PC (p1) ?_
  refine GoD ?_
  refine D.F ⟨[1],[0]⟩ (e) ?_
  refine GoG ?_
  refine D.F ⟨[1],[0]⟩ (eb) ?_
  refine GoG ?_
  refine D.F ⟨[1],[0]⟩ (ee) ?_
  refine GoG ?_
  refine J.roundC (i + 1) (by omega) ⟨rfl, rfl, rfl, rfl, by simp only [Int.natCast_add]; rfl, trivial⟩ (by simp only [hsn3]; exact ⟨rfl, rfl, trivial⟩) (by simp only [hsn3]; exact ⟨rfl, trivial⟩) rfl (by simp only [bdE, bdL, bdB, bdT, bdO, AV.bd, Own.frz, sv_cells, by_flat, vr_flat, ha_flat, of_flat, go_sem] <;> rfl) (by show x.hs.length - (i + 1) < x.hs.length - i; omega)
 | none =>
 have hge := List.getElem?_eq_none_iff.1 hv
 have e0 : i = x.hs.length := by omega
 subst e0
 have d1 : ¬ (x.hs.length : Int) < ((x.hs.map Ha.row).length : Int) := by rw [List.length_map]; omega
 rw [List.take_length, ← hU]
 rw [← hU] at hFe
 clear hi hv hge
 (have z1:=d1;refine GoG1 ?_;clear z1)
 refine J.loopX (X := Nat) 0 (fun i => [(1, .ptr 0 0), (3, .ptr 1 0), (81, .vs 4 (x.os.map Off.row)), (82, .int .i64 ((x.os.map Off.row).length : Int)), (83, .int .i64 (i : Int))]) (fun i => [(1, 182, [.ptr 1 0, .own 0 1 ((U ++ ((x.os.take i).map offB).flatten).map byR), .int .i64 1])]) (fun i => [(0, .frz 5 1 ((U ++ ((x.os.take i).map offB).flatten).map byR).length)]) (fun i => i ≤ x.os.length) (fun i => x.os.length - i) (Nat.zero_le _) ⟨rfl, rfl, rfl, rfl, rfl, trivial⟩ ⟨by simp only [List.take_zero, List.map_nil, List.flatten_nil, List.append_nil]; rfl, trivial⟩ ⟨by simp only [List.take_zero, List.map_nil, List.flatten_nil, List.append_nil]; rfl, trivial⟩ ?_
 intro i hi
 try simp only at hi ⊢
 cases hv : x.os[i]? with
 | some v =>
  have hlt := (List.getElem?_eq_some_iff.1 hv).1
  have hmem := List.mem_of_getElem? hv
  have hgv : goodO v = true := by simpa using List.all_eq_true.1 hx.os v hmem
  obtain ⟨hav, haw⟩ := hx.oa v hmem
  have hsn := mf_take offB hv
  have hle := mf_le2 offB hv
  have d1 : (i : Int) < ((x.os.map Off.row).length : Int) := by rw [List.length_map]; omega
  obtain ⟨Y, hY⟩ : ∃ Y, Y = U ++ ((x.os.take i).map offB).flatten := ⟨_, rfl⟩
  have hsn2 : U ++ ((x.os.take (i + 1)).map offB).flatten = Y ++ offB v := by rw [hsn, hY, List.append_assoc]
  have hYl : Y.length + (offB v).length ≤ 900000000 := by rw [hY, List.length_append]; omega
  obtain ⟨g1, g2, g3⟩ := goodO_n hgv
  obtain ⟨s1, hs1⟩ : ∃ s1, s1 = Lib.join (v.args.map showE) [44, 32] := ⟨_, rfl⟩
  obtain ⟨s2, hs2⟩ : ∃ s2, s2 = whenB v.whn := ⟨_, rfl⟩
  obtain ⟨L, hL⟩ : ∃ L, L = lineB 1 [[111, 102, 102, 101, 114, 32], v.msg, [40], s1, [41, 32, 116, 111, 32], v.peer, s2, [59]] := ⟨_, rfl⟩
  have hhB : offB v = L := by rw [hL, hs1, hs2]; rfl
  rw [hhB] at hYl hsn2
  have hs1l : s1.length ≤ L.length := by rw [hL]; exact show_le (by simp)
  have hs2l : s2.length ≤ L.length := by rw [hL]; exact show_le (by simp)
  have p1 := q128 v.args (by omega) g1 (by rw [← hs1]; omega)
  have e := q122 1 (by decide) (.inr rfl) Y [[111, 102, 102, 101, 114, 32], v.msg, [40], s1, [41, 32, 116, 111, 32], v.peer, s2, [59]] (by simp) (by rw [← hL]; omega)
  rw [← hs1] at p1
  rw [← hL] at e
  rw [← hY]
  clear hsn hle hY hs1 hL hhB
  cases hw : v.whn with
  | nil =>
   rw [hw] at hs2
   simp only [whenB] at hs2
   (have z1:=d1;have z2:=hw;refine GoK2 ?_;refine GoK2 ?_;refine GoK2 ?_;refine GoK2 ?_;clear z1 z2)
   (have z1:=d1;have z2:=hw;refine GoJ2 ?_;clear z1 z2)
   refine J.reg (anns := [.str s1]) ?_
   (have z1:=hw;refine GoD1 ?_;clear z1)
   refine D.PC (p1) ?_
   refine GoD ?_
   subst hs2
   refine D.F ⟨[1],[0]⟩ (e) ?_
   refine GoG ?_
   refine J.roundC (i + 1) (by omega) ⟨rfl, rfl, rfl, rfl, by simp only [Int.natCast_add]; rfl, trivial⟩ (by simp only [hsn2]; exact ⟨rfl, trivial⟩) (by simp only [hsn2]; exact ⟨rfl, trivial⟩) rfl (by simp only [bdE, bdL, bdB, bdT, bdO, AV.bd, Own.frz, sv_cells, by_flat, vr_flat, ha_flat, of_flat, go_sem] <;> rfl) (by show x.os.length - (i + 1) < x.os.length - i; omega)
  | cons w ws =>
   rw [hw] at hs2 g2 haw
   simp only [whenB] at hs2
   have hwl : ws = [] := by
    rw [hw] at g3
    simp only [List.length_cons] at g3
    exact List.length_eq_zero_iff.1 (by omega)
   subst hwl
   have hwg : goodE w = true := by simpa using g2
   simp only [Ex.amts] at haw
   have hs2l2 := congrArg List.length hs2
   simp only [List.length_append] at hs2l2
   have ew := (q127A 1000000).1 w (by omega) hwg (by omega)
   generalize showE w = sw at hs2 hs2l2 ew
   rcases w with ⟨xk, xo, xm, xt, xn, xl⟩
   simp(disch:=omega)only[go_sem,simprocAttr] at ew
   (have z1:=d1;have z2:=hw;refine GoK2 ?_;refine GoK2 ?_;refine GoK2 ?_;refine GoK2 ?_;clear z1 z2)
   (have z1:=d1;have z2:=hw;refine GoJ2 ?_;clear z1 z2)
   refine J.reg0 ?_
   (have z1:=hw;refine GoD1 ?_;clear z1)
   refine D.P (ew) ?_
   refine D.cat ?_
   refine GoD ?_
   (have z1:=hw;refine GoJ1 ?_;clear z1)
   refine J.reg (anns := [.str s1]) ?_
   (have z1:=hw;refine GoD1 ?_;clear z1)
   refine D.PC (p1) ?_
   refine GoD ?_
   subst hs2
   refine D.F ⟨[1],[0]⟩ (e) ?_
   refine GoG ?_
   refine J.roundC (i + 1) (by omega) ⟨rfl, rfl, rfl, rfl, by simp only [Int.natCast_add]; rfl, trivial⟩ (by simp only [hsn2]; exact ⟨rfl, trivial⟩) (by simp only [hsn2]; exact ⟨rfl, trivial⟩) rfl (by simp only [bdE, bdL, bdB, bdT, bdO, AV.bd, Own.frz, sv_cells, by_flat, vr_flat, ha_flat, of_flat, go_sem] <;> rfl) (by show x.os.length - (i + 1) < x.os.length - i; omega)
 | none =>
 have hge := List.getElem?_eq_none_iff.1 hv
 have e0 : i = x.os.length := by omega
 subst e0
 have d1 : ¬ (x.os.length : Int) < ((x.os.map Off.row).length : Int) := by rw [List.length_map]; omega
 rw [List.take_length]
 have hY : (U ++ (x.os.map offB).flatten).length + E.length ≤ 900000000 := by rw [List.length_append]; omega
 rw [hFe]
 generalize U ++ (x.os.map offB).flatten = Y at hY ⊢
 have ee := q122 0 (by decide) (.inr rfl) Y [[125]] (by simp) (by rw [← hE]; omega)
 rw [← hE] at ee
 have hne : Y ++ E ≠ [] := by rw [hE]; simp [lineB]
 (have z1:=d1;refine GoG1 ?_;clear z1)
 refine D.F ⟨[1],[0]⟩ (ee) ?_
 refine GoG ?_
 refine D.F ⟨[1],[0]⟩ (t129 (T := 182) (A := .ptr 0 0) (cs := [.int .i64 0]) trivial (Y ++ E) hne) ?_
 refine GoG ?_
 first|refine D.R ?_|refine D.E ?_
 exact ⟨_, rfl, .wk rfl rfl, trivial, trivial⟩
end
end Go.Aw.T.N
namespace Go.Aw
open Go Go.Aw.T.N
set_option linter.unusedVariables false
theorem quoteR_len : ∀ s : Bs, (quoteR s).length ≤ 2 * s.length
 | [] => Nat.le_refl _
 | c :: s => by
  have := quoteR_len s
  simp only [quoteR, List.length_append, List.length_cons]
  split <;> simp <;> omega
theorem quoteB_len (s : Bs) : (quoteB s).length ≤ 2 * s.length + 2 := by
 have := quoteR_len s
 simp only [quoteB, List.length_append, List.length_cons, List.length_nil]
 omega
theorem itoa_len {n : Int} (h0 : -1000000000 ≤ n) (h1 : n ≤ 1000000000) : (Lib.itoa n).length ≤ 21 := Lib.itoa_length_le n (by omega) (by omega)
theorem word_len {s : Bs} (h : isWordB s = true) : s.length ≤ 16 := by
 cases s with
 | nil => simp
 | cons c s =>
  simp only [isWordB, isNameB, Bool.and_eq_true, decide_eq_true_eq] at h
  exact h.1.1
theorem opdB_len (x : Ex) (s : Bs) (k : Int) : (opdB x s k).length ≤ s.length + 2 := by
 unfold opdB
 split
 ·simp
 ·omega
theorem precP_len {s : Bs} (h : precP s ≠ 0) : s.length ≤ 2 := by
 by_cases h2 : s.length ≤ 2
 ·exact h2
 ·exfalso
  apply h
  unfold precP
  repeat rw [if_neg (by intro e; subst e; simp at h2)]
theorem showE_len : ∀ (N : Nat) (x : Ex), x.amt ≤ N → goodE x = true → (showE x).length ≤ 90 * x.amt
 | 0, x, h, _ => by cases x; simp only [Ex.amt] at h; omega
 | N + 1, ⟨k, o, m, t, n, l⟩, hN, hg => by
  simp only [Ex.amt] at hN ⊢
  simp only [goodE, Bool.and_eq_true] at hg
  obtain ⟨hh, hgl⟩ := hg
  have hh2 := hh
  simp only [showE, showEs_map]
  unfold fmtE
  rcases headE_n hh with ⟨rfl, h0, h1, h2⟩ | ⟨rfl, h0, h1⟩ | ⟨rfl, h0⟩ | ⟨rfl, h0⟩ | ⟨rfl, h0⟩ | ⟨rfl, h0⟩
  ·have := itoa_len (n := n) (by omega) (by omega)
   simp only [if_true]
   omega
  ·have := quoteB_len t
   simp only [show ¬ (2 : Int) = 1 by decide, if_false, if_true]
   omega
  ·have : m.length ≤ 16 := by
    simp [headE] at hh2
    exact word_len hh2.1
   simp only [show ¬ (3 : Int) = 1 by decide, show ¬ (3 : Int) = 2 by decide, if_false, if_true]
   omega
  ·match l, h0 with
   | [x], _ =>
   simp only [goodEs, Bool.and_true] at hgl
   simp only [Ex.amts] at hN ⊢
   have := showE_len N x (by omega) hgl
   simp only [show ¬ (4 : Int) = 1 by decide, show ¬ (4 : Int) = 2 by decide, show ¬ (4 : Int) = 3 by decide, if_false, if_true, List.map_cons, len1, List.length_append, List.length_cons, List.length_nil]
   omega
  ·match l, h0 with
   | [x], _ =>
   simp only [goodEs, Bool.and_true] at hgl
   simp only [Ex.amts] at hN ⊢
   have h1 := showE_len N x (by omega) hgl
   have h2 := opdB_len x (showE x) 7
   have h3 : o.length = 1 := by
    simp [headE] at hh2
    rcases hh2.1 with rfl | rfl <;> rfl
   simp only [show ¬ (5 : Int) = 1 by decide, show ¬ (5 : Int) = 2 by decide, show ¬ (5 : Int) = 3 by decide, show ¬ (5 : Int) = 4 by decide, if_false, if_true, List.map_cons, un1, List.length_append]
   omega
  ·match l, h0 with
   | [x, y], _ =>
   simp only [goodEs, Bool.and_true, Bool.and_eq_true] at hgl
   simp only [Ex.amts] at hN ⊢
   have h1 := showE_len N x (by omega) hgl.1
   have h1' := showE_len N y (by omega) hgl.2
   have h2 := opdB_len x (showE x) (precP o)
   have h2' := opdB_len y (showE y) (precP o + 1)
   have h3 : o.length ≤ 2 := by
    simp [headE] at hh2
    exact precP_len hh2.1
   simp only [show ¬ (6 : Int) = 1 by decide, show ¬ (6 : Int) = 2 by decide, show ¬ (6 : Int) = 3 by decide, show ¬ (6 : Int) = 4 by decide, show ¬ (6 : Int) = 5 by decide, if_false, List.map_cons, bin2, List.length_append, List.length_cons, List.length_nil]
   omega
theorem line_len (d : Nat) (ps : List Bs) : (lineB d ps).length = d + ps.flatten.length + 1 := by simp only [lineB, List.length_append, List.length_replicate, List.length_cons, List.length_nil]
theorem showE_le {x : Ex} (h : goodE x = true) : (showE x).length ≤ 90 * x.amt := showE_len _ x (Nat.le_refl _) h
theorem pr_len : ∀ (N : Nat), (∀ (x : Sm) (d : Nat) (hd : Bs), x.amt ≤ N → goodS x = true → d + depS x ≤ 20 → hd.length ≤ 10 → (Sm.pr d hd x).length ≤ 250 * x.amt) ∧ (∀ (l : List Sm) (d : Nat), Sm.amts l ≤ N → goodSs l = true → d + depSs l ≤ 20 → (Sm.prs d l).length ≤ 250 * Sm.amts l)
 | 0 => ⟨fun x d hd h => by cases x; simp only [Sm.amt] at h; omega, fun l d h hg hd => by
   cases l with
   | nil => simp [Sm.prs]
   | cons x l => cases x; simp only [Sm.amts, Sm.amt] at h; omega⟩
 | N + 1 => by
  obtain ⟨i1, i2⟩ := pr_len N
  have key : ∀ (x : Sm) (d : Nat) (hd : Bs), x.amt ≤ N + 1 → goodS x = true → d + depS x ≤ 20 → hd.length ≤ 10 → (Sm.pr d hd x).length ≤ 250 * x.amt := by
   rintro ⟨k, m, x, t, a, b⟩ d hd hN hg hdp hhd
   simp only [Sm.amt] at hN ⊢
   simp only [goodS, Bool.and_eq_true] at hg
   obtain ⟨hh, hgx, hga, hgb⟩ := hg
   simp only [depS] at hdp
   have hx := showE_le hgx
   have hdx : 1 ≤ depE x := by cases x; simp only [depE]; omega
   rcases headS_n hh with ⟨rfl, rfl, h2, h3⟩ | ⟨rfl, rfl, rfl⟩ | ⟨rfl, rfl, h1, h2, h3⟩
   ·have hm : m.length ≤ 16 := by
     simp [headS] at hh
     exact word_len hh.1
    simp only [Sm.pr, if_true, line_len, List.flatten_cons, List.flatten_nil, List.length_append, List.length_cons, List.length_nil]
    omega
   ·have ha := i2 a (d + 1) (by omega) hga (by omega)
    simp only [Sm.pr, show ¬ (2 : Int) = 1 by decide, show ¬ (2 : Int) = 3 by decide, if_false, line_len, List.flatten_cons, List.flatten_nil, List.length_append, List.length_cons, List.length_nil]
    have hb : (if isElif b = true then Sm.elif d b else (if b.isEmpty = true then [] else lineB d [[125, 32, 101, 108, 115, 101, 32, 123]] ++ Sm.prs (d + 1) b) ++ lineB d [[125]]).length ≤ 250 * Sm.amts b + 60 := by
     cases hel : isElif b with
     | true =>
      match b, hel, hgb, hN, hdp with
      | [y], hel, hgb, hN, hdp =>
      simp only [goodSs, Bool.and_true] at hgb
      simp only [Sm.amts] at hN ⊢
      simp only [depSs] at hdp
      simp only [if_true, Sm.elif]
      have := i1 y d [125, 32, 101, 108, 115, 101, 32, 105, 102, 32] (by omega) hgb (by omega) (by decide)
      omega
     | false =>
      simp only [Bool.false_eq_true, if_false]
      cases hem : b.isEmpty with
      | true =>
       simp only [if_true, List.nil_append, line_len, List.flatten_cons, List.flatten_nil, List.length_append, List.length_cons, List.length_nil]
       omega
      | false =>
       have hb2 := i2 b (d + 1) (by omega) hgb (by omega)
       simp only [Bool.false_eq_true, if_false, line_len, List.flatten_cons, List.flatten_nil, List.length_append, List.length_cons, List.length_nil]
       omega
    omega
   ·have ha := i2 a (d + 1) (by omega) hga (by omega)
    have hi := itoa_len (n := t) (by omega) (by omega)
    simp only [Sm.pr, show ¬ (3 : Int) = 1 by decide, if_false, if_true, line_len, List.flatten_cons, List.flatten_nil, List.length_append, List.length_cons, List.length_nil]
    omega
  have keyL : ∀ (l : List Sm) (d : Nat), Sm.amts l ≤ N + 1 → goodSs l = true → d + depSs l ≤ 20 → (Sm.prs d l).length ≤ 250 * Sm.amts l := by
   intro l
   induction l with
   | nil => intro d _ _ _; simp [Sm.prs]
   | cons x l ih =>
    intro d hN hg hdp
    simp only [Sm.amts] at hN ⊢
    simp only [goodSs, Bool.and_eq_true] at hg
    simp only [depSs] at hdp
    have h1 := key x d [105, 102, 32] (by omega) hg.1 (by omega) (by decide)
    have h2 := ih d (by omega) hg.2 (by omega)
    simp only [Sm.prs, List.length_append]
    omega
  exact ⟨key, keyL⟩
theorem flat_bound {α : Type} (f : α → Bs) (B : Nat) : ∀ l : List α, (∀ x ∈ l, (f x).length ≤ B) → ((l.map f).flatten).length ≤ B * l.length
 | [], _ => by simp
 | x :: l, h => by
  have h1 := h x (by simp)
  have h2 := flat_bound f B l fun y hy => h y (List.mem_cons_of_mem _ hy)
  simp only [List.map_cons, List.flatten_cons, List.length_append, List.length_cons, Nat.mul_add]
  omega
theorem join_bound (sep : Bs) (B : Nat) (l : List Bs) (h : ∀ x ∈ l, x.length ≤ B) : (Lib.join l sep).length ≤ (B + sep.length) * l.length := by
 cases l with
 | nil => simp [Lib.join_nil]
 | cons x r =>
  rw [Lib.join_length]
  have : ∀ l : List Bs, (∀ x ∈ l, x.length ≤ B) → Lib.lens l ≤ B * l.length := by
   intro l
   induction l with
   | nil => intro _; simp [Lib.lens]
   | cons y l ih =>
    intro h
    have h1 := h y (by simp)
    have h2 := ih fun z hz => h z (List.mem_cons_of_mem _ hz)
    simp only [Lib.lens, List.length_cons, Nat.mul_add, List.map_cons, List.sum_cons] at h2 ⊢
    omega
  have h1 := this (x :: r) h
  have h2 : sep.length * r.length ≤ sep.length * (x :: r).length := Nat.mul_le_mul_left _ (by simp)
  rw [Nat.add_mul]
  omega
theorem depSs_of {l : List Sm} {k : Nat} (h : l.all (fun x => decide (depS x ≤ k)) = true) : depSs l ≤ k := by
 induction l with
 | nil => simp [depSs]
 | cons x l ih =>
  simp only [List.all_cons, Bool.and_eq_true, decide_eq_true_eq] at h
  simp only [depSs]
  have := ih h.2
  omega
theorem pathB_len {s : Bs} (h : pathB s = true) : s.length ≤ 50 := by
 simp only [pathB, Bool.and_eq_true, decide_eq_true_eq] at h
 exact h.1
theorem hanB_len {h : Ha} (hg : goodH h = true) (ha : Sm.amts h.body ≤ 10000) : (hanB h).length ≤ 3000000 := by
 obtain ⟨g1, g2⟩ := goodH_n hg
 simp only [goodH, Bool.and_eq_true] at hg
 obtain ⟨k1, k2, _, k3, _, k4⟩ := hg
 have h1 := pathB_len k1
 have h2 := word_len k2
 have h3 := join_bound [44, 32] 16 h.ps fun x hx => word_len (List.all_eq_true.1 k3 x hx)
 have h3' : (16 + ([44, 32] : Bs).length) * h.ps.length ≤ 18 * 4 := Nat.mul_le_mul_left 18 g2
 have h4 := (pr_len 10000).2 h.body 2 ha g1 (by have := depSs_of k4; omega)
 simp only [hanB, line_len, List.flatten_cons, List.flatten_nil, List.length_append, List.length_cons, List.length_nil] at *
 omega
theorem offB_len {o : Off} (hg : goodO o = true) (ha : Ex.amts o.args ≤ 10000 ∧ Ex.amts o.whn ≤ 10000) : (offB o).length ≤ 5000000 := by
 obtain ⟨g1, g2, g3⟩ := goodO_n hg
 simp only [goodO, Bool.and_eq_true, decide_eq_true_eq] at hg
 obtain ⟨k1, k2, k3, _⟩ := hg
 have h1 := pathB_len k1
 have h2 := word_len k2
 have h3 := join_bound [44, 32] 900000 (o.args.map showE) fun x hx => by
  obtain ⟨y, hy, rfl⟩ := List.mem_map.1 hx
  have := showE_le (List.all_eq_true.1 g1 y hy)
  have := Ex.mem_le hy
  omega
 have h3' : (900000 + ([44, 32] : Bs).length) * (o.args.map showE).length ≤ 900002 * 4 := Nat.mul_le_mul_left 900002 (by rw [List.length_map]; exact k3)
 have h4 : (whenB o.whn).length ≤ 900010 := by
  cases hw : o.whn with
  | nil => simp [whenB]
  | cons w ws =>
   rw [hw] at g2 ha
   simp only [List.all_cons, Bool.and_eq_true] at g2
   simp only [Ex.amts] at ha
   have := showE_le g2.1
   simp only [whenB, List.length_append, List.length_cons, List.length_nil]
   omega
 simp only [offB, line_len, List.flatten_cons, List.flatten_nil, List.length_append, List.length_cons, List.length_nil] at *
 omega
theorem varB_len {v : Vr} (hg : goodV v = true) : (varB v).length ≤ 1000 := by
 obtain ⟨g1, g2, g3, g4, g5, g6⟩ := goodV_n hg
 have h1 := itoa_len g1 g2
 have h2 := itoa_len g3 g4
 have h3 : v.name.length ≤ 16 := by
  simp only [goodV, Bool.and_eq_true] at hg
  exact word_len hg.1
 have h4 : (initB v.ik v.n v.s).length ≤ 100 := by
  unfold initB
  split
  ·have := quoteB_len v.s; omega
  ·have := itoa_len (g5 ‹_›).1 (g5 ‹_›).2; omega
 have h5 : (if v.sk = 2 then ([116, 101, 120, 116, 32] : Bs) else [105, 110, 116, 32]).length ≤ 5 := by split <;> simp
 simp only [varB, line_len, List.flatten_cons, List.flatten_nil, List.length_append, List.length_cons, List.length_nil] at *
 omega
def partsB (x : Sv) : Bool := isWordB x.name && (isWordB x.role && (isWordB x.proto && (decide (x.vars.length ≤ 12) && (decide (x.hs.length ≤ 40) && decide (x.os.length ≤ 40)))))
def allB (x : Sv) : Bool := x.vars.all goodV && (x.hs.all goodH && x.os.all goodO)
def goodSv (x : Sv) : Bool := partsB x && (allB x && decide ((canonB x).length ≤ 8000))
structure SvB (x : Sv) : Prop where
 ha : ∀ h ∈ x.hs, Sm.amts h.body ≤ 10000
 hp : ∀ h ∈ x.hs, h.ps.length ≤ 1000000
 oa : ∀ o ∈ x.os, Ex.amts o.args ≤ 10000 ∧ Ex.amts o.whn ≤ 10000
 nv : x.vars.length ≤ 1000000
 nh : x.hs.length ≤ 1000000
 no : x.os.length ≤ 1000000
theorem svP_of {x : Sv} (hb : SvB x) (h1 : partsB x = true) (h2 : allB x = true) : SvP x := by
 simp only [partsB, Bool.and_eq_true, decide_eq_true_eq] at h1
 simp only [allB, Bool.and_eq_true] at h2
 obtain ⟨k1, k2, k3, k4, k5, k6⟩ := h1
 obtain ⟨g1, g2, g3⟩ := h2
 refine ⟨g1, g2, g3, fun h hm => by have := hb.ha h hm; omega, fun o hm => by have := hb.oa o hm; omega, hb.nv, hb.nh, hb.no, ?_⟩
 have e1 := word_len k1
 have e2 := word_len k2
 have e3 := word_len k3
 have e4 := flat_bound varB 1000 x.vars fun v hv => varB_len (List.all_eq_true.1 g1 v hv)
 have e5 := flat_bound hanB 3000000 x.hs fun v hv => hanB_len (List.all_eq_true.1 g2 v hv) (hb.ha v hv)
 have e6 := flat_bound offB 5000000 x.os fun v hv => offB_len (List.all_eq_true.1 g3 v hv) (hb.oa v hv)
 simp only [canonB, line_len, List.flatten_cons, List.flatten_nil, List.length_append, List.length_cons, List.length_nil]
 omega
end Go.Aw
