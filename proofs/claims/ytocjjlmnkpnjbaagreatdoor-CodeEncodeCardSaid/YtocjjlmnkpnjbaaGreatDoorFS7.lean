/- Part of a proof; own work. -/
import Derived.Test.YtocjjlmnkpnjbaaGreatDoorFS6
namespace Go.Aw.T.N
open Go Go.Aw Go.Proofs Go.RowKit
set_option maxRecDepth 100000
attribute [local irreducible] Go.Aw.J Go.Aw.DJ Go.Aw.FC
attribute [local go_sem] wrap64 wrapu64 wrapu8 nnif decide_true decide_false dst gst gv_b gv_u jst jpop bdL bdB bdT bdO AV.bd tfL AV.tf o_mv o_pick o_nilck o_build o_load o_loadD o_faddr o_field o_iaddr o_iaddrA o_idxA o_idxS o_bin o_binB o_eqA o_not o_pnil o_neg o_conv o_lenS o_len o_lenA o_minmax o_slS o_slV o_extract o_mkfn o_mkfnB o_convS o_convBS o_mkif o_isnil o_bslice o_box o_alloc o_store o_storeD o_bsliceO o_bsliceM cpv cev_t cev_c Env.get put_some' put_none' of_setB of_addB of_setT of_addT of_upd of_blk of_tok of_nb of_nt of_new rmB rmT rmBs rmTs renB renT apB apT lkB lkT getD_0 getD_s renL AV.ren crange_if cstB_if one_nilS one_pnil oc_nil oc_pnil cbin binInt shInt binStr binBool cbuild_nil cbuild_cons cidx_if AV.cells AV.okc AV.flat flatL flatR setRange minmaxAV AV.one AV.ofCells eqCells eqCell slRows initEnv initFrom cres cresv cresL cond_true cond_false beq_self_eq_true Bool.not_true Bool.not_false beq_true beq_false eq_self if_true Option.some.injEq List.length_cons List.length_nil List.take_succ_cons List.take_zero List.drop_succ_cons List.drop_zero List.set_cons_succ List.set_cons_zero List.nil_append List.cons_append List.append_nil and_self Option.map_some Option.map_none List.map_cons List.map_nil Bool.false_eq_true if_false Nat.zero_add Nat.add_zero true_and and_true Bool.and_true Bool.true_and List.getElem?_cons_zero List.getElem?_cons_succ Nat.zero_le Nat.le_refl List.all_cons List.all_nil List.flatten_cons List.flatten_nil crows crowsOk List.filter_cons List.filter_nil List.contains_cons List.contains_nil Bool.or_false Bool.or_true Bool.false_or Bool.true_or
set_option linter.unusedSimpArgs false
set_option linter.unusedVariables false
theorem mo : Tryz.prog.follows .mixedOrders = true := by kernel_rfl
def brow (b : Nat) : List AV := [.int .u8 (b : Int)]
theorem fl_brow (l : List Nat) : flatR (l.map brow) = true := flatR_map (fun _ => rfl) l
abbrev rdC (bs : List Nat) (pos : Int) (bad : Bool) : List AV := [.own 0 1 (bs.map brow), .int .i64 pos, .bool bad]
abbrev rd0 (bs : List Nat) (pos : Nat) (bad : Bool) : CS := CS.of 1 1 [(0, 139, rdC bs pos bad)] []
def nxP (bs : List Nat) (pos n : Nat) : AV × Nat × Bool := if pos + n ≤ bs.length then (.vs 1 (((bs.take (pos + n)).drop pos).map brow), pos + n, false) else (.nilS, pos, true)
theorem q129 (bs : List Nat) (pos n : Nat) (hr : bs.length ≤ 1000000) (hn : n ≤ 1000000) (hp : pos ≤ bs.length) :
  FC Tryz.prog 129 [.ptr 0 0, .int .i64 n] (rd0 bs pos false) (Ro (nxP bs pos n).1 [(0, 139, rdC bs (nxP bs pos n).2.1 (nxP bs pos n).2.2)] []) := by
 refine FC.intro mo Tryz.func129 c129 ?_
 unfold e129 r129
 simp(disch:=omega)only[go_sem,simprocAttr]
 (repeat' first|(apply DJ.s rfl;(· simp(disch:=omega)only[go_sem,simprocAttr,List.length_map]<;>with_reducible rfl))|(apply J.s true true;(· simp(disch:=omega)only[go_sem,simprocAttr,List.length_map]<;>with_reducible rfl))|apply DJ.nil|(refine J.reg0 ?_)|(apply DJ.gw;(· simp(disch:=omega)only[go_sem,simprocAttr,List.length_map]<;>with_reducible rfl))|(apply DJ.gz;(· rfl);(· simp(disch:=omega)only[go_sem,simprocAttr,List.length_map]<;>with_reducible rfl))|(apply DJ.gs;(· simp(disch:=omega)only[go_sem,simprocAttr,List.length_map]<;>with_reducible rfl))|((first|apply DJ.ixm|apply DJ.ixom|apply DJ.ixsm);(· simp(disch:=omega)only[go_sem,simprocAttr,List.length_map]<;>with_reducible rfl);(· simp(disch:=omega)only[go_sem,simprocAttr,List.length_map]<;>with_reducible rfl);(· assumption);(· omega))|intro h|(apply J.cond;(· simp(disch:=omega)only[go_sem,simprocAttr,List.length_map]<;>with_reducible rfl)))
 ·have e : ¬ pos + n ≤ bs.length := by simp at h; omega
  first|refine D.R ?_|refine D.E ?_
  unfold nxP
  rw [if_neg e]
  exact ⟨rfl, ⟨rfl, trivial⟩, trivial⟩
 ·have e : pos + n ≤ bs.length := by simp at h; omega
  (apply DJ.slv2 (pos) (pos + n);(· simp(disch:=omega)only[go_sem,simprocAttr]<;>with_reducible rfl);(· simp(disch:=omega)only[go_sem,simprocAttr]<;>with_reducible rfl);(· simp(disch:=omega)only[go_sem,simprocAttr]<;>with_reducible rfl);(· omega);(· omega);(· omega);(· (try simp only [List.length_map]);omega))
  (repeat' first|refine D.S ?_|refine D.JJ true true ?_|refine DJ.nil ?_|refine J.reg0 ?_|refine D.W ?_|refine D.Z ?_|refine D.G ?_ ?_|refine D.X ‹_› ?_|refine D.XO ‹_› ?_|refine D.XS ‹_› ?_|intro h)
  first|refine D.R ?_|refine D.E ?_
  unfold nxP
  rw [if_pos e]
  exact ⟨by rw [List.map_drop, List.map_take], ⟨by simp only [Int.natCast_add]; rfl, trivial⟩, trivial⟩
end Go.Aw.T.N
namespace Go.Aw.T.N
open Go Go.Aw Go.Proofs Go.RowKit
set_option maxRecDepth 100000
attribute [local irreducible] Go.Aw.J Go.Aw.DJ Go.Aw.FC
attribute [local go_sem] wrap64 wrapu64 wrapu8 nnif decide_true decide_false dst gst gv_b gv_u jst jpop bdL bdB bdT bdO AV.bd tfL AV.tf o_mv o_pick o_nilck o_build o_load o_loadD o_faddr o_field o_iaddr o_iaddrA o_idxA o_idxS o_bin o_binB o_eqA o_not o_pnil o_neg o_conv o_lenS o_len o_lenA o_minmax o_slS o_slV o_extract o_mkfn o_mkfnB o_convS o_convBS o_mkif o_isnil o_bslice o_box o_alloc o_store o_storeD o_bsliceO o_bsliceM cpv cev_t cev_c Env.get put_some' put_none' of_setB of_addB of_setT of_addT of_upd of_blk of_tok of_nb of_nt of_new rmB rmT rmBs rmTs renB renT apB apT lkB lkT getD_0 getD_s renL AV.ren crange_if cstB_if one_nilS one_pnil oc_nil oc_pnil cbin binInt shInt binStr binBool cbuild_nil cbuild_cons cidx_if AV.cells AV.okc AV.flat flatL flatR setRange minmaxAV AV.one AV.ofCells eqCells eqCell slRows initEnv initFrom cres cresv cresL cond_true cond_false beq_self_eq_true Bool.not_true Bool.not_false beq_true beq_false eq_self if_true Option.some.injEq List.length_cons List.length_nil List.take_succ_cons List.take_zero List.drop_succ_cons List.drop_zero List.set_cons_succ List.set_cons_zero List.nil_append List.cons_append List.append_nil and_self Option.map_some Option.map_none List.map_cons List.map_nil Bool.false_eq_true if_false Nat.zero_add Nat.add_zero true_and and_true Bool.and_true Bool.true_and List.getElem?_cons_zero List.getElem?_cons_succ Nat.zero_le Nat.le_refl List.all_cons List.all_nil List.flatten_cons List.flatten_nil crows crowsOk List.filter_cons List.filter_nil List.contains_cons List.contains_nil Bool.or_false Bool.or_true Bool.false_or Bool.true_or
set_option linter.unusedSimpArgs false
set_option linter.unusedVariables false
attribute [local go_sem] fl_brow brow
theorem take_drop_one {α : Type} {l : List α} {i : Nat} {v : α} (h : l[i]? = some v) : (l.take (i + 1)).drop i = [v] := by
 rw [List.drop_take, show i + 1 - i = 1 by omega]
 have := List.drop_eq_getElem_cons (List.getElem?_eq_some_iff.1 h).1
 rw [this]
 simp [(List.getElem?_eq_some_iff.1 h).2]
theorem nx_ok {bs : List Nat} {pos c : Nat} (h : bs[pos]? = some c) : nxP bs pos 1 = (.vs 1 [brow c], pos + 1, false) := by
 have := (List.getElem?_eq_some_iff.1 h).1
 unfold nxP
 rw [if_pos (by omega), take_drop_one h]
 rfl
theorem nx_no {bs : List Nat} {pos : Nat} (h : bs[pos]? = none) : nxP bs pos 1 = (.nilS, pos, true) := by
 have := List.getElem?_eq_none_iff.1 h
 unfold nxP
 rw [if_neg (by omega)]
def dig (i c : Nat) : Nat := (if i = 9 then c % 2 else c % 128) * 2 ^ (7 * i)
def unz (u : Nat) : Int := if u % 2 = 1 then -((u / 2 : Nat) : Int) - 1 else ((u / 2 : Nat) : Int)
def intP (bs : List Nat) : Nat → Nat → Nat → Nat → Int × Nat × Bool
 | 0, _, pos, _ => (0, pos, true)
 | n + 1, i, pos, u => match bs[pos]? with
  | none => (0, pos, true)
  | some c => if c < 128 then (unz (u + dig i c), pos + 1, decide (c = 0 ∧ 0 < i ∨ i = 9 ∧ 1 < c)) else intP bs n (i + 1) (pos + 1) (u + dig i c)
theorem and127 : ∀ c : Fin 256, (BitVec.ofInt 8 ((c.val : Nat) : Int) &&& BitVec.ofInt 8 127).toNat = c.val % 128 := by decide +kernel
theorem and127' {c : Nat} (h : c < 256) : binInt .and .u8 (c : Int) 127 = some (.int .u8 ((c % 128 : Nat) : Int)) := by
 have := and127 ⟨c, h⟩
 show some (AV.int .u8 (IntKind.u8.wrap ((BitVec.ofInt 8 (c : Int) &&& BitVec.ofInt 8 127).toNat : Int))) = _
 rw [this, wrapu8 (by simp only; omega) (by simp only; omega)]
theorem u64w (z : Nat) : IntKind.u64.wrap (z : Int) = ((z % 18446744073709551616 : Nat) : Int) := by rw [IntKind.wrap_u64]; omega
theorem ofI (z : Nat) : (BitVec.ofInt 64 (z : Int)).toNat = z % 18446744073709551616 := by rw [BitVec.ofInt_natCast, BitVec.toNat_ofNat]
theorem digL {i : Nat} (c : Nat) (hi : i < 10) : c % 128 * 2 ^ (7 * i) % 18446744073709551616 = dig i c ∧ dig i c + 2 ^ (7 * i) ≤ 18446744073709551616 ∧ dig i c + 2 ^ (7 * i) ≤ 2 ^ (7 * (i + 1)) := by
 have : i = 0 ∨ i = 1 ∨ i = 2 ∨ i = 3 ∨ i = 4 ∨ i = 5 ∨ i = 6 ∨ i = 7 ∨ i = 8 ∨ i = 9 := by omega
 rcases this with rfl | rfl | rfl | rfl | rfl | rfl | rfl | rfl | rfl | rfl <;> simp only [dig, Nat.reduceMul, Nat.reducePow, Nat.reduceEqDiff, if_false, if_true, Nat.reduceAdd] <;> omega
theorem shL {i c : Nat} (hi : i < 10) : shInt .shl .u64 ((c % 128 : Nat) : Int) (7 * (i : Int)) = some (.int .u64 ((dig i c : Nat) : Int)) := by
 have h1 : min (7 * (i : Int)).toNat IntKind.u64.bits = 7 * i := by
  show min (7 * (i : Int)).toNat 64 = 7 * i
  omega
 simp only [shInt]
 rw [if_pos (by omega), h1, show (((c % 128 : Nat) : Int) * 2 ^ (7 * i)) = ((c % 128 * 2 ^ (7 * i) : Nat) : Int) by simp, u64w, (digL c hi).1]
theorem orL {u i c : Nat} (hi : i < 10) (hu : u < 2 ^ (7 * i)) : binInt .or .u64 (u : Int) (dig i c : Int) = some (.int .u64 ((u + dig i c : Nat) : Int)) ∧ u + dig i c < 2 ^ (7 * (i + 1)) ∧ u + dig i c < 18446744073709551616 := by
 obtain ⟨_, h4, h5⟩ := digL c hi
 have h8 := Nat.two_pow_pos (7 * i)
 refine ⟨?_, by omega, by omega⟩
 show some (AV.int .u64 (IntKind.u64.wrap ((BitVec.ofInt 64 (u : Int) ||| BitVec.ofInt 64 (dig i c : Int)).toNat : Int))) = _
 rw [BitVec.toNat_or, ofI, ofI, show u % 18446744073709551616 = u by omega, show dig i c % 18446744073709551616 = dig i c by omega]
 have h7 : u ||| dig i c = u + dig i c := by
  unfold dig
  rw [← Nat.shiftLeft_eq, Nat.or_comm, ← Nat.shiftLeft_add_eq_or_of_lt hu, Nat.add_comm]
 rw [h7, wrapu64 (by omega) (by omega)]
theorem shr1 (U : Nat) : binInt .shr .u64 (U : Int) 1 = some (.int .u64 ((U / 2 : Nat) : Int)) := by
 show (if (0 : Int) ≤ 1 then some (AV.int .u64 ((U : Int).fdiv (2 ^ (min (1 : Int).toNat 64)))) else none) = _
 rw [if_pos (by decide), show (2 : Int) ^ (min (1 : Int).toNat 64) = 2 by decide, Int.fdiv_eq_ediv_of_nonneg _ (by decide)]
 rfl
theorem and1 (U : Nat) : binInt .and .u64 (U : Int) 1 = some (.int .u64 ((U % 2 : Nat) : Int)) := by
 show some (AV.int .u64 (IntKind.u64.wrap ((BitVec.ofInt 64 (U : Int) &&& BitVec.ofInt 64 ((1 : Nat) : Int)).toNat : Int))) = _
 rw [BitVec.toNat_and, ofI, ofI, show (1 : Nat) % 18446744073709551616 = 1 by decide, Nat.and_one_is_mod, wrapu64 (by omega) (by omega), show U % 18446744073709551616 % 2 = U % 2 by omega]
theorem xor1 {U : Nat} (h : U < 18446744073709551616) : binInt .xor .i64 ((U / 2 : Nat) : Int) (0 - ((U % 2 : Nat) : Int)) = some (.int .i64 (unz U)) := by
 show some (AV.int .i64 (IntKind.i64.wrap ((BitVec.ofInt 64 ((U / 2 : Nat) : Int) ^^^ BitVec.ofInt 64 (0 - ((U % 2 : Nat) : Int))).toNat : Int))) = _
 unfold unz
 by_cases h2 : U % 2 = 1
 ·rw [if_pos h2, h2, show BitVec.ofInt 64 (0 - ((1 : Nat) : Int)) = BitVec.allOnes 64 by decide, BitVec.xor_allOnes, BitVec.toNat_not, ofI]
  congr 2
  rw [IntKind.wrap_i64]
  omega
 ·rw [if_neg h2, show U % 2 = 0 by omega, show BitVec.ofInt 64 (0 - ((0 : Nat) : Int)) = 0#64 by decide, BitVec.xor_zero, ofI]
  congr 2
  rw [IntKind.wrap_i64]
  omega
set_option maxHeartbeats 1000000 in
theorem q99 (bs : List Nat) (pos : Nat) (hr : bs.length ≤ 1000000) (hp : pos ≤ bs.length) (hbs : ∀ b ∈ bs, b < 256) :
  FC Tryz.prog 99 [.ptr 0 0] (rd0 bs pos false) (Ro (.int .i64 (intP bs 10 0 pos 0).1) [(0, 139, rdC bs (intP bs 10 0 pos 0).2.1 (intP bs 10 0 pos 0).2.2)] []) := by
 obtain ⟨R, hR⟩ : ∃ R, R = intP bs 10 0 pos 0 := ⟨_, rfl⟩
 rw [← hR]
 refine FC.intro mo Tryz.func99 c99 ?_
 unfold e99 r99
 simp(disch:=omega)only[go_sem,simprocAttr]
 (repeat' first|refine D.S ?_|refine D.JJ true true ?_|refine DJ.nil ?_|refine J.reg0 ?_|refine D.W ?_|refine D.Z ?_|refine D.G ?_ ?_|refine D.X ‹_› ?_|refine D.XO ‹_› ?_|refine D.XS ‹_› ?_|intro h)
 refine J.loopX (X := Nat × Nat × Nat) (0, pos, 0) (fun x => [(0, .ptr 0 0), (6, .int .i64 (x.1 : Int)), (3, .int .u64 (x.2.2 : Int))]) (fun x => [(0, 139, rdC bs x.2.1 false)]) (fun _ => []) (fun x => x.1 ≤ 10 ∧ x.2.1 ≤ bs.length ∧ x.2.2 < 2 ^ (7 * x.1) ∧ intP bs (10 - x.1) x.1 x.2.1 x.2.2 = R) (fun x => 10 - x.1) ⟨by omega, hp, by show 0 < 2 ^ (7 * 0); decide, hR.symm⟩ ⟨rfl, rfl, rfl, trivial⟩ ⟨rfl, trivial⟩ trivial ?_
 rintro ⟨i, p, u⟩ ⟨h1, h2, h3, h4⟩
 simp only at h1 h2 h3 h4
 (repeat' first|refine D.S ?_|refine D.JJ true true ?_|refine DJ.nil ?_|refine J.reg0 ?_|refine D.W ?_|refine D.Z ?_|refine D.G ?_ ?_|refine D.X ‹_› ?_|refine D.XO ‹_› ?_|refine D.XS ‹_› ?_|intro h|refine D.C ?_ ?_)
 ·cases hc : bs[p]? with
  | none =>
   have q := q129 bs p 1 hr (by decide) h2
   rw [nx_no hc] at q
   refine D.F ⟨[0],[0]⟩ (q) ?_
   (repeat' first|refine D.S ?_|refine D.JJ true true ?_|refine DJ.nil ?_|refine J.reg0 ?_|refine D.W ?_|refine D.Z ?_|refine D.G ?_ ?_|refine D.X ‹_› ?_|refine D.XO ‹_› ?_|refine D.XS ‹_› ?_|intro h)
   first|refine D.R ?_|refine D.E ?_
   have e : R = (0, p, true) := by
    rw [← h4]
    have : 10 - i = (9 - i) + 1 := by simp at h; omega
    rw [this]
    simp only [intP, hc]
   rw [e]
   exact ⟨rfl, ⟨rfl, trivial⟩, trivial⟩
  | some c =>
   have q := q129 bs p 1 hr (by decide) h2
   rw [nx_ok hc] at q
   refine D.F ⟨[0],[0]⟩ (q) ?_
   have hi : i < 10 := by simp at h; omega
   have c256 := hbs c (List.mem_of_getElem? hc)
   have e1 := and127' c256
   simp(disch:=omega)only[go_sem,simprocAttr] at e1
   have e2 := shL (c := c) hi
   simp(disch:=omega)only[go_sem,simprocAttr] at e2
   have e3 := orL (c := c) hi h3
   have e4 := e3.1
   simp(disch:=omega)only[go_sem,simprocAttr] at e4
   have e0 := e3.2.2
   have e5 := shr1 (u + dig i c)
   simp(disch:=omega)only[go_sem,simprocAttr] at e5
   have e6 := and1 (u + dig i c)
   simp(disch:=omega)only[go_sem,simprocAttr] at e6
   have e7 := xor1 e0
   simp(disch:=omega)only[go_sem,simprocAttr] at e7
   have es : 10 - i = (9 - i) + 1 := by omega
   rw [es] at h4
   simp only [intP, hc] at h4
   (repeat' first|(apply DJ.s rfl;(· simp(disch:=omega)only[go_sem,simprocAttr,e1, e2, e4, e5, e6, e7]<;>with_reducible rfl))|(apply J.s true true;(· simp(disch:=omega)only[go_sem,simprocAttr,e1, e2, e4, e5, e6, e7]<;>with_reducible rfl))|apply DJ.nil|(refine J.reg0 ?_)|(apply DJ.gw;(· simp(disch:=omega)only[go_sem,simprocAttr,e1, e2, e4, e5, e6, e7]<;>with_reducible rfl))|(apply DJ.gz;(· rfl);(· simp(disch:=omega)only[go_sem,simprocAttr,e1, e2, e4, e5, e6, e7]<;>with_reducible rfl))|(apply DJ.gs;(· simp(disch:=omega)only[go_sem,simprocAttr,e1, e2, e4, e5, e6, e7]<;>with_reducible rfl))|((first|apply DJ.ixm|apply DJ.ixom|apply DJ.ixsm);(· simp(disch:=omega)only[go_sem,simprocAttr,e1, e2, e4, e5, e6, e7]<;>with_reducible rfl);(· simp(disch:=omega)only[go_sem,simprocAttr,e1, e2, e4, e5, e6, e7]<;>with_reducible rfl);(· assumption);(· omega))|intro h|(apply J.cond;(· simp(disch:=omega)only[go_sem,simprocAttr,e1, e2, e4, e5, e6, e7]<;>with_reducible rfl)))
   all_goals clear q
   rotate_right
   ·simp at h
    rw [if_neg (by omega)] at h4
    refine J.roundX (i + 1, p + 1, u + dig i c) ⟨by omega, by have := (List.getElem?_eq_some_iff.1 hc).1; simp only; omega, e3.2.1, by rw [← h4]; congr 1; omega⟩ ⟨rfl, by simp only [go_sem, Nat.reduceBEq]; rfl, rfl, trivial⟩ ⟨rfl, trivial⟩ trivial rfl rfl (by simp only; omega)
   all_goals
    simp only [decide_eq_true_eq, decide_eq_false_iff_not] at *
    first|refine D.R ?_|refine D.E ?_
    rw [if_pos (by omega)] at h4
    rw [← h4]
    refine ⟨rfl, ⟨?_, trivial⟩, trivial⟩
    simp only [of_blk, lkB, beq_self_eq_true, cond_true]
    congr 6
    refine Bool.eq_iff_iff.2 ?_
    simp only [decide_eq_true_eq, Bool.false_eq_true, true_iff, false_iff]
    omega
 ·first|refine D.R ?_|refine D.E ?_
  simp at h
  have : i = 10 := by omega
  subst this
  rw [← h4]
  exact ⟨rfl, ⟨rfl, trivial⟩, trivial⟩
abbrev rdB (bs : List Nat) (pos : Nat) (b : Bool) (n t : Nat) (bl : BL) (tl : TL) : CS := CS.of n t ((0, 139, rdC bs pos b) :: bl) tl
theorem q98 {f : FuncId} (hf : callable Tryz.prog f = true) (cap : List AV) (bs : List Nat) (pos p : Nat) (b : Bool) (v : AV) (n t : Nat) (bl : BL) (tl : TL) (hbl : rmB 0 bl = bl)
  (hc : FC Tryz.prog f cap (rdB bs pos false n t bl tl) (Rt v (rdB bs p b n t bl tl))) :
  FC Tryz.prog 98 [.ptr 0 0, .fn f cap] (rdB bs pos false n t bl tl) (Ro (bif b then .int .i64 0 else v) [(0, 139, rdC bs (bif b then pos else p : Nat) b)] []) := by
 refine FC.intro mo Tryz.func98 c98 ?_
 unfold e98 r98
 simp(disch:=omega)only[go_sem,simprocAttr]
 (repeat' first|refine D.S ?_|refine D.JJ true true ?_|refine DJ.nil ?_|refine J.reg0 ?_|refine D.W ?_|refine D.Z ?_|refine D.G ?_ ?_|refine D.X ‹_› ?_|refine D.XO ‹_› ?_|refine D.XS ‹_› ?_|intro h)
 (apply DJ.vr (hf := hf) (hc := hc);(· rfl);(· simp(disch:=omega)only[go_sem,simprocAttr]<;>with_reducible rfl);(· simp(disch:=omega)only[go_sem,simprocAttr]<;>rfl))
 simp only [put_some', put_none']
 cases b with
 | true =>
  (repeat' first|(apply DJ.s rfl;(· simp(disch:=omega)only[go_sem,simprocAttr,hbl]<;>with_reducible rfl))|(apply J.s true true;(· simp(disch:=omega)only[go_sem,simprocAttr,hbl]<;>with_reducible rfl))|apply DJ.nil|(refine J.reg0 ?_)|(apply DJ.gw;(· simp(disch:=omega)only[go_sem,simprocAttr,hbl]<;>with_reducible rfl))|(apply DJ.gz;(· rfl);(· simp(disch:=omega)only[go_sem,simprocAttr,hbl]<;>with_reducible rfl))|(apply DJ.gs;(· simp(disch:=omega)only[go_sem,simprocAttr,hbl]<;>with_reducible rfl))|((first|apply DJ.ixm|apply DJ.ixom|apply DJ.ixsm);(· simp(disch:=omega)only[go_sem,simprocAttr,hbl]<;>with_reducible rfl);(· simp(disch:=omega)only[go_sem,simprocAttr,hbl]<;>with_reducible rfl);(· assumption);(· omega))|intro h)
  first|refine D.R ?_|refine D.E ?_
  exact ⟨rfl, ⟨rfl, trivial⟩, trivial⟩
 | false =>
  (repeat' first|(apply DJ.s rfl;(· simp(disch:=omega)only[go_sem,simprocAttr,hbl]<;>with_reducible rfl))|(apply J.s true true;(· simp(disch:=omega)only[go_sem,simprocAttr,hbl]<;>with_reducible rfl))|apply DJ.nil|(refine J.reg0 ?_)|(apply DJ.gw;(· simp(disch:=omega)only[go_sem,simprocAttr,hbl]<;>with_reducible rfl))|(apply DJ.gz;(· rfl);(· simp(disch:=omega)only[go_sem,simprocAttr,hbl]<;>with_reducible rfl))|(apply DJ.gs;(· simp(disch:=omega)only[go_sem,simprocAttr,hbl]<;>with_reducible rfl))|((first|apply DJ.ixm|apply DJ.ixom|apply DJ.ixsm);(· simp(disch:=omega)only[go_sem,simprocAttr,hbl]<;>with_reducible rfl);(· simp(disch:=omega)only[go_sem,simprocAttr,hbl]<;>with_reducible rfl);(· assumption);(· omega))|intro h)
  first|refine D.R ?_|refine D.E ?_
  exact ⟨rfl, ⟨rfl, trivial⟩, trivial⟩
theorem q98z (a : AV) (bs : List Nat) (pos : Nat) (n t : Nat) (bl : BL) (tl : TL) :
  FC Tryz.prog 98 [.ptr 0 0, a] (rdB bs pos true n t bl tl) (Ro (.int .i64 0) [(0, 139, rdC bs pos true)] []) := by
 refine FC.intro mo Tryz.func98 c98 ?_
 unfold e98 r98
 simp(disch:=omega)only[go_sem,simprocAttr]
 (repeat' first|refine D.S ?_|refine D.JJ true true ?_|refine DJ.nil ?_|refine J.reg0 ?_|refine D.W ?_|refine D.Z ?_|refine D.G ?_ ?_|refine D.X ‹_› ?_|refine D.XO ‹_› ?_|refine D.XS ‹_› ?_|intro h)
 first|refine D.R ?_|refine D.E ?_
 exact ⟨rfl, ⟨rfl, trivial⟩, trivial⟩
theorem q98b {f : FuncId} (hf : callable Tryz.prog f = true) (cap : List AV) (bs : List Nat) (pos p : Nat) (b : Bool) (v : AV) (n t : Nat) (bl : BL) (tl : TL) (hbl : rmB 0 bl = bl)
  (hc : FC Tryz.prog f cap (rdB bs pos false n t bl tl) (Rt v (rdB bs p b n t bl tl))) :
  FC Tryz.prog 98 [.ptr 0 0, .fn (f + bnd) cap] (rdB bs pos false n t bl tl) (Ro (bif b then .int .i64 0 else v) [(0, 139, rdC bs (bif b then pos else p : Nat) b)] []) := by
 refine FC.intro mo Tryz.func98 c98 ?_
 unfold e98 r98
 simp(disch:=omega)only[go_sem,simprocAttr]
 (repeat' first|refine D.S ?_|refine D.JJ true true ?_|refine DJ.nil ?_|refine J.reg0 ?_|refine D.W ?_|refine D.Z ?_|refine D.G ?_ ?_|refine D.X ‹_› ?_|refine D.XO ‹_› ?_|refine D.XS ‹_› ?_|intro h)
 (apply DJ.br (hf := hf) (hc := hc);(· rfl);(· simp(disch:=omega)only[go_sem,simprocAttr]<;>with_reducible rfl);(· simp(disch:=omega)only[go_sem,simprocAttr]<;>rfl))
 simp only [put_some', put_none']
 cases b with
 | true =>
  (repeat' first|(apply DJ.s rfl;(· simp(disch:=omega)only[go_sem,simprocAttr,hbl]<;>with_reducible rfl))|(apply J.s true true;(· simp(disch:=omega)only[go_sem,simprocAttr,hbl]<;>with_reducible rfl))|apply DJ.nil|(refine J.reg0 ?_)|(apply DJ.gw;(· simp(disch:=omega)only[go_sem,simprocAttr,hbl]<;>with_reducible rfl))|(apply DJ.gz;(· rfl);(· simp(disch:=omega)only[go_sem,simprocAttr,hbl]<;>with_reducible rfl))|(apply DJ.gs;(· simp(disch:=omega)only[go_sem,simprocAttr,hbl]<;>with_reducible rfl))|((first|apply DJ.ixm|apply DJ.ixom|apply DJ.ixsm);(· simp(disch:=omega)only[go_sem,simprocAttr,hbl]<;>with_reducible rfl);(· simp(disch:=omega)only[go_sem,simprocAttr,hbl]<;>with_reducible rfl);(· assumption);(· omega))|intro h)
  first|refine D.R ?_|refine D.E ?_
  exact ⟨rfl, ⟨rfl, trivial⟩, trivial⟩
 | false =>
  (repeat' first|(apply DJ.s rfl;(· simp(disch:=omega)only[go_sem,simprocAttr,hbl]<;>with_reducible rfl))|(apply J.s true true;(· simp(disch:=omega)only[go_sem,simprocAttr,hbl]<;>with_reducible rfl))|apply DJ.nil|(refine J.reg0 ?_)|(apply DJ.gw;(· simp(disch:=omega)only[go_sem,simprocAttr,hbl]<;>with_reducible rfl))|(apply DJ.gz;(· rfl);(· simp(disch:=omega)only[go_sem,simprocAttr,hbl]<;>with_reducible rfl))|(apply DJ.gs;(· simp(disch:=omega)only[go_sem,simprocAttr,hbl]<;>with_reducible rfl))|((first|apply DJ.ixm|apply DJ.ixom|apply DJ.ixsm);(· simp(disch:=omega)only[go_sem,simprocAttr,hbl]<;>with_reducible rfl);(· simp(disch:=omega)only[go_sem,simprocAttr,hbl]<;>with_reducible rfl);(· assumption);(· omega))|intro h)
  first|refine D.R ?_|refine D.E ?_
  exact ⟨rfl, ⟨rfl, trivial⟩, trivial⟩
theorem q126 {f : FuncId} (hf : callable Tryz.prog f = true) (cap : List AV) (bs : List Nat) (pos p : Nat) (b : Bool) (v : AV) (n t : Nat) (bl : BL) (tl : TL) (hbl : rmB 0 bl = bl)
  (hc : FC Tryz.prog f cap (rdB bs pos false n t bl tl) (Rt v (rdB bs p b n t bl tl))) :
  FC Tryz.prog 126 [.ptr 0 0, .fn f cap] (rdB bs pos false n t bl tl) (Ro (bif b then .nilS else v) [(0, 139, rdC bs (bif b then pos else p : Nat) b)] []) := by
 refine FC.intro mo Tryz.func126 c126 ?_
 unfold e126 r126
 simp(disch:=omega)only[go_sem,simprocAttr]
 (repeat' first|refine D.S ?_|refine D.JJ true true ?_|refine DJ.nil ?_|refine J.reg0 ?_|refine D.W ?_|refine D.Z ?_|refine D.G ?_ ?_|refine D.X ‹_› ?_|refine D.XO ‹_› ?_|refine D.XS ‹_› ?_|intro h)
 (apply DJ.vr (hf := hf) (hc := hc);(· rfl);(· simp(disch:=omega)only[go_sem,simprocAttr]<;>with_reducible rfl);(· simp(disch:=omega)only[go_sem,simprocAttr]<;>rfl))
 simp only [put_some', put_none']
 cases b with
 | true =>
  (repeat' first|(apply DJ.s rfl;(· simp(disch:=omega)only[go_sem,simprocAttr,hbl]<;>with_reducible rfl))|(apply J.s true true;(· simp(disch:=omega)only[go_sem,simprocAttr,hbl]<;>with_reducible rfl))|apply DJ.nil|(refine J.reg0 ?_)|(apply DJ.gw;(· simp(disch:=omega)only[go_sem,simprocAttr,hbl]<;>with_reducible rfl))|(apply DJ.gz;(· rfl);(· simp(disch:=omega)only[go_sem,simprocAttr,hbl]<;>with_reducible rfl))|(apply DJ.gs;(· simp(disch:=omega)only[go_sem,simprocAttr,hbl]<;>with_reducible rfl))|((first|apply DJ.ixm|apply DJ.ixom|apply DJ.ixsm);(· simp(disch:=omega)only[go_sem,simprocAttr,hbl]<;>with_reducible rfl);(· simp(disch:=omega)only[go_sem,simprocAttr,hbl]<;>with_reducible rfl);(· assumption);(· omega))|intro h)
  first|refine D.R ?_|refine D.E ?_
  exact ⟨rfl, ⟨rfl, trivial⟩, trivial⟩
 | false =>
  (repeat' first|(apply DJ.s rfl;(· simp(disch:=omega)only[go_sem,simprocAttr,hbl]<;>with_reducible rfl))|(apply J.s true true;(· simp(disch:=omega)only[go_sem,simprocAttr,hbl]<;>with_reducible rfl))|apply DJ.nil|(refine J.reg0 ?_)|(apply DJ.gw;(· simp(disch:=omega)only[go_sem,simprocAttr,hbl]<;>with_reducible rfl))|(apply DJ.gz;(· rfl);(· simp(disch:=omega)only[go_sem,simprocAttr,hbl]<;>with_reducible rfl))|(apply DJ.gs;(· simp(disch:=omega)only[go_sem,simprocAttr,hbl]<;>with_reducible rfl))|((first|apply DJ.ixm|apply DJ.ixom|apply DJ.ixsm);(· simp(disch:=omega)only[go_sem,simprocAttr,hbl]<;>with_reducible rfl);(· simp(disch:=omega)only[go_sem,simprocAttr,hbl]<;>with_reducible rfl);(· assumption);(· omega))|intro h)
  first|refine D.R ?_|refine D.E ?_
  exact ⟨rfl, ⟨rfl, trivial⟩, trivial⟩
theorem q126z (a : AV) (bs : List Nat) (pos : Nat) (n t : Nat) (bl : BL) (tl : TL) :
  FC Tryz.prog 126 [.ptr 0 0, a] (rdB bs pos true n t bl tl) (Ro (.nilS) [(0, 139, rdC bs pos true)] []) := by
 refine FC.intro mo Tryz.func126 c126 ?_
 unfold e126 r126
 simp(disch:=omega)only[go_sem,simprocAttr]
 (repeat' first|refine D.S ?_|refine D.JJ true true ?_|refine DJ.nil ?_|refine J.reg0 ?_|refine D.W ?_|refine D.Z ?_|refine D.G ?_ ?_|refine D.X ‹_› ?_|refine D.XO ‹_› ?_|refine D.XS ‹_› ?_|intro h)
 first|refine D.R ?_|refine D.E ?_
 exact ⟨rfl, ⟨rfl, trivial⟩, trivial⟩
abbrev z3 : List AV := [.int .i64 0, .int .i64 0, .str []]
theorem q102b {f : FuncId} (hf : callable Tryz.prog f = true) (cap : List AV) (bs : List Nat) (pos p : Nat) (b : Bool) (k m : Int) (s : List UInt8)
  (hc : FC Tryz.prog f cap (CS.of 3 1 [(2, 66, z3), (1, 66, z3), (0, 139, rdC bs pos false)] []) (Rt (.agg [.int .i64 k, .int .i64 m, .str s]) (rdB bs p b 3 1 [(2, 66, z3), (1, 66, z3)] []))) :
  FC Tryz.prog 102 [.ptr 0 0, .fn (f + bnd) cap] (rd0 bs pos false) (Ro (bif b then .agg z3 else .agg [.int .i64 k, .int .i64 m, .str s]) [(0, 139, rdC bs (bif b then pos else p : Nat) b)] []) := by
 refine FC.intro mo Tryz.func102 c102 ?_
 unfold e102 r102
 simp(disch:=omega)only[go_sem,simprocAttr]
 (repeat' first|refine D.S ?_|refine D.JJ true true ?_|refine DJ.nil ?_|refine J.reg0 ?_|refine D.W ?_|refine D.Z ?_|refine D.G ?_ ?_|refine D.X ‹_› ?_|refine D.XO ‹_› ?_|refine D.XS ‹_› ?_|intro h)
 (apply DJ.br (hf := hf) (hc := hc);(· rfl);(· simp(disch:=omega)only[go_sem,simprocAttr]<;>with_reducible rfl);(· simp(disch:=omega)only[go_sem,simprocAttr]<;>rfl))
 simp only [put_some', put_none']
 cases b with
 | true =>
  (repeat' first|refine D.S ?_|refine D.JJ true true ?_|refine DJ.nil ?_|refine J.reg0 ?_|refine D.W ?_|refine D.Z ?_|refine D.G ?_ ?_|refine D.X ‹_› ?_|refine D.XO ‹_› ?_|refine D.XS ‹_› ?_|intro h)
  first|refine D.R ?_|refine D.E ?_
  exact ⟨rfl, ⟨rfl, trivial⟩, trivial⟩
 | false =>
  (repeat' first|refine D.S ?_|refine D.JJ true true ?_|refine DJ.nil ?_|refine J.reg0 ?_|refine D.W ?_|refine D.Z ?_|refine D.G ?_ ?_|refine D.X ‹_› ?_|refine D.XO ‹_› ?_|refine D.XS ‹_› ?_|intro h)
  first|refine D.R ?_|refine D.E ?_
  exact ⟨rfl, ⟨rfl, trivial⟩, trivial⟩
theorem q102z (a : AV) (bs : List Nat) (pos : Nat) :
  FC Tryz.prog 102 [.ptr 0 0, a] (rd0 bs pos true) (Ro (.agg z3) [(0, 139, rdC bs pos true)] []) := by
 refine FC.intro mo Tryz.func102 c102 ?_
 unfold e102 r102
 simp(disch:=omega)only[go_sem,simprocAttr]
 (repeat' first|refine D.S ?_|refine D.JJ true true ?_|refine DJ.nil ?_|refine J.reg0 ?_|refine D.W ?_|refine D.Z ?_|refine D.G ?_ ?_|refine D.X ‹_› ?_|refine D.XO ‹_› ?_|refine D.XS ‹_› ?_|intro h)
 first|refine D.R ?_|refine D.E ?_
 exact ⟨rfl, ⟨rfl, trivial⟩, trivial⟩
abbrev rInt (bs : List Nat) (pos : Nat) : Int × Nat × Bool := intP bs 10 0 pos 0
def rBd (bs : List Nat) (lo hi : Int) (pos : Nat) : Int × Nat × Bool := ((rInt bs pos).1, (rInt bs pos).2.1, (rInt bs pos).2.2 || (decide ((rInt bs pos).1 < lo) || decide (hi < (rInt bs pos).1)))
def rBy (bs : List Nat) (mx : Int) (pos : Nat) : AV × Nat × Bool := bif (rBd bs 0 mx pos).2.2 then (.nilS, (rBd bs 0 mx pos).2.1, true) else nxP bs (rBd bs 0 mx pos).2.1 (rBd bs 0 mx pos).1.toNat
theorem intP_le (bs : List Nat) : ∀ n i pos u, pos ≤ bs.length → (intP bs n i pos u).2.1 ≤ bs.length ∧ pos ≤ (intP bs n i pos u).2.1
 | 0, i, pos, u, h => ⟨h, Nat.le_refl _⟩
 | n + 1, i, pos, u, h => by
  unfold intP
  cases hc : bs[pos]? with
  | none => exact ⟨h, Nat.le_refl _⟩
  | some c =>
   have := (List.getElem?_eq_some_iff.1 hc).1
   simp only
   split
   ·exact ⟨by simp only; omega, by simp only; omega⟩
   ·have := intP_le bs n (i + 1) (pos + 1) (u + dig i c) (by omega)
    exact ⟨this.1, by omega⟩
section
variable {bs : List Nat} {pos : Nat} (hr : bs.length ≤ 1000000) (hp : pos ≤ bs.length) (hbs : ∀ b ∈ bs, b < 256)
include hr hp hbs
theorem q101 (lo hi : Int) : FC Tryz.prog 101 [.ptr 0 0, .int .i64 lo, .int .i64 hi] (rd0 bs pos false) (Ro (.int .i64 (rBd bs lo hi pos).1) [(0, 139, rdC bs (rBd bs lo hi pos).2.1 (rBd bs lo hi pos).2.2)] []) := by
 refine FC.intro mo Tryz.func101 c101 ?_
 unfold e101 r101
 simp(disch:=omega)only[go_sem,simprocAttr]
 (repeat' first|refine D.S ?_|refine D.JJ true true ?_|refine DJ.nil ?_|refine J.reg0 ?_|refine D.W ?_|refine D.Z ?_|refine D.G ?_ ?_|refine D.X ‹_› ?_|refine D.XO ‹_› ?_|refine D.XS ‹_› ?_|intro h)
 refine D.F ⟨[0],[0]⟩ (q99 bs pos hr hp hbs) ?_
 have hq : rBd bs lo hi pos = ((rInt bs pos).1, (rInt bs pos).2.1, (rInt bs pos).2.2 || (decide ((rInt bs pos).1 < lo) || decide (hi < (rInt bs pos).1))) := rfl
 rw [hq]
 (repeat' first|refine D.S ?_|refine D.JJ true true ?_|refine DJ.nil ?_|refine J.reg0 ?_|refine D.W ?_|refine D.Z ?_|refine D.G ?_ ?_|refine D.X ‹_› ?_|refine D.XO ‹_› ?_|refine D.XS ‹_› ?_|intro h|refine D.C ?_ ?_)
 all_goals
  simp only [*] at *
  first|refine D.R ?_|refine D.E ?_
  exact ⟨rfl, ⟨rfl, trivial⟩, trivial⟩
theorem q128 (mx : Nat) (hm : mx ≤ 1000) : FC Tryz.prog 128 [.ptr 0 0, .int .i64 mx] (rd0 bs pos false) (Ro (rBy bs mx pos).1 [(0, 139, rdC bs (rBy bs mx pos).2.1 (rBy bs mx pos).2.2)] []) := by
 have hl := intP_le bs 10 0 pos 0 hp
 refine FC.intro mo Tryz.func128 c128 ?_
 unfold e128 r128
 simp(disch:=omega)only[go_sem,simprocAttr]
 (repeat' first|refine D.S ?_|refine D.JJ true true ?_|refine DJ.nil ?_|refine J.reg0 ?_|refine D.W ?_|refine D.Z ?_|refine D.G ?_ ?_|refine D.X ‹_› ?_|refine D.XO ‹_› ?_|refine D.XS ‹_› ?_|intro h)
 refine D.F ⟨[0],[0]⟩ (q101 hr hp hbs 0 mx) ?_
 have hq : rBy bs mx pos = bif (rBd bs 0 mx pos).2.2 then (.nilS, (rBd bs 0 mx pos).2.1, true) else nxP bs (rBd bs 0 mx pos).2.1 (rBd bs 0 mx pos).1.toNat := rfl
 cases hb : (rBd bs 0 mx pos).2.2 with
 | true =>
  rw [hq, hb, cond_true]
  (repeat' first|refine D.S ?_|refine D.JJ true true ?_|refine DJ.nil ?_|refine J.reg0 ?_|refine D.W ?_|refine D.Z ?_|refine D.G ?_ ?_|refine D.X ‹_› ?_|refine D.XO ‹_› ?_|refine D.XS ‹_› ?_|intro h)
  first|refine D.R ?_|refine D.E ?_
  exact ⟨rfl, ⟨rfl, trivial⟩, trivial⟩
 | false =>
  rw [hq, hb, cond_false]
  have h0 : 0 ≤ (rBd bs 0 mx pos).1 ∧ (rBd bs 0 mx pos).1 ≤ mx := by
   simp only [rBd, Bool.or_eq_false_iff, decide_eq_false_iff_not] at hb ⊢
   omega
  obtain ⟨k, hk⟩ : ∃ k : Nat, (rBd bs 0 mx pos).1 = k := ⟨_, (Int.toNat_of_nonneg h0.1).symm⟩
  rw [hk] at h0 ⊢
  have q := q129 bs (rBd bs 0 mx pos).2.1 k hr (by omega) hl.1
  rw [Int.toNat_natCast]
  (repeat' first|refine D.S ?_|refine D.JJ true true ?_|refine DJ.nil ?_|refine J.reg0 ?_|refine D.W ?_|refine D.Z ?_|refine D.G ?_ ?_|refine D.X ‹_› ?_|refine D.XO ‹_› ?_|refine D.XS ‹_› ?_|intro h)
  have hf : (nxP bs (rBd bs 0 mx pos).2.1 k).1.ren ⟨[0], [0]⟩ = (nxP bs (rBd bs 0 mx pos).2.1 k).1 := by unfold nxP; split <;> rfl
  have hd : (nxP bs (rBd bs 0 mx pos).2.1 k).1.bd 1 1 = true := by unfold nxP; split <;> simp only [AV.bd, fl_brow]
  (apply DJ.fr ⟨[0],[0]⟩ (q);(· simp(disch:=omega)only[go_sem,simprocAttr,hd]<;>rfl);(· repeat first|exact trivial|refine ⟨rfl,?_⟩);(· repeat first|exact trivial|refine ⟨rfl,?_⟩);(· simp(disch:=omega)only[go_sem,simprocAttr,hd]<;>rfl))
  simp(disch:=omega)only[go_sem,simprocAttr,hd]
  rw [hf]
  (repeat' first|refine D.S ?_|refine D.JJ true true ?_|refine DJ.nil ?_|refine J.reg0 ?_|refine D.W ?_|refine D.Z ?_|refine D.G ?_ ?_|refine D.X ‹_› ?_|refine D.XO ‹_› ?_|refine D.XS ‹_› ?_|intro h)
  first|refine D.R ?_|refine D.E ?_
  exact ⟨rfl, ⟨rfl, trivial⟩, trivial⟩
end
end Go.Aw.T.N
namespace Go.Aw.T.N
open Go Go.Aw Go.Proofs Go.RowKit
set_option maxRecDepth 100000
attribute [local irreducible] Go.Aw.J Go.Aw.DJ Go.Aw.FC
attribute [local go_sem] wrap64 wrapu64 wrapu8 nnif decide_true decide_false dst gst gv_b gv_u jst jpop bdL bdB bdT bdO AV.bd tfL AV.tf o_mv o_pick o_nilck o_build o_load o_loadD o_faddr o_field o_iaddr o_iaddrA o_idxA o_idxS o_bin o_binB o_eqA o_not o_pnil o_neg o_conv o_lenS o_len o_lenA o_minmax o_slS o_slV o_extract o_mkfn o_mkfnB o_convS o_convBS o_mkif o_isnil o_bslice o_box o_alloc o_store o_storeD o_bsliceO o_bsliceM cpv cev_t cev_c Env.get put_some' put_none' of_setB of_addB of_setT of_addT of_upd of_blk of_tok of_nb of_nt of_new rmB rmT rmBs rmTs renB renT apB apT lkB lkT getD_0 getD_s renL AV.ren crange_if cstB_if one_nilS one_pnil oc_nil oc_pnil cbin binInt shInt binStr binBool cbuild_nil cbuild_cons cidx_if AV.cells AV.okc AV.flat flatL flatR setRange minmaxAV AV.one AV.ofCells eqCells eqCell slRows initEnv initFrom cres cresv cresL cond_true cond_false beq_self_eq_true Bool.not_true Bool.not_false beq_true beq_false eq_self if_true Option.some.injEq List.length_cons List.length_nil List.take_succ_cons List.take_zero List.drop_succ_cons List.drop_zero List.set_cons_succ List.set_cons_zero List.nil_append List.cons_append List.append_nil and_self Option.map_some Option.map_none List.map_cons List.map_nil Bool.false_eq_true if_false Nat.zero_add Nat.add_zero true_and and_true Bool.and_true Bool.true_and List.getElem?_cons_zero List.getElem?_cons_succ Nat.zero_le Nat.le_refl List.all_cons List.all_nil List.flatten_cons List.flatten_nil crows crowsOk List.filter_cons List.filter_nil List.contains_cons List.contains_nil Bool.or_false Bool.or_true Bool.false_or Bool.true_or
set_option linter.unusedSimpArgs false
set_option linter.unusedVariables false
set_option linter.unusedSectionVars false
attribute [local go_sem] fl_brow brow
theorem cal98 : callable Tryz.prog 99 = true ∧ callable Tryz.prog 100 = true ∧ callable Tryz.prog 127 = true ∧ callable Tryz.prog 103 = true := by refine ⟨?_, ?_, ?_, ?_⟩ <;> kernel_rfl
def prt {α : Type} (z : α) (pos : Nat) (bad : Bool) (r : α × Nat × Bool) : α × Nat × Bool := bif bad then (z, pos, true) else bif r.2.2 then (z, pos, true) else r
def mInt (bs : List Nat) (pos : Nat) (bad : Bool) : Int × Nat × Bool := prt 0 pos bad (rInt bs pos)
def mBd (bs : List Nat) (lo hi : Int) (pos : Nat) (bad : Bool) : Int × Nat × Bool := prt 0 pos bad (rBd bs lo hi pos)
theorem byteRows_brow : ∀ (l : List Nat), byteRows (l.map brow) = some (l.map fun b => UInt8.ofNat b)
 | [] => rfl
 | b :: l => by
  have := byteRows_brow l
  show (match byteRows (l.map brow) with | some l => some (UInt8.ofNat ((b : Int).toNat) :: l) | none => none) = _
  rw [this, Int.toNat_natCast]
  rfl
section
variable {bs : List Nat} {pos : Nat} (hr : bs.length ≤ 1000000) (hp : pos ≤ bs.length) (hbs : ∀ b ∈ bs, b < 256)
include hr hp hbs
theorem q62 (bad : Bool) : FC Tryz.prog 62 [.ptr 0 0] (rd0 bs pos bad) (Ro (.int .i64 (mInt bs pos bad).1) [(0, 139, rdC bs (mInt bs pos bad).2.1 (mInt bs pos bad).2.2)] []) := by
 have q := q99 bs pos hr hp hbs
 rw [show intP bs 10 0 pos 0 = rInt bs pos from rfl] at q
 unfold mInt
 generalize rInt bs pos = r at *
 obtain ⟨n, p, b⟩ := r
 try simp only at q
 refine FC.intro mo Tryz.func62 c62 ?_
 unfold e62 r62
 simp(disch:=omega)only[go_sem,simprocAttr]
 (repeat' first|refine D.S ?_|refine D.JJ true true ?_|refine DJ.nil ?_|refine J.reg0 ?_|refine D.W ?_|refine D.Z ?_|refine D.G ?_ ?_|refine D.X ‹_› ?_|refine D.XO ‹_› ?_|refine D.XS ‹_› ?_|intro h)
 cases bad with
 | true =>
  refine D.F ⟨[0],[0]⟩ (q98z (.fn (99 + bnd) [.ptr 0 0]) bs pos 1 1 [] []) ?_
  (repeat' first|refine D.S ?_|refine D.JJ true true ?_|refine DJ.nil ?_|refine J.reg0 ?_|refine D.W ?_|refine D.Z ?_|refine D.G ?_ ?_|refine D.X ‹_› ?_|refine D.XO ‹_› ?_|refine D.XS ‹_› ?_|intro h)
  first|refine D.R ?_|refine D.E ?_
  exact ⟨rfl, ⟨rfl, trivial⟩, trivial⟩
 | false =>
  have hc := FC.fr (c := rd0 bs pos false) (p := ⟨[0],[0]⟩) (q) rfl rfl rfl (by repeat first|exact trivial|refine ⟨rfl,?_⟩) (by repeat first|exact trivial|refine ⟨rfl,?_⟩) (by simp(disch:=omega)only[go_sem,simprocAttr]<;>rfl) (by simp(disch:=omega)only[go_sem,simprocAttr]<;>rfl) rfl
  simp(disch:=omega)only[go_sem,simprocAttr] at hc
  cases b
  all_goals
   refine D.F ⟨[0],[0]⟩ (q98b (cal98.1) [.ptr 0 0] bs pos _ _ _ 1 1 [] [] rfl hc) ?_
   (repeat' first|refine D.S ?_|refine D.JJ true true ?_|refine DJ.nil ?_|refine J.reg0 ?_|refine D.W ?_|refine D.Z ?_|refine D.G ?_ ?_|refine D.X ‹_› ?_|refine D.XO ‹_› ?_|refine D.XS ‹_› ?_|intro h)
   first|refine D.R ?_|refine D.E ?_
   exact ⟨rfl, ⟨rfl, trivial⟩, trivial⟩
theorem q63 (bad : Bool) (lo hi : Int) : FC Tryz.prog 63 [.ptr 0 0, .int .i64 lo, .int .i64 hi] (rd0 bs pos bad) (Ro (.int .i64 (mBd bs lo hi pos bad).1) [(0, 139, rdC bs (mBd bs lo hi pos bad).2.1 (mBd bs lo hi pos bad).2.2)] []) := by
 have q := q101 hr hp hbs lo hi
 unfold mBd
 generalize rBd bs lo hi pos = r at *
 obtain ⟨n, p, b⟩ := r
 try simp only at q
 refine FC.intro mo Tryz.func63 c63 ?_
 unfold e63 r63
 simp(disch:=omega)only[go_sem,simprocAttr]
 (repeat' first|refine D.S ?_|refine D.JJ true true ?_|refine DJ.nil ?_|refine J.reg0 ?_|refine D.W ?_|refine D.Z ?_|refine D.G ?_ ?_|refine D.X ‹_› ?_|refine D.XO ‹_› ?_|refine D.XS ‹_› ?_|intro h)
 cases bad with
 | true =>
  refine D.F ⟨[0,1,2,3],[0]⟩ (q98z (.fn 100 [.ptr 1 0, .ptr 2 0, .ptr 3 0]) bs pos 4 1 [(1, 108, [.ptr 0 0]), (2, 3, [.int .i64 lo]), (3, 3, [.int .i64 hi])] []) ?_
  (repeat' first|refine D.S ?_|refine D.JJ true true ?_|refine DJ.nil ?_|refine J.reg0 ?_|refine D.W ?_|refine D.Z ?_|refine D.G ?_ ?_|refine D.X ‹_› ?_|refine D.XO ‹_› ?_|refine D.XS ‹_› ?_|intro h)
  first|refine D.R ?_|refine D.E ?_
  exact ⟨rfl, ⟨rfl, trivial⟩, trivial⟩
 | false =>
  have h100 : FC Tryz.prog 100 [.ptr 1 0, .ptr 2 0, .ptr 3 0] (rdB bs pos false 4 1 [(1, 108, [.ptr 0 0]), (2, 3, [.int .i64 lo]), (3, 3, [.int .i64 hi])] []) (Rt (.int .i64 n) (rdB bs p b 4 1 [(1, 108, [.ptr 0 0]), (2, 3, [.int .i64 lo]), (3, 3, [.int .i64 hi])] [])) := by
   refine FC.intro mo Tryz.func100 c100 ?_
   unfold e100 r100
   simp(disch:=omega)only[go_sem,simprocAttr]
   (repeat' first|refine D.S ?_|refine D.JJ true true ?_|refine DJ.nil ?_|refine J.reg0 ?_|refine D.W ?_|refine D.Z ?_|refine D.G ?_ ?_|refine D.X ‹_› ?_|refine D.XO ‹_› ?_|refine D.XS ‹_› ?_|intro h)
   refine D.F ⟨[0],[0]⟩ (q) ?_
   (repeat' first|refine D.S ?_|refine D.JJ true true ?_|refine DJ.nil ?_|refine J.reg0 ?_|refine D.W ?_|refine D.Z ?_|refine D.G ?_ ?_|refine D.X ‹_› ?_|refine D.XO ‹_› ?_|refine D.XS ‹_› ?_|intro h)
   first|refine D.R ?_|refine D.E ?_
   exact ⟨rfl, rfl⟩
  cases b
  all_goals
   refine D.F ⟨[0,1,2,3],[0]⟩ (q98 (cal98.2.1) _ bs pos p _ _ 4 1 _ [] rfl h100) ?_
   (repeat' first|refine D.S ?_|refine D.JJ true true ?_|refine DJ.nil ?_|refine J.reg0 ?_|refine D.W ?_|refine D.Z ?_|refine D.G ?_ ?_|refine D.X ‹_› ?_|refine D.XO ‹_› ?_|refine D.XS ‹_› ?_|intro h)
   first|refine D.R ?_|refine D.E ?_
   exact ⟨rfl, ⟨rfl, trivial⟩, trivial⟩
def vsV (v : AV) : AV := bif match v with | .vs _ _ => true | _ => false then v else .vs 1 []
theorem q127 (mx : Nat) (hm : mx ≤ 1000) : FC Tryz.prog 127 [.ptr 1 0, .ptr 2 0] (rdB bs pos false 3 1 [(1, 108, [.ptr 0 0]), (2, 3, [.int .i64 mx])] []) (Ro (vsV (rBy bs mx pos).1) [(0, 139, rdC bs (rBy bs mx pos).2.1 (rBy bs mx pos).2.2), (1, 108, [.ptr 0 0]), (2, 3, [.int .i64 mx])] []) := by
 have q := q128 hr hp hbs mx hm
 have hv : (rBy bs mx pos).1 = .nilS ∨ ∃ l : List Nat, (rBy bs mx pos).1 = .vs 1 (l.map brow) ∧ l.length ≤ bs.length := by
  unfold rBy nxP
  cases (rBd bs 0 mx pos).2.2 with
  | true => exact .inl rfl
  | false =>
   simp only [cond_false]
   split
   ·exact .inr ⟨_, rfl, by simp; omega⟩
   ·exact .inl rfl
 generalize rBy bs mx pos = r at *
 obtain ⟨v, p, b⟩ := r
 simp only at q hv
 rcases hv with rfl | ⟨l, rfl, hl⟩
 all_goals
  refine FC.introW mo Tryz.func127 c127 (by simp only [vsV, cond_true, cond_false, AV.flat, fl_brow, flatR]) ?_
  unfold e127 r127
  simp(disch:=omega)only[go_sem,simprocAttr]
  (repeat' first|refine D.S ?_|refine D.JJ true true ?_|refine DJ.nil ?_|refine J.reg0 ?_|refine D.W ?_|refine D.Z ?_|refine D.G ?_ ?_|refine D.X ‹_› ?_|refine D.XO ‹_› ?_|refine D.XS ‹_› ?_|intro h)
  refine D.F ⟨[0],[0]⟩ (q) ?_
  (repeat' first|refine D.S ?_|refine D.JJ true true ?_|refine DJ.nil ?_|refine J.reg0 ?_|refine D.W ?_|refine D.Z ?_|refine D.G ?_ ?_|refine D.X ‹_› ?_|refine D.XO ‹_› ?_|refine D.XS ‹_› ?_|intro h)
  (apply DJ.ap0';(· simp(disch:=omega)only[go_sem,simprocAttr]<;>with_reducible rfl);(· simp only [rowsOf] <;> simp(disch:=omega)only[go_sem,simprocAttr] <;> with_reducible rfl);(· first|omega|(simp only [List.length_map,List.length_drop,List.length_take,List.length_append,List.length_nil,List.length_cons,maxLen] <;> omega));(· first|omega|(simp only [List.length_map,List.length_drop,List.length_take,List.length_append,List.length_nil,List.length_cons,maxLen] <;> omega));(· rfl))
  (repeat' first|refine D.S ?_|refine D.JJ true true ?_|refine DJ.nil ?_|refine J.reg0 ?_|refine D.W ?_|refine D.Z ?_|refine D.G ?_ ?_|refine D.X ‹_› ?_|refine D.XO ‹_› ?_|refine D.XS ‹_› ?_|intro h)
  first|refine D.R ?_|refine D.E ?_
  exact ⟨_, rfl, .wk rfl (by simp only [vsV, AV.wk, cond_true, cond_false, AV.flat, fl_brow, flatR]), ⟨rfl, rfl, rfl, trivial⟩, trivial⟩
theorem rBy_cases (mx : Nat) : (∃ p, rBy bs mx pos = (.nilS, p, true)) ∨ ∃ (l : List Nat) (p : Nat), rBy bs mx pos = (.vs 1 (l.map brow), p, false) ∧ (∀ b ∈ l, b < 256) ∧ l.length ≤ bs.length := by
 unfold rBy nxP
 cases (rBd bs 0 mx pos).2.2 with
 | true => exact .inl ⟨_, rfl⟩
 | false =>
  simp only [cond_false]
  split
  ·exact .inr ⟨_, _, rfl, fun b hb => hbs b (List.mem_of_mem_take (List.mem_of_mem_drop hb)), by simp; omega⟩
  ·exact .inl ⟨_, rfl⟩
theorem q97 (bad : Bool) (mx : Nat) (hm : mx ≤ 1000) : FC Tryz.prog 97 [.ptr 0 0, .int .i64 mx] (rd0 bs pos bad) (Ro (prt .nilS pos bad (rBy bs mx pos)).1 [(0, 139, rdC bs (prt .nilS pos bad (rBy bs mx pos)).2.1 (prt .nilS pos bad (rBy bs mx pos)).2.2)] []) := by
 have q := q127 hr hp hbs mx hm
 have hv := rBy_cases hr hp hbs mx
 generalize rBy bs mx pos = r at *
 refine FC.intro mo Tryz.func97 c97 ?_
 unfold e97 r97
 simp(disch:=omega)only[go_sem,simprocAttr]
 (repeat' first|refine D.S ?_|refine D.JJ true true ?_|refine DJ.nil ?_|refine J.reg0 ?_|refine D.W ?_|refine D.Z ?_|refine D.G ?_ ?_|refine D.X ‹_› ?_|refine D.XO ‹_› ?_|refine D.XS ‹_› ?_|intro h)
 cases bad with
 | true =>
  refine D.F ⟨[0,1,2],[0]⟩ (q126z (.fn 127 [.ptr 1 0, .ptr 2 0]) bs pos 3 1 [(1, 108, [.ptr 0 0]), (2, 3, [.int .i64 mx])] []) ?_
  (repeat' first|refine D.S ?_|refine D.JJ true true ?_|refine DJ.nil ?_|refine J.reg0 ?_|refine D.W ?_|refine D.Z ?_|refine D.G ?_ ?_|refine D.X ‹_› ?_|refine D.XO ‹_› ?_|refine D.XS ‹_› ?_|intro h)
  first|refine D.R ?_|refine D.E ?_
  exact ⟨rfl, ⟨rfl, trivial⟩, trivial⟩
 | false =>
  rcases hv with ⟨p, rfl⟩ | ⟨l, p, rfl, hl, _⟩
  all_goals
   simp only [vsV, cond_true, cond_false] at q
   have hc := FC.fr (c := rdB bs pos false 3 1 [(1, 108, [.ptr 0 0]), (2, 3, [.int .i64 mx])] []) (p := ⟨[0,1,2],[0]⟩) (q) rfl rfl rfl (by repeat first|exact trivial|refine ⟨rfl,?_⟩) (by repeat first|exact trivial|refine ⟨rfl,?_⟩) (by simp(disch:=omega)only[go_sem,simprocAttr]<;>rfl) (by simp(disch:=omega)only[go_sem,simprocAttr]<;>rfl) rfl
   simp(disch:=omega)only[go_sem,simprocAttr] at hc
   refine D.F ⟨[0,1,2],[0]⟩ (q126 (cal98.2.2.1) _ bs pos p _ _ 3 1 _ [] rfl hc) ?_
   (repeat' first|refine D.S ?_|refine D.JJ true true ?_|refine DJ.nil ?_|refine J.reg0 ?_|refine D.W ?_|refine D.Z ?_|refine D.G ?_ ?_|refine D.X ‹_› ?_|refine D.XO ‹_› ?_|refine D.XS ‹_› ?_|intro h)
   first|refine D.R ?_|refine D.E ?_
   exact ⟨rfl, ⟨rfl, trivial⟩, trivial⟩
def txV (v : AV) : List UInt8 := match v with
 | .vs _ rows => (byteRows rows).getD []
 | _ => []
def mTx (bs : List Nat) (mx : Int) (pos : Nat) (bad : Bool) : List UInt8 × Nat × Bool := prt [] pos bad (txV (rBy bs mx pos).1, (rBy bs mx pos).2)
theorem q61 (bad : Bool) (mx : Nat) (hm : mx ≤ 1000) : FC Tryz.prog 61 [.ptr 0 0, .int .i64 mx] (rd0 bs pos bad) (Ro (.str (mTx bs mx pos bad).1) [(0, 139, rdC bs (mTx bs mx pos bad).2.1 (mTx bs mx pos bad).2.2)] []) := by
 have q := q97 hr hp hbs bad mx hm
 have hv := rBy_cases hr hp hbs mx
 unfold mTx
 generalize rBy bs mx pos = r at *
 refine FC.intro mo Tryz.func61 c61 ?_
 unfold e61 r61
 simp(disch:=omega)only[go_sem,simprocAttr]
 (repeat' first|refine D.S ?_|refine D.JJ true true ?_|refine DJ.nil ?_|refine J.reg0 ?_|refine D.W ?_|refine D.Z ?_|refine D.G ?_ ?_|refine D.X ‹_› ?_|refine D.XO ‹_› ?_|refine D.XS ‹_› ?_|intro h)
 cases bad with
 | true =>
  simp only [prt, cond_true] at q
  refine D.F ⟨[0],[0]⟩ (q) ?_
  (repeat' first|refine D.S ?_|refine D.JJ true true ?_|refine DJ.nil ?_|refine J.reg0 ?_|refine D.W ?_|refine D.Z ?_|refine D.G ?_ ?_|refine D.X ‹_› ?_|refine D.XO ‹_› ?_|refine D.XS ‹_› ?_|intro h)
  first|refine D.R ?_|refine D.E ?_
  exact ⟨rfl, ⟨rfl, trivial⟩, trivial⟩
 | false =>
  rcases hv with ⟨p, rfl⟩ | ⟨l, p, rfl, hl, _⟩
  ·simp only [prt, cond_true, cond_false] at q
   refine D.F ⟨[0],[0]⟩ (q) ?_
   (repeat' first|refine D.S ?_|refine D.JJ true true ?_|refine DJ.nil ?_|refine J.reg0 ?_|refine D.W ?_|refine D.Z ?_|refine D.G ?_ ?_|refine D.X ‹_› ?_|refine D.XO ‹_› ?_|refine D.XS ‹_› ?_|intro h)
   first|refine D.R ?_|refine D.E ?_
   exact ⟨rfl, ⟨rfl, trivial⟩, trivial⟩
  ·simp only [prt, cond_false] at q
   refine D.F ⟨[0],[0]⟩ (q) ?_
   refine DJ.cvs rfl rfl (byteRows_brow l) ?_
   (repeat' first|refine D.S ?_|refine D.JJ true true ?_|refine DJ.nil ?_|refine J.reg0 ?_|refine D.W ?_|refine D.Z ?_|refine D.G ?_ ?_|refine D.X ‹_› ?_|refine D.XO ‹_› ?_|refine D.XS ‹_› ?_|intro h)
   first|refine D.R ?_|refine D.E ?_
   exact ⟨by simp only [prt, cond_false, txV, byteRows_brow]; rfl, ⟨rfl, trivial⟩, trivial⟩
end
def rVa (bs : List Nat) (pos : Nat) : (Int × Int × List UInt8) × Nat × Bool :=
 let r := rBd bs 1 2 pos
 bif r.2.2 then ((r.1, 0, []), r.2) else if r.1 = 1 then ((1, (rInt bs r.2.1).1, []), (rInt bs r.2.1).2) else ((r.1, 0, txV (rBy bs 40 r.2.1).1), (rBy bs 40 r.2.1).2)
abbrev vaV (x : Int × Int × List UInt8) : AV := .agg [.int .i64 x.1, .int .i64 x.2.1, .str x.2.2]
def mVa (bs : List Nat) (pos : Nat) (bad : Bool) : (Int × Int × List UInt8) × Nat × Bool := prt (0, 0, []) pos bad (rVa bs pos)
section
variable {bs : List Nat} {pos : Nat} (hr : bs.length ≤ 1000000) (hp : pos ≤ bs.length) (hbs : ∀ b ∈ bs, b < 256)
include hr hp hbs
set_option maxHeartbeats 1000000 in
theorem q103 : FC Tryz.prog 103 [.ptr 0 0] (rd0 bs pos false) (Ro (vaV (rVa bs pos).1) [(0, 139, rdC bs (rVa bs pos).2.1 (rVa bs pos).2.2)] []) := by
 have q := q101 hr hp hbs 1 2
 have hl := intP_le bs 10 0 pos 0 hp
 unfold rVa
 rw [show (intP bs 10 0 pos 0).2.1 = (rBd bs 1 2 pos).2.1 from rfl] at hl
 generalize rBd bs 1 2 pos = r at *
 obtain ⟨n, p, b⟩ := r
 simp only at q hl ⊢
 have qi := q99 bs p hr hl.1 hbs
 rw [show intP bs 10 0 p 0 = rInt bs p from rfl] at qi
 have qb := q128 hr hl.1 hbs 40 (by decide)
 have hv := rBy_cases hr hl.1 hbs 40
 rw [show ((40 : Nat) : Int) = 40 from rfl] at qb hv
 generalize rInt bs p = ri at *
 generalize rBy bs 40 p = rb at *
 obtain ⟨n1, p1, b1⟩ := ri
 refine FC.intro mo Tryz.func103 c103 ?_
 unfold e103 r103
 simp(disch:=omega)only[go_sem,simprocAttr]
 (repeat' first|refine D.S ?_|refine D.JJ true true ?_|refine DJ.nil ?_|refine J.reg0 ?_|refine D.W ?_|refine D.Z ?_|refine D.G ?_ ?_|refine D.X ‹_› ?_|refine D.XO ‹_› ?_|refine D.XS ‹_› ?_|intro h)
 refine D.F ⟨[0],[0]⟩ (q) ?_
 cases b with
 | true =>
  (repeat' first|refine D.S ?_|refine D.JJ true true ?_|refine DJ.nil ?_|refine J.reg0 ?_|refine D.W ?_|refine D.Z ?_|refine D.G ?_ ?_|refine D.X ‹_› ?_|refine D.XO ‹_› ?_|refine D.XS ‹_› ?_|intro h)
  first|refine D.R ?_|refine D.E ?_
  exact ⟨rfl, ⟨rfl, trivial⟩, trivial⟩
 | false =>
  simp only [cond_false]
  (repeat' first|refine D.S ?_|refine D.JJ true true ?_|refine DJ.nil ?_|refine J.reg0 ?_|refine D.W ?_|refine D.Z ?_|refine D.G ?_ ?_|refine D.X ‹_› ?_|refine D.XO ‹_› ?_|refine D.XS ‹_› ?_|intro h|refine D.C ?_ ?_)
  ·have h1 : n = 1 := by simpa using h
   subst h1
   refine D.F ⟨[0],[0]⟩ (qi) ?_
   (repeat' first|refine D.S ?_|refine D.JJ true true ?_|refine DJ.nil ?_|refine J.reg0 ?_|refine D.W ?_|refine D.Z ?_|refine D.G ?_ ?_|refine D.X ‹_› ?_|refine D.XO ‹_› ?_|refine D.XS ‹_› ?_|intro h)
   first|refine D.R ?_|refine D.E ?_
   try rw [if_pos rfl]
   exact ⟨rfl, ⟨rfl, trivial⟩, trivial⟩
  ·have h1 : ¬ n = 1 := by simpa using h
   rw [if_neg h1]
   rcases hv with ⟨p2, rfl⟩ | ⟨l, p2, rfl, _, _⟩
   ·refine D.F ⟨[0],[0]⟩ (qb) ?_
    (repeat' first|refine D.S ?_|refine D.JJ true true ?_|refine DJ.nil ?_|refine J.reg0 ?_|refine D.W ?_|refine D.Z ?_|refine D.G ?_ ?_|refine D.X ‹_› ?_|refine D.XO ‹_› ?_|refine D.XS ‹_› ?_|intro h)
    first|refine D.R ?_|refine D.E ?_
    exact ⟨rfl, ⟨rfl, trivial⟩, trivial⟩
   ·refine D.F ⟨[0],[0]⟩ (qb) ?_
    refine DJ.cvs rfl rfl (byteRows_brow l) ?_
    (repeat' first|refine D.S ?_|refine D.JJ true true ?_|refine DJ.nil ?_|refine J.reg0 ?_|refine D.W ?_|refine D.Z ?_|refine D.G ?_ ?_|refine D.X ‹_› ?_|refine D.XO ‹_› ?_|refine D.XS ‹_› ?_|intro h)
    first|refine D.R ?_|refine D.E ?_
    exact ⟨by simp only [txV, byteRows_brow]; rfl, ⟨rfl, trivial⟩, trivial⟩
set_option maxHeartbeats 1000000 in
theorem q64 (bad : Bool) : FC Tryz.prog 64 [.ptr 0 0] (rd0 bs pos bad) (Ro (vaV (mVa bs pos bad).1) [(0, 139, rdC bs (mVa bs pos bad).2.1 (mVa bs pos bad).2.2)] []) := by
 have q := q103 hr hp hbs
 unfold mVa
 generalize rVa bs pos = r at *
 obtain ⟨⟨k, m, s⟩, p, b⟩ := r
 simp only at q
 refine FC.intro mo Tryz.func64 c64 ?_
 unfold e64 r64
 simp(disch:=omega)only[go_sem,simprocAttr]
 (repeat' first|refine D.S ?_|refine D.JJ true true ?_|refine DJ.nil ?_|refine J.reg0 ?_|refine D.W ?_|refine D.Z ?_|refine D.G ?_ ?_|refine D.X ‹_› ?_|refine D.XO ‹_› ?_|refine D.XS ‹_› ?_|intro h)
 cases bad with
 | true =>
  refine D.F ⟨[0],[0]⟩ (q102z (.fn (103 + bnd) [.ptr 0 0]) bs pos) ?_
  (repeat' first|refine D.S ?_|refine D.JJ true true ?_|refine DJ.nil ?_|refine J.reg0 ?_|refine D.W ?_|refine D.Z ?_|refine D.G ?_ ?_|refine D.X ‹_› ?_|refine D.XO ‹_› ?_|refine D.XS ‹_› ?_|intro h)
  first|refine D.R ?_|refine D.E ?_
  exact ⟨rfl, ⟨rfl, trivial⟩, trivial⟩
 | false =>
  have hc := FC.fr (c := CS.of 3 1 [(2, 66, z3), (1, 66, z3), (0, 139, rdC bs pos false)] []) (p := ⟨[0],[0]⟩) (q) rfl rfl rfl (by repeat first|exact trivial|refine ⟨rfl,?_⟩) (by repeat first|exact trivial|refine ⟨rfl,?_⟩) (by simp(disch:=omega)only[go_sem,simprocAttr]<;>rfl) (by simp(disch:=omega)only[go_sem,simprocAttr]<;>rfl) rfl
  simp(disch:=omega)only[go_sem,simprocAttr] at hc
  cases b
  all_goals
   refine D.F ⟨[0],[0]⟩ (q102b (cal98.2.2.2) _ bs pos p _ k m s hc) ?_
   (repeat' first|refine D.S ?_|refine D.JJ true true ?_|refine DJ.nil ?_|refine J.reg0 ?_|refine D.W ?_|refine D.Z ?_|refine D.G ?_ ?_|refine D.X ‹_› ?_|refine D.XO ‹_› ?_|refine D.XS ‹_› ?_|intro h)
   first|refine D.R ?_|refine D.E ?_
   exact ⟨rfl, ⟨rfl, trivial⟩, trivial⟩
end
theorem q104 (bs : List Nat) (pos : Nat) (bad : Bool) (hr : bs.length ≤ 1000000) (hp : pos ≤ bs.length) : FC Tryz.prog 104 [.ptr 0 0] (rd0 bs pos bad) (Ro (.int .i64 ((bs.length : Int) - (pos : Int))) [(0, 139, rdC bs pos bad)] []) := by
 refine FC.intro mo Tryz.func104 c104 ?_
 unfold e104 r104
 simp(disch:=omega)only[go_sem,simprocAttr]
 (repeat' first|(apply DJ.s rfl;(· simp(disch:=omega)only[go_sem,simprocAttr,List.length_map]<;>with_reducible rfl))|(apply J.s true true;(· simp(disch:=omega)only[go_sem,simprocAttr,List.length_map]<;>with_reducible rfl))|apply DJ.nil|(refine J.reg0 ?_)|(apply DJ.gw;(· simp(disch:=omega)only[go_sem,simprocAttr,List.length_map]<;>with_reducible rfl))|(apply DJ.gz;(· rfl);(· simp(disch:=omega)only[go_sem,simprocAttr,List.length_map]<;>with_reducible rfl))|(apply DJ.gs;(· simp(disch:=omega)only[go_sem,simprocAttr,List.length_map]<;>with_reducible rfl))|((first|apply DJ.ixm|apply DJ.ixom|apply DJ.ixsm);(· simp(disch:=omega)only[go_sem,simprocAttr,List.length_map]<;>with_reducible rfl);(· simp(disch:=omega)only[go_sem,simprocAttr,List.length_map]<;>with_reducible rfl);(· assumption);(· omega))|intro h)
 first|refine D.R ?_|refine D.E ?_
 exact ⟨rfl, ⟨rfl, trivial⟩, trivial⟩
theorem q65 (bs : List Nat) (pos : Nat) (bad : Bool) (hr : bs.length ≤ 1000000) (hp : pos ≤ bs.length) : FC Tryz.prog 65 [.ptr 0 0] (rd0 bs pos bad) (Ro (.int .i64 (if bad = true ∨ pos < bs.length then 4 else 0)) [(0, 139, rdC bs pos bad)] []) := by
 cases bad with
 | true =>
  refine FC.intro mo Tryz.func65 c65 ?_
  unfold e65 r65
  simp(disch:=omega)only[go_sem,simprocAttr]
  (repeat' first|refine D.S ?_|refine D.JJ true true ?_|refine DJ.nil ?_|refine J.reg0 ?_|refine D.W ?_|refine D.Z ?_|refine D.G ?_ ?_|refine D.X ‹_› ?_|refine D.XO ‹_› ?_|refine D.XS ‹_› ?_|intro h)
  first|refine D.R ?_|refine D.E ?_
  exact ⟨rfl, ⟨rfl, trivial⟩, trivial⟩
 | false =>
  refine FC.intro mo Tryz.func65 c65 ?_
  unfold e65 r65
  simp(disch:=omega)only[go_sem,simprocAttr]
  (repeat' first|refine D.S ?_|refine D.JJ true true ?_|refine DJ.nil ?_|refine J.reg0 ?_|refine D.W ?_|refine D.Z ?_|refine D.G ?_ ?_|refine D.X ‹_› ?_|refine D.XO ‹_› ?_|refine D.XS ‹_› ?_|intro h)
  refine D.F ⟨[0],[0]⟩ (q104 bs pos false hr hp) ?_
  (repeat' first|refine D.S ?_|refine D.JJ true true ?_|refine DJ.nil ?_|refine J.reg0 ?_|refine D.W ?_|refine D.Z ?_|refine D.G ?_ ?_|refine D.X ‹_› ?_|refine D.XO ‹_› ?_|refine D.XS ‹_› ?_|intro h|refine D.C ?_ ?_)
  ·have h1 : pos < bs.length := by simp at h; omega
   rw [if_pos (.inr h1)]
   first|refine D.R ?_|refine D.E ?_
   exact ⟨rfl, ⟨rfl, trivial⟩, trivial⟩
  ·have h1 : ¬ pos < bs.length := by simp at h; omega
   rw [if_neg (by simp [h1])]
   first|refine D.R ?_|refine D.E ?_
   exact ⟨rfl, ⟨rfl, trivial⟩, trivial⟩
theorem fl_var (l : List Var_) : flatR (l.map Var_.row) = true := flatR_map (fun _ => rfl) l
theorem fl_hd (l : List Hd) : flatR (l.map Hd.row) = true := flatR_map (fun _ => rfl) l
theorem fl_of (l : List Of_) : flatR (l.map Of_.row) = true := flatR_map (fun _ => rfl) l
theorem fl_ins (l : List Ins_) : flatR (l.map Ins_.row) = true := flatR_map (fun _ => rfl) l
attribute [local go_sem] fl_var fl_hd fl_of fl_ins
theorem q60 (rows : List (List AV)) (hr : rows.length ≤ 1000000) (n t : Nat) (bl : BL) (tl : TL) : FC Tryz.prog 60 [.vs 1 rows] (CS.of n t bl tl) (Rt (.ptr n 0) (CS.of (n + 1) (t + 1) ((n, 139, [.own t 1 rows, .int .i64 0, .bool false]) :: bl) ((t, .frz 5 1 rows.length) :: tl))) := by
 refine FC.intro mo Tryz.func60 c60 ?_
 unfold e60 r60
 simp(disch:=omega)only[go_sem,simprocAttr]
 (repeat' first|refine D.S ?_|refine D.JJ true true ?_|refine DJ.nil ?_|refine J.reg0 ?_|refine D.W ?_|refine D.Z ?_|refine D.G ?_ ?_|refine D.X ‹_› ?_|refine D.XO ‹_› ?_|refine D.XS ‹_› ?_|intro h)
 (apply DJ.ap0';(· simp(disch:=omega)only[go_sem,simprocAttr]<;>with_reducible rfl);(· simp only [rowsOf] <;> simp(disch:=omega)only[go_sem,simprocAttr] <;> with_reducible rfl);(· first|omega|(simp only [List.length_map,List.length_drop,List.length_take,List.length_append,List.length_nil,List.length_cons,maxLen] <;> omega));(· first|omega|(simp only [List.length_map,List.length_drop,List.length_take,List.length_append,List.length_nil,List.length_cons,maxLen] <;> omega));(· rfl))
 (repeat' first|refine D.S ?_|refine D.JJ true true ?_|refine DJ.nil ?_|refine J.reg0 ?_|refine D.W ?_|refine D.Z ?_|refine D.G ?_ ?_|refine D.X ‹_› ?_|refine D.XO ‹_› ?_|refine D.XS ‹_› ?_|intro h)
 first|refine D.R ?_|refine D.E ?_
 exact ⟨rfl, rfl⟩
abbrev S2 := Nat × Bool
def many {α : Type} (f : S2 → α × S2) : Nat → S2 → List α × S2
 | 0, s => ([], s)
 | n + 1, s => ((many f n s).1 ++ [(f (many f n s).2).1], (f (many f n s).2).2)
theorem many_len {α : Type} (f : S2 → α × S2) (s : S2) : ∀ n, (many f n s).1.length = n
 | 0 => rfl
 | n + 1 => by simp [many, many_len f s n]
section
variable (bs : List Nat)
abbrev gInt (s : S2) : Int × S2 := mInt bs s.1 s.2
abbrev gTx (mx : Nat) (s : S2) : List UInt8 × S2 := mTx bs mx s.1 s.2
abbrev gVa (s : S2) : (Int × Int × List UInt8) × S2 := mVa bs s.1 s.2
abbrev gBd (hi : Int) (s : S2) : Int × S2 := mBd bs 0 hi s.1 s.2
def gI2 (s : S2) : (Int × Int) × S2 := (((gInt bs s).1, (gInt bs (gInt bs s).2).1), (gInt bs (gInt bs s).2).2)
def gI3 (s : S2) : (Int × Int × Int) × S2 := (((gInt bs s).1, (gI2 bs (gInt bs s).2).1), (gI2 bs (gInt bs s).2).2)
def gI4 (s : S2) : (Int × Int × Int × Int) × S2 := (((gInt bs s).1, (gI3 bs (gInt bs s).2).1), (gI3 bs (gInt bs s).2).2)
def gVar (s : S2) : Var_ × S2 :=
 let a := gTx bs 16 s; let b := gI3 bs a.2; let v := gVa bs b.2
 (⟨a.1, ⟨b.1.1, b.1.2.1, b.1.2.2⟩, ⟨v.1.1, v.1.2.1, v.1.2.2⟩⟩, v.2)
def gHd (s : S2) : Hd × S2 := let b := gI3 bs s; (⟨b.1.1, b.1.2.1, b.1.2.2⟩, b.2)
def gOf (s : S2) : Of_ × S2 := let b := gI4 bs s; (⟨b.1.1, b.1.2.1, b.1.2.2.1, b.1.2.2.2⟩, b.2)
def gIns (s : S2) : Ins_ × S2 := let a := gI2 bs s; let b := gTx bs 40 a.2; (⟨a.1.1, a.1.2, b.1⟩, b.2)
def gList {α : Type} (f : S2 → α × S2) (hi : Int) (s : S2) : List α × S2 := many f (gBd bs hi s).1.toNat (gBd bs hi s).2
def gProg (s : S2) : Prog × S2 :=
 let a := gTx bs 16 s; let b := gInt bs a.2; let c := gList bs (gVar bs) 12 b.2; let d := gList bs (gHd bs) 40 c.2; let e := gList bs (gOf bs) 40 d.2; let f := gList bs (gIns bs) 1000 e.2
 (⟨a.1, b.1, c.1, d.1, e.1, f.1⟩, f.2)
variable {bs}
abbrev In (bs : List Nat) (s : S2) : Prop := s.1 ≤ bs.length
theorem prt_in {α : Type} {z : α} {pos : Nat} {bad : Bool} {r : α × S2} (h : pos ≤ bs.length) (hr : In bs r.2) : In bs (prt z pos bad r).2 := by
 unfold prt
 cases bad <;> cases r.2.2 <;> first | exact h | exact hr
theorem nxP_in {pos n : Nat} (h : pos ≤ bs.length) : In bs (nxP bs pos n).2 := by
 unfold nxP
 split
 ·assumption
 ·exact h
theorem rBd_in {lo hi : Int} {pos : Nat} (h : pos ≤ bs.length) : In bs (rBd bs lo hi pos).2 := (intP_le bs 10 0 pos 0 h).1
theorem rBy_in {mx : Int} {pos : Nat} (h : pos ≤ bs.length) : In bs (rBy bs mx pos).2 := by
 unfold rBy
 cases (rBd bs 0 mx pos).2.2 with
 | true => exact rBd_in (lo := 0) (hi := mx) h
 | false => exact nxP_in (rBd_in (lo := 0) (hi := mx) h)
theorem gInt_in {s : S2} (h : In bs s) : In bs (gInt bs s).2 := prt_in h (intP_le bs 10 0 s.1 0 h).1
theorem gTx_in {mx : Nat} {s : S2} (h : In bs s) : In bs (gTx bs mx s).2 := prt_in h (rBy_in h)
theorem gBd_in {hi : Int} {s : S2} (h : In bs s) : In bs (gBd bs hi s).2 := prt_in h (rBd_in h)
theorem gVa_in {s : S2} (h : In bs s) : In bs (gVa bs s).2 := by
 refine prt_in h ?_
 unfold rVa
 cases hb : (rBd bs 1 2 s.1).2.2 with
 | true => simp only [hb, cond_true]; exact rBd_in (lo := 1) (hi := 2) h
 | false =>
  simp only [hb, cond_false]
  split
  ·exact (intP_le bs 10 0 _ 0 (rBd_in (lo := 1) (hi := 2) h)).1
  ·exact rBy_in (rBd_in (lo := 1) (hi := 2) h)
theorem gI2_in {s : S2} (h : In bs s) : In bs (gI2 bs s).2 := gInt_in (gInt_in h)
theorem gI3_in {s : S2} (h : In bs s) : In bs (gI3 bs s).2 := gI2_in (gInt_in h)
theorem gI4_in {s : S2} (h : In bs s) : In bs (gI4 bs s).2 := gI3_in (gInt_in h)
theorem gVar_in {s : S2} (h : In bs s) : In bs (gVar bs s).2 := gVa_in (gI3_in (gTx_in h))
theorem gHd_in {s : S2} (h : In bs s) : In bs (gHd bs s).2 := gI3_in h
theorem gOf_in {s : S2} (h : In bs s) : In bs (gOf bs s).2 := gI4_in h
theorem gIns_in {s : S2} (h : In bs s) : In bs (gIns bs s).2 := gTx_in (gI2_in h)
theorem many_in {α : Type} {f : S2 → α × S2} (hf : ∀ s, In bs s → In bs (f s).2) {s : S2} (h : In bs s) : ∀ n, In bs (many f n s).2
 | 0 => h
 | n + 1 => hf _ (many_in hf h n)
theorem gList_in {α : Type} {f : S2 → α × S2} (hf : ∀ s, In bs s → In bs (f s).2) {hi : Int} {s : S2} (h : In bs s) : In bs (gList bs f hi s).2 := many_in hf (gBd_in h) _
theorem gBd_range {hi : Int} (h0 : 0 ≤ hi) (s : S2) : 0 ≤ (gBd bs hi s).1 ∧ (gBd bs hi s).1 ≤ hi := by
 unfold gBd mBd prt rBd
 cases s.2 with
 | true => exact ⟨Int.le_refl _, h0⟩
 | false =>
  simp only [cond_false]
  cases hb : (rInt bs s.1).2.2 || (decide ((rInt bs s.1).1 < 0) || decide (hi < (rInt bs s.1).1)) with
  | true => exact ⟨Int.le_refl _, h0⟩
  | false =>
   simp only [Bool.or_eq_false_iff, decide_eq_false_iff_not] at hb
   simp only [cond_false]
   omega
end
end Go.Aw.T.N
namespace Go.Aw.T.N
open Go Go.Aw Go.Proofs Go.RowKit
set_option maxRecDepth 100000
attribute [local irreducible] Go.Aw.J Go.Aw.DJ Go.Aw.FC
attribute [local go_sem] wrap64 wrapu64 wrapu8 nnif decide_true decide_false dst gst gv_b gv_u jst jpop bdL bdB bdT bdO AV.bd tfL AV.tf o_mv o_pick o_nilck o_build o_load o_loadD o_faddr o_field o_iaddr o_iaddrA o_idxA o_idxS o_bin o_binB o_eqA o_not o_pnil o_neg o_conv o_lenS o_len o_lenA o_minmax o_slS o_slV o_extract o_mkfn o_mkfnB o_convS o_convBS o_mkif o_isnil o_bslice o_box o_alloc o_store o_storeD o_bsliceO o_bsliceM cpv cev_t cev_c Env.get put_some' put_none' of_setB of_addB of_setT of_addT of_upd of_blk of_tok of_nb of_nt of_new rmB rmT rmBs rmTs renB renT apB apT lkB lkT getD_0 getD_s renL AV.ren crange_if cstB_if one_nilS one_pnil oc_nil oc_pnil cbin binInt shInt binStr binBool cbuild_nil cbuild_cons cidx_if AV.cells AV.okc AV.flat flatL flatR setRange minmaxAV AV.one AV.ofCells eqCells eqCell slRows initEnv initFrom cres cresv cresL cond_true cond_false beq_self_eq_true Bool.not_true Bool.not_false beq_true beq_false eq_self if_true Option.some.injEq List.length_cons List.length_nil List.take_succ_cons List.take_zero List.drop_succ_cons List.drop_zero List.set_cons_succ List.set_cons_zero List.nil_append List.cons_append List.append_nil and_self Option.map_some Option.map_none List.map_cons List.map_nil Bool.false_eq_true if_false Nat.zero_add Nat.add_zero true_and and_true Bool.and_true Bool.true_and List.getElem?_cons_zero List.getElem?_cons_succ Nat.zero_le Nat.le_refl List.all_cons List.all_nil List.flatten_cons List.flatten_nil crows crowsOk List.filter_cons List.filter_nil List.contains_cons List.contains_nil Bool.or_false Bool.or_true Bool.false_or Bool.true_or
set_option linter.unusedSimpArgs false
set_option linter.unusedVariables false
set_option linter.unusedSectionVars false
attribute [local go_sem] fl_brow brow fl_var fl_hd fl_of fl_ins
abbrev z6 : List AV := [.str [], .int .i64 0, .nilS, .nilS, .nilS, .nilS]
def p0 : Prog := ⟨[], 0, [], [], [], []⟩
def decP (bs : List Nat) : Prog × Int := let g := gProg bs (0, false); if g.2.2 = true ∨ g.2.1 < bs.length ∨ validP g.1 = false then (p0, 4) else (g.1, 0)
theorem many_map {α β : Type} (f : S2 → α × S2) (r : α → β) (n : Nat) (s : S2) : (many f (n + 1) s).1.map r = (many f n s).1.map r ++ [r (f (many f n s).2).1] := by simp [many]
set_option maxHeartbeats 4000000 in
theorem q21 (bs : List Nat) (hr : bs.length ≤ 1000000) (hbs : ∀ b ∈ bs, b < 256) : Pure Tryz.prog 21 [.vs 1 (bs.map brow)] (.tup [(decP bs).1.av, .int .i64 (decP bs).2]) := by
 have i0 : In bs (0, false) := Nat.zero_le _
 have i1 := gTx_in (mx := 16) i0
 have i2 := gInt_in i1
 refine pure_of mo Tryz.func21 c21 (by simp only [flatL, AV.flat, fl_brow, Bool.and_self]) (by simp only [AV.flat, flatL, fl_var, fl_hd, fl_of, fl_ins, Bool.and_self]) ?_
 unfold e21 r21
 simp(disch:=omega)only[go_sem,simprocAttr]
 (repeat' first|refine D.S ?_|refine D.JJ true true ?_|refine DJ.nil ?_|refine J.reg0 ?_|refine D.W ?_|refine D.Z ?_|refine D.G ?_ ?_|refine D.X ‹_› ?_|refine D.XO ‹_› ?_|refine D.XS ‹_› ?_|intro h)
 (apply DJ.cr rfl (q60 (bs.map brow) (by simpa using hr) _ _ _ _);(· simp(disch:=omega)only[go_sem,simprocAttr]<;>rfl))
 simp only [put_some', put_none']
 (repeat' first|refine D.S ?_|refine D.JJ true true ?_|refine DJ.nil ?_|refine J.reg0 ?_|refine D.W ?_|refine D.Z ?_|refine D.G ?_ ?_|refine D.X ‹_› ?_|refine D.XO ‹_› ?_|refine D.XS ‹_› ?_|intro h)
 refine DJ.keepB [(0, 36, z6), (1, 139, rdC bs 0 false)] [] ⟨rfl, rfl, trivial⟩ trivial ?_
 (repeat' first|refine D.S ?_|refine D.JJ true true ?_|refine DJ.nil ?_|refine J.reg0 ?_|refine D.W ?_|refine D.Z ?_|refine D.G ?_ ?_|refine D.X ‹_› ?_|refine D.XO ‹_› ?_|refine D.XS ‹_› ?_|intro h)
 refine D.F ⟨[1],[0]⟩ (q61 hr i0 hbs false 16 (by decide)) ?_
 (repeat' first|refine D.S ?_|refine D.JJ true true ?_|refine DJ.nil ?_|refine J.reg0 ?_|refine D.W ?_|refine D.Z ?_|refine D.G ?_ ?_|refine D.X ‹_› ?_|refine D.XO ‹_› ?_|refine D.XS ‹_› ?_|intro h)
 refine D.F ⟨[1],[0]⟩ (q62 hr i1 hbs _) ?_
 (repeat' first|refine D.S ?_|refine DJ.nil ?_|refine D.W ?_|refine D.Z ?_|refine D.G ?_ ?_|refine D.X ‹_› ?_|refine D.XO ‹_› ?_|refine D.XS ‹_› ?_|intro h)
 refine J.eqv rfl (c2 := CS.of 3 1 [(2, 36, [.str (gTx bs 16 (0, false)).1, .int .i64 (gInt bs (gTx bs 16 (0, false)).2).1, .nilS, .nilS, .nilS, .nilS]), (1, 139, rdC bs (gInt bs (gTx bs 16 (0, false)).2).2.1 (gInt bs (gTx bs 16 (0, false)).2).2.2), (0, 36, z6)] []) rfl ?_
 obtain ⟨g, hg⟩ : ∃ g, gProg bs (0, false) = g := ⟨_, rfl⟩
 have hdec : decP bs = if g.2.2 = true ∨ g.2.1 < bs.length ∨ validP g.1 = false then (p0, 4) else (g.1, 0) := by rw [← hg]; rfl
 simp only [gProg] at hg
 generalize gTx bs 16 (0, false) = a at *
 generalize gInt bs a.2 = b at *
 obtain ⟨nm, sa⟩ := a
 obtain ⟨rl, s⟩ := b
 try simp only at *
 refine J.ghB 2 2 7 73 rfl rfl (by decide) ?_
 simp(disch:=omega)only[go_sem,simprocAttr]
 refine J.ghB 2 3 3 75 rfl rfl (by decide) ?_
 simp(disch:=omega)only[go_sem,simprocAttr]
 refine J.ghB 2 4 4 78 rfl rfl (by decide) ?_
 simp(disch:=omega)only[go_sem,simprocAttr]
 refine J.ghB 2 5 3 43 rfl rfl (by decide) ?_
 simp(disch:=omega)only[go_sem,simprocAttr]
 (repeat' first|refine D.S ?_|refine D.JJ true true ?_|refine DJ.nil ?_|refine J.reg0 ?_|refine D.W ?_|refine D.Z ?_|refine D.G ?_ ?_|refine D.X ‹_› ?_|refine D.XO ‹_› ?_|refine D.XS ‹_› ?_|intro h)
 refine D.F ⟨[1],[0]⟩ (q63 hr i2 hbs _ 0 12) ?_
 (repeat' first|refine D.S ?_|refine D.JJ true true ?_|refine DJ.nil ?_|refine J.reg0 ?_|refine D.W ?_|refine D.Z ?_|refine D.G ?_ ?_|refine D.X ‹_› ?_|refine D.XO ‹_› ?_|refine D.XS ‹_› ?_|intro h)
 have r0 : 0 ≤ (mBd bs 0 12 s.1 s.2).1 ∧ (mBd bs 0 12 s.1 s.2).1 ≤ 12 := gBd_range (by decide) s
 have j0 : (mBd bs 0 12 s.1 s.2).2.1 ≤ bs.length := gBd_in i2
 have j1 := gList_in (hi := 12) (fun s => gVar_in (bs := bs) (s := s)) i2
 obtain ⟨x, hB⟩ : ∃ x, mBd bs 0 12 s.1 s.2 = x := ⟨_, rfl⟩
 rw [hB] at r0 j0 ⊢
 obtain ⟨nI, sB⟩ := x
 simp only at r0 j0 ⊢
 obtain ⟨n, rfl⟩ : ∃ n : Nat, nI = n := ⟨nI.toNat, (Int.toNat_of_nonneg r0.1).symm⟩
 have hL : gList bs (gVar bs) 12 s = many (gVar bs) n sB := by
  unfold gList
  rw [show gBd bs 12 s = ((n : Int), sB) from hB]
  rfl
 refine J.loopX (X := Nat) 0 (fun i => [(2, .ptr 0 0), (4, .ptr 1 0), (5, .ptr 2 0), (16, .int .i64 (n : Int)), (17, .int .i64 (i : Int))]) (fun i => [(0, 36, z6), (1, 139, rdC bs ((many (gVar bs) i sB).2).1 ((many (gVar bs) i sB).2).2), (2, 36, [.str nm, .int .i64 rl, .own 1 7 ((many (gVar bs) i sB).1.map Var_.row), .own 2 3 (([] : List Hd).map Hd.row), .own 3 4 (([] : List Of_).map Of_.row), .own 4 3 (([] : List Ins_).map Ins_.row)])]) (fun i => [(1, .frz 73 7 ((many (gVar bs) i sB).1.map Var_.row).length), (2, .frz 75 3 (([] : List Hd).map Hd.row).length), (3, .frz 78 4 (([] : List Of_).map Of_.row).length), (4, .frz 43 3 (([] : List Ins_).map Ins_.row).length)]) (fun i => i ≤ n) (fun i => n - i) (Nat.zero_le _) ⟨rfl, rfl, rfl, rfl, rfl, trivial⟩ ⟨rfl, rfl, rfl, trivial⟩ ⟨rfl, rfl, rfl, rfl, trivial⟩ ?_
 intro i hi
 try simp only
 have k0 := many_in (fun s => gVar_in (bs := bs) (s := s)) j0 i
 have hlen := many_len (gVar bs) sB i
 (repeat' first|refine D.S ?_|refine D.JJ true true ?_|refine DJ.nil ?_|refine J.reg0 ?_|refine D.W ?_|refine D.Z ?_|refine D.G ?_ ?_|refine D.X ‹_› ?_|refine D.XO ‹_› ?_|refine D.XS ‹_› ?_|intro h|refine D.C ?_ ?_)
 ·simp only [decide_eq_true_eq] at h
  refine D.F ⟨[1],[0]⟩ (q61 hr k0 hbs _ 16 (by decide)) ?_
  (repeat' first|refine D.S ?_|refine D.JJ true true ?_|refine DJ.nil ?_|refine J.reg0 ?_|refine D.W ?_|refine D.Z ?_|refine D.G ?_ ?_|refine D.X ‹_› ?_|refine D.XO ‹_› ?_|refine D.XS ‹_› ?_|intro h)
  have k1 := gTx_in (mx := 16) k0
  refine D.F ⟨[1],[0]⟩ (q62 hr k1 hbs _) ?_
  (repeat' first|refine D.S ?_|refine D.JJ true true ?_|refine DJ.nil ?_|refine J.reg0 ?_|refine D.W ?_|refine D.Z ?_|refine D.G ?_ ?_|refine D.X ‹_› ?_|refine D.XO ‹_› ?_|refine D.XS ‹_› ?_|intro h)
  have k2 := gInt_in k1
  refine D.F ⟨[1],[0]⟩ (q62 hr k2 hbs _) ?_
  (repeat' first|refine D.S ?_|refine D.JJ true true ?_|refine DJ.nil ?_|refine J.reg0 ?_|refine D.W ?_|refine D.Z ?_|refine D.G ?_ ?_|refine D.X ‹_› ?_|refine D.XO ‹_› ?_|refine D.XS ‹_› ?_|intro h)
  have k3 := gInt_in k2
  refine D.F ⟨[1],[0]⟩ (q62 hr k3 hbs _) ?_
  (repeat' first|refine D.S ?_|refine D.JJ true true ?_|refine DJ.nil ?_|refine J.reg0 ?_|refine D.W ?_|refine D.Z ?_|refine D.G ?_ ?_|refine D.X ‹_› ?_|refine D.XO ‹_› ?_|refine D.XS ‹_› ?_|intro h)
  have k4 := gInt_in k3
  refine D.F ⟨[1],[0]⟩ (q64 hr k4 hbs _) ?_
  (repeat' first|refine D.S ?_|refine D.JJ true true ?_|refine DJ.nil ?_|refine J.reg0 ?_|refine D.W ?_|refine D.Z ?_|refine D.G ?_ ?_|refine D.X ‹_› ?_|refine D.XO ‹_› ?_|refine D.XS ‹_› ?_|intro h)
  (apply DJ.ap';(· simp(disch:=omega)only[go_sem,simprocAttr]<;>with_reducible rfl);(· simp(disch:=omega)only[go_sem,simprocAttr]<;>with_reducible rfl);(· simp only [rowsOf] <;> simp(disch:=omega)only[go_sem,simprocAttr] <;> with_reducible rfl);(· first|omega|(simp only [List.length_map,List.length_drop,List.length_take,List.length_append,List.length_nil,List.length_cons,maxLen] <;> omega));(· first|omega|(simp only [List.length_map,List.length_drop,List.length_take,List.length_append,List.length_nil,List.length_cons,maxLen] <;> omega)))
  (repeat' first|refine D.S ?_|refine D.JJ true true ?_|refine DJ.nil ?_|refine J.reg0 ?_|refine D.W ?_|refine D.Z ?_|refine D.G ?_ ?_|refine D.X ‹_› ?_|refine D.XO ‹_› ?_|refine D.XS ‹_› ?_|intro h)
  refine J.roundC (i + 1) (by omega) ⟨rfl, rfl, rfl, rfl, rfl, trivial⟩ (by refine ⟨rfl, rfl, ?_, trivial⟩; simp only [many_map]; rfl) (by refine ⟨?_, rfl, rfl, rfl, trivial⟩; simp only [many_map, List.length_append]; rfl) rfl (by simp only [bdE, bdL, bdB, bdT, bdO, AV.bd, Own.frz, go_sem] <;> rfl) (by show n - (i + 1) < n - i; omega)
 simp only [decide_eq_false_iff_not] at h
 have e : i = n := by omega
 subst e
 rw [← hL] at *
 generalize gList bs (gVar bs) 12 s = x at *
 obtain ⟨vs, s1⟩ := x
 try simp only at *
 clear hL hB hlen k0
 refine D.F ⟨[1],[0]⟩ (q63 hr j1 hbs _ 0 40) ?_
 (repeat' first|refine D.S ?_|refine D.JJ true true ?_|refine DJ.nil ?_|refine J.reg0 ?_|refine D.W ?_|refine D.Z ?_|refine D.G ?_ ?_|refine D.X ‹_› ?_|refine D.XO ‹_› ?_|refine D.XS ‹_› ?_|intro h)
 have r0 : 0 ≤ (mBd bs 0 40 s1.1 s1.2).1 ∧ (mBd bs 0 40 s1.1 s1.2).1 ≤ 40 := gBd_range (by decide) s1
 have j0 : (mBd bs 0 40 s1.1 s1.2).2.1 ≤ bs.length := gBd_in j1
 have j1 := gList_in (hi := 40) (fun s => gHd_in (bs := bs) (s := s)) j1
 obtain ⟨x, hB⟩ : ∃ x, mBd bs 0 40 s1.1 s1.2 = x := ⟨_, rfl⟩
 rw [hB] at r0 j0 ⊢
 obtain ⟨nI, sB⟩ := x
 simp only at r0 j0 ⊢
 obtain ⟨n, rfl⟩ : ∃ n : Nat, nI = n := ⟨nI.toNat, (Int.toNat_of_nonneg r0.1).symm⟩
 have hL : gList bs (gHd bs) 40 s1 = many (gHd bs) n sB := by
  unfold gList
  rw [show gBd bs 40 s1 = ((n : Int), sB) from hB]
  rfl
 refine J.loopX (X := Nat) 0 (fun i => [(2, .ptr 0 0), (4, .ptr 1 0), (5, .ptr 2 0), (41, .int .i64 (n : Int)), (42, .int .i64 (i : Int))]) (fun i => [(0, 36, z6), (1, 139, rdC bs ((many (gHd bs) i sB).2).1 ((many (gHd bs) i sB).2).2), (2, 36, [.str nm, .int .i64 rl, .own 1 7 (vs.map Var_.row), .own 2 3 ((many (gHd bs) i sB).1.map Hd.row), .own 3 4 (([] : List Of_).map Of_.row), .own 4 3 (([] : List Ins_).map Ins_.row)])]) (fun i => [(1, .frz 73 7 (vs.map Var_.row).length), (2, .frz 75 3 ((many (gHd bs) i sB).1.map Hd.row).length), (3, .frz 78 4 (([] : List Of_).map Of_.row).length), (4, .frz 43 3 (([] : List Ins_).map Ins_.row).length)]) (fun i => i ≤ n) (fun i => n - i) (Nat.zero_le _) ⟨rfl, rfl, rfl, rfl, rfl, trivial⟩ ⟨rfl, rfl, rfl, trivial⟩ ⟨rfl, rfl, rfl, rfl, trivial⟩ ?_
 intro i hi
 try simp only
 have k0 := many_in (fun s => gHd_in (bs := bs) (s := s)) j0 i
 have hlen := many_len (gHd bs) sB i
 (repeat' first|refine D.S ?_|refine D.JJ true true ?_|refine DJ.nil ?_|refine J.reg0 ?_|refine D.W ?_|refine D.Z ?_|refine D.G ?_ ?_|refine D.X ‹_› ?_|refine D.XO ‹_› ?_|refine D.XS ‹_› ?_|intro h|refine D.C ?_ ?_)
 ·simp only [decide_eq_true_eq] at h
  (apply DJ.cD (b := 1) (T := 139) (h := FC.fr (p := ⟨[1],[0]⟩) (q62 hr k0 hbs _) rfl rfl rfl (by repeat first|exact trivial|refine ⟨rfl,?_⟩) (by repeat first|exact trivial|refine ⟨rfl,?_⟩) (by simp(disch:=omega)only[go_sem,simprocAttr]<;>rfl) (by simp(disch:=omega)only[go_sem,simprocAttr]<;>rfl) rfl);(· simp(disch:=omega)only[go_sem,simprocAttr]<;>rfl);(· simp(disch:=omega)only[go_sem,simprocAttr]<;>with_reducible rfl);(· rfl);(· simp(disch:=omega)only[go_sem,simprocAttr]<;>rfl);(· rfl);(· intro s hs;simp only [List.mem_singleton] at hs;subst hs;exact ⟨_,_,_,rfl,rfl,rfl,by simp(disch:=omega)only[go_sem,simprocAttr]<;>rfl⟩))
  simp(disch:=omega)only[go_sem,simprocAttr]
  (repeat' first|refine D.S ?_|refine D.JJ true true ?_|refine DJ.nil ?_|refine J.reg0 ?_|refine D.W ?_|refine D.Z ?_|refine D.G ?_ ?_|refine D.X ‹_› ?_|refine D.XO ‹_› ?_|refine D.XS ‹_› ?_|intro h)
  have k1 := gInt_in k0
  (apply DJ.cD (b := 1) (T := 139) (h := FC.fr (p := ⟨[1],[0]⟩) (q62 hr k1 hbs _) rfl rfl rfl (by repeat first|exact trivial|refine ⟨rfl,?_⟩) (by repeat first|exact trivial|refine ⟨rfl,?_⟩) (by simp(disch:=omega)only[go_sem,simprocAttr]<;>rfl) (by simp(disch:=omega)only[go_sem,simprocAttr]<;>rfl) rfl);(· simp(disch:=omega)only[go_sem,simprocAttr]<;>rfl);(· simp(disch:=omega)only[go_sem,simprocAttr]<;>with_reducible rfl);(· rfl);(· simp(disch:=omega)only[go_sem,simprocAttr]<;>rfl);(· rfl);(· intro s hs;simp only [List.mem_singleton] at hs;subst hs;exact ⟨_,_,_,rfl,rfl,rfl,by simp(disch:=omega)only[go_sem,simprocAttr]<;>rfl⟩))
  simp(disch:=omega)only[go_sem,simprocAttr]
  (repeat' first|refine D.S ?_|refine D.JJ true true ?_|refine DJ.nil ?_|refine J.reg0 ?_|refine D.W ?_|refine D.Z ?_|refine D.G ?_ ?_|refine D.X ‹_› ?_|refine D.XO ‹_› ?_|refine D.XS ‹_› ?_|intro h)
  have k2 := gInt_in k1
  (apply DJ.cD (b := 1) (T := 139) (h := FC.fr (p := ⟨[1],[0]⟩) (q62 hr k2 hbs _) rfl rfl rfl (by repeat first|exact trivial|refine ⟨rfl,?_⟩) (by repeat first|exact trivial|refine ⟨rfl,?_⟩) (by simp(disch:=omega)only[go_sem,simprocAttr]<;>rfl) (by simp(disch:=omega)only[go_sem,simprocAttr]<;>rfl) rfl);(· simp(disch:=omega)only[go_sem,simprocAttr]<;>rfl);(· simp(disch:=omega)only[go_sem,simprocAttr]<;>with_reducible rfl);(· rfl);(· simp(disch:=omega)only[go_sem,simprocAttr]<;>rfl);(· rfl);(· intro s hs;simp only [List.mem_singleton] at hs;subst hs;exact ⟨_,_,_,rfl,rfl,rfl,by simp(disch:=omega)only[go_sem,simprocAttr]<;>rfl⟩))
  simp(disch:=omega)only[go_sem,simprocAttr]
  (repeat' first|refine D.S ?_|refine D.JJ true true ?_|refine DJ.nil ?_|refine J.reg0 ?_|refine D.W ?_|refine D.Z ?_|refine D.G ?_ ?_|refine D.X ‹_› ?_|refine D.XO ‹_› ?_|refine D.XS ‹_› ?_|intro h)
  have k3 := gInt_in k2
  (apply DJ.ap';(· simp(disch:=omega)only[go_sem,simprocAttr]<;>with_reducible rfl);(· simp(disch:=omega)only[go_sem,simprocAttr]<;>with_reducible rfl);(· simp only [rowsOf] <;> simp(disch:=omega)only[go_sem,simprocAttr] <;> with_reducible rfl);(· first|omega|(simp only [List.length_map,List.length_drop,List.length_take,List.length_append,List.length_nil,List.length_cons,maxLen] <;> omega));(· first|omega|(simp only [List.length_map,List.length_drop,List.length_take,List.length_append,List.length_nil,List.length_cons,maxLen] <;> omega)))
  (repeat' first|refine D.S ?_|refine D.JJ true true ?_|refine DJ.nil ?_|refine J.reg0 ?_|refine D.W ?_|refine D.Z ?_|refine D.G ?_ ?_|refine D.X ‹_› ?_|refine D.XO ‹_› ?_|refine D.XS ‹_› ?_|intro h)
  refine J.roundC (i + 1) (by omega) ⟨rfl, rfl, rfl, rfl, rfl, trivial⟩ (by refine ⟨rfl, rfl, ?_, trivial⟩; simp only [many_map]; rfl) (by refine ⟨rfl, ?_, rfl, rfl, trivial⟩; simp only [many_map, List.length_append]; rfl) rfl (by simp only [bdE, bdL, bdB, bdT, bdO, AV.bd, Own.frz, go_sem] <;> rfl) (by show n - (i + 1) < n - i; omega)
 simp only [decide_eq_false_iff_not] at h
 have e : i = n := by omega
 subst e
 rw [← hL] at *
 generalize gList bs (gHd bs) 40 s1 = x at *
 obtain ⟨hs, s2⟩ := x
 try simp only at *
 clear hL hB hlen k0
 refine D.F ⟨[1],[0]⟩ (q63 hr j1 hbs _ 0 40) ?_
 (repeat' first|refine D.S ?_|refine D.JJ true true ?_|refine DJ.nil ?_|refine J.reg0 ?_|refine D.W ?_|refine D.Z ?_|refine D.G ?_ ?_|refine D.X ‹_› ?_|refine D.XO ‹_› ?_|refine D.XS ‹_› ?_|intro h)
 have r0 : 0 ≤ (mBd bs 0 40 s2.1 s2.2).1 ∧ (mBd bs 0 40 s2.1 s2.2).1 ≤ 40 := gBd_range (by decide) s2
 have j0 : (mBd bs 0 40 s2.1 s2.2).2.1 ≤ bs.length := gBd_in j1
 have j1 := gList_in (hi := 40) (fun s => gOf_in (bs := bs) (s := s)) j1
 obtain ⟨x, hB⟩ : ∃ x, mBd bs 0 40 s2.1 s2.2 = x := ⟨_, rfl⟩
 rw [hB] at r0 j0 ⊢
 obtain ⟨nI, sB⟩ := x
 simp only at r0 j0 ⊢
 obtain ⟨n, rfl⟩ : ∃ n : Nat, nI = n := ⟨nI.toNat, (Int.toNat_of_nonneg r0.1).symm⟩
 have hL : gList bs (gOf bs) 40 s2 = many (gOf bs) n sB := by
  unfold gList
  rw [show gBd bs 40 s2 = ((n : Int), sB) from hB]
  rfl
 refine J.loopX (X := Nat) 0 (fun i => [(2, .ptr 0 0), (4, .ptr 1 0), (5, .ptr 2 0), (58, .int .i64 (n : Int)), (59, .int .i64 (i : Int))]) (fun i => [(0, 36, z6), (1, 139, rdC bs ((many (gOf bs) i sB).2).1 ((many (gOf bs) i sB).2).2), (2, 36, [.str nm, .int .i64 rl, .own 1 7 (vs.map Var_.row), .own 2 3 (hs.map Hd.row), .own 3 4 ((many (gOf bs) i sB).1.map Of_.row), .own 4 3 (([] : List Ins_).map Ins_.row)])]) (fun i => [(1, .frz 73 7 (vs.map Var_.row).length), (2, .frz 75 3 (hs.map Hd.row).length), (3, .frz 78 4 ((many (gOf bs) i sB).1.map Of_.row).length), (4, .frz 43 3 (([] : List Ins_).map Ins_.row).length)]) (fun i => i ≤ n) (fun i => n - i) (Nat.zero_le _) ⟨rfl, rfl, rfl, rfl, rfl, trivial⟩ ⟨rfl, rfl, rfl, trivial⟩ ⟨rfl, rfl, rfl, rfl, trivial⟩ ?_
 intro i hi
 try simp only
 have k0 := many_in (fun s => gOf_in (bs := bs) (s := s)) j0 i
 have hlen := many_len (gOf bs) sB i
 (repeat' first|refine D.S ?_|refine D.JJ true true ?_|refine DJ.nil ?_|refine J.reg0 ?_|refine D.W ?_|refine D.Z ?_|refine D.G ?_ ?_|refine D.X ‹_› ?_|refine D.XO ‹_› ?_|refine D.XS ‹_› ?_|intro h|refine D.C ?_ ?_)
 ·simp only [decide_eq_true_eq] at h
  (apply DJ.cD (b := 1) (T := 139) (h := FC.fr (p := ⟨[1],[0]⟩) (q62 hr k0 hbs _) rfl rfl rfl (by repeat first|exact trivial|refine ⟨rfl,?_⟩) (by repeat first|exact trivial|refine ⟨rfl,?_⟩) (by simp(disch:=omega)only[go_sem,simprocAttr]<;>rfl) (by simp(disch:=omega)only[go_sem,simprocAttr]<;>rfl) rfl);(· simp(disch:=omega)only[go_sem,simprocAttr]<;>rfl);(· simp(disch:=omega)only[go_sem,simprocAttr]<;>with_reducible rfl);(· rfl);(· simp(disch:=omega)only[go_sem,simprocAttr]<;>rfl);(· rfl);(· intro s hs;simp only [List.mem_singleton] at hs;subst hs;exact ⟨_,_,_,rfl,rfl,rfl,by simp(disch:=omega)only[go_sem,simprocAttr]<;>rfl⟩))
  simp(disch:=omega)only[go_sem,simprocAttr]
  (repeat' first|refine D.S ?_|refine D.JJ true true ?_|refine DJ.nil ?_|refine J.reg0 ?_|refine D.W ?_|refine D.Z ?_|refine D.G ?_ ?_|refine D.X ‹_› ?_|refine D.XO ‹_› ?_|refine D.XS ‹_› ?_|intro h)
  have k1 := gInt_in k0
  (apply DJ.cD (b := 1) (T := 139) (h := FC.fr (p := ⟨[1],[0]⟩) (q62 hr k1 hbs _) rfl rfl rfl (by repeat first|exact trivial|refine ⟨rfl,?_⟩) (by repeat first|exact trivial|refine ⟨rfl,?_⟩) (by simp(disch:=omega)only[go_sem,simprocAttr]<;>rfl) (by simp(disch:=omega)only[go_sem,simprocAttr]<;>rfl) rfl);(· simp(disch:=omega)only[go_sem,simprocAttr]<;>rfl);(· simp(disch:=omega)only[go_sem,simprocAttr]<;>with_reducible rfl);(· rfl);(· simp(disch:=omega)only[go_sem,simprocAttr]<;>rfl);(· rfl);(· intro s hs;simp only [List.mem_singleton] at hs;subst hs;exact ⟨_,_,_,rfl,rfl,rfl,by simp(disch:=omega)only[go_sem,simprocAttr]<;>rfl⟩))
  simp(disch:=omega)only[go_sem,simprocAttr]
  (repeat' first|refine D.S ?_|refine D.JJ true true ?_|refine DJ.nil ?_|refine J.reg0 ?_|refine D.W ?_|refine D.Z ?_|refine D.G ?_ ?_|refine D.X ‹_› ?_|refine D.XO ‹_› ?_|refine D.XS ‹_› ?_|intro h)
  have k2 := gInt_in k1
  (apply DJ.cD (b := 1) (T := 139) (h := FC.fr (p := ⟨[1],[0]⟩) (q62 hr k2 hbs _) rfl rfl rfl (by repeat first|exact trivial|refine ⟨rfl,?_⟩) (by repeat first|exact trivial|refine ⟨rfl,?_⟩) (by simp(disch:=omega)only[go_sem,simprocAttr]<;>rfl) (by simp(disch:=omega)only[go_sem,simprocAttr]<;>rfl) rfl);(· simp(disch:=omega)only[go_sem,simprocAttr]<;>rfl);(· simp(disch:=omega)only[go_sem,simprocAttr]<;>with_reducible rfl);(· rfl);(· simp(disch:=omega)only[go_sem,simprocAttr]<;>rfl);(· rfl);(· intro s hs;simp only [List.mem_singleton] at hs;subst hs;exact ⟨_,_,_,rfl,rfl,rfl,by simp(disch:=omega)only[go_sem,simprocAttr]<;>rfl⟩))
  simp(disch:=omega)only[go_sem,simprocAttr]
  (repeat' first|refine D.S ?_|refine D.JJ true true ?_|refine DJ.nil ?_|refine J.reg0 ?_|refine D.W ?_|refine D.Z ?_|refine D.G ?_ ?_|refine D.X ‹_› ?_|refine D.XO ‹_› ?_|refine D.XS ‹_› ?_|intro h)
  have k3 := gInt_in k2
  (apply DJ.cD (b := 1) (T := 139) (h := FC.fr (p := ⟨[1],[0]⟩) (q62 hr k3 hbs _) rfl rfl rfl (by repeat first|exact trivial|refine ⟨rfl,?_⟩) (by repeat first|exact trivial|refine ⟨rfl,?_⟩) (by simp(disch:=omega)only[go_sem,simprocAttr]<;>rfl) (by simp(disch:=omega)only[go_sem,simprocAttr]<;>rfl) rfl);(· simp(disch:=omega)only[go_sem,simprocAttr]<;>rfl);(· simp(disch:=omega)only[go_sem,simprocAttr]<;>with_reducible rfl);(· rfl);(· simp(disch:=omega)only[go_sem,simprocAttr]<;>rfl);(· rfl);(· intro s hs;simp only [List.mem_singleton] at hs;subst hs;exact ⟨_,_,_,rfl,rfl,rfl,by simp(disch:=omega)only[go_sem,simprocAttr]<;>rfl⟩))
  simp(disch:=omega)only[go_sem,simprocAttr]
  (repeat' first|refine D.S ?_|refine D.JJ true true ?_|refine DJ.nil ?_|refine J.reg0 ?_|refine D.W ?_|refine D.Z ?_|refine D.G ?_ ?_|refine D.X ‹_› ?_|refine D.XO ‹_› ?_|refine D.XS ‹_› ?_|intro h)
  have k4 := gInt_in k3
  (apply DJ.ap';(· simp(disch:=omega)only[go_sem,simprocAttr]<;>with_reducible rfl);(· simp(disch:=omega)only[go_sem,simprocAttr]<;>with_reducible rfl);(· simp only [rowsOf] <;> simp(disch:=omega)only[go_sem,simprocAttr] <;> with_reducible rfl);(· first|omega|(simp only [List.length_map,List.length_drop,List.length_take,List.length_append,List.length_nil,List.length_cons,maxLen] <;> omega));(· first|omega|(simp only [List.length_map,List.length_drop,List.length_take,List.length_append,List.length_nil,List.length_cons,maxLen] <;> omega)))
  (repeat' first|refine D.S ?_|refine D.JJ true true ?_|refine DJ.nil ?_|refine J.reg0 ?_|refine D.W ?_|refine D.Z ?_|refine D.G ?_ ?_|refine D.X ‹_› ?_|refine D.XO ‹_› ?_|refine D.XS ‹_› ?_|intro h)
  refine J.roundC (i + 1) (by omega) ⟨rfl, rfl, rfl, rfl, rfl, trivial⟩ (by refine ⟨rfl, rfl, ?_, trivial⟩; simp only [many_map]; rfl) (by refine ⟨rfl, rfl, ?_, rfl, trivial⟩; simp only [many_map, List.length_append]; rfl) rfl (by simp only [bdE, bdL, bdB, bdT, bdO, AV.bd, Own.frz, go_sem] <;> rfl) (by show n - (i + 1) < n - i; omega)
 simp only [decide_eq_false_iff_not] at h
 have e : i = n := by omega
 subst e
 rw [← hL] at *
 generalize gList bs (gOf bs) 40 s2 = x at *
 obtain ⟨os, s3⟩ := x
 try simp only at *
 clear hL hB hlen k0
 refine D.F ⟨[1],[0]⟩ (q63 hr j1 hbs _ 0 1000) ?_
 (repeat' first|refine D.S ?_|refine D.JJ true true ?_|refine DJ.nil ?_|refine J.reg0 ?_|refine D.W ?_|refine D.Z ?_|refine D.G ?_ ?_|refine D.X ‹_› ?_|refine D.XO ‹_› ?_|refine D.XS ‹_› ?_|intro h)
 have r0 : 0 ≤ (mBd bs 0 1000 s3.1 s3.2).1 ∧ (mBd bs 0 1000 s3.1 s3.2).1 ≤ 1000 := gBd_range (by decide) s3
 have j0 : (mBd bs 0 1000 s3.1 s3.2).2.1 ≤ bs.length := gBd_in j1
 have j1 := gList_in (hi := 1000) (fun s => gIns_in (bs := bs) (s := s)) j1
 obtain ⟨x, hB⟩ : ∃ x, mBd bs 0 1000 s3.1 s3.2 = x := ⟨_, rfl⟩
 rw [hB] at r0 j0 ⊢
 obtain ⟨nI, sB⟩ := x
 simp only at r0 j0 ⊢
 obtain ⟨n, rfl⟩ : ∃ n : Nat, nI = n := ⟨nI.toNat, (Int.toNat_of_nonneg r0.1).symm⟩
 have hL : gList bs (gIns bs) 1000 s3 = many (gIns bs) n sB := by
  unfold gList
  rw [show gBd bs 1000 s3 = ((n : Int), sB) from hB]
  rfl
 refine J.loopX (X := Nat) 0 (fun i => [(2, .ptr 0 0), (4, .ptr 1 0), (5, .ptr 2 0), (77, .int .i64 (n : Int)), (78, .int .i64 (i : Int))]) (fun i => [(0, 36, z6), (1, 139, rdC bs ((many (gIns bs) i sB).2).1 ((many (gIns bs) i sB).2).2), (2, 36, [.str nm, .int .i64 rl, .own 1 7 (vs.map Var_.row), .own 2 3 (hs.map Hd.row), .own 3 4 (os.map Of_.row), .own 4 3 ((many (gIns bs) i sB).1.map Ins_.row)])]) (fun i => [(1, .frz 73 7 (vs.map Var_.row).length), (2, .frz 75 3 (hs.map Hd.row).length), (3, .frz 78 4 (os.map Of_.row).length), (4, .frz 43 3 ((many (gIns bs) i sB).1.map Ins_.row).length)]) (fun i => i ≤ n) (fun i => n - i) (Nat.zero_le _) ⟨rfl, rfl, rfl, rfl, rfl, trivial⟩ ⟨rfl, rfl, rfl, trivial⟩ ⟨rfl, rfl, rfl, rfl, trivial⟩ ?_
 intro i hi
 try simp only
 have k0 := many_in (fun s => gIns_in (bs := bs) (s := s)) j0 i
 have hlen := many_len (gIns bs) sB i
 (repeat' first|refine D.S ?_|refine D.JJ true true ?_|refine DJ.nil ?_|refine J.reg0 ?_|refine D.W ?_|refine D.Z ?_|refine D.G ?_ ?_|refine D.X ‹_› ?_|refine D.XO ‹_› ?_|refine D.XS ‹_› ?_|intro h|refine D.C ?_ ?_)
 ·simp only [decide_eq_true_eq] at h
  refine D.F ⟨[1],[0]⟩ (q62 hr k0 hbs _) ?_
  (repeat' first|refine D.S ?_|refine D.JJ true true ?_|refine DJ.nil ?_|refine J.reg0 ?_|refine D.W ?_|refine D.Z ?_|refine D.G ?_ ?_|refine D.X ‹_› ?_|refine D.XO ‹_› ?_|refine D.XS ‹_› ?_|intro h)
  have k1 := gInt_in k0
  refine D.F ⟨[1],[0]⟩ (q62 hr k1 hbs _) ?_
  (repeat' first|refine D.S ?_|refine D.JJ true true ?_|refine DJ.nil ?_|refine J.reg0 ?_|refine D.W ?_|refine D.Z ?_|refine D.G ?_ ?_|refine D.X ‹_› ?_|refine D.XO ‹_› ?_|refine D.XS ‹_› ?_|intro h)
  have k2 := gInt_in k1
  refine D.F ⟨[1],[0]⟩ (q61 hr k2 hbs _ 40 (by decide)) ?_
  (repeat' first|refine D.S ?_|refine D.JJ true true ?_|refine DJ.nil ?_|refine J.reg0 ?_|refine D.W ?_|refine D.Z ?_|refine D.G ?_ ?_|refine D.X ‹_› ?_|refine D.XO ‹_› ?_|refine D.XS ‹_› ?_|intro h)
  (apply DJ.ap';(· simp(disch:=omega)only[go_sem,simprocAttr]<;>with_reducible rfl);(· simp(disch:=omega)only[go_sem,simprocAttr]<;>with_reducible rfl);(· simp only [rowsOf] <;> simp(disch:=omega)only[go_sem,simprocAttr] <;> with_reducible rfl);(· first|omega|(simp only [List.length_map,List.length_drop,List.length_take,List.length_append,List.length_nil,List.length_cons,maxLen] <;> omega));(· first|omega|(simp only [List.length_map,List.length_drop,List.length_take,List.length_append,List.length_nil,List.length_cons,maxLen] <;> omega)))
  (repeat' first|refine D.S ?_|refine D.JJ true true ?_|refine DJ.nil ?_|refine J.reg0 ?_|refine D.W ?_|refine D.Z ?_|refine D.G ?_ ?_|refine D.X ‹_› ?_|refine D.XO ‹_› ?_|refine D.XS ‹_› ?_|intro h)
  refine J.roundC (i + 1) (by omega) ⟨rfl, rfl, rfl, rfl, rfl, trivial⟩ (by refine ⟨rfl, rfl, ?_, trivial⟩; simp only [many_map]; rfl) (by refine ⟨rfl, rfl, rfl, ?_, trivial⟩; simp only [many_map, List.length_append]; rfl) rfl (by simp only [bdE, bdL, bdB, bdT, bdO, AV.bd, Own.frz, go_sem] <;> rfl) (by show n - (i + 1) < n - i; omega)
 simp only [decide_eq_false_iff_not] at h
 have e : i = n := by omega
 subst e
 rw [← hL] at *
 generalize gList bs (gIns bs) 1000 s3 = x at *
 obtain ⟨cs, s4⟩ := x
 try simp only at *
 clear hL hB hlen k0
 subst hg
 rw [hdec]
 simp only
 clear hdec
 by_cases hE : s4.2 = true ∨ s4.1 < bs.length
 ·have q := q65 bs s4.1 s4.2 hr j1
  rw [if_pos hE] at q
  rw [if_pos (by rcases hE with h | h <;> simp [h])]
  refine D.F ⟨[1],[0]⟩ (q) ?_
  (repeat' first|refine D.S ?_|refine D.JJ true true ?_|refine DJ.nil ?_|refine J.reg0 ?_|refine D.W ?_|refine D.Z ?_|refine D.G ?_ ?_|refine D.X ‹_› ?_|refine D.XO ‹_› ?_|refine D.XS ‹_› ?_|intro h)
  first|refine D.R ?_|refine D.E ?_
  exact ⟨_, rfl, .tup (.cons (.agg (.cons (.wk rfl rfl) (.cons (.wk rfl rfl) (.cons .nil (.cons .nil (.cons .nil (.cons .nil .nil))))))) (.cons (.wk rfl rfl) .nil)), trivial, trivial⟩
 ·have q := q65 bs s4.1 s4.2 hr j1
  rw [if_neg hE] at q
  refine D.F ⟨[1],[0]⟩ (q) ?_
  (repeat' first|refine D.S ?_|refine D.JJ true true ?_|refine DJ.nil ?_|refine J.reg0 ?_|refine D.W ?_|refine D.Z ?_|refine D.G ?_ ?_|refine D.X ‹_› ?_|refine D.XO ‹_› ?_|refine D.XS ‹_› ?_|intro h)
  refine D.P (p11 ⟨nm, rl, vs, hs, os, cs⟩) ?_
  simp only [not_or] at hE
  cases hv : validP ⟨nm, rl, vs, hs, os, cs⟩ with
  | true =>
   rw [if_neg (by simp [hE.1, hE.2])]
   (repeat' first|refine D.S ?_|refine D.JJ true true ?_|refine DJ.nil ?_|refine J.reg0 ?_|refine D.W ?_|refine D.Z ?_|refine D.G ?_ ?_|refine D.X ‹_› ?_|refine D.XO ‹_› ?_|refine D.XS ‹_› ?_|intro h)
   first|refine D.R ?_|refine D.E ?_
   exact ⟨_, rfl, .tup (.cons (.agg (.cons (.wk rfl rfl) (.cons (.wk rfl rfl) (.cons (.wk rfl (fl_var _)) (.cons (.wk rfl (fl_hd _)) (.cons (.wk rfl (fl_of _)) (.cons (.wk rfl (fl_ins _)) .nil))))))) (.cons (.wk rfl rfl) .nil)), trivial, trivial⟩
  | false =>
   rw [if_pos (by simp)]
   (repeat' first|refine D.S ?_|refine D.JJ true true ?_|refine DJ.nil ?_|refine J.reg0 ?_|refine D.W ?_|refine D.Z ?_|refine D.G ?_ ?_|refine D.X ‹_› ?_|refine D.XO ‹_› ?_|refine D.XS ‹_› ?_|intro h)
   first|refine D.R ?_|refine D.E ?_
   exact ⟨_, rfl, .tup (.cons (.agg (.cons (.wk rfl rfl) (.cons (.wk rfl rfl) (.cons .nil (.cons .nil (.cons .nil (.cons .nil .nil))))))) (.cons (.wk rfl rfl) .nil)), trivial, trivial⟩
end Go.Aw.T.N
namespace Go.Aw.T.N
open Go Go.Aw Go.Proofs Go.RowKit
set_option maxRecDepth 100000
attribute [local irreducible] Go.Aw.J Go.Aw.DJ Go.Aw.FC
attribute [local go_sem] wrap64 wrapu64 wrapu8 nnif decide_true decide_false dst gst gv_b gv_u jst jpop bdL bdB bdT bdO AV.bd tfL AV.tf o_mv o_pick o_nilck o_build o_load o_loadD o_faddr o_field o_iaddr o_iaddrA o_idxA o_idxS o_bin o_binB o_eqA o_not o_pnil o_neg o_conv o_lenS o_len o_lenA o_minmax o_slS o_slV o_extract o_mkfn o_mkfnB o_convS o_convBS o_mkif o_isnil o_bslice o_box o_alloc o_store o_storeD o_bsliceO o_bsliceM cpv cev_t cev_c Env.get put_some' put_none' of_setB of_addB of_setT of_addT of_upd of_blk of_tok of_nb of_nt of_new rmB rmT rmBs rmTs renB renT apB apT lkB lkT getD_0 getD_s renL AV.ren crange_if cstB_if one_nilS one_pnil oc_nil oc_pnil cbin binInt shInt binStr binBool cbuild_nil cbuild_cons cidx_if AV.cells AV.okc AV.flat flatL flatR setRange minmaxAV AV.one AV.ofCells eqCells eqCell slRows initEnv initFrom cres cresv cresL cond_true cond_false beq_self_eq_true Bool.not_true Bool.not_false beq_true beq_false eq_self if_true Option.some.injEq List.length_cons List.length_nil List.take_succ_cons List.take_zero List.drop_succ_cons List.drop_zero List.set_cons_succ List.set_cons_zero List.nil_append List.cons_append List.append_nil and_self Option.map_some Option.map_none List.map_cons List.map_nil Bool.false_eq_true if_false Nat.zero_add Nat.add_zero true_and and_true Bool.and_true Bool.true_and List.getElem?_cons_zero List.getElem?_cons_succ Nat.zero_le Nat.le_refl List.all_cons List.all_nil List.flatten_cons List.flatten_nil crows crowsOk List.filter_cons List.filter_nil List.contains_cons List.contains_nil Bool.or_false Bool.or_true Bool.false_or Bool.true_or
set_option linter.unusedSimpArgs false
set_option linter.unusedVariables false
set_option linter.unusedSectionVars false
attribute [local go_sem] fl_brow brow
abbrev rrC (bs : List Nat) (pos : Int) (bad : Bool) : List AV := [.vs 1 (bs.map brow), .int .i64 pos, .bool bad]
abbrev TR : Nat := 120
abbrev rr0 (bs : List Nat) (pos : Nat) (bad : Bool) : CS := CS.of 1 0 [(0, TR, rrC bs pos bad)] []
def wt (k : Nat) : Nat := 2 ^ (7 * k) % 18446744073709551616
theorem wt_eq {k : Nat} (h : k ≤ 9) : wt k = 2 ^ (7 * k) := by
 have : k = 0 ∨ k = 1 ∨ k = 2 ∨ k = 3 ∨ k = 4 ∨ k = 5 ∨ k = 6 ∨ k = 7 ∨ k = 8 ∨ k = 9 := by omega
 rcases this with rfl | rfl | rfl | rfl | rfl | rfl | rfl | rfl | rfl | rfl <;> decide
theorem wt_step (k : Nat) : IntKind.u64.wrap ((wt k : Int) * 128) = (wt (k + 1) : Int) := by
 rw [show ((wt k : Nat) : Int) * 128 = ((wt k * 128 : Nat) : Int) by simp, u64w]
 congr 1
 unfold wt
 rw [Nat.mod_mul_mod, show 7 * (k + 1) = 7 * k + 7 by omega, Nat.pow_add]
theorem q70b (bs : List Nat) (pos : Nat) (hr : bs.length ≤ 1000000) (hp : pos ≤ bs.length) : FC Tryz.prog 70 [.ptr 0 0] (rr0 bs pos true) (Ro (.int .i64 0) [(0, TR, rrC bs pos true)] []) := by
 refine FC.intro mo Tryz.func70 c70 ?_
 unfold e70 r70
 simp(disch:=omega)only[go_sem,simprocAttr]
 (repeat' first|refine D.S ?_|refine D.JJ true true ?_|refine DJ.nil ?_|refine J.reg0 ?_|refine D.W ?_|refine D.Z ?_|refine D.G ?_ ?_|refine D.X ‹_› ?_|refine D.XO ‹_› ?_|refine D.XS ‹_› ?_|intro h)
 refine J.loopX (X := Unit) () (fun _ => [(0, .ptr 0 0), (5, .int .i64 (pos : Int))]) (fun _ => [(0, TR, rrC bs pos true)]) (fun _ => []) (fun _ => True) (fun _ => 0) trivial ⟨rfl, rfl, trivial⟩ ⟨rfl, trivial⟩ trivial ?_
 intro _ _
 (repeat' first|(apply DJ.s rfl;(· simp(disch:=omega)only[go_sem,simprocAttr,List.length_map]<;>with_reducible rfl))|(apply J.s true true;(· simp(disch:=omega)only[go_sem,simprocAttr,List.length_map]<;>with_reducible rfl))|apply DJ.nil|(refine J.reg0 ?_)|(apply DJ.gw;(· simp(disch:=omega)only[go_sem,simprocAttr,List.length_map]<;>with_reducible rfl))|(apply DJ.gz;(· rfl);(· simp(disch:=omega)only[go_sem,simprocAttr,List.length_map]<;>with_reducible rfl))|(apply DJ.gs;(· simp(disch:=omega)only[go_sem,simprocAttr,List.length_map]<;>with_reducible rfl))|((first|apply DJ.ixm|apply DJ.ixom|apply DJ.ixsm);(· simp(disch:=omega)only[go_sem,simprocAttr,List.length_map]<;>with_reducible rfl);(· simp(disch:=omega)only[go_sem,simprocAttr,List.length_map]<;>with_reducible rfl);(· assumption);(· omega))|intro h|(apply J.cond;(· simp(disch:=omega)only[go_sem,simprocAttr,List.length_map]<;>with_reducible rfl)))
 all_goals
  first|refine D.R ?_|refine D.E ?_
  exact ⟨rfl, ⟨rfl, trivial⟩, trivial⟩
set_option maxHeartbeats 1000000 in
theorem q70 (bs : List Nat) (pos : Nat) (hr : bs.length ≤ 1000000) (hp : pos ≤ bs.length) (hbs : ∀ b ∈ bs, b < 256) : FC Tryz.prog 70 [.ptr 0 0] (rr0 bs pos false) (Ro (.int .i64 (mInt bs pos false).1) [(0, TR, rrC bs (mInt bs pos false).2.1 (mInt bs pos false).2.2)] []) := by
 obtain ⟨R, hR⟩ : ∃ R, R = mInt bs pos false := ⟨_, rfl⟩
 rw [← hR]
 refine FC.intro mo Tryz.func70 c70 ?_
 unfold e70 r70
 simp(disch:=omega)only[go_sem,simprocAttr]
 (repeat' first|refine D.S ?_|refine D.JJ true true ?_|refine DJ.nil ?_|refine J.reg0 ?_|refine D.W ?_|refine D.Z ?_|refine D.G ?_ ?_|refine D.X ‹_› ?_|refine D.XO ‹_› ?_|refine D.XS ‹_› ?_|intro h)
 refine J.loopX (X := Nat × Nat) (0, 0) (fun x => [(0, .ptr 0 0), (3, .int .u64 (x.2 : Int)), (4, .int .u64 (wt x.1 : Int)), (5, .int .i64 ((pos + x.1 : Nat) : Int))]) (fun _ => [(0, TR, rrC bs pos false)]) (fun _ => []) (fun x => x.1 ≤ 10 ∧ pos + x.1 ≤ bs.length ∧ x.2 < 2 ^ (7 * x.1) ∧ prt 0 pos false (intP bs (10 - x.1) x.1 (pos + x.1) x.2) = R) (fun x => 10 - x.1) ⟨by omega, hp, by show 0 < 2 ^ (7 * 0); decide, hR.symm⟩ ⟨rfl, rfl, rfl, rfl, trivial⟩ ⟨rfl, trivial⟩ trivial ?_
 rintro ⟨k, u⟩ ⟨h1, h2, h3, h4⟩
 simp only at h1 h2 h3 h4
 by_cases hk : k = 10 ∨ bs.length ≤ pos + k
 ·have e : R = (0, pos, true) := by
   rw [← h4]
   by_cases hk1 : k = 10
   ·subst hk1; rfl
   ·have hn : bs[pos + k]? = none := List.getElem?_eq_none (by omega)
    rw [show 10 - k = (9 - k) + 1 by omega]
    simp only [intP, hn]
    rfl
  rw [e]
  have d1 : decide (((pos + k : Nat) : Int) < (bs.length : Int)) = true → decide (((pos + k : Nat) : Int) < (pos : Int) + 10) = false := by simp; omega
  (repeat' first|(apply DJ.s rfl;(· simp(disch:=omega)only[go_sem,simprocAttr,List.length_map]<;>with_reducible rfl))|(apply J.s true true;(· simp(disch:=omega)only[go_sem,simprocAttr,List.length_map]<;>with_reducible rfl))|apply DJ.nil|(refine J.reg0 ?_)|(apply DJ.gw;(· simp(disch:=omega)only[go_sem,simprocAttr,List.length_map]<;>with_reducible rfl))|(apply DJ.gz;(· rfl);(· simp(disch:=omega)only[go_sem,simprocAttr,List.length_map]<;>with_reducible rfl))|(apply DJ.gs;(· simp(disch:=omega)only[go_sem,simprocAttr,List.length_map]<;>with_reducible rfl))|((first|apply DJ.ixm|apply DJ.ixom|apply DJ.ixsm);(· simp(disch:=omega)only[go_sem,simprocAttr,List.length_map]<;>with_reducible rfl);(· simp(disch:=omega)only[go_sem,simprocAttr,List.length_map]<;>with_reducible rfl);(· assumption);(· omega))|intro h|(apply J.cond;(· simp(disch:=omega)only[go_sem,simprocAttr,List.length_map]<;>with_reducible rfl)))
  all_goals simp only [decide_eq_true_eq, decide_eq_false_iff_not, Bool.false_eq_true] at *
  all_goals try (exfalso; omega)
  all_goals
   first|refine D.R ?_|refine D.E ?_
   exact ⟨rfl, ⟨rfl, trivial⟩, trivial⟩
 ·obtain ⟨c, hc⟩ : ∃ c, bs[pos + k]? = some c := ⟨_, List.getElem?_eq_getElem (by omega)⟩
  have c256 := hbs c (List.mem_of_getElem? hc)
  rw [show 10 - k = (9 - k) + 1 by omega] at h4
  simp only [intP, hc] at h4
  have e1 : ((c : Nat) : Int).tmod 128 = ((c % 128 : Nat) : Int) := rfl
  have d1 : ((pos + k : Nat) : Int) < (bs.length : Int) := by omega
  have d2 : ((pos + k : Nat) : Int) < (pos : Int) + 10 := by omega
  by_cases hb : k = 9 ∧ 1 < c % 128
  ·have e : R = (0, pos, true) := by
    rw [← h4]
    split
    ·rw [show (decide (c = 0 ∧ 0 < k ∨ k = 9 ∧ 1 < c)) = true by simp; omega]; rfl
    ·rw [hb.1]; rfl
   rw [e]
   clear h4
   (repeat' first|(apply DJ.s rfl;(· simp(disch:=omega)only[go_sem,simprocAttr,List.length_map, d1, d2, e1]<;>with_reducible rfl))|(apply J.s true true;(· simp(disch:=omega)only[go_sem,simprocAttr,List.length_map, d1, d2, e1]<;>with_reducible rfl))|apply DJ.nil|(refine J.reg0 ?_)|(apply DJ.gw;(· simp(disch:=omega)only[go_sem,simprocAttr,List.length_map, d1, d2, e1]<;>with_reducible rfl))|(apply DJ.gz;(· rfl);(· simp(disch:=omega)only[go_sem,simprocAttr,List.length_map, d1, d2, e1]<;>with_reducible rfl))|(apply DJ.gs;(· simp(disch:=omega)only[go_sem,simprocAttr,List.length_map, d1, d2, e1]<;>with_reducible rfl))|((first|apply DJ.ixm|apply DJ.ixom|apply DJ.ixsm);(· simp(disch:=omega)only[go_sem,simprocAttr,List.length_map, d1, d2, e1]<;>with_reducible rfl);(· simp(disch:=omega)only[go_sem,simprocAttr,List.length_map, d1, d2, e1]<;>with_reducible rfl);(· assumption);(· omega))|intro h|(apply J.cond;(· simp(disch:=omega)only[go_sem,simprocAttr,List.length_map, d1, d2, e1]<;>with_reducible rfl)))
   all_goals simp only [decide_eq_true_eq, decide_eq_false_iff_not, Bool.false_eq_true] at *
   all_goals try (exfalso; omega)
   all_goals
    first|refine D.R ?_|refine D.E ?_
    exact ⟨rfl, ⟨rfl, trivial⟩, trivial⟩
  ·obtain ⟨q1, q2, q3⟩ := digL c (show k < 10 by omega)
   have e2 : IntKind.u64.wrap (((c % 128 : Nat) : Int) * (wt k : Int)) = ((dig k c : Nat) : Int) := by
    rw [show (((c % 128 : Nat) : Int) * (wt k : Int)) = ((c % 128 * wt k : Nat) : Int) by simp, u64w, wt_eq (by omega), q1]
   have h5 : u + dig k c < 18446744073709551616 := by omega
   have e3 := wt_step k
   have e4 : ((u : Int) + (dig k c : Int)).tdiv 2 = (((u + dig k c) / 2 : Nat) : Int) := rfl
   have e5 : ((u : Int) + (dig k c : Int)).tmod 2 = (((u + dig k c) % 2 : Nat) : Int) := rfl
   (repeat' first|(apply DJ.s rfl;(· simp(disch:=omega)only[go_sem,simprocAttr,List.length_map, d1, d2, e1, e2, e3, e4, e5]<;>with_reducible rfl))|(apply J.s true true;(· simp(disch:=omega)only[go_sem,simprocAttr,List.length_map, d1, d2, e1, e2, e3, e4, e5]<;>with_reducible rfl))|apply DJ.nil|(refine J.reg0 ?_)|(apply DJ.gw;(· simp(disch:=omega)only[go_sem,simprocAttr,List.length_map, d1, d2, e1, e2, e3, e4, e5]<;>with_reducible rfl))|(apply DJ.gz;(· rfl);(· simp(disch:=omega)only[go_sem,simprocAttr,List.length_map, d1, d2, e1, e2, e3, e4, e5]<;>with_reducible rfl))|(apply DJ.gs;(· simp(disch:=omega)only[go_sem,simprocAttr,List.length_map, d1, d2, e1, e2, e3, e4, e5]<;>with_reducible rfl))|((first|apply DJ.ixm|apply DJ.ixom|apply DJ.ixsm);(· simp(disch:=omega)only[go_sem,simprocAttr,List.length_map, d1, d2, e1, e2, e3, e4, e5]<;>with_reducible rfl);(· simp(disch:=omega)only[go_sem,simprocAttr,List.length_map, d1, d2, e1, e2, e3, e4, e5]<;>with_reducible rfl);(· assumption);(· omega))|intro h|(apply J.cond;(· simp(disch:=omega)only[go_sem,simprocAttr,List.length_map, d1, d2, e1, e2, e3, e4, e5]<;>with_reducible rfl)))
   all_goals simp only [decide_eq_true_eq, decide_eq_false_iff_not, Bool.false_eq_true] at *
   all_goals try (exfalso; omega)
   all_goals try (refine J.roundX (k + 1, u + dig k c) ⟨by show k + 1 ≤ 10; omega, by show pos + (k + 1) ≤ bs.length; omega, by show u + dig k c < 2 ^ (7 * (k + 1)); omega, by rw [← h4, if_neg (by omega)]; congr 2; omega⟩ ⟨rfl, rfl, rfl, rfl, trivial⟩ ⟨rfl, trivial⟩ trivial rfl rfl (by show 10 - (k + 1) < 10 - k; omega))
   all_goals
    rw [if_pos (by omega)] at h4
    rw [← h4]
    by_cases hf : c = 0 ∧ 0 < k ∨ k = 9 ∧ 1 < c
    ·rw [decide_eq_true hf]
     all_goals try (exfalso; omega)
     all_goals
      first|refine D.R ?_|refine D.E ?_
      exact ⟨rfl, ⟨rfl, trivial⟩, trivial⟩
    ·rw [decide_eq_false hf]
     all_goals try (exfalso; omega)
     all_goals
      first|refine D.R ?_|refine D.E ?_
      refine ⟨?_, ⟨rfl, trivial⟩, trivial⟩
      show Out.ret _ = Out.ret (AV.int .i64 (unz (u + dig k c)))
      congr 2
      unfold unz
      split <;> omega
theorem q108 (bs : List Nat) (pos at_ : Nat) (bad : Bool) : FC Tryz.prog 108 [.ptr 0 0, .int .i64 at_] (rr0 bs pos bad) (Ro (.tup []) [(0, TR, rrC bs at_ true)] []) := by
 refine FC.intro mo Tryz.func108 c108 ?_
 unfold e108 r108
 simp(disch:=omega)only[go_sem,simprocAttr]
 (repeat' first|refine D.S ?_|refine D.JJ true true ?_|refine DJ.nil ?_|refine J.reg0 ?_|refine D.W ?_|refine D.Z ?_|refine D.G ?_ ?_|refine D.X ‹_› ?_|refine D.XO ‹_› ?_|refine D.XS ‹_› ?_|intro h)
 first|refine D.R ?_|refine D.E ?_
 exact ⟨rfl, ⟨rfl, trivial⟩, trivial⟩
section
variable {bs : List Nat} {pos : Nat} (hr : bs.length ≤ 1000000) (hp : pos ≤ bs.length) (hbs : ∀ b ∈ bs, b < 256)
include hr hp hbs
theorem q70' (bad : Bool) : FC Tryz.prog 70 [.ptr 0 0] (rr0 bs pos bad) (Ro (.int .i64 (mInt bs pos bad).1) [(0, TR, rrC bs (mInt bs pos bad).2.1 (mInt bs pos bad).2.2)] []) := by
 cases bad with
 | true => exact q70b bs pos hr hp
 | false => exact q70 bs pos hr hp hbs
theorem q71 (bad : Bool) (lo hi : Int) : FC Tryz.prog 71 [.ptr 0 0, .int .i64 lo, .int .i64 hi] (rr0 bs pos bad) (Ro (.int .i64 (mBd bs lo hi pos bad).1) [(0, TR, rrC bs (mBd bs lo hi pos bad).2.1 (mBd bs lo hi pos bad).2.2)] []) := by
 have q := q70' hr hp hbs bad
 have e : mBd bs lo hi pos bad = bif (mInt bs pos bad).2.2 then (0, pos, true) else if (mInt bs pos bad).1 < lo ∨ hi < (mInt bs pos bad).1 then (0, pos, true) else mInt bs pos bad := by
  unfold mBd mInt prt rBd
  cases bad with
  | true => rfl
  | false =>
   cases hb : (rInt bs pos).2.2 with
   | true => simp only [hb, cond_true, cond_false, Bool.true_or]
   | false =>
    simp only [hb, cond_false, Bool.false_or]
    by_cases hx : (rInt bs pos).1 < lo ∨ hi < (rInt bs pos).1
    ·rw [if_pos hx]
     rcases hx with hx | hx <;> simp [hx]
    ·rw [if_neg hx]
     simp only [not_or] at hx
     simp [hx.1, hx.2]
     rw [← hb]
 have e2 : (mInt bs pos bad).2.2 = true → (mInt bs pos bad).2.1 = pos := by
  unfold mInt prt
  cases bad with
  | true => intro _; rfl
  | false =>
   cases hb : (rInt bs pos).2.2 with
   | true => intro _; rfl
   | false => simp only [cond_false, hb, Bool.false_eq_true]; exact fun h => h.elim
 rw [e]
 generalize mInt bs pos bad = r at *
 obtain ⟨n, p, b⟩ := r
 simp only at q e2 ⊢
 refine FC.intro mo Tryz.func71 c71 ?_
 unfold e71 r71
 simp(disch:=omega)only[go_sem,simprocAttr]
 (repeat' first|refine D.S ?_|refine D.JJ true true ?_|refine DJ.nil ?_|refine J.reg0 ?_|refine D.W ?_|refine D.Z ?_|refine D.G ?_ ?_|refine D.X ‹_› ?_|refine D.XO ‹_› ?_|refine D.XS ‹_› ?_|intro h)
 refine D.F ⟨[0],[]⟩ (q) ?_
 cases b with
 | true =>
  have := e2 rfl
  subst this
  (repeat' first|refine D.S ?_|refine D.JJ true true ?_|refine DJ.nil ?_|refine J.reg0 ?_|refine D.W ?_|refine D.Z ?_|refine D.G ?_ ?_|refine D.X ‹_› ?_|refine D.XO ‹_› ?_|refine D.XS ‹_› ?_|intro h)
  first|refine D.R ?_|refine D.E ?_
  exact ⟨rfl, ⟨rfl, trivial⟩, trivial⟩
 | false =>
  simp only [cond_false]
  by_cases hx : n < lo ∨ hi < n
  ·rw [if_pos hx]
   (repeat' first|refine D.S ?_|refine D.JJ true true ?_|refine DJ.nil ?_|refine J.reg0 ?_|refine D.W ?_|refine D.Z ?_|refine D.G ?_ ?_|refine D.X ‹_› ?_|refine D.XO ‹_› ?_|refine D.XS ‹_› ?_|intro h|refine D.C ?_ ?_)
   all_goals simp only [decide_eq_true_eq, decide_eq_false_iff_not, Bool.false_eq_true] at *
   all_goals try (exfalso; omega)
   all_goals
    refine D.F ⟨[0],[]⟩ (q108 bs p pos false) ?_
    (repeat' first|refine D.S ?_|refine D.JJ true true ?_|refine DJ.nil ?_|refine J.reg0 ?_|refine D.W ?_|refine D.Z ?_|refine D.G ?_ ?_|refine D.X ‹_› ?_|refine D.XO ‹_› ?_|refine D.XS ‹_› ?_|intro h)
    first|refine D.R ?_|refine D.E ?_
    exact ⟨rfl, ⟨rfl, trivial⟩, trivial⟩
  ·rw [if_neg hx]
   (repeat' first|refine D.S ?_|refine D.JJ true true ?_|refine DJ.nil ?_|refine J.reg0 ?_|refine D.W ?_|refine D.Z ?_|refine D.G ?_ ?_|refine D.X ‹_› ?_|refine D.XO ‹_› ?_|refine D.XS ‹_› ?_|intro h|refine D.C ?_ ?_)
   all_goals simp only [decide_eq_true_eq, decide_eq_false_iff_not, Bool.false_eq_true] at *
   all_goals try (exfalso; omega)
   all_goals
    first|refine D.R ?_|refine D.E ?_
    exact ⟨rfl, ⟨rfl, trivial⟩, trivial⟩
end
section
variable {bs : List Nat} {pos : Nat} (hr : bs.length ≤ 1000000) (hp : pos ≤ bs.length) (hbs : ∀ b ∈ bs, b < 256)
include hr hp hbs
theorem mBd_bad {lo hi : Int} {bad : Bool} (h : (mBd bs lo hi pos bad).2.2 = true) : mBd bs lo hi pos bad = (0, pos, true) := by
 unfold mBd prt at *
 cases bad with
 | true => rfl
 | false =>
  cases hb : (rBd bs lo hi pos).2.2 with
  | true => simp only [hb, cond_true, cond_false]
  | false => simp only [hb, cond_false, Bool.false_eq_true] at h
theorem mBy_eq (mx : Nat) (bad : Bool) : prt AV.nilS pos bad (rBy bs mx pos) = bif (mBd bs 0 mx pos bad).2.2 then (.nilS, pos, true) else if (mBd bs 0 mx pos bad).2.1 + (mBd bs 0 mx pos bad).1.toNat ≤ bs.length then nxP bs (mBd bs 0 mx pos bad).2.1 (mBd bs 0 mx pos bad).1.toNat else (.nilS, pos, true) := by
 unfold mBd prt rBy
 cases bad with
 | true => rfl
 | false =>
  cases hb : (rBd bs 0 mx pos).2.2 with
  | true => simp only [hb, cond_true, cond_false]
  | false =>
   simp only [hb, cond_false]
   unfold nxP
   split <;> simp only [cond_true, cond_false]
theorem q107 (bad : Bool) (mx : Nat) (hm : mx ≤ 1000) : FC Tryz.prog 107 [.ptr 0 0, .int .i64 mx] (rr0 bs pos bad) (Ro (bif (prt AV.nilS pos bad (rBy bs mx pos)).2.2 then .nilS else (prt AV.nilS pos bad (rBy bs mx pos)).1) [(0, TR, rrC bs (prt AV.nilS pos bad (rBy bs mx pos)).2.1 (prt AV.nilS pos bad (rBy bs mx pos)).2.2)] []) := by
 have q := q71 hr hp hbs bad 0 mx
 have e1 := fun h => mBd_bad (lo := 0) (hi := mx) (bad := bad) hr hp hbs h
 have hR := gBd_range (bs := bs) (show (0 : Int) ≤ mx by omega) (pos, bad)
 have hI : (mBd bs 0 mx pos bad).2.1 ≤ bs.length := gBd_in (s := (pos, bad)) hp
 simp only [gBd] at hR
 rw [mBy_eq hr hp hbs mx bad]
 generalize mBd bs 0 mx pos bad = r at *
 obtain ⟨nI, p, b⟩ := r
 simp only at q e1 hR hI ⊢
 obtain ⟨n, rfl⟩ : ∃ n : Nat, nI = n := ⟨nI.toNat, (Int.toNat_of_nonneg hR.1).symm⟩
 rw [Int.toNat_natCast]
 cases b with
 | true =>
  have := e1 rfl
  simp only [Prod.mk.injEq, and_true] at this
  obtain ⟨h1, rfl⟩ := this
  simp only [cond_true]
  refine FC.intro mo Tryz.func107 c107 ?_
  unfold e107 r107
  simp(disch:=omega)only[go_sem,simprocAttr]
  (repeat' first|refine D.S ?_|refine D.JJ true true ?_|refine DJ.nil ?_|refine J.reg0 ?_|refine D.W ?_|refine D.Z ?_|refine D.G ?_ ?_|refine D.X ‹_› ?_|refine D.XO ‹_› ?_|refine D.XS ‹_› ?_|intro h)
  refine D.F ⟨[0],[]⟩ (q) ?_
  (repeat' first|refine D.S ?_|refine D.JJ true true ?_|refine DJ.nil ?_|refine J.reg0 ?_|refine D.W ?_|refine D.Z ?_|refine D.G ?_ ?_|refine D.X ‹_› ?_|refine D.XO ‹_› ?_|refine D.XS ‹_› ?_|intro h)
  refine D.F ⟨[0],[]⟩ (q108 bs p p true) ?_
  (repeat' first|refine D.S ?_|refine D.JJ true true ?_|refine DJ.nil ?_|refine J.reg0 ?_|refine D.W ?_|refine D.Z ?_|refine D.G ?_ ?_|refine D.X ‹_› ?_|refine D.XO ‹_› ?_|refine D.XS ‹_› ?_|intro h)
  first|refine D.R ?_|refine D.E ?_
  exact ⟨rfl, ⟨rfl, trivial⟩, trivial⟩
 | false =>
  simp only [cond_false]
  by_cases hx : p + n ≤ bs.length
  ·rw [if_pos hx]
   have e : nxP bs p n = (.vs 1 (((bs.take (p + n)).drop p).map brow), p + n, false) := by unfold nxP; rw [if_pos hx]
   rw [e]
   refine FC.introW mo Tryz.func107 c107 (by simp only [cond_false, AV.flat, fl_brow]) ?_
   unfold e107 r107
   simp(disch:=omega)only[go_sem,simprocAttr]
   (repeat' first|refine D.S ?_|refine D.JJ true true ?_|refine DJ.nil ?_|refine J.reg0 ?_|refine D.W ?_|refine D.Z ?_|refine D.G ?_ ?_|refine D.X ‹_› ?_|refine D.XO ‹_› ?_|refine D.XS ‹_› ?_|intro h)
   refine D.F ⟨[0],[]⟩ (q) ?_
   (repeat' first|(apply DJ.s rfl;(· simp(disch:=omega)only[go_sem,simprocAttr,List.length_map]<;>with_reducible rfl))|(apply J.s true true;(· simp(disch:=omega)only[go_sem,simprocAttr,List.length_map]<;>with_reducible rfl))|apply DJ.nil|(refine J.reg0 ?_)|(apply DJ.gw;(· simp(disch:=omega)only[go_sem,simprocAttr,List.length_map]<;>with_reducible rfl))|(apply DJ.gz;(· rfl);(· simp(disch:=omega)only[go_sem,simprocAttr,List.length_map]<;>with_reducible rfl))|(apply DJ.gs;(· simp(disch:=omega)only[go_sem,simprocAttr,List.length_map]<;>with_reducible rfl))|((first|apply DJ.ixm|apply DJ.ixom|apply DJ.ixsm);(· simp(disch:=omega)only[go_sem,simprocAttr,List.length_map]<;>with_reducible rfl);(· simp(disch:=omega)only[go_sem,simprocAttr,List.length_map]<;>with_reducible rfl);(· assumption);(· omega))|intro h|(apply J.cond;(· simp(disch:=omega)only[go_sem,simprocAttr,List.length_map]<;>with_reducible rfl)))
   all_goals simp only [decide_eq_true_eq, decide_eq_false_iff_not] at *
   all_goals try (exfalso; omega)
   (apply DJ.slv2 (p) (p + n);(· simp(disch:=omega)only[go_sem,simprocAttr]<;>with_reducible rfl);(· simp(disch:=omega)only[go_sem,simprocAttr]<;>with_reducible rfl);(· simp(disch:=omega)only[go_sem,simprocAttr]<;>with_reducible rfl);(· omega);(· omega);(· omega);(· (try simp only [List.length_map]);omega))
   (apply DJ.ap';(· simp(disch:=omega)only[go_sem,simprocAttr]<;>with_reducible rfl);(· simp(disch:=omega)only[go_sem,simprocAttr]<;>with_reducible rfl);(· simp only [rowsOf] <;> simp(disch:=omega)only[go_sem,simprocAttr] <;> with_reducible rfl);(· first|omega|(simp only [List.length_map,List.length_drop,List.length_take,List.length_append,List.length_nil,List.length_cons,maxLen] <;> omega));(· first|omega|(simp only [List.length_map,List.length_drop,List.length_take,List.length_append,List.length_nil,List.length_cons,maxLen] <;> omega)))
   (repeat' first|refine D.S ?_|refine D.JJ true true ?_|refine DJ.nil ?_|refine J.reg0 ?_|refine D.W ?_|refine D.Z ?_|refine D.G ?_ ?_|refine D.X ‹_› ?_|refine D.XO ‹_› ?_|refine D.XS ‹_› ?_|intro h)
   first|refine D.R ?_|refine D.E ?_
   exact ⟨_, rfl, .wk (by simp only [AV.wk, List.nil_append, List.map_drop, List.map_take, cond_false]) (by simp only [cond_false, AV.flat, fl_brow]), ⟨by simp only [of_blk, lkB, beq_self_eq_true, cond_true, Int.natCast_add], trivial⟩, trivial⟩
  ·rw [if_neg hx]
   refine FC.intro mo Tryz.func107 c107 ?_
   unfold e107 r107
   simp(disch:=omega)only[go_sem,simprocAttr]
   (repeat' first|refine D.S ?_|refine D.JJ true true ?_|refine DJ.nil ?_|refine J.reg0 ?_|refine D.W ?_|refine D.Z ?_|refine D.G ?_ ?_|refine D.X ‹_› ?_|refine D.XO ‹_› ?_|refine D.XS ‹_› ?_|intro h)
   refine D.F ⟨[0],[]⟩ (q) ?_
   (repeat' first|(apply DJ.s rfl;(· simp(disch:=omega)only[go_sem,simprocAttr,List.length_map]<;>with_reducible rfl))|(apply J.s true true;(· simp(disch:=omega)only[go_sem,simprocAttr,List.length_map]<;>with_reducible rfl))|apply DJ.nil|(refine J.reg0 ?_)|(apply DJ.gw;(· simp(disch:=omega)only[go_sem,simprocAttr,List.length_map]<;>with_reducible rfl))|(apply DJ.gz;(· rfl);(· simp(disch:=omega)only[go_sem,simprocAttr,List.length_map]<;>with_reducible rfl))|(apply DJ.gs;(· simp(disch:=omega)only[go_sem,simprocAttr,List.length_map]<;>with_reducible rfl))|((first|apply DJ.ixm|apply DJ.ixom|apply DJ.ixsm);(· simp(disch:=omega)only[go_sem,simprocAttr,List.length_map]<;>with_reducible rfl);(· simp(disch:=omega)only[go_sem,simprocAttr,List.length_map]<;>with_reducible rfl);(· assumption);(· omega))|intro h|(apply J.cond;(· simp(disch:=omega)only[go_sem,simprocAttr,List.length_map]<;>with_reducible rfl)))
   all_goals simp only [decide_eq_true_eq, decide_eq_false_iff_not] at *
   all_goals try (exfalso; omega)
   refine D.F ⟨[0],[]⟩ (q108 bs p pos false) ?_
   (repeat' first|refine D.S ?_|refine D.JJ true true ?_|refine DJ.nil ?_|refine J.reg0 ?_|refine D.W ?_|refine D.Z ?_|refine D.G ?_ ?_|refine D.X ‹_› ?_|refine D.XO ‹_› ?_|refine D.XS ‹_› ?_|intro h)
   first|refine D.R ?_|refine D.E ?_
   exact ⟨rfl, ⟨rfl, trivial⟩, trivial⟩
theorem q69 (bad : Bool) (mx : Nat) (hm : mx ≤ 1000) : FC Tryz.prog 69 [.ptr 0 0, .int .i64 mx] (rr0 bs pos bad) (Ro (.str (mTx bs mx pos bad).1) [(0, TR, rrC bs (mTx bs mx pos bad).2.1 (mTx bs mx pos bad).2.2)] []) := by
 have q := q107 hr hp hbs bad mx hm
 have hv := rBy_cases hr hp hbs mx
 unfold mTx
 generalize rBy bs mx pos = r at *
 refine FC.intro mo Tryz.func69 c69 ?_
 unfold e69 r69
 simp(disch:=omega)only[go_sem,simprocAttr]
 (repeat' first|refine D.S ?_|refine D.JJ true true ?_|refine DJ.nil ?_|refine J.reg0 ?_|refine D.W ?_|refine D.Z ?_|refine D.G ?_ ?_|refine D.X ‹_› ?_|refine D.XO ‹_› ?_|refine D.XS ‹_› ?_|intro h)
 cases bad with
 | true =>
  simp only [prt, cond_true] at q
  refine D.F ⟨[0],[]⟩ (q) ?_
  (repeat' first|refine D.S ?_|refine D.JJ true true ?_|refine DJ.nil ?_|refine J.reg0 ?_|refine D.W ?_|refine D.Z ?_|refine D.G ?_ ?_|refine D.X ‹_› ?_|refine D.XO ‹_› ?_|refine D.XS ‹_› ?_|intro h)
  first|refine D.R ?_|refine D.E ?_
  exact ⟨rfl, ⟨rfl, trivial⟩, trivial⟩
 | false =>
  rcases hv with ⟨p, rfl⟩ | ⟨l, p, rfl, hl, _⟩
  ·simp only [prt, cond_true, cond_false] at q
   refine D.F ⟨[0],[]⟩ (q) ?_
   (repeat' first|refine D.S ?_|refine D.JJ true true ?_|refine DJ.nil ?_|refine J.reg0 ?_|refine D.W ?_|refine D.Z ?_|refine D.G ?_ ?_|refine D.X ‹_› ?_|refine D.XO ‹_› ?_|refine D.XS ‹_› ?_|intro h)
   first|refine D.R ?_|refine D.E ?_
   exact ⟨rfl, ⟨rfl, trivial⟩, trivial⟩
  ·simp only [prt, cond_false] at q
   refine D.F ⟨[0],[]⟩ (q) ?_
   refine DJ.cvs rfl rfl (byteRows_brow l) ?_
   (repeat' first|refine D.S ?_|refine D.JJ true true ?_|refine DJ.nil ?_|refine J.reg0 ?_|refine D.W ?_|refine D.Z ?_|refine D.G ?_ ?_|refine D.X ‹_› ?_|refine D.XO ‹_› ?_|refine D.XS ‹_› ?_|intro h)
   first|refine D.R ?_|refine D.E ?_
   exact ⟨by simp only [prt, cond_false, txV, byteRows_brow]; rfl, ⟨rfl, trivial⟩, trivial⟩
end
theorem q73 (bs : List Nat) (pos : Nat) (bad : Bool) (hr : bs.length ≤ 1000000) (hp : pos ≤ bs.length) : FC Tryz.prog 73 [.ptr 0 0] (rr0 bs pos bad) (Ro (.int .i64 (if bad = true ∨ pos < bs.length then 4 else 0)) [(0, TR, rrC bs pos bad)] []) := by
 cases bad with
 | true =>
  refine FC.intro mo Tryz.func73 c73 ?_
  unfold e73 r73
  simp(disch:=omega)only[go_sem,simprocAttr]
  (repeat' first|refine D.S ?_|refine D.JJ true true ?_|refine DJ.nil ?_|refine J.reg0 ?_|refine D.W ?_|refine D.Z ?_|refine D.G ?_ ?_|refine D.X ‹_› ?_|refine D.XO ‹_› ?_|refine D.XS ‹_› ?_|intro h)
  first|refine D.R ?_|refine D.E ?_
  exact ⟨rfl, ⟨rfl, trivial⟩, trivial⟩
 | false =>
  refine FC.intro mo Tryz.func73 c73 ?_
  unfold e73 r73
  simp(disch:=omega)only[go_sem,simprocAttr]
  (repeat' first|(apply DJ.s rfl;(· simp(disch:=omega)only[go_sem,simprocAttr,List.length_map]<;>with_reducible rfl))|(apply J.s true true;(· simp(disch:=omega)only[go_sem,simprocAttr,List.length_map]<;>with_reducible rfl))|apply DJ.nil|(refine J.reg0 ?_)|(apply DJ.gw;(· simp(disch:=omega)only[go_sem,simprocAttr,List.length_map]<;>with_reducible rfl))|(apply DJ.gz;(· rfl);(· simp(disch:=omega)only[go_sem,simprocAttr,List.length_map]<;>with_reducible rfl))|(apply DJ.gs;(· simp(disch:=omega)only[go_sem,simprocAttr,List.length_map]<;>with_reducible rfl))|((first|apply DJ.ixm|apply DJ.ixom|apply DJ.ixsm);(· simp(disch:=omega)only[go_sem,simprocAttr,List.length_map]<;>with_reducible rfl);(· simp(disch:=omega)only[go_sem,simprocAttr,List.length_map]<;>with_reducible rfl);(· assumption);(· omega))|intro h|(apply J.cond;(· simp(disch:=omega)only[go_sem,simprocAttr,List.length_map]<;>with_reducible rfl)))
  all_goals simp at h
  ·rw [if_pos (.inr (by omega))]
   first|refine D.R ?_|refine D.E ?_
   exact ⟨rfl, ⟨rfl, trivial⟩, trivial⟩
  ·rw [if_neg (by simp; omega)]
   first|refine D.R ?_|refine D.E ?_
   exact ⟨rfl, ⟨rfl, trivial⟩, trivial⟩
theorem mVa_eq (bs : List Nat) (pos : Nat) (bad : Bool) : mVa bs pos bad =
  let k := mBd bs 1 2 pos bad
  if k.1 = 1 then (bif (mInt bs k.2.1 k.2.2).2.2 then ((0, 0, []), pos, true) else ((1, (mInt bs k.2.1 k.2.2).1, []), (mInt bs k.2.1 k.2.2).2))
  else (bif (mTx bs 40 k.2.1 k.2.2).2.2 then ((0, 0, []), pos, true) else ((k.1, 0, (mTx bs 40 k.2.1 k.2.2).1), (mTx bs 40 k.2.1 k.2.2).2)) := by
 unfold mVa rVa
 unfold mBd
 cases bad with
 | true => rfl
 | false =>
  cases hb : (rBd bs 1 2 pos).2.2 with
  | true => simp only [prt, hb, cond_true, cond_false]; rfl
  | false =>
   simp only [prt, hb, cond_false, mInt, mTx]
   by_cases h1 : (rBd bs 1 2 pos).1 = 1
   ·simp only [if_pos h1]
    cases hc : (rInt bs (rBd bs 1 2 pos).2.1).2.2 <;> simp only [hc, cond_true, cond_false]
   ·simp only [if_neg h1]
    cases hc : (rBy bs 40 (rBd bs 1 2 pos).2.1).2.2 <;> simp only [hc, cond_true, cond_false]
section
variable {bs : List Nat} {pos : Nat} (hr : bs.length ≤ 1000000) (hp : pos ≤ bs.length) (hbs : ∀ b ∈ bs, b < 256)
include hr hp hbs
theorem q72 (bad : Bool) : FC Tryz.prog 72 [.ptr 0 0] (rr0 bs pos bad) (Ro (vaV (mVa bs pos bad).1) [(0, TR, rrC bs (mVa bs pos bad).2.1 (mVa bs pos bad).2.2)] []) := by
 have q := q71 hr hp hbs bad 1 2
 have hI : (mBd bs 1 2 pos bad).2.1 ≤ bs.length := prt_in hp (rBd_in hp)
 rw [mVa_eq]
 generalize mBd bs 1 2 pos bad = r at *
 obtain ⟨n, p, b⟩ := r
 simp only at q hI ⊢
 have qi := q70' hr hI hbs b
 have qt := q69 hr hI hbs b 40 (by decide)
 rw [show ((40 : Nat) : Int) = 40 from rfl] at qt
 generalize mInt bs p b = ri at *
 generalize mTx bs 40 p b = rt at *
 obtain ⟨n1, p1, b1⟩ := ri
 obtain ⟨s1, p2, b2⟩ := rt
 simp only at qi qt ⊢
 refine FC.intro mo Tryz.func72 c72 ?_
 unfold e72 r72
 simp(disch:=omega)only[go_sem,simprocAttr]
 (repeat' first|refine D.S ?_|refine D.JJ true true ?_|refine DJ.nil ?_|refine J.reg0 ?_|refine D.W ?_|refine D.Z ?_|refine D.G ?_ ?_|refine D.X ‹_› ?_|refine D.XO ‹_› ?_|refine D.XS ‹_› ?_|intro h)
 refine D.F ⟨[0],[]⟩ (q) ?_
 (repeat' first|refine D.S ?_|refine D.JJ true true ?_|refine DJ.nil ?_|refine J.reg0 ?_|refine D.W ?_|refine D.Z ?_|refine D.G ?_ ?_|refine D.X ‹_› ?_|refine D.XO ‹_› ?_|refine D.XS ‹_› ?_|intro h|refine D.C ?_ ?_)
 ·have h1 : n = 1 := by simpa using h
  subst h1
  simp only [if_true]
  refine D.F ⟨[0],[]⟩ (qi) ?_
  cases b1
  ·(repeat' first|refine D.S ?_|refine D.JJ true true ?_|refine DJ.nil ?_|refine J.reg0 ?_|refine D.W ?_|refine D.Z ?_|refine D.G ?_ ?_|refine D.X ‹_› ?_|refine D.XO ‹_› ?_|refine D.XS ‹_› ?_|intro h)
   first|refine D.R ?_|refine D.E ?_
   exact ⟨rfl, ⟨rfl, trivial⟩, trivial⟩
  ·(repeat' first|refine D.S ?_|refine D.JJ true true ?_|refine DJ.nil ?_|refine J.reg0 ?_|refine D.W ?_|refine D.Z ?_|refine D.G ?_ ?_|refine D.X ‹_› ?_|refine D.XO ‹_› ?_|refine D.XS ‹_› ?_|intro h)
   refine D.F ⟨[0],[]⟩ (q108 bs p1 pos true) ?_
   (repeat' first|refine D.S ?_|refine D.JJ true true ?_|refine DJ.nil ?_|refine J.reg0 ?_|refine D.W ?_|refine D.Z ?_|refine D.G ?_ ?_|refine D.X ‹_› ?_|refine D.XO ‹_› ?_|refine D.XS ‹_› ?_|intro h)
   first|refine D.R ?_|refine D.E ?_
   exact ⟨rfl, ⟨rfl, trivial⟩, trivial⟩
 ·have h1 : ¬ n = 1 := by simpa using h
  rw [if_neg h1]
  refine D.F ⟨[0],[]⟩ (qt) ?_
  cases b2
  ·(repeat' first|refine D.S ?_|refine D.JJ true true ?_|refine DJ.nil ?_|refine J.reg0 ?_|refine D.W ?_|refine D.Z ?_|refine D.G ?_ ?_|refine D.X ‹_› ?_|refine D.XO ‹_› ?_|refine D.XS ‹_› ?_|intro h)
   first|refine D.R ?_|refine D.E ?_
   exact ⟨rfl, ⟨rfl, trivial⟩, trivial⟩
  ·(repeat' first|refine D.S ?_|refine D.JJ true true ?_|refine DJ.nil ?_|refine J.reg0 ?_|refine D.W ?_|refine D.Z ?_|refine D.G ?_ ?_|refine D.X ‹_› ?_|refine D.XO ‹_› ?_|refine D.XS ‹_› ?_|intro h)
   refine D.F ⟨[0],[]⟩ (q108 bs p2 pos true) ?_
   (repeat' first|refine D.S ?_|refine D.JJ true true ?_|refine DJ.nil ?_|refine J.reg0 ?_|refine D.W ?_|refine D.Z ?_|refine D.G ?_ ?_|refine D.X ‹_› ?_|refine D.XO ‹_› ?_|refine D.XS ‹_› ?_|intro h)
   first|refine D.R ?_|refine D.E ?_
   exact ⟨rfl, ⟨rfl, trivial⟩, trivial⟩
end
end Go.Aw.T.N
namespace Go.Aw.T.N
open Go Go.Aw Go.Proofs Go.RowKit
set_option maxRecDepth 100000
attribute [local irreducible] Go.Aw.J Go.Aw.DJ Go.Aw.FC
attribute [local go_sem] wrap64 wrapu64 wrapu8 nnif decide_true decide_false dst gst gv_b gv_u jst jpop bdL bdB bdT bdO AV.bd tfL AV.tf o_mv o_pick o_nilck o_build o_load o_loadD o_faddr o_field o_iaddr o_iaddrA o_idxA o_idxS o_bin o_binB o_eqA o_not o_pnil o_neg o_conv o_lenS o_len o_lenA o_minmax o_slS o_slV o_extract o_mkfn o_mkfnB o_convS o_convBS o_mkif o_isnil o_bslice o_box o_alloc o_store o_storeD o_bsliceO o_bsliceM cpv cev_t cev_c Env.get put_some' put_none' of_setB of_addB of_setT of_addT of_upd of_blk of_tok of_nb of_nt of_new rmB rmT rmBs rmTs renB renT apB apT lkB lkT getD_0 getD_s renL AV.ren crange_if cstB_if one_nilS one_pnil oc_nil oc_pnil cbin binInt shInt binStr binBool cbuild_nil cbuild_cons cidx_if AV.cells AV.okc AV.flat flatL flatR setRange minmaxAV AV.one AV.ofCells eqCells eqCell slRows initEnv initFrom cres cresv cresL cond_true cond_false beq_self_eq_true Bool.not_true Bool.not_false beq_true beq_false eq_self if_true Option.some.injEq List.length_cons List.length_nil List.take_succ_cons List.take_zero List.drop_succ_cons List.drop_zero List.set_cons_succ List.set_cons_zero List.nil_append List.cons_append List.append_nil and_self Option.map_some Option.map_none List.map_cons List.map_nil Bool.false_eq_true if_false Nat.zero_add Nat.add_zero true_and and_true Bool.and_true Bool.true_and List.getElem?_cons_zero List.getElem?_cons_succ Nat.zero_le Nat.le_refl List.all_cons List.all_nil List.flatten_cons List.flatten_nil crows crowsOk List.filter_cons List.filter_nil List.contains_cons List.contains_nil Bool.or_false Bool.or_true Bool.false_or Bool.true_or
set_option linter.unusedSimpArgs false
set_option linter.unusedVariables false
set_option linter.unusedSectionVars false
attribute [local go_sem] fl_brow brow fl_var fl_hd fl_of fl_ins
section
variable {bs : List Nat}
theorem prt_bad {α : Type} {z : α} {pos : Nat} {r : α × S2} {b : Bool} (h : b = true) : (prt z pos b r).2 = (pos, b) := by subst h; rfl
theorem gInt_bad {s : S2} (h : s.2 = true) : (gInt bs s).2 = s := prt_bad h
theorem gTx_bad {mx : Nat} {s : S2} (h : s.2 = true) : (gTx bs mx s).2 = s := prt_bad h
theorem gVa_bad {s : S2} (h : s.2 = true) : (gVa bs s).2 = s := prt_bad h
theorem gBd_bad {hi : Int} {s : S2} (h : s.2 = true) : (gBd bs hi s).2 = s := prt_bad h
theorem gI2_bad {s : S2} (h : s.2 = true) : (gI2 bs s).2 = s := by show (gInt bs (gInt bs s).2).2 = s; rw [gInt_bad h, gInt_bad h]
theorem gI3_bad {s : S2} (h : s.2 = true) : (gI3 bs s).2 = s := by show (gI2 bs (gInt bs s).2).2 = s; rw [gInt_bad h, gI2_bad h]
theorem gI4_bad {s : S2} (h : s.2 = true) : (gI4 bs s).2 = s := by show (gI3 bs (gInt bs s).2).2 = s; rw [gInt_bad h, gI3_bad h]
theorem gVar_bad {s : S2} (h : s.2 = true) : (gVar bs s).2 = s := by show (gVa bs (gI3 bs (gTx bs 16 s).2).2).2 = s; rw [gTx_bad h, gI3_bad h, gVa_bad h]
theorem gHd_bad {s : S2} (h : s.2 = true) : (gHd bs s).2 = s := gI3_bad h
theorem gOf_bad {s : S2} (h : s.2 = true) : (gOf bs s).2 = s := gI4_bad h
theorem gIns_bad {s : S2} (h : s.2 = true) : (gIns bs s).2 = s := by show (gTx bs 40 (gI2 bs s).2).2 = s; rw [gI2_bad h, gTx_bad h]
theorem many_bad {α : Type} {f : S2 → α × S2} (hf : ∀ s, s.2 = true → (f s).2 = s) {s : S2} {i : Nat} (h : (many f i s).2.2 = true) : ∀ n, i ≤ n → (many f n s).2 = (many f i s).2
 | n, hn => by
  by_cases e : i = n
  ·rw [e]
  ·obtain ⟨m, rfl⟩ : ∃ m, n = m + 1 := ⟨n - 1, by omega⟩
   have := many_bad hf h m (by omega)
   show (f (many f m s).2).2 = _
   rw [this, hf _ h]
theorem gList_bad {α : Type} {f : S2 → α × S2} (hf : ∀ s, s.2 = true → (f s).2 = s) {hi : Int} {s : S2} (h : s.2 = true) : (gList bs f hi s).2 = s := by
 unfold gList
 rw [gBd_bad h]
 rw [many_bad hf (i := 0) (s := s) h _ (Nat.zero_le _)]
 rfl
theorem gList_ok {α : Type} {f : S2 → α × S2} (hf : ∀ s, s.2 = true → (f s).2 = s) {hi : Int} {s : S2} (h : (gList bs f hi s).2.2 = false) : s.2 = false := by
 cases e : s.2 with
 | false => rfl
 | true => rw [gList_bad hf e, e] at h; cases h
end
set_option maxHeartbeats 4000000 in
theorem q25 (bs : List Nat) (hr : bs.length ≤ 1000000) (hbs : ∀ b ∈ bs, b < 256) : Pure Tryz.prog 25 [.vs 1 (bs.map brow)] (.tup [(decP bs).1.av, .int .i64 (decP bs).2]) := by
 have i0 : In bs (0, false) := Nat.zero_le _
 have i1 := gTx_in (mx := 16) i0
 have i2 := gInt_in i1
 refine pure_of mo Tryz.func25 c25 (by simp only [flatL, AV.flat, fl_brow, Bool.and_self]) (by simp only [AV.flat, flatL, fl_var, fl_hd, fl_of, fl_ins, Bool.and_self]) ?_
 unfold e25 r25
 simp(disch:=omega)only[go_sem,simprocAttr]
 (repeat' first|refine D.S ?_|refine D.JJ true true ?_|refine DJ.nil ?_|refine J.reg0 ?_|refine D.W ?_|refine D.Z ?_|refine D.G ?_ ?_|refine D.X ‹_› ?_|refine D.XO ‹_› ?_|refine D.XS ‹_› ?_|intro h)
 refine D.F ⟨[1],[]⟩ (q69 hr i0 hbs false 16 (by decide)) ?_
 (repeat' first|refine D.S ?_|refine D.JJ true true ?_|refine DJ.nil ?_|refine J.reg0 ?_|refine D.W ?_|refine D.Z ?_|refine D.G ?_ ?_|refine D.X ‹_› ?_|refine D.XO ‹_› ?_|refine D.XS ‹_› ?_|intro h)
 refine D.F ⟨[1],[]⟩ (q70' hr i1 hbs _) ?_
 (repeat' first|refine D.S ?_|refine DJ.nil ?_|refine D.W ?_|refine D.Z ?_|refine D.G ?_ ?_|refine D.X ‹_› ?_|refine D.XO ‹_› ?_|refine D.XS ‹_› ?_|intro h)
 refine J.eqv rfl (c2 := CS.of 3 0 [(2, 27, [.str (gTx bs 16 (0, false)).1, .int .i64 (gInt bs (gTx bs 16 (0, false)).2).1, .nilS, .nilS, .nilS, .nilS]), (1, 120, rrC bs (gInt bs (gTx bs 16 (0, false)).2).2.1 (gInt bs (gTx bs 16 (0, false)).2).2.2), (0, 27, z6)] []) rfl ?_
 obtain ⟨g, hg⟩ : ∃ g, gProg bs (0, false) = g := ⟨_, rfl⟩
 have hdec : decP bs = if g.2.2 = true ∨ g.2.1 < bs.length ∨ validP g.1 = false then (p0, 4) else (g.1, 0) := by rw [← hg]; rfl
 simp only [gProg] at hg
 generalize gTx bs 16 (0, false) = a at *
 generalize gInt bs a.2 = b at *
 obtain ⟨nm, sa⟩ := a
 obtain ⟨rl, s⟩ := b
 try simp only at *
 refine J.ghB 2 2 7 68 rfl rfl (by decide) ?_
 simp(disch:=omega)only[go_sem,simprocAttr]
 refine J.ghB 2 3 3 76 rfl rfl (by decide) ?_
 simp(disch:=omega)only[go_sem,simprocAttr]
 refine J.ghB 2 4 4 79 rfl rfl (by decide) ?_
 simp(disch:=omega)only[go_sem,simprocAttr]
 refine J.ghB 2 5 3 41 rfl rfl (by decide) ?_
 simp(disch:=omega)only[go_sem,simprocAttr]
 (repeat' first|refine D.S ?_|refine D.JJ true true ?_|refine DJ.nil ?_|refine J.reg0 ?_|refine D.W ?_|refine D.Z ?_|refine D.G ?_ ?_|refine D.X ‹_› ?_|refine D.XO ‹_› ?_|refine D.XS ‹_› ?_|intro h)
 refine D.F ⟨[1],[]⟩ (q71 hr i2 hbs _ 0 12) ?_
 (repeat' first|refine D.S ?_|refine D.JJ true false ?_|refine DJ.nil ?_|refine J.reg0 ?_|refine D.W ?_|refine D.Z ?_|refine D.G ?_ ?_|refine D.X ‹_› ?_|refine D.XO ‹_› ?_|refine D.XS ‹_› ?_|intro h)
 have r0 : 0 ≤ (mBd bs 0 12 s.1 s.2).1 ∧ (mBd bs 0 12 s.1 s.2).1 ≤ 12 := gBd_range (by decide) s
 have j0 : (mBd bs 0 12 s.1 s.2).2.1 ≤ bs.length := gBd_in i2
 have j1 := gList_in (hi := 12) (fun s => gVar_in (bs := bs) (s := s)) i2
 obtain ⟨x, hB⟩ : ∃ x, mBd bs 0 12 s.1 s.2 = x := ⟨_, rfl⟩
 rw [hB] at r0 j0 ⊢
 obtain ⟨nI, sB⟩ := x
 simp only at r0 j0 ⊢
 obtain ⟨n, rfl⟩ : ∃ n : Nat, nI = n := ⟨nI.toNat, (Int.toNat_of_nonneg r0.1).symm⟩
 have hL : gList bs (gVar bs) 12 s = many (gVar bs) n sB := by
  unfold gList
  rw [show gBd bs 12 s = ((n : Int), sB) from hB]
  rfl
 refine J.blkX (X := List Var_ × S2) (fun _ => [(2, .ptr 0 0), (4, .ptr 1 0), (5, .ptr 2 0)]) (fun x => [(0, 27, z6), (1, 120, rrC bs (x.2).1 (x.2).2), (2, 27, [.str nm, .int .i64 rl, .own 0 7 (x.1.map Var_.row), .own 1 3 (([] : List Hd).map Hd.row), .own 2 4 (([] : List Of_).map Of_.row), .own 3 3 (([] : List Ins_).map Ins_.row)])]) (fun x => [(0, .frz 68 7 (x.1.map Var_.row).length), (1, .frz 76 3 (([] : List Hd).map Hd.row).length), (2, .frz 79 4 (([] : List Of_).map Of_.row).length), (3, .frz 41 3 (([] : List Ins_).map Ins_.row).length)]) (fun x => x.2 = (gList bs (gVar bs) 12 s).2 ∧ (x.2.2 = false → x.1 = (gList bs (gVar bs) 12 s).1)) ?_ ?_
 rotate_left
 ·intro hj
  refine J.loopX (X := Nat) 0 (fun i => [(2, .ptr 0 0), (4, .ptr 1 0), (5, .ptr 2 0), (6, .int .i64 (n : Int)), (7, .int .i64 (i : Int))]) (fun i => [(0, 27, z6), (1, 120, rrC bs ((many (gVar bs) i sB).2).1 ((many (gVar bs) i sB).2).2), (2, 27, [.str nm, .int .i64 rl, .own 0 7 ((many (gVar bs) i sB).1.map Var_.row), .own 1 3 (([] : List Hd).map Hd.row), .own 2 4 (([] : List Of_).map Of_.row), .own 3 3 (([] : List Ins_).map Ins_.row)])]) (fun i => [(0, .frz 68 7 ((many (gVar bs) i sB).1.map Var_.row).length), (1, .frz 76 3 (([] : List Hd).map Hd.row).length), (2, .frz 79 4 (([] : List Of_).map Of_.row).length), (3, .frz 41 3 (([] : List Ins_).map Ins_.row).length)]) (fun i => i ≤ n) (fun i => n - i) (Nat.zero_le _) ⟨rfl, rfl, rfl, rfl, rfl, trivial⟩ ⟨rfl, rfl, rfl, trivial⟩ ⟨rfl, rfl, rfl, rfl, trivial⟩ ?_
  intro i hi
  try simp only
  have k0 := many_in (fun s => gVar_in (bs := bs) (s := s)) j0 i
  have hlen := many_len (gVar bs) sB i
  (repeat' first|refine D.S ?_|refine D.JJ false true ?_|refine DJ.nil ?_|refine J.reg0 ?_|refine D.W ?_|refine D.Z ?_|refine D.G ?_ ?_|refine D.X ‹_› ?_|refine D.XO ‹_› ?_|refine D.XS ‹_› ?_|intro h|refine D.C ?_ ?_)
  rotate_left
  ·have hb : (many (gVar bs) i sB).2.2 = true := by simpa using h
   apply J.exit rfl
   refine hj _ _ ((many (gVar bs) i sB).1, (many (gVar bs) i sB).2) ⟨?_, fun h => ?_⟩ ⟨rfl, rfl, rfl, trivial⟩ ⟨rfl, rfl, rfl, trivial⟩ ⟨rfl, rfl, rfl, rfl, trivial⟩ rfl rfl
   ·rw [hL, many_bad (fun s => gVar_bad) hb n hi]
   ·rw [hb] at h; cases h
  ·have e : i = n := by simp at h; omega
   subst e
   apply J.exit rfl
   exact hj _ _ ((many (gVar bs) i sB).1, (many (gVar bs) i sB).2) ⟨by rw [hL], fun _ => by rw [hL]⟩ ⟨rfl, rfl, rfl, trivial⟩ ⟨rfl, rfl, rfl, trivial⟩ ⟨rfl, rfl, rfl, rfl, trivial⟩ rfl rfl
  have hlt : i < n := by simp only [decide_eq_true_eq] at *; omega
  refine D.F ⟨[1],[]⟩ (q69 hr k0 hbs _ 16 (by decide)) ?_
  (repeat' first|refine D.S ?_|refine D.JJ true true ?_|refine DJ.nil ?_|refine J.reg0 ?_|refine D.W ?_|refine D.Z ?_|refine D.G ?_ ?_|refine D.X ‹_› ?_|refine D.XO ‹_› ?_|refine D.XS ‹_› ?_|intro h)
  have k1 := gTx_in (mx := 16) k0
  refine D.F ⟨[1],[]⟩ (q70' hr k1 hbs _) ?_
  (repeat' first|refine D.S ?_|refine D.JJ true true ?_|refine DJ.nil ?_|refine J.reg0 ?_|refine D.W ?_|refine D.Z ?_|refine D.G ?_ ?_|refine D.X ‹_› ?_|refine D.XO ‹_› ?_|refine D.XS ‹_› ?_|intro h)
  have k2 := gInt_in k1
  refine D.F ⟨[1],[]⟩ (q70' hr k2 hbs _) ?_
  (repeat' first|refine D.S ?_|refine D.JJ true true ?_|refine DJ.nil ?_|refine J.reg0 ?_|refine D.W ?_|refine D.Z ?_|refine D.G ?_ ?_|refine D.X ‹_› ?_|refine D.XO ‹_› ?_|refine D.XS ‹_› ?_|intro h)
  have k3 := gInt_in k2
  refine D.F ⟨[1],[]⟩ (q70' hr k3 hbs _) ?_
  (repeat' first|refine D.S ?_|refine D.JJ true true ?_|refine DJ.nil ?_|refine J.reg0 ?_|refine D.W ?_|refine D.Z ?_|refine D.G ?_ ?_|refine D.X ‹_› ?_|refine D.XO ‹_› ?_|refine D.XS ‹_› ?_|intro h)
  have k4 := gInt_in k3
  refine D.F ⟨[1],[]⟩ (q72 hr k4 hbs _) ?_
  (repeat' first|refine D.S ?_|refine D.JJ true true ?_|refine DJ.nil ?_|refine J.reg0 ?_|refine D.W ?_|refine D.Z ?_|refine D.G ?_ ?_|refine D.X ‹_› ?_|refine D.XO ‹_› ?_|refine D.XS ‹_› ?_|intro h)
  (apply DJ.ap';(· simp(disch:=omega)only[go_sem,simprocAttr]<;>with_reducible rfl);(· simp(disch:=omega)only[go_sem,simprocAttr]<;>with_reducible rfl);(· simp only [rowsOf] <;> simp(disch:=omega)only[go_sem,simprocAttr] <;> with_reducible rfl);(· first|omega|(simp only [List.length_map,List.length_drop,List.length_take,List.length_append,List.length_nil,List.length_cons,maxLen] <;> omega));(· first|omega|(simp only [List.length_map,List.length_drop,List.length_take,List.length_append,List.length_nil,List.length_cons,maxLen] <;> omega)))
  (repeat' first|refine D.S ?_|refine D.JJ true true ?_|refine DJ.nil ?_|refine J.reg0 ?_|refine D.W ?_|refine D.Z ?_|refine D.G ?_ ?_|refine D.X ‹_› ?_|refine D.XO ‹_› ?_|refine D.XS ‹_› ?_|intro h)
  refine J.roundC (i + 1) (by omega) ⟨rfl, rfl, rfl, rfl, rfl, trivial⟩ (by refine ⟨rfl, rfl, ?_, trivial⟩; simp only [many_map]; rfl) (by refine ⟨?_, rfl, rfl, rfl, trivial⟩; simp only [many_map, List.length_append]; rfl) rfl (by simp only [bdE, bdL, bdB, bdT, bdO, AV.bd, Own.frz, go_sem] <;> rfl) (by show n - (i + 1) < n - i; omega)
 rintro ⟨vs, s1⟩ ⟨hs1, hl1⟩
 simp only at hs1 hl1 ⊢
 rw [← hs1] at j1
 clear hL hB
 rename In bs s1 => j1_1
 (repeat' first|refine D.S ?_|refine D.JJ true true ?_|refine DJ.nil ?_|refine J.reg0 ?_|refine D.W ?_|refine D.Z ?_|refine D.G ?_ ?_|refine D.X ‹_› ?_|refine D.XO ‹_› ?_|refine D.XS ‹_› ?_|intro h)
 refine D.F ⟨[1],[]⟩ (q71 hr j1_1 hbs _ 0 40) ?_
 (repeat' first|refine D.S ?_|refine D.JJ true false ?_|refine DJ.nil ?_|refine J.reg0 ?_|refine D.W ?_|refine D.Z ?_|refine D.G ?_ ?_|refine D.X ‹_› ?_|refine D.XO ‹_› ?_|refine D.XS ‹_› ?_|intro h)
 have r0 : 0 ≤ (mBd bs 0 40 s1.1 s1.2).1 ∧ (mBd bs 0 40 s1.1 s1.2).1 ≤ 40 := gBd_range (by decide) s1
 have j0 : (mBd bs 0 40 s1.1 s1.2).2.1 ≤ bs.length := gBd_in j1_1
 have j1 := gList_in (hi := 40) (fun s => gHd_in (bs := bs) (s := s)) j1_1
 obtain ⟨x, hB⟩ : ∃ x, mBd bs 0 40 s1.1 s1.2 = x := ⟨_, rfl⟩
 rw [hB] at r0 j0 ⊢
 obtain ⟨nI, sB⟩ := x
 simp only at r0 j0 ⊢
 obtain ⟨n, rfl⟩ : ∃ n : Nat, nI = n := ⟨nI.toNat, (Int.toNat_of_nonneg r0.1).symm⟩
 have hL : gList bs (gHd bs) 40 s1 = many (gHd bs) n sB := by
  unfold gList
  rw [show gBd bs 40 s1 = ((n : Int), sB) from hB]
  rfl
 refine J.blkX (X := List Hd × S2) (fun _ => [(2, .ptr 0 0), (4, .ptr 1 0), (5, .ptr 2 0)]) (fun x => [(0, 27, z6), (1, 120, rrC bs (x.2).1 (x.2).2), (2, 27, [.str nm, .int .i64 rl, .own 0 7 (vs.map Var_.row), .own 1 3 (x.1.map Hd.row), .own 2 4 (([] : List Of_).map Of_.row), .own 3 3 (([] : List Ins_).map Ins_.row)])]) (fun x => [(0, .frz 68 7 (vs.map Var_.row).length), (1, .frz 76 3 (x.1.map Hd.row).length), (2, .frz 79 4 (([] : List Of_).map Of_.row).length), (3, .frz 41 3 (([] : List Ins_).map Ins_.row).length)]) (fun x => x.2 = (gList bs (gHd bs) 40 s1).2 ∧ (x.2.2 = false → x.1 = (gList bs (gHd bs) 40 s1).1)) ?_ ?_
 rotate_left
 ·intro hj
  refine J.loopX (X := Nat) 0 (fun i => [(2, .ptr 0 0), (4, .ptr 1 0), (5, .ptr 2 0), (6, .int .i64 (n : Int)), (9, .int .i64 (i : Int))]) (fun i => [(0, 27, z6), (1, 120, rrC bs ((many (gHd bs) i sB).2).1 ((many (gHd bs) i sB).2).2), (2, 27, [.str nm, .int .i64 rl, .own 0 7 (vs.map Var_.row), .own 1 3 ((many (gHd bs) i sB).1.map Hd.row), .own 2 4 (([] : List Of_).map Of_.row), .own 3 3 (([] : List Ins_).map Ins_.row)])]) (fun i => [(0, .frz 68 7 (vs.map Var_.row).length), (1, .frz 76 3 ((many (gHd bs) i sB).1.map Hd.row).length), (2, .frz 79 4 (([] : List Of_).map Of_.row).length), (3, .frz 41 3 (([] : List Ins_).map Ins_.row).length)]) (fun i => i ≤ n) (fun i => n - i) (Nat.zero_le _) ⟨rfl, rfl, rfl, rfl, rfl, trivial⟩ ⟨rfl, rfl, rfl, trivial⟩ ⟨rfl, rfl, rfl, rfl, trivial⟩ ?_
  intro i hi
  try simp only
  have k0 := many_in (fun s => gHd_in (bs := bs) (s := s)) j0 i
  have hlen := many_len (gHd bs) sB i
  (repeat' first|refine D.S ?_|refine D.JJ false true ?_|refine DJ.nil ?_|refine J.reg0 ?_|refine D.W ?_|refine D.Z ?_|refine D.G ?_ ?_|refine D.X ‹_› ?_|refine D.XO ‹_› ?_|refine D.XS ‹_› ?_|intro h|refine D.C ?_ ?_)
  rotate_left
  ·have hb : (many (gHd bs) i sB).2.2 = true := by simpa using h
   apply J.exit rfl
   refine hj _ _ ((many (gHd bs) i sB).1, (many (gHd bs) i sB).2) ⟨?_, fun h => ?_⟩ ⟨rfl, rfl, rfl, trivial⟩ ⟨rfl, rfl, rfl, trivial⟩ ⟨rfl, rfl, rfl, rfl, trivial⟩ rfl rfl
   ·rw [hL, many_bad (fun s => gHd_bad) hb n hi]
   ·rw [hb] at h; cases h
  ·have e : i = n := by simp at h; omega
   subst e
   apply J.exit rfl
   exact hj _ _ ((many (gHd bs) i sB).1, (many (gHd bs) i sB).2) ⟨by rw [hL], fun _ => by rw [hL]⟩ ⟨rfl, rfl, rfl, trivial⟩ ⟨rfl, rfl, rfl, trivial⟩ ⟨rfl, rfl, rfl, rfl, trivial⟩ rfl rfl
  have hlt : i < n := by simp only [decide_eq_true_eq] at *; omega
  (apply DJ.cD (b := 1) (T := 120) (h := FC.fr (p := ⟨[1],[]⟩) (q70' hr k0 hbs _) rfl rfl rfl (by repeat first|exact trivial|refine ⟨rfl,?_⟩) (by repeat first|exact trivial|refine ⟨rfl,?_⟩) (by simp(disch:=omega)only[go_sem,simprocAttr]<;>rfl) (by simp(disch:=omega)only[go_sem,simprocAttr]<;>rfl) rfl);(· simp(disch:=omega)only[go_sem,simprocAttr]<;>rfl);(· simp(disch:=omega)only[go_sem,simprocAttr]<;>with_reducible rfl);(· rfl);(· simp(disch:=omega)only[go_sem,simprocAttr]<;>rfl);(· rfl);(· intro s hs;simp only [List.mem_singleton] at hs;subst hs;exact ⟨_,_,_,rfl,rfl,rfl,by simp(disch:=omega)only[go_sem,simprocAttr]<;>rfl⟩))
  simp(disch:=omega)only[go_sem,simprocAttr]
  (repeat' first|refine D.S ?_|refine D.JJ true true ?_|refine DJ.nil ?_|refine J.reg0 ?_|refine D.W ?_|refine D.Z ?_|refine D.G ?_ ?_|refine D.X ‹_› ?_|refine D.XO ‹_› ?_|refine D.XS ‹_› ?_|intro h)
  have k1 := gInt_in k0
  (apply DJ.cD (b := 1) (T := 120) (h := FC.fr (p := ⟨[1],[]⟩) (q70' hr k1 hbs _) rfl rfl rfl (by repeat first|exact trivial|refine ⟨rfl,?_⟩) (by repeat first|exact trivial|refine ⟨rfl,?_⟩) (by simp(disch:=omega)only[go_sem,simprocAttr]<;>rfl) (by simp(disch:=omega)only[go_sem,simprocAttr]<;>rfl) rfl);(· simp(disch:=omega)only[go_sem,simprocAttr]<;>rfl);(· simp(disch:=omega)only[go_sem,simprocAttr]<;>with_reducible rfl);(· rfl);(· simp(disch:=omega)only[go_sem,simprocAttr]<;>rfl);(· rfl);(· intro s hs;simp only [List.mem_singleton] at hs;subst hs;exact ⟨_,_,_,rfl,rfl,rfl,by simp(disch:=omega)only[go_sem,simprocAttr]<;>rfl⟩))
  simp(disch:=omega)only[go_sem,simprocAttr]
  (repeat' first|refine D.S ?_|refine D.JJ true true ?_|refine DJ.nil ?_|refine J.reg0 ?_|refine D.W ?_|refine D.Z ?_|refine D.G ?_ ?_|refine D.X ‹_› ?_|refine D.XO ‹_› ?_|refine D.XS ‹_› ?_|intro h)
  have k2 := gInt_in k1
  (apply DJ.cD (b := 1) (T := 120) (h := FC.fr (p := ⟨[1],[]⟩) (q70' hr k2 hbs _) rfl rfl rfl (by repeat first|exact trivial|refine ⟨rfl,?_⟩) (by repeat first|exact trivial|refine ⟨rfl,?_⟩) (by simp(disch:=omega)only[go_sem,simprocAttr]<;>rfl) (by simp(disch:=omega)only[go_sem,simprocAttr]<;>rfl) rfl);(· simp(disch:=omega)only[go_sem,simprocAttr]<;>rfl);(· simp(disch:=omega)only[go_sem,simprocAttr]<;>with_reducible rfl);(· rfl);(· simp(disch:=omega)only[go_sem,simprocAttr]<;>rfl);(· rfl);(· intro s hs;simp only [List.mem_singleton] at hs;subst hs;exact ⟨_,_,_,rfl,rfl,rfl,by simp(disch:=omega)only[go_sem,simprocAttr]<;>rfl⟩))
  simp(disch:=omega)only[go_sem,simprocAttr]
  (repeat' first|refine D.S ?_|refine D.JJ true true ?_|refine DJ.nil ?_|refine J.reg0 ?_|refine D.W ?_|refine D.Z ?_|refine D.G ?_ ?_|refine D.X ‹_› ?_|refine D.XO ‹_› ?_|refine D.XS ‹_› ?_|intro h)
  have k3 := gInt_in k2
  (apply DJ.ap';(· simp(disch:=omega)only[go_sem,simprocAttr]<;>with_reducible rfl);(· simp(disch:=omega)only[go_sem,simprocAttr]<;>with_reducible rfl);(· simp only [rowsOf] <;> simp(disch:=omega)only[go_sem,simprocAttr] <;> with_reducible rfl);(· first|omega|(simp only [List.length_map,List.length_drop,List.length_take,List.length_append,List.length_nil,List.length_cons,maxLen] <;> omega));(· first|omega|(simp only [List.length_map,List.length_drop,List.length_take,List.length_append,List.length_nil,List.length_cons,maxLen] <;> omega)))
  (repeat' first|refine D.S ?_|refine D.JJ true true ?_|refine DJ.nil ?_|refine J.reg0 ?_|refine D.W ?_|refine D.Z ?_|refine D.G ?_ ?_|refine D.X ‹_› ?_|refine D.XO ‹_› ?_|refine D.XS ‹_› ?_|intro h)
  refine J.roundC (i + 1) (by omega) ⟨rfl, rfl, rfl, rfl, rfl, trivial⟩ (by refine ⟨rfl, rfl, ?_, trivial⟩; simp only [many_map]; rfl) (by refine ⟨rfl, ?_, rfl, rfl, trivial⟩; simp only [many_map, List.length_append]; rfl) rfl (by simp only [bdE, bdL, bdB, bdT, bdO, AV.bd, Own.frz, go_sem] <;> rfl) (by show n - (i + 1) < n - i; omega)
 rintro ⟨hs, s2⟩ ⟨hs2, hl2⟩
 simp only at hs2 hl2 ⊢
 rw [← hs2] at j1
 clear hL hB
 rename In bs s2 => j1_2
 (repeat' first|refine D.S ?_|refine D.JJ true true ?_|refine DJ.nil ?_|refine J.reg0 ?_|refine D.W ?_|refine D.Z ?_|refine D.G ?_ ?_|refine D.X ‹_› ?_|refine D.XO ‹_› ?_|refine D.XS ‹_› ?_|intro h)
 refine D.F ⟨[1],[]⟩ (q71 hr j1_2 hbs _ 0 40) ?_
 (repeat' first|refine D.S ?_|refine D.JJ true false ?_|refine DJ.nil ?_|refine J.reg0 ?_|refine D.W ?_|refine D.Z ?_|refine D.G ?_ ?_|refine D.X ‹_› ?_|refine D.XO ‹_› ?_|refine D.XS ‹_› ?_|intro h)
 have r0 : 0 ≤ (mBd bs 0 40 s2.1 s2.2).1 ∧ (mBd bs 0 40 s2.1 s2.2).1 ≤ 40 := gBd_range (by decide) s2
 have j0 : (mBd bs 0 40 s2.1 s2.2).2.1 ≤ bs.length := gBd_in j1_2
 have j1 := gList_in (hi := 40) (fun s => gOf_in (bs := bs) (s := s)) j1_2
 obtain ⟨x, hB⟩ : ∃ x, mBd bs 0 40 s2.1 s2.2 = x := ⟨_, rfl⟩
 rw [hB] at r0 j0 ⊢
 obtain ⟨nI, sB⟩ := x
 simp only at r0 j0 ⊢
 obtain ⟨n, rfl⟩ : ∃ n : Nat, nI = n := ⟨nI.toNat, (Int.toNat_of_nonneg r0.1).symm⟩
 have hL : gList bs (gOf bs) 40 s2 = many (gOf bs) n sB := by
  unfold gList
  rw [show gBd bs 40 s2 = ((n : Int), sB) from hB]
  rfl
 refine J.blkX (X := List Of_ × S2) (fun _ => [(2, .ptr 0 0), (4, .ptr 1 0), (5, .ptr 2 0)]) (fun x => [(0, 27, z6), (1, 120, rrC bs (x.2).1 (x.2).2), (2, 27, [.str nm, .int .i64 rl, .own 0 7 (vs.map Var_.row), .own 1 3 (hs.map Hd.row), .own 2 4 (x.1.map Of_.row), .own 3 3 (([] : List Ins_).map Ins_.row)])]) (fun x => [(0, .frz 68 7 (vs.map Var_.row).length), (1, .frz 76 3 (hs.map Hd.row).length), (2, .frz 79 4 (x.1.map Of_.row).length), (3, .frz 41 3 (([] : List Ins_).map Ins_.row).length)]) (fun x => x.2 = (gList bs (gOf bs) 40 s2).2 ∧ (x.2.2 = false → x.1 = (gList bs (gOf bs) 40 s2).1)) ?_ ?_
 rotate_left
 ·intro hj
  refine J.loopX (X := Nat) 0 (fun i => [(2, .ptr 0 0), (4, .ptr 1 0), (5, .ptr 2 0), (6, .int .i64 (n : Int)), (10, .int .i64 (i : Int))]) (fun i => [(0, 27, z6), (1, 120, rrC bs ((many (gOf bs) i sB).2).1 ((many (gOf bs) i sB).2).2), (2, 27, [.str nm, .int .i64 rl, .own 0 7 (vs.map Var_.row), .own 1 3 (hs.map Hd.row), .own 2 4 ((many (gOf bs) i sB).1.map Of_.row), .own 3 3 (([] : List Ins_).map Ins_.row)])]) (fun i => [(0, .frz 68 7 (vs.map Var_.row).length), (1, .frz 76 3 (hs.map Hd.row).length), (2, .frz 79 4 ((many (gOf bs) i sB).1.map Of_.row).length), (3, .frz 41 3 (([] : List Ins_).map Ins_.row).length)]) (fun i => i ≤ n) (fun i => n - i) (Nat.zero_le _) ⟨rfl, rfl, rfl, rfl, rfl, trivial⟩ ⟨rfl, rfl, rfl, trivial⟩ ⟨rfl, rfl, rfl, rfl, trivial⟩ ?_
  intro i hi
  try simp only
  have k0 := many_in (fun s => gOf_in (bs := bs) (s := s)) j0 i
  have hlen := many_len (gOf bs) sB i
  (repeat' first|refine D.S ?_|refine D.JJ false true ?_|refine DJ.nil ?_|refine J.reg0 ?_|refine D.W ?_|refine D.Z ?_|refine D.G ?_ ?_|refine D.X ‹_› ?_|refine D.XO ‹_› ?_|refine D.XS ‹_› ?_|intro h|refine D.C ?_ ?_)
  rotate_left
  ·have hb : (many (gOf bs) i sB).2.2 = true := by simpa using h
   apply J.exit rfl
   refine hj _ _ ((many (gOf bs) i sB).1, (many (gOf bs) i sB).2) ⟨?_, fun h => ?_⟩ ⟨rfl, rfl, rfl, trivial⟩ ⟨rfl, rfl, rfl, trivial⟩ ⟨rfl, rfl, rfl, rfl, trivial⟩ rfl rfl
   ·rw [hL, many_bad (fun s => gOf_bad) hb n hi]
   ·rw [hb] at h; cases h
  ·have e : i = n := by simp at h; omega
   subst e
   apply J.exit rfl
   exact hj _ _ ((many (gOf bs) i sB).1, (many (gOf bs) i sB).2) ⟨by rw [hL], fun _ => by rw [hL]⟩ ⟨rfl, rfl, rfl, trivial⟩ ⟨rfl, rfl, rfl, trivial⟩ ⟨rfl, rfl, rfl, rfl, trivial⟩ rfl rfl
  have hlt : i < n := by simp only [decide_eq_true_eq] at *; omega
  (apply DJ.cD (b := 1) (T := 120) (h := FC.fr (p := ⟨[1],[]⟩) (q70' hr k0 hbs _) rfl rfl rfl (by repeat first|exact trivial|refine ⟨rfl,?_⟩) (by repeat first|exact trivial|refine ⟨rfl,?_⟩) (by simp(disch:=omega)only[go_sem,simprocAttr]<;>rfl) (by simp(disch:=omega)only[go_sem,simprocAttr]<;>rfl) rfl);(· simp(disch:=omega)only[go_sem,simprocAttr]<;>rfl);(· simp(disch:=omega)only[go_sem,simprocAttr]<;>with_reducible rfl);(· rfl);(· simp(disch:=omega)only[go_sem,simprocAttr]<;>rfl);(· rfl);(· intro s hs;simp only [List.mem_singleton] at hs;subst hs;exact ⟨_,_,_,rfl,rfl,rfl,by simp(disch:=omega)only[go_sem,simprocAttr]<;>rfl⟩))
  simp(disch:=omega)only[go_sem,simprocAttr]
  (repeat' first|refine D.S ?_|refine D.JJ true true ?_|refine DJ.nil ?_|refine J.reg0 ?_|refine D.W ?_|refine D.Z ?_|refine D.G ?_ ?_|refine D.X ‹_› ?_|refine D.XO ‹_› ?_|refine D.XS ‹_› ?_|intro h)
  have k1 := gInt_in k0
  (apply DJ.cD (b := 1) (T := 120) (h := FC.fr (p := ⟨[1],[]⟩) (q70' hr k1 hbs _) rfl rfl rfl (by repeat first|exact trivial|refine ⟨rfl,?_⟩) (by repeat first|exact trivial|refine ⟨rfl,?_⟩) (by simp(disch:=omega)only[go_sem,simprocAttr]<;>rfl) (by simp(disch:=omega)only[go_sem,simprocAttr]<;>rfl) rfl);(· simp(disch:=omega)only[go_sem,simprocAttr]<;>rfl);(· simp(disch:=omega)only[go_sem,simprocAttr]<;>with_reducible rfl);(· rfl);(· simp(disch:=omega)only[go_sem,simprocAttr]<;>rfl);(· rfl);(· intro s hs;simp only [List.mem_singleton] at hs;subst hs;exact ⟨_,_,_,rfl,rfl,rfl,by simp(disch:=omega)only[go_sem,simprocAttr]<;>rfl⟩))
  simp(disch:=omega)only[go_sem,simprocAttr]
  (repeat' first|refine D.S ?_|refine D.JJ true true ?_|refine DJ.nil ?_|refine J.reg0 ?_|refine D.W ?_|refine D.Z ?_|refine D.G ?_ ?_|refine D.X ‹_› ?_|refine D.XO ‹_› ?_|refine D.XS ‹_› ?_|intro h)
  have k2 := gInt_in k1
  (apply DJ.cD (b := 1) (T := 120) (h := FC.fr (p := ⟨[1],[]⟩) (q70' hr k2 hbs _) rfl rfl rfl (by repeat first|exact trivial|refine ⟨rfl,?_⟩) (by repeat first|exact trivial|refine ⟨rfl,?_⟩) (by simp(disch:=omega)only[go_sem,simprocAttr]<;>rfl) (by simp(disch:=omega)only[go_sem,simprocAttr]<;>rfl) rfl);(· simp(disch:=omega)only[go_sem,simprocAttr]<;>rfl);(· simp(disch:=omega)only[go_sem,simprocAttr]<;>with_reducible rfl);(· rfl);(· simp(disch:=omega)only[go_sem,simprocAttr]<;>rfl);(· rfl);(· intro s hs;simp only [List.mem_singleton] at hs;subst hs;exact ⟨_,_,_,rfl,rfl,rfl,by simp(disch:=omega)only[go_sem,simprocAttr]<;>rfl⟩))
  simp(disch:=omega)only[go_sem,simprocAttr]
  (repeat' first|refine D.S ?_|refine D.JJ true true ?_|refine DJ.nil ?_|refine J.reg0 ?_|refine D.W ?_|refine D.Z ?_|refine D.G ?_ ?_|refine D.X ‹_› ?_|refine D.XO ‹_› ?_|refine D.XS ‹_› ?_|intro h)
  have k3 := gInt_in k2
  (apply DJ.cD (b := 1) (T := 120) (h := FC.fr (p := ⟨[1],[]⟩) (q70' hr k3 hbs _) rfl rfl rfl (by repeat first|exact trivial|refine ⟨rfl,?_⟩) (by repeat first|exact trivial|refine ⟨rfl,?_⟩) (by simp(disch:=omega)only[go_sem,simprocAttr]<;>rfl) (by simp(disch:=omega)only[go_sem,simprocAttr]<;>rfl) rfl);(· simp(disch:=omega)only[go_sem,simprocAttr]<;>rfl);(· simp(disch:=omega)only[go_sem,simprocAttr]<;>with_reducible rfl);(· rfl);(· simp(disch:=omega)only[go_sem,simprocAttr]<;>rfl);(· rfl);(· intro s hs;simp only [List.mem_singleton] at hs;subst hs;exact ⟨_,_,_,rfl,rfl,rfl,by simp(disch:=omega)only[go_sem,simprocAttr]<;>rfl⟩))
  simp(disch:=omega)only[go_sem,simprocAttr]
  (repeat' first|refine D.S ?_|refine D.JJ true true ?_|refine DJ.nil ?_|refine J.reg0 ?_|refine D.W ?_|refine D.Z ?_|refine D.G ?_ ?_|refine D.X ‹_› ?_|refine D.XO ‹_› ?_|refine D.XS ‹_› ?_|intro h)
  have k4 := gInt_in k3
  (apply DJ.ap';(· simp(disch:=omega)only[go_sem,simprocAttr]<;>with_reducible rfl);(· simp(disch:=omega)only[go_sem,simprocAttr]<;>with_reducible rfl);(· simp only [rowsOf] <;> simp(disch:=omega)only[go_sem,simprocAttr] <;> with_reducible rfl);(· first|omega|(simp only [List.length_map,List.length_drop,List.length_take,List.length_append,List.length_nil,List.length_cons,maxLen] <;> omega));(· first|omega|(simp only [List.length_map,List.length_drop,List.length_take,List.length_append,List.length_nil,List.length_cons,maxLen] <;> omega)))
  (repeat' first|refine D.S ?_|refine D.JJ true true ?_|refine DJ.nil ?_|refine J.reg0 ?_|refine D.W ?_|refine D.Z ?_|refine D.G ?_ ?_|refine D.X ‹_› ?_|refine D.XO ‹_› ?_|refine D.XS ‹_› ?_|intro h)
  refine J.roundC (i + 1) (by omega) ⟨rfl, rfl, rfl, rfl, rfl, trivial⟩ (by refine ⟨rfl, rfl, ?_, trivial⟩; simp only [many_map]; rfl) (by refine ⟨rfl, rfl, ?_, rfl, trivial⟩; simp only [many_map, List.length_append]; rfl) rfl (by simp only [bdE, bdL, bdB, bdT, bdO, AV.bd, Own.frz, go_sem] <;> rfl) (by show n - (i + 1) < n - i; omega)
 rintro ⟨os, s3⟩ ⟨hs3, hl3⟩
 simp only at hs3 hl3 ⊢
 rw [← hs3] at j1
 clear hL hB
 rename In bs s3 => j1_3
 (repeat' first|refine D.S ?_|refine D.JJ true true ?_|refine DJ.nil ?_|refine J.reg0 ?_|refine D.W ?_|refine D.Z ?_|refine D.G ?_ ?_|refine D.X ‹_› ?_|refine D.XO ‹_› ?_|refine D.XS ‹_› ?_|intro h)
 refine D.F ⟨[1],[]⟩ (q71 hr j1_3 hbs _ 0 1000) ?_
 (repeat' first|refine D.S ?_|refine D.JJ true false ?_|refine DJ.nil ?_|refine J.reg0 ?_|refine D.W ?_|refine D.Z ?_|refine D.G ?_ ?_|refine D.X ‹_› ?_|refine D.XO ‹_› ?_|refine D.XS ‹_› ?_|intro h)
 have r0 : 0 ≤ (mBd bs 0 1000 s3.1 s3.2).1 ∧ (mBd bs 0 1000 s3.1 s3.2).1 ≤ 1000 := gBd_range (by decide) s3
 have j0 : (mBd bs 0 1000 s3.1 s3.2).2.1 ≤ bs.length := gBd_in j1_3
 have j1 := gList_in (hi := 1000) (fun s => gIns_in (bs := bs) (s := s)) j1_3
 obtain ⟨x, hB⟩ : ∃ x, mBd bs 0 1000 s3.1 s3.2 = x := ⟨_, rfl⟩
 rw [hB] at r0 j0 ⊢
 obtain ⟨nI, sB⟩ := x
 simp only at r0 j0 ⊢
 obtain ⟨n, rfl⟩ : ∃ n : Nat, nI = n := ⟨nI.toNat, (Int.toNat_of_nonneg r0.1).symm⟩
 have hL : gList bs (gIns bs) 1000 s3 = many (gIns bs) n sB := by
  unfold gList
  rw [show gBd bs 1000 s3 = ((n : Int), sB) from hB]
  rfl
 refine J.blkX (X := List Ins_ × S2) (fun _ => [(2, .ptr 0 0), (4, .ptr 1 0), (5, .ptr 2 0)]) (fun x => [(0, 27, z6), (1, 120, rrC bs (x.2).1 (x.2).2), (2, 27, [.str nm, .int .i64 rl, .own 0 7 (vs.map Var_.row), .own 1 3 (hs.map Hd.row), .own 2 4 (os.map Of_.row), .own 3 3 (x.1.map Ins_.row)])]) (fun x => [(0, .frz 68 7 (vs.map Var_.row).length), (1, .frz 76 3 (hs.map Hd.row).length), (2, .frz 79 4 (os.map Of_.row).length), (3, .frz 41 3 (x.1.map Ins_.row).length)]) (fun x => x.2 = (gList bs (gIns bs) 1000 s3).2 ∧ (x.2.2 = false → x.1 = (gList bs (gIns bs) 1000 s3).1)) ?_ ?_
 rotate_left
 ·intro hj
  refine J.loopX (X := Nat) 0 (fun i => [(2, .ptr 0 0), (4, .ptr 1 0), (5, .ptr 2 0), (6, .int .i64 (n : Int)), (11, .int .i64 (i : Int))]) (fun i => [(0, 27, z6), (1, 120, rrC bs ((many (gIns bs) i sB).2).1 ((many (gIns bs) i sB).2).2), (2, 27, [.str nm, .int .i64 rl, .own 0 7 (vs.map Var_.row), .own 1 3 (hs.map Hd.row), .own 2 4 (os.map Of_.row), .own 3 3 ((many (gIns bs) i sB).1.map Ins_.row)])]) (fun i => [(0, .frz 68 7 (vs.map Var_.row).length), (1, .frz 76 3 (hs.map Hd.row).length), (2, .frz 79 4 (os.map Of_.row).length), (3, .frz 41 3 ((many (gIns bs) i sB).1.map Ins_.row).length)]) (fun i => i ≤ n) (fun i => n - i) (Nat.zero_le _) ⟨rfl, rfl, rfl, rfl, rfl, trivial⟩ ⟨rfl, rfl, rfl, trivial⟩ ⟨rfl, rfl, rfl, rfl, trivial⟩ ?_
  intro i hi
  try simp only
  have k0 := many_in (fun s => gIns_in (bs := bs) (s := s)) j0 i
  have hlen := many_len (gIns bs) sB i
  (repeat' first|refine D.S ?_|refine D.JJ false true ?_|refine DJ.nil ?_|refine J.reg0 ?_|refine D.W ?_|refine D.Z ?_|refine D.G ?_ ?_|refine D.X ‹_› ?_|refine D.XO ‹_› ?_|refine D.XS ‹_› ?_|intro h|refine D.C ?_ ?_)
  rotate_left
  ·have hb : (many (gIns bs) i sB).2.2 = true := by simpa using h
   apply J.exit rfl
   refine hj _ _ ((many (gIns bs) i sB).1, (many (gIns bs) i sB).2) ⟨?_, fun h => ?_⟩ ⟨rfl, rfl, rfl, trivial⟩ ⟨rfl, rfl, rfl, trivial⟩ ⟨rfl, rfl, rfl, rfl, trivial⟩ rfl rfl
   ·rw [hL, many_bad (fun s => gIns_bad) hb n hi]
   ·rw [hb] at h; cases h
  ·have e : i = n := by simp at h; omega
   subst e
   apply J.exit rfl
   exact hj _ _ ((many (gIns bs) i sB).1, (many (gIns bs) i sB).2) ⟨by rw [hL], fun _ => by rw [hL]⟩ ⟨rfl, rfl, rfl, trivial⟩ ⟨rfl, rfl, rfl, trivial⟩ ⟨rfl, rfl, rfl, rfl, trivial⟩ rfl rfl
  have hlt : i < n := by simp only [decide_eq_true_eq] at *; omega
  refine D.F ⟨[1],[]⟩ (q70' hr k0 hbs _) ?_
  (repeat' first|refine D.S ?_|refine D.JJ true true ?_|refine DJ.nil ?_|refine J.reg0 ?_|refine D.W ?_|refine D.Z ?_|refine D.G ?_ ?_|refine D.X ‹_› ?_|refine D.XO ‹_› ?_|refine D.XS ‹_› ?_|intro h)
  have k1 := gInt_in k0
  refine D.F ⟨[1],[]⟩ (q70' hr k1 hbs _) ?_
  (repeat' first|refine D.S ?_|refine D.JJ true true ?_|refine DJ.nil ?_|refine J.reg0 ?_|refine D.W ?_|refine D.Z ?_|refine D.G ?_ ?_|refine D.X ‹_› ?_|refine D.XO ‹_› ?_|refine D.XS ‹_› ?_|intro h)
  have k2 := gInt_in k1
  refine D.F ⟨[1],[]⟩ (q69 hr k2 hbs _ 40 (by decide)) ?_
  (repeat' first|refine D.S ?_|refine D.JJ true true ?_|refine DJ.nil ?_|refine J.reg0 ?_|refine D.W ?_|refine D.Z ?_|refine D.G ?_ ?_|refine D.X ‹_› ?_|refine D.XO ‹_› ?_|refine D.XS ‹_› ?_|intro h)
  (apply DJ.ap';(· simp(disch:=omega)only[go_sem,simprocAttr]<;>with_reducible rfl);(· simp(disch:=omega)only[go_sem,simprocAttr]<;>with_reducible rfl);(· simp only [rowsOf] <;> simp(disch:=omega)only[go_sem,simprocAttr] <;> with_reducible rfl);(· first|omega|(simp only [List.length_map,List.length_drop,List.length_take,List.length_append,List.length_nil,List.length_cons,maxLen] <;> omega));(· first|omega|(simp only [List.length_map,List.length_drop,List.length_take,List.length_append,List.length_nil,List.length_cons,maxLen] <;> omega)))
  (repeat' first|refine D.S ?_|refine D.JJ true true ?_|refine DJ.nil ?_|refine J.reg0 ?_|refine D.W ?_|refine D.Z ?_|refine D.G ?_ ?_|refine D.X ‹_› ?_|refine D.XO ‹_› ?_|refine D.XS ‹_› ?_|intro h)
  refine J.roundC (i + 1) (by omega) ⟨rfl, rfl, rfl, rfl, rfl, trivial⟩ (by refine ⟨rfl, rfl, ?_, trivial⟩; simp only [many_map]; rfl) (by refine ⟨rfl, rfl, rfl, ?_, trivial⟩; simp only [many_map, List.length_append]; rfl) rfl (by simp only [bdE, bdL, bdB, bdT, bdO, AV.bd, Own.frz, go_sem] <;> rfl) (by show n - (i + 1) < n - i; omega)
 rintro ⟨cs, s4⟩ ⟨hs4, hl4⟩
 simp only at hs4 hl4 ⊢
 rw [← hs4] at j1
 clear hL hB
 rename In bs s4 => j1_4
 (repeat' first|refine D.S ?_|refine D.JJ true true ?_|refine DJ.nil ?_|refine J.reg0 ?_|refine D.W ?_|refine D.Z ?_|refine D.G ?_ ?_|refine D.X ‹_› ?_|refine D.XO ‹_› ?_|refine D.XS ‹_› ?_|intro h)
 by_cases hE : s4.2 = true ∨ s4.1 < bs.length
 ·have q := q73 bs s4.1 s4.2 hr j1_4
  rw [if_pos hE] at q
  have hd : decP bs = (p0, 4) := by
   rw [hdec, ← hg]
   simp only [← hs1, ← hs2, ← hs3, ← hs4]
   rw [if_pos (by rcases hE with h | h <;> simp [h])]
  rw [hd]
  simp only
  refine D.F ⟨[1],[]⟩ (q) ?_
  (repeat' first|refine D.S ?_|refine D.JJ true true ?_|refine DJ.nil ?_|refine J.reg0 ?_|refine D.W ?_|refine D.Z ?_|refine D.G ?_ ?_|refine D.X ‹_› ?_|refine D.XO ‹_› ?_|refine D.XS ‹_› ?_|intro h)
  first|refine D.R ?_|refine D.E ?_
  exact ⟨_, rfl, .tup (.cons (.agg (.cons (.wk rfl rfl) (.cons (.wk rfl rfl) (.cons .nil (.cons .nil (.cons .nil (.cons .nil .nil))))))) (.cons (.wk rfl rfl) .nil)), trivial, trivial⟩
 ·have q := q73 bs s4.1 s4.2 hr j1_4
  rw [if_neg hE] at q
  simp only [not_or, Bool.not_eq_true] at hE
  have b3 : s3.2 = false := gList_ok (fun _ => gIns_bad) (by rw [← hs4]; exact hE.1)
  have b2 : s2.2 = false := gList_ok (fun _ => gOf_bad) (by rw [← hs3]; exact b3)
  have b1 : s1.2 = false := gList_ok (fun _ => gHd_bad) (by rw [← hs2]; exact b2)
  have hd : decP bs = if validP ⟨nm, rl, vs, hs, os, cs⟩ = false then (p0, 4) else (⟨nm, rl, vs, hs, os, cs⟩, 0) := by
   rw [hdec, ← hg, hl1 b1, hl2 b2, hl3 b3, hl4 hE.1]
   simp only [← hs1, ← hs2, ← hs3, ← hs4]
   simp only [hE.1, hE.2, Bool.false_eq_true, false_or]
  rw [hd]
  refine D.F ⟨[1],[]⟩ (q) ?_
  (repeat' first|refine D.S ?_|refine D.JJ true true ?_|refine DJ.nil ?_|refine J.reg0 ?_|refine D.W ?_|refine D.Z ?_|refine D.G ?_ ?_|refine D.X ‹_› ?_|refine D.XO ‹_› ?_|refine D.XS ‹_› ?_|intro h)
  refine D.P (p13 ⟨nm, rl, vs, hs, os, cs⟩) ?_
  cases hv : validP ⟨nm, rl, vs, hs, os, cs⟩ with
  | true =>
   rw [if_neg (by simp)]
   (repeat' first|refine D.S ?_|refine D.JJ true true ?_|refine DJ.nil ?_|refine J.reg0 ?_|refine D.W ?_|refine D.Z ?_|refine D.G ?_ ?_|refine D.X ‹_› ?_|refine D.XO ‹_› ?_|refine D.XS ‹_› ?_|intro h)
   first|refine D.R ?_|refine D.E ?_
   exact ⟨_, rfl, .tup (.cons (.agg (.cons (.wk rfl rfl) (.cons (.wk rfl rfl) (.cons (.wk rfl (fl_var _)) (.cons (.wk rfl (fl_hd _)) (.cons (.wk rfl (fl_of _)) (.cons (.wk rfl (fl_ins _)) .nil))))))) (.cons (.wk rfl rfl) .nil)), trivial, trivial⟩
  | false =>
   rw [if_pos rfl]
   (repeat' first|refine D.S ?_|refine D.JJ true true ?_|refine DJ.nil ?_|refine J.reg0 ?_|refine D.W ?_|refine D.Z ?_|refine D.G ?_ ?_|refine D.X ‹_› ?_|refine D.XO ‹_› ?_|refine D.XS ‹_› ?_|intro h)
   first|refine D.R ?_|refine D.E ?_
   exact ⟨_, rfl, .tup (.cons (.agg (.cons (.wk rfl rfl) (.cons (.wk rfl rfl) (.cons .nil (.cons .nil (.cons .nil (.cons .nil .nil))))))) (.cons (.wk rfl rfl) .nil)), trivial, trivial⟩
end Go.Aw.T.N
namespace Go.Aw.T.N
open Go Go.Aw Go.Proofs Go.RowKit
set_option maxRecDepth 100000
attribute [local irreducible] Go.Aw.J Go.Aw.DJ Go.Aw.FC
attribute [local go_sem] o_mv o_pick o_nilck o_build o_load o_loadD o_faddr o_field o_iaddr o_iaddrA o_idxA o_idxS o_bin o_binB o_eqA o_not o_pnil o_neg o_conv o_lenS o_len o_lenA o_minmax o_slS o_slV o_extract o_mkfn o_mkfnB o_convS o_convBS o_mkif o_isnil o_bslice o_box o_alloc o_store o_storeD o_bsliceO o_bsliceM cpv cev_t cev_c Env.get put_some' put_none' of_setB of_addB of_setT of_addT of_upd of_blk of_tok of_nb of_nt of_new rmB rmT rmBs rmTs renB renT apB apT lkB lkT getD_0 getD_s renL AV.ren crange_if cstB_if one_nilS one_pnil oc_nil oc_pnil cbin binInt shInt binStr binBool cbuild_nil cbuild_cons cidx_if AV.cells AV.okc AV.flat flatL flatR setRange minmaxAV AV.one AV.ofCells eqCells eqCell slRows initEnv initFrom cres cresv cresL cond_true cond_false beq_self_eq_true Bool.not_true Bool.not_false beq_true beq_false eq_self if_true Option.some.injEq List.length_cons List.length_nil List.take_succ_cons List.take_zero List.drop_succ_cons List.drop_zero List.set_cons_succ List.set_cons_zero List.nil_append List.cons_append List.append_nil and_self Option.map_some Option.map_none List.map_cons List.map_nil Bool.false_eq_true if_false Nat.zero_add Nat.add_zero true_and and_true Bool.and_true Bool.true_and List.getElem?_cons_zero List.getElem?_cons_succ Nat.zero_le Nat.le_refl List.all_cons List.all_nil List.flatten_cons List.flatten_nil crows crowsOk List.filter_cons List.filter_nil List.contains_cons List.contains_nil Bool.or_false Bool.or_true Bool.false_or Bool.true_or
set_option linter.unusedSimpArgs false
set_option linter.unusedVariables false
set_option linter.unusedSectionVars false
theorem zig_unz (u : Nat) : zig (unz u) = u := by unfold zig unz; split <;> split <;> omega
theorem unz_zig (n : Int) : unz (zig n) = n := by unfold zig unz; split <;> split <;> omega
theorem enc_pos (n : Int) : 1 ≤ (enc n).length := by unfold enc; split <;> simp
structure Gd {α : Type} (f : List Nat → S2 → α × S2) (e : α → List Nat) (ok : α → Prop) : Prop where
 fwd : ∀ bs pos x rest, ok x → bs.drop pos = e x ++ rest → f bs (pos, false) = (x, pos + (e x).length, false)
 bwd : ∀ bs pos x p, (∀ b ∈ bs, b < 256) → f bs (pos, false) = (x, p, false) → ok x → ∃ rest, bs.drop pos = e x ++ rest ∧ p = pos + (e x).length
 bad : ∀ bs s, s.2 = true → (f bs s).2.2 = true
theorem drop_step {bs : List Nat} {pos c : Nat} (h : bs[pos]? = some c) : bs.drop pos = c :: bs.drop (pos + 1) := by
 obtain ⟨h3, e⟩ := List.getElem?_eq_some_iff.1 h
 rw [List.drop_eq_getElem_cons h3, e]
theorem step_drop {bs : List Nat} {pos c : Nat} {r : List Nat} (h : bs.drop pos = c :: r) : bs[pos]? = some c ∧ bs.drop (pos + 1) = r := by
 constructor
 ·have := congrArg (·[0]?) h
  simpa [List.getElem?_drop] using this
 ·have := congrArg (List.drop 1) h
  simpa [List.drop_drop, Nat.add_comm] using this
theorem intP_big (bs : List Nat) : ∀ m i pos u v p, 2 ≤ i → i + m = 10 → intP bs m i pos u = (v, p, false) → ∃ U, 16384 ≤ U ∧ v = unz U
 | 0, i, pos, u, v, p, _, _, h => by simp [intP] at h
 | m + 1, i, pos, u, v, p, hi, hm, h => by
  unfold intP at h
  cases hc : bs[pos]? with
  | none => simp [hc] at h
  | some c =>
   simp only [hc] at h
   split at h
   ·rename_i h128
    simp only [Prod.mk.injEq, decide_eq_false_iff_not, not_or, not_and] at h
    refine ⟨u + dig i c, ?_, h.1.symm⟩
    have h1 : c ≠ 0 := fun e => h.2.2.1 e (by omega)
    have hp : 16384 ≤ 2 ^ (7 * i) := Nat.pow_le_pow_right (n := 2) (by decide) (show 14 ≤ 7 * i by omega)
    have h2 : 1 ≤ (if i = 9 then c % 2 else c % 128) := by
     split
     ·rename_i e
      have := h.2.2.2 e
      omega
     ·omega
    have : 2 ^ (7 * i) ≤ dig i c := Nat.le_mul_of_pos_left _ h2
    omega
   ·exact intP_big bs m (i + 1) (pos + 1) _ v p (by omega) (by omega) h
theorem prt_inv {α : Type} {z : α} {pos : Nat} {r : α × S2} {x : α} {p : Nat} (h : prt z pos false r = (x, p, false)) : r = (x, p, false) := by
 unfold prt at h
 cases hb : r.2.2 with
 | true => simp [hb] at h
 | false => simpa [hb] using h
theorem intP_enc {bs : List Nat} {pos : Nat} {n : Int} {rest : List Nat} (h0 : -1000 ≤ n) (h1 : n ≤ 1000) (h : bs.drop pos = enc n ++ rest) : rInt bs pos = (n, pos + (enc n).length, false) := by
 have hz := zig_le h0 h1
 unfold enc at h ⊢
 split at h
 ·rename_i h2
  rw [if_pos h2]
  obtain ⟨e1, _⟩ := step_drop h
  show intP bs (9 + 1) 0 pos 0 = _
  simp only [intP, e1, if_pos h2]
  have : 0 + dig 0 (zig n) = zig n := by simp [dig]; omega
  rw [this, unz_zig]
  simp
 ·rename_i h2
  rw [if_neg h2]
  obtain ⟨e1, e2⟩ := step_drop h
  obtain ⟨e3, _⟩ := step_drop e2
  show intP bs (8 + 1 + 1) 0 pos 0 = _
  simp only [intP, e1, e3]
  rw [if_neg (by omega), if_pos (by omega)]
  have : 0 + dig 0 (zig n % 128 + 128) + dig (0 + 1) (zig n / 128) = zig n := by simp [dig]; omega
  rw [this, unz_zig]
  simp
  omega
theorem enc_intP {bs : List Nat} {pos p : Nat} {n : Int} (hbs : ∀ b ∈ bs, b < 256) (h : rInt bs pos = (n, p, false)) (h0 : -1000 ≤ n) (h1 : n ≤ 1000) : ∃ rest, bs.drop pos = enc n ++ rest ∧ p = pos + (enc n).length := by
 have hz := zig_le h0 h1
 have h' : intP bs (7 + 1 + 1 + 1) 0 pos 0 = (n, p, false) := h
 rw [intP] at h'
 cases hc : bs[pos]? with
 | none => simp [hc] at h'
 | some c =>
  have c256 := hbs c (List.mem_of_getElem? hc)
  simp only [hc] at h'
  have d0 : 0 + dig 0 c = c % 128 := by simp [dig]
  rw [d0] at h'
  split at h'
  ·rename_i h2
   simp only [Prod.mk.injEq] at h'
   have e1 : zig n = c := by rw [← h'.1, zig_unz]; omega
   refine ⟨bs.drop (pos + 1), ?_, ?_⟩
   ·unfold enc; rw [e1, if_pos h2, drop_step hc]; rfl
   ·unfold enc; rw [e1, if_pos h2]; exact h'.2.1.symm
  ·rename_i h2
   rw [intP] at h'
   cases hc1 : bs[pos + 1]? with
   | none => simp [hc1] at h'
   | some c1 =>
    have c256' := hbs c1 (List.mem_of_getElem? hc1)
    simp only [hc1] at h'
    split at h'
    ·rename_i h3
     simp only [Prod.mk.injEq, decide_eq_false_iff_not, not_or, not_and] at h'
     have d1 : c % 128 + dig (0 + 1) c1 = c % 128 + c1 % 128 * 128 := by simp [dig]
     have e1 : zig n = c % 128 + c1 * 128 := by rw [← h'.1, zig_unz, d1]; omega
     have h4 : c1 ≠ 0 := fun e => h'.2.2.1 e (by omega)
     refine ⟨bs.drop (pos + 1 + 1), ?_, ?_⟩
     ·unfold enc; rw [e1, if_neg (by omega), drop_step hc, drop_step hc1]
      have a1 : (c % 128 + c1 * 128) % 128 + 128 = c := by omega
      have a2 : (c % 128 + c1 * 128) / 128 = c1 := by omega
      rw [a1, a2]
      rfl
     ·unfold enc; rw [e1, if_neg (by omega)]; exact h'.2.1.symm
    ·exfalso
     obtain ⟨U, u1, u2⟩ := intP_big bs 8 2 _ _ n p (by omega) (by omega) h'
     rw [u2, zig_unz] at hz
     omega
theorem gd_int : Gd gInt enc (fun n => -1000 ≤ n ∧ n ≤ 1000) where
 fwd := fun bs pos n rest ok h => by
  show prt 0 pos false (rInt bs pos) = _
  rw [intP_enc ok.1 ok.2 h]
  rfl
 bwd := fun bs pos n p hbs h ok => enc_intP hbs (prt_inv h) ok.1 ok.2
 bad := fun bs s h => by rw [gInt_bad h]; exact h
theorem rBd_fwd {bs : List Nat} {pos : Nat} {n lo hi : Int} {rest : List Nat} (h0 : -1000 ≤ n) (h1 : n ≤ 1000) (hl : lo ≤ n) (hh : n ≤ hi) (h : bs.drop pos = enc n ++ rest) : rBd bs lo hi pos = (n, pos + (enc n).length, false) := by
 unfold rBd
 rw [intP_enc h0 h1 h]
 simp
 omega
theorem rBd_bwd {bs : List Nat} {pos p : Nat} {n lo hi : Int} (hbs : ∀ b ∈ bs, b < 256) (h : rBd bs lo hi pos = (n, p, false)) (h0 : -1000 ≤ n) (h1 : n ≤ 1000) : (∃ rest, bs.drop pos = enc n ++ rest ∧ p = pos + (enc n).length) ∧ lo ≤ n ∧ n ≤ hi := by
 unfold rBd at h
 simp only [Prod.mk.injEq, Bool.or_eq_false_iff, decide_eq_false_iff_not] at h
 obtain ⟨e1, e2, e3, e4, e5⟩ := h
 refine ⟨enc_intP hbs (n := n) (p := p) ?_ h0 h1, by omega, by omega⟩
 rw [← e1, ← e2, ← e3]
theorem u8s (l : List UInt8) : (l.map (·.toNat)).map (fun b => UInt8.ofNat b) = l := by
 rw [List.map_map]
 refine (List.map_congr_left fun c _ => ?_).trans (List.map_id l)
 simp
theorem take_app {α : Type} {a b : List α} : (a ++ b).take a.length = a := by simp
theorem gd_tx (mx : Nat) (hm : mx ≤ 1000) : Gd (fun bs => gTx bs mx) encT (fun s => s.length ≤ mx) where
 fwd := fun bs pos s rest ok h => by
  show prt [] pos false (txV (rBy bs mx pos).1, (rBy bs mx pos).2) = _
  unfold encT at h ⊢
  rw [List.append_assoc] at h
  have hb := rBd_fwd (lo := 0) (hi := mx) (by omega) (by omega) (by omega) (by omega) h
  have hd : bs.drop (pos + (enc s.length).length) = s.map (·.toNat) ++ rest := by
   rw [← List.drop_drop, h, List.drop_left]
  have hle : pos + (enc s.length).length + s.length ≤ bs.length := by
   have h3 := congrArg List.length h
   have h4 := enc_pos s.length
   simp only [List.length_drop, List.length_append, List.length_map] at h3
   omega
  unfold rBy
  rw [hb]
  simp only [cond_false, Int.toNat_natCast]
  unfold nxP
  rw [if_pos hle]
  simp only [txV]
  rw [byteRows_brow]
  simp only [Option.getD_some]
  rw [List.drop_take, Nat.add_sub_cancel_left, hd, show s.length = (s.map (·.toNat)).length by simp, take_app, u8s]
  simp only [prt, cond_false, List.length_append, List.length_map, Nat.add_assoc]
 bwd := fun bs pos s p hbs h ok => by
  have h := prt_inv h
  simp only [Prod.mk.injEq] at h
  obtain ⟨h1, h2⟩ := h
  unfold rBy at h1 h2
  cases hb : (rBd bs 0 mx pos).2.2 with
  | true => simp [hb] at h2
  | false =>
   simp only [hb, cond_false] at h1 h2
   unfold nxP at h1 h2
   split at h2
   ·rename_i hle
    rw [if_pos hle] at h1
    simp only [txV, byteRows_brow, Option.getD_some] at h1
    simp only [Prod.mk.injEq, and_true] at h2
    obtain ⟨n, hn⟩ : ∃ n, (rBd bs 0 mx pos).1 = n := ⟨_, rfl⟩
    obtain ⟨q, hq⟩ : ∃ q, (rBd bs 0 mx pos).2.1 = q := ⟨_, rfl⟩
    have hr : rBd bs 0 mx pos = (n, q, false) := by rw [← hn, ← hq, ← hb]
    rw [hn, hq] at h1 h2 hle
    have hn2 : 0 ≤ n ∧ n ≤ mx := by
     unfold rBd at hr
     simp only [Prod.mk.injEq, Bool.or_eq_false_iff, decide_eq_false_iff_not] at hr
     omega
    obtain ⟨⟨rest, e1, e2⟩, _, _⟩ := rBd_bwd hbs hr (by omega) (by omega)
    have hlen : s.length = n.toNat := by
     rw [← h1]
     simp
     omega
    have hd : bs.drop q = rest := by rw [e2, ← List.drop_drop, e1, List.drop_left]
    have hs : s.map (·.toNat) = rest.take n.toNat := by
     rw [← h1, List.map_map, List.drop_take, Nat.add_sub_cancel_left, hd]
     refine (List.map_congr_left fun c hc => ?_).trans (List.map_id _)
     have : c < 256 := hbs c (by
      have := List.mem_of_mem_take hc
      rw [← hd] at this
      exact List.mem_of_mem_drop this)
     simp only [Function.comp, id]
     rw [UInt8.toNat_ofNat']
     omega
    refine ⟨rest.drop n.toNat, ?_, ?_⟩
    ·unfold encT
     rw [hs, hlen, Int.toNat_of_nonneg hn2.1, List.append_assoc, List.take_append_drop, e1]
    ·unfold encT
     rw [← h2, e2, List.length_append, List.length_map, hlen, Int.toNat_of_nonneg hn2.1]
     omega
   ·simp at h2
 bad := fun bs s h => by rw [gTx_bad h]; exact h
abbrev vT (x : Int × Int × List UInt8) : Val := ⟨x.1, x.2.1, x.2.2⟩
theorem validV_cases {k n : Int} {s : List UInt8} (h : validV ⟨k, n, s⟩ = true) : (k = 1 ∧ -1000 ≤ n ∧ n ≤ 1000 ∧ s = []) ∨ (k = 2 ∧ n = 0 ∧ s.length ≤ 40) := by
 simp only [validV, Bool.or_eq_true, Bool.and_eq_true, decide_eq_true_eq] at h
 rcases h with h | h
 ·exact .inl ⟨h.1.1.1, h.1.1.2, h.1.2, h.2⟩
 ·exact .inr ⟨h.1.1.1, h.1.1.2, by omega⟩
theorem drop_app {bs : List Nat} {pos : Nat} {a b : List Nat} (h : bs.drop pos = a ++ b) : bs.drop (pos + a.length) = b := by rw [← List.drop_drop, h, List.drop_left]
theorem gd_va : Gd gVa (fun x => encV (vT x)) (fun x => validV (vT x) = true) where
 fwd := fun bs pos x rest ok h => by
  obtain ⟨k, n, s⟩ := x
  show prt (0, 0, []) pos false (rVa bs pos) = _
  simp only [encV] at h ⊢
  rw [List.append_assoc] at h
  have e2 := drop_app h
  have hr : prt (0, 0, []) pos false (rVa bs pos) = rVa bs pos → rVa bs pos = ((k, n, s), pos + (enc k ++ if k = 1 then enc n else if k = 2 then encT s else []).length, false) → prt (0, 0, []) pos false (rVa bs pos) = ((k, n, s), pos + (enc k ++ if k = 1 then enc n else if k = 2 then encT s else []).length, false) := fun a b => a.trans b
  rcases validV_cases ok with ⟨rfl, h1, h2, rfl⟩ | ⟨rfl, rfl, h1⟩
  ·have hb := rBd_fwd (lo := 1) (hi := 2) (by decide) (by decide) (by decide) (by decide) h
   rw [if_pos rfl] at e2
   have hi := intP_enc h1 h2 e2
   have hv : rVa bs pos = ((1, n, []), pos + (enc 1 ++ if (1 : Int) = 1 then enc n else if (1 : Int) = 2 then encT [] else []).length, false) := by
    unfold rVa
    simp only [hb, cond_false, if_pos, hi, List.length_append, Nat.add_assoc]
   rw [hv]
   rfl
  ·have hb := rBd_fwd (lo := 1) (hi := 2) (by decide) (by decide) (by decide) (by decide) h
   rw [if_neg (by decide), if_pos rfl] at e2
   have hi := prt_inv ((gd_tx 40 (by decide)).fwd bs _ s rest h1 e2)
   simp only [Prod.mk.injEq] at hi
   have hv : rVa bs pos = ((2, 0, s), pos + (enc 2 ++ if (2 : Int) = 1 then enc 0 else if (2 : Int) = 2 then encT s else []).length, false) := by
    unfold rVa
    have e40 : ((40 : Nat) : Int) = 40 := rfl
    rw [e40] at hi
    simp only [hb, cond_false]
    rw [if_neg (by decide), hi.1, hi.2]
    simp only [List.length_append, Nat.add_assoc, if_neg (show ¬ (2 : Int) = 1 by decide), if_pos]
   rw [hv]
   rfl
 bwd := fun bs pos x p hbs h ok => by
  obtain ⟨k, n, s⟩ := x
  have h := prt_inv (h : prt (0, 0, []) pos false (rVa bs pos) = _)
  unfold rVa at h
  obtain ⟨q, hq⟩ : ∃ q, rBd bs 1 2 pos = q := ⟨_, rfl⟩
  obtain ⟨k', p', b'⟩ := q
  simp only [hq] at h
  cases b' with
  | true => simp at h
  | false =>
   simp only [cond_false] at h
   have kb : -1000 ≤ k' ∧ k' ≤ 1000 := by
    unfold rBd at hq
    simp only [Prod.mk.injEq, Bool.or_eq_false_iff, decide_eq_false_iff_not] at hq
    omega
   obtain ⟨⟨rest, e1, e2⟩, e3, e4⟩ := rBd_bwd hbs hq kb.1 kb.2
   have hd := drop_app e1
   rw [← e2] at hd
   split at h
   ·rename_i hk
    subst hk
    simp only [Prod.mk.injEq] at h
    obtain ⟨⟨rfl, h2, rfl⟩, h3⟩ := h
    have hr : rInt bs p' = (n, p, false) := by rw [← h2, ← h3]
    rcases validV_cases ok with ⟨_, v1, v2, _⟩ | ⟨v, _⟩
    ·obtain ⟨rest2, g1, g2⟩ := enc_intP hbs hr v1 v2
     refine ⟨rest2, ?_, ?_⟩
     ·rw [e1, ← hd, g1]; simp [encV]
     ·rw [g2, e2]; simp [encV]; omega
    ·cases v
   ·rename_i hk
    simp only [Prod.mk.injEq] at h
    obtain ⟨⟨rfl, rfl, h2⟩, h3⟩ := h
    rcases validV_cases ok with ⟨v, _⟩ | ⟨rfl, _, v1⟩
    ·exact absurd v hk
    ·have hr : gTx bs 40 (p', false) = (s, p, false) := by
      show prt [] p' false (txV (rBy bs (40 : Nat) p').1, (rBy bs (40 : Nat) p').2) = _
      rw [show ((40 : Nat) : Int) = 40 from rfl, h2, h3]
      rfl
     obtain ⟨rest2, g1, g2⟩ := (gd_tx 40 (by decide)).bwd bs p' s p hbs hr v1
     refine ⟨rest2, ?_, ?_⟩
     ·rw [e1, ← hd, g1]; simp [encV]
     ·rw [g2, e2]; simp [encV]; omega
 bad := fun bs s h => by rw [gVa_bad h]; exact h
theorem eta3 {α : Type} {r : α × S2} {a : α} {p : Nat} (h1 : r.1 = a) (h2 : r.2.1 = p) (h3 : r.2.2 = false) : r = (a, p, false) := by rw [← h1, ← h2, ← h3]
def sq {α β : Type} (f : List Nat → S2 → α × S2) (g : List Nat → S2 → β × S2) (bs : List Nat) (s : S2) : (α × β) × S2 := (((f bs s).1, (g bs (f bs s).2).1), (g bs (f bs s).2).2)
theorem Gd.sq {α β : Type} {f : List Nat → S2 → α × S2} {g : List Nat → S2 → β × S2} {e : α → List Nat} {e' : β → List Nat} {ok : α → Prop} {ok' : β → Prop} (hf : Gd f e ok) (hg : Gd g e' ok') : Gd (N.sq f g) (fun x => e x.1 ++ e' x.2) (fun x => ok x.1 ∧ ok' x.2) where
 fwd := fun bs pos x rest h1 h2 => by
  obtain ⟨a, b⟩ := x
  simp only at h1 h2 ⊢
  rw [List.append_assoc] at h2
  have e1 := hf.fwd bs pos a _ h1.1 h2
  have e2 := hg.fwd bs _ b rest h1.2 (drop_app h2)
  unfold N.sq
  rw [e1, e2, List.length_append, Nat.add_assoc]
 bwd := fun bs pos x p hbs h1 h2 => by
  obtain ⟨a, b⟩ := x
  unfold N.sq at h1
  simp only [Prod.mk.injEq] at h1 h2
  obtain ⟨⟨h3, h4⟩, h5⟩ := h1
  cases hb : (f bs (pos, false)).2.2 with
  | true =>
   have := hg.bad bs _ hb
   rw [h5] at this
   cases this
  | false =>
   obtain ⟨p', hp'⟩ : ∃ p', (f bs (pos, false)).2.1 = p' := ⟨_, rfl⟩
   have e1 : f bs (pos, false) = (a, p', false) := eta3 h3 hp' hb
   obtain ⟨r1, g1, g2⟩ := hf.bwd bs pos a p' hbs e1 h2.1
   rw [e1] at h4 h5
   obtain ⟨r2, g3, g4⟩ := hg.bwd bs p' b p hbs (by rw [← h4, ← h5]) h2.2
   refine ⟨r2, ?_, ?_⟩
   ·rw [List.append_assoc, ← g3, g1, g2, drop_app g1]
   ·rw [g4, g2, List.length_append, Nat.add_assoc]
 bad := fun bs s h => hg.bad bs _ (hf.bad bs s h)
theorem Gd.to {α β : Type} {f : List Nat → S2 → α × S2} {g : List Nat → S2 → β × S2} {e : α → List Nat} {e' : β → List Nat} {ok : α → Prop} {ok' : β → Prop} (hf : Gd f e ok) (φ : α → β) (ψ : β → α) (h1 : ∀ bs s, g bs s = (φ (f bs s).1, (f bs s).2)) (h2 : ∀ x, φ (ψ x) = x) (h2' : ∀ x, ψ (φ x) = x) (h3 : ∀ y, e' y = e (ψ y)) (h4 : ∀ y, ok' y → ok (ψ y)) : Gd g e' ok' where
 fwd := fun bs pos y rest k1 k2 => by
  rw [h3] at k2 ⊢
  rw [h1, hf.fwd bs pos (ψ y) rest (h4 y k1) k2]
  simp only [h2]
 bwd := fun bs pos y p hbs k1 k2 => by
  rw [h1] at k1
  simp only [Prod.mk.injEq] at k1
  rw [h3]
  refine hf.bwd bs pos (ψ y) p hbs ?_ (h4 y k2)
  rw [← k1.1, h2', ← k1.2]
 bad := fun bs s h => by rw [h1]; exact hf.bad bs s h
theorem many_gd {α : Type} {f : List Nat → S2 → α × S2} {e : α → List Nat} {ok : α → Prop} (hf : Gd f e ok) : ∀ n, Gd (fun bs => many (f bs) n) (fun l => l.flatMap e) (fun l => l.length = n ∧ ∀ x ∈ l, ok x)
 | 0 => {
  fwd := fun bs pos l rest h1 h2 => by
   have : l = [] := List.eq_nil_of_length_eq_zero h1.1
   subst this; rfl
  bwd := fun bs pos l p hbs h1 h2 => by
   have : l = [] := List.eq_nil_of_length_eq_zero h2.1
   subst this
   simp only [many, Prod.mk.injEq] at h1
   exact ⟨bs.drop pos, rfl, h1.2.1.symm⟩
  bad := fun bs s h => h }
 | n + 1 => {
  fwd := fun bs pos l rest h1 h2 => by
   obtain ⟨l', x, rfl⟩ : ∃ l' x, l = l' ++ [x] := ⟨l.dropLast, l.getLast (by intro e; subst e; simp at h1), (List.dropLast_concat_getLast _).symm⟩
   simp only [List.flatMap_append, List.flatMap_cons, List.flatMap_nil, List.append_nil, List.append_assoc] at h2
   have e1 := (many_gd hf n).fwd bs pos l' _ ⟨by simpa using h1.1, fun y hy => h1.2 y (by simp [hy])⟩ h2
   have e2 := hf.fwd bs _ x rest (h1.2 x (by simp)) (drop_app h2)
   show ((many (f bs) n (pos, false)).1 ++ [(f bs (many (f bs) n (pos, false)).2).1], (f bs (many (f bs) n (pos, false)).2).2) = _
   rw [e1, e2]
   simp [Nat.add_assoc]
  bwd := fun bs pos l p hbs h1 h2 => by
   obtain ⟨l', x, rfl⟩ : ∃ l' x, l = l' ++ [x] := ⟨l.dropLast, l.getLast (by intro e; subst e; simp at h2), (List.dropLast_concat_getLast _).symm⟩
   have h1 : ((many (f bs) n (pos, false)).1 ++ [(f bs (many (f bs) n (pos, false)).2).1], (f bs (many (f bs) n (pos, false)).2).2) = (l' ++ [x], p, false) := h1
   simp only [Prod.mk.injEq] at h1
   obtain ⟨h3, h4⟩ := h1
   have h5 := List.append_inj' h3 rfl
   simp only [List.cons.injEq, and_true] at h5
   cases hb : (many (f bs) n (pos, false)).2.2 with
   | true =>
    have := hf.bad bs _ hb
    rw [h4] at this
    cases this
   | false =>
    obtain ⟨p', hp'⟩ : ∃ p', (many (f bs) n (pos, false)).2.1 = p' := ⟨_, rfl⟩
    have e1 : many (f bs) n (pos, false) = (l', p', false) := eta3 h5.1 hp' hb
    obtain ⟨r1, g1, g2⟩ := (many_gd hf n).bwd bs pos l' p' hbs e1 ⟨by simpa using h2.1, fun y hy => h2.2 y (by simp [hy])⟩
    rw [e1] at h4 h5
    obtain ⟨r2, g3, g4⟩ := hf.bwd bs p' x p hbs (by rw [← h5.2, ← h4]) (h2.2 x (by simp))
    refine ⟨r2, ?_, ?_⟩
    ·simp only [List.flatMap_append, List.flatMap_cons, List.flatMap_nil, List.append_nil, List.append_assoc]
     rw [← g3, g1, g2, drop_app g1]
    ·rw [g4, g2]; simp [Nat.add_assoc]
  bad := fun bs s h => hf.bad bs _ ((many_gd hf n).bad bs s h) }
theorem gList_gd {α : Type} {f : List Nat → S2 → α × S2} {e : α → List Nat} {ok : α → Prop} (hf : Gd f e ok) (hi : Nat) (hm : hi ≤ 1000) : Gd (fun bs => gList bs (f bs) hi) (fun l => enc (l.length : Int) ++ l.flatMap e) (fun l => l.length ≤ hi ∧ ∀ x ∈ l, ok x) where
 fwd := fun bs pos l rest h1 h2 => by
  rw [List.append_assoc] at h2
  have hb : gBd bs hi (pos, false) = ((l.length : Int), pos + (enc (l.length : Int)).length, false) := by
   show prt 0 pos false (rBd bs 0 hi pos) = _
   rw [rBd_fwd (by omega) (by omega) (by omega) (by omega) h2]
   rfl
  unfold gList
  rw [hb]
  simp only [Int.toNat_natCast]
  rw [(many_gd hf l.length).fwd bs _ l rest ⟨rfl, h1.2⟩ (drop_app h2), List.length_append, Nat.add_assoc]
 bwd := fun bs pos l p hbs h1 h2 => by
  have h1 : many (f bs) (gBd bs hi (pos, false)).1.toNat (gBd bs hi (pos, false)).2 = (l, p, false) := h1
  obtain ⟨q, hq⟩ : ∃ q, gBd bs hi (pos, false) = q := ⟨_, rfl⟩
  obtain ⟨n, p', b'⟩ := q
  rw [hq] at h1
  simp only at h1
  cases b' with
  | true =>
   have := (many_gd hf n.toNat).bad bs (p', true) rfl
   rw [h1] at this
   cases this
  | false =>
   have hr := prt_inv (hq : prt 0 pos false (rBd bs 0 hi pos) = _)
   have kb : 0 ≤ n ∧ n ≤ hi := by
    unfold rBd at hr
    simp only [Prod.mk.injEq, Bool.or_eq_false_iff, decide_eq_false_iff_not] at hr
    omega
   obtain ⟨⟨r1, e1, e2⟩, _, _⟩ := rBd_bwd hbs hr (by omega) (by omega)
   have hl : l.length = n.toNat := by
    have := many_len (f bs) (p', false) n.toNat
    rw [h1] at this
    exact this
   obtain ⟨r2, g1, g2⟩ := (many_gd hf n.toNat).bwd bs p' l p hbs h1 ⟨hl, h2.2⟩
   have hn : (l.length : Int) = n := by omega
   refine ⟨r2, ?_, ?_⟩
   ·rw [hn, List.append_assoc, ← g1, e1, e2, drop_app e1]
   ·rw [hn, g2, e2, List.length_append, Nat.add_assoc]
 bad := fun bs s h => by
  show (many (f bs) (gBd bs hi s).1.toNat (gBd bs hi s).2).2.2 = true
  exact (many_gd hf _).bad bs _ (by rw [gBd_bad h]; exact h)
abbrev nb (n : Int) : Prop := -1000 ≤ n ∧ n ≤ 1000
theorem gd_i2 : Gd gI2 (fun x => enc x.1 ++ enc x.2) (fun x => nb x.1 ∧ nb x.2) := (gd_int.sq gd_int).to id id (fun _ _ => rfl) (fun _ => rfl) (fun _ => rfl) (fun _ => rfl) (fun _ h => h)
theorem gd_i3 : Gd gI3 (fun x => enc x.1 ++ (enc x.2.1 ++ enc x.2.2)) (fun x => nb x.1 ∧ nb x.2.1 ∧ nb x.2.2) := (gd_int.sq gd_i2).to id id (fun _ _ => rfl) (fun _ => rfl) (fun _ => rfl) (fun _ => rfl) (fun _ h => h)
theorem gd_i4 : Gd gI4 (fun x => enc x.1 ++ (enc x.2.1 ++ (enc x.2.2.1 ++ enc x.2.2.2))) (fun x => nb x.1 ∧ nb x.2.1 ∧ nb x.2.2.1 ∧ nb x.2.2.2) := (gd_int.sq gd_i3).to id id (fun _ _ => rfl) (fun _ => rfl) (fun _ => rfl) (fun _ => rfl) (fun _ h => h)
theorem gd_var : Gd gVar encVar (fun v => v.name.length ≤ 16 ∧ (nb v.sort.k ∧ nb v.sort.lo ∧ nb v.sort.hi) ∧ validV v.init = true) :=
 ((gd_tx 16 (by decide)).sq (gd_i3.sq gd_va)).to (fun x => (⟨x.1, ⟨x.2.1.1, x.2.1.2.1, x.2.1.2.2⟩, ⟨x.2.2.1, x.2.2.2.1, x.2.2.2.2⟩⟩ : Var_)) (fun v => (v.name, (v.sort.k, v.sort.lo, v.sort.hi), (v.init.k, v.init.n, v.init.s))) (fun _ _ => rfl) (fun _ => rfl) (fun _ => rfl)
  (fun v => by simp only [encVar, List.flatMap_cons, List.flatMap_nil, List.append_nil, List.append_assoc, vT]) (fun _ h => h)
theorem gd_hd : Gd gHd encH (fun v => nb v.peer ∧ nb v.label ∧ nb v.entry) :=
 gd_i3.to (fun x => (⟨x.1, x.2.1, x.2.2⟩ : Hd)) (fun v => (v.peer, v.label, v.entry)) (fun _ _ => rfl) (fun _ => rfl) (fun _ => rfl) (fun v => by simp only [encH, List.flatMap_cons, List.flatMap_nil, List.append_nil]) (fun _ h => h)
theorem gd_of : Gd gOf encO (fun v => nb v.peer ∧ nb v.label ∧ nb v.cond ∧ nb v.args) :=
 gd_i4.to (fun x => (⟨x.1, x.2.1, x.2.2.1, x.2.2.2⟩ : Of_)) (fun v => (v.peer, v.label, v.cond, v.args)) (fun _ _ => rfl) (fun _ => rfl) (fun _ => rfl) (fun v => by simp only [encO, List.flatMap_cons, List.flatMap_nil, List.append_nil]) (fun _ h => h)
theorem gd_ins : Gd gIns encI (fun x => (nb x.op ∧ nb x.n) ∧ x.s.length ≤ 40) :=
 (gd_i2.sq (gd_tx 40 (by decide))).to (fun x => (⟨x.1.1, x.1.2, x.2⟩ : Ins_)) (fun v => ((v.op, v.n), v.s)) (fun _ _ => rfl) (fun _ => rfl) (fun _ => rfl) (fun v => by simp only [encI, List.flatMap_cons, List.flatMap_nil, List.append_nil, List.append_assoc]) (fun _ h => h)
def okP (p : Prog) : Prop := p.name.length ≤ 16 ∧ nb p.role ∧ (p.vars.length ≤ 12 ∧ ∀ v ∈ p.vars, v.name.length ≤ 16 ∧ (nb v.sort.k ∧ nb v.sort.lo ∧ nb v.sort.hi) ∧ validV v.init = true) ∧ (p.hs.length ≤ 40 ∧ ∀ v ∈ p.hs, nb v.peer ∧ nb v.label ∧ nb v.entry) ∧ (p.os.length ≤ 40 ∧ ∀ v ∈ p.os, nb v.peer ∧ nb v.label ∧ nb v.cond ∧ nb v.args) ∧ (p.code.length ≤ 1000 ∧ ∀ x ∈ p.code, (nb x.op ∧ nb x.n) ∧ x.s.length ≤ 40)
theorem gd_prog : Gd gProg encP okP :=
 ((gd_tx 16 (by decide)).sq (gd_int.sq ((gList_gd gd_var 12 (by decide)).sq ((gList_gd gd_hd 40 (by decide)).sq ((gList_gd gd_of 40 (by decide)).sq (gList_gd gd_ins 1000 (by decide))))))).to
  (fun x => (⟨x.1, x.2.1, x.2.2.1, x.2.2.2.1, x.2.2.2.2.1, x.2.2.2.2.2⟩ : Prog)) (fun p => (p.name, p.role, p.vars, p.hs, p.os, p.code)) (fun _ _ => rfl) (fun _ => rfl) (fun _ => rfl)
  (fun p => by simp only [encP, encHd, List.flatMap_cons, List.flatMap_nil, List.append_nil, List.append_assoc]) (fun _ h => h)
theorem okP_of {p : Prog} (h : validP p = true) : okP p := by
 have vp := VP.of h
 refine ⟨vp.name, ⟨by have := vp.role; omega, by have := vp.role; omega⟩, ⟨vp.nv, fun v hv => ?_⟩, ⟨vp.nh, fun v hv => ?_⟩, ⟨vp.no, fun v hv => ?_⟩, ⟨vp.code0.2, fun x hx => ?_⟩⟩
 ·have := vp.vars v hv
  refine ⟨this.1, ⟨?_, ?_, ?_⟩, this.2.2.2.2.2.2.2⟩ <;> constructor <;> omega
 ·have := vp.hs v hv
  refine ⟨?_, ?_, ?_⟩ <;> constructor <;> omega
 ·have := vp.os v hv
  refine ⟨?_, ?_, ?_, ?_⟩ <;> constructor <;> omega
 ·have := formed_facts (vp.code x hx)
  exact ⟨⟨this.1, this.2.1⟩, this.2.2⟩
theorem dec_enc {p : Prog} (h : validP p = true) : decP (encP p) = (p, 0) := by
 have := gd_prog.fwd (encP p) 0 p [] (okP_of h) (by simp)
 unfold decP
 rw [this]
 simp [h]
theorem dec_back {bs : List Nat} (hbs : ∀ b ∈ bs, b < 256) (h : (decP bs).2 = 0) : validP (decP bs).1 = true ∧ encP (decP bs).1 = bs := by
 unfold decP at h ⊢
 obtain ⟨g, hg⟩ : ∃ g, gProg bs (0, false) = g := ⟨_, rfl⟩
 obtain ⟨p, q, b⟩ := g
 simp only [hg] at h ⊢
 split at h
 ·cases h
 ·rename_i hx
  rw [if_neg hx]
  simp only [not_or, Bool.not_eq_true, Bool.not_eq_false] at hx
  obtain ⟨h1, h2, h3⟩ := hx
  subst h1
  obtain ⟨rest, e1, e2⟩ := gd_prog.bwd bs 0 p q hbs hg (okP_of h3)
  refine ⟨h3, ?_⟩
  rw [List.drop_zero] at e1
  have : rest = [] := by
   have := congrArg List.length e1
   rw [List.length_append] at this
   exact List.eq_nil_of_length_eq_zero (by omega)
  rw [e1, this, List.append_nil]
theorem dec_err (bs : List Nat) : (decP bs).2 = 0 ∨ (decP bs).2 = 4 := by
 unfold decP
 simp only
 split
 ·exact .inr rfl
 ·exact .inl rfl
end Go.Aw.T.N
namespace Go.Aw.T.N
open Go Go.Aw Go.Proofs Go.RowKit
set_option maxRecDepth 100000
attribute [local irreducible] Go.Aw.J Go.Aw.DJ Go.Aw.FC
attribute [local go_sem] wrap64 wrapu64 wrapu8 nnif decide_true decide_false dst gst gv_b gv_u jst jpop bdL bdB bdT bdO AV.bd tfL AV.tf o_mv o_pick o_nilck o_build o_load o_loadD o_faddr o_field o_iaddr o_iaddrA o_idxA o_idxS o_bin o_binB o_eqA o_not o_pnil o_neg o_conv o_lenS o_len o_lenA o_minmax o_slS o_slV o_extract o_mkfn o_mkfnB o_convS o_convBS o_mkif o_isnil o_bslice o_box o_alloc o_store o_storeD o_bsliceO o_bsliceM cpv cev_t cev_c Env.get put_some' put_none' of_setB of_addB of_setT of_addT of_upd of_blk of_tok of_nb of_nt of_new rmB rmT rmBs rmTs renB renT apB apT lkB lkT getD_0 getD_s renL AV.ren crange_if cstB_if one_nilS one_pnil oc_nil oc_pnil cbin binInt shInt binStr binBool cbuild_nil cbuild_cons cidx_if AV.cells AV.okc AV.flat flatL flatR setRange minmaxAV AV.one AV.ofCells eqCells eqCell slRows initEnv initFrom cres cresv cresL cond_true cond_false beq_self_eq_true Bool.not_true Bool.not_false beq_true beq_false eq_self if_true Option.some.injEq List.length_cons List.length_nil List.take_succ_cons List.take_zero List.drop_succ_cons List.drop_zero List.set_cons_succ List.set_cons_zero List.nil_append List.cons_append List.append_nil and_self Option.map_some Option.map_none List.map_cons List.map_nil Bool.false_eq_true if_false Nat.zero_add Nat.add_zero true_and and_true Bool.and_true Bool.true_and List.getElem?_cons_zero List.getElem?_cons_succ Nat.zero_le Nat.le_refl List.all_cons List.all_nil List.flatten_cons List.flatten_nil crows crowsOk List.filter_cons List.filter_nil List.contains_cons List.contains_nil Bool.or_false Bool.or_true Bool.false_or Bool.true_or
set_option linter.unusedSimpArgs false
set_option linter.unusedVariables false
attribute [local go_sem] fl_var fl_hd fl_of fl_ins
theorem take_snoc {α β : Type} (f : α → β) {l : List α} {i : Nat} {v : α} (h : l[i]? = some v) : (l.take (i + 1)).map f = (l.take i).map f ++ [f v] := by
 rw [List.take_add_one, h]; simp
theorem q24 (p : Prog) (h1 : p.vars.length ≤ 100000) (h2 : p.hs.length ≤ 100000) (h3 : p.os.length ≤ 100000) (h4 : p.code.length ≤ 100000) : Pure Tryz.prog 24 [p.av] p.av := by
 refine pure_of mo Tryz.func24 c24 (by simp only [flatL, AV.flat, fl_var, fl_hd, fl_of, fl_ins, Bool.and_self]) (by simp only [AV.flat, flatL, fl_var, fl_hd, fl_of, fl_ins, Bool.and_self]) ?_
 unfold e24 r24
 simp(disch:=omega)only[go_sem,simprocAttr]
 refine J.seq ?_
 (repeat' first|refine D.S ?_|refine DJ.nil ?_|refine D.W ?_|refine D.Z ?_|refine D.G ?_ ?_|refine D.X ‹_› ?_|refine D.XO ‹_› ?_|refine D.XS ‹_› ?_|intro h)
 refine J.reg0 ?_
 (repeat' first|refine D.S ?_|refine DJ.nil ?_|refine D.W ?_|refine D.Z ?_|refine D.G ?_ ?_|refine D.X ‹_› ?_|refine D.XO ‹_› ?_|refine D.XS ‹_› ?_|intro h)
 refine J.seq ?_
 refine J.reg0 ?_
 (repeat' first|refine D.S ?_|refine DJ.nil ?_|refine D.W ?_|refine D.Z ?_|refine D.G ?_ ?_|refine D.X ‹_› ?_|refine D.XO ‹_› ?_|refine D.XS ‹_› ?_|intro h)
 refine J.ghB 2 2 7 68 rfl rfl (by decide) ?_
 simp(disch:=omega)only[go_sem,simprocAttr]
 refine J.ghB 2 3 3 76 rfl rfl (by decide) ?_
 simp(disch:=omega)only[go_sem,simprocAttr]
 refine J.ghB 2 4 4 79 rfl rfl (by decide) ?_
 simp(disch:=omega)only[go_sem,simprocAttr]
 refine J.ghB 2 5 3 41 rfl rfl (by decide) ?_
 simp(disch:=omega)only[go_sem,simprocAttr]
 (repeat' first|refine D.S ?_|refine D.JJ true true ?_|refine DJ.nil ?_|refine J.reg0 ?_|refine D.W ?_|refine D.Z ?_|refine D.G ?_ ?_|refine D.X ‹_› ?_|refine D.XO ‹_› ?_|refine D.XS ‹_› ?_|intro h)
 refine J.loopX (X := Nat) 0 (fun i => [(1, .ptr 0 0), (2, .ptr 1 0), (3, .ptr 2 0), (4, .int .i64 (i : Int))]) (fun i => [(0, 36, p.cells), (1, 27, z6), (2, 27, [.str p.name, .int .i64 p.role, .own 0 7 ((p.vars.take i).map Var_.row), .own 1 3 (([] : List Hd).map Hd.row), .own 2 4 (([] : List Of_).map Of_.row), .own 3 3 (([] : List Ins_).map Ins_.row)])]) (fun i => [(0, .frz 68 7 ((p.vars.take i).map Var_.row).length), (1, .frz 76 3 (([] : List Hd).map Hd.row).length), (2, .frz 79 4 (([] : List Of_).map Of_.row).length), (3, .frz 41 3 (([] : List Ins_).map Ins_.row).length)]) (fun i => i ≤ p.vars.length) (fun i => p.vars.length - i) (Nat.zero_le _) ⟨rfl, rfl, rfl, rfl, trivial⟩ ⟨rfl, rfl, rfl, trivial⟩ ⟨rfl, rfl, rfl, rfl, trivial⟩ ?_
 intro i hi
 try simp only
 have hlen : (p.vars.take i).length = i := by simp; omega
 cases hv : p.vars[i]? with
 | some v =>
  have hlt := (List.getElem?_eq_some_iff.1 hv).1
  have d1 : (i : Int) < ((p.vars.map Var_.row).length : Int) := by rw [List.length_map]; omega
  (repeat' first|(apply DJ.s rfl;(· simp(disch:=omega)only[go_sem,simprocAttr,d1]<;>with_reducible rfl))|(apply J.s true true;(· simp(disch:=omega)only[go_sem,simprocAttr,d1]<;>with_reducible rfl))|apply DJ.nil|(refine J.reg0 ?_)|(apply DJ.gw;(· simp(disch:=omega)only[go_sem,simprocAttr,d1]<;>with_reducible rfl))|(apply DJ.gz;(· rfl);(· simp(disch:=omega)only[go_sem,simprocAttr,d1]<;>with_reducible rfl))|(apply DJ.gs;(· simp(disch:=omega)only[go_sem,simprocAttr,d1]<;>with_reducible rfl))|((first|apply DJ.ixm|apply DJ.ixom|apply DJ.ixsm);(· simp(disch:=omega)only[go_sem,simprocAttr,d1]<;>with_reducible rfl);(· simp(disch:=omega)only[go_sem,simprocAttr,d1]<;>with_reducible rfl);(· assumption);(· omega))|intro h)
  (apply DJ.ap';(· simp(disch:=omega)only[go_sem,simprocAttr]<;>with_reducible rfl);(· simp(disch:=omega)only[go_sem,simprocAttr]<;>with_reducible rfl);(· simp only [rowsOf] <;> simp(disch:=omega)only[go_sem,simprocAttr] <;> with_reducible rfl);(· first|omega|(simp only [List.length_map,List.length_drop,List.length_take,List.length_append,List.length_nil,List.length_cons,maxLen] <;> omega));(· first|omega|(simp only [List.length_map,List.length_drop,List.length_take,List.length_append,List.length_nil,List.length_cons,maxLen] <;> omega)))
  (repeat' first|refine D.S ?_|refine D.JJ true true ?_|refine DJ.nil ?_|refine J.reg0 ?_|refine D.W ?_|refine D.Z ?_|refine D.G ?_ ?_|refine D.X ‹_› ?_|refine D.XO ‹_› ?_|refine D.XS ‹_› ?_|intro h)
  refine J.roundX (i + 1) (by omega) ⟨rfl, rfl, rfl, rfl, trivial⟩ (by refine ⟨rfl, rfl, ?_, trivial⟩; simp only [take_snoc _ hv]; rfl) (by refine ⟨?_, rfl, rfl, rfl, trivial⟩; simp only [take_snoc _ hv, List.length_append]; rfl) rfl rfl (by show p.vars.length - (i + 1) < p.vars.length - i; omega)
 | none =>
 have hge := List.getElem?_eq_none_iff.1 hv
 have e : i = p.vars.length := by omega
 subst e
 have d1 : ¬ (p.vars.length : Int) < ((p.vars.map Var_.row).length : Int) := by rw [List.length_map]; omega
 simp only [List.take_length]
 clear hi hlen hv hge
 (repeat' first|(apply DJ.s rfl;(· simp(disch:=omega)only[go_sem,simprocAttr,d1]<;>with_reducible rfl))|(apply J.s true true;(· simp(disch:=omega)only[go_sem,simprocAttr,d1]<;>with_reducible rfl))|apply DJ.nil|(refine J.reg0 ?_)|(apply DJ.gw;(· simp(disch:=omega)only[go_sem,simprocAttr,d1]<;>with_reducible rfl))|(apply DJ.gz;(· rfl);(· simp(disch:=omega)only[go_sem,simprocAttr,d1]<;>with_reducible rfl))|(apply DJ.gs;(· simp(disch:=omega)only[go_sem,simprocAttr,d1]<;>with_reducible rfl))|((first|apply DJ.ixm|apply DJ.ixom|apply DJ.ixsm);(· simp(disch:=omega)only[go_sem,simprocAttr,d1]<;>with_reducible rfl);(· simp(disch:=omega)only[go_sem,simprocAttr,d1]<;>with_reducible rfl);(· assumption);(· omega))|intro h)
 (repeat' first|refine D.S ?_|refine D.JJ true true ?_|refine DJ.nil ?_|refine J.reg0 ?_|refine D.W ?_|refine D.Z ?_|refine D.G ?_ ?_|refine D.X ‹_› ?_|refine D.XO ‹_› ?_|refine D.XS ‹_› ?_|intro h)
 refine J.loopX (X := Nat) 0 (fun i => [(1, .ptr 0 0), (2, .ptr 1 0), (3, .ptr 2 0), (5, .int .i64 (i : Int))]) (fun i => [(0, 36, p.cells), (1, 27, z6), (2, 27, [.str p.name, .int .i64 p.role, .own 0 7 (p.vars.map Var_.row), .own 1 3 ((p.hs.take i).map Hd.row), .own 2 4 (([] : List Of_).map Of_.row), .own 3 3 (([] : List Ins_).map Ins_.row)])]) (fun i => [(0, .frz 68 7 (p.vars.map Var_.row).length), (1, .frz 76 3 ((p.hs.take i).map Hd.row).length), (2, .frz 79 4 (([] : List Of_).map Of_.row).length), (3, .frz 41 3 (([] : List Ins_).map Ins_.row).length)]) (fun i => i ≤ p.hs.length) (fun i => p.hs.length - i) (Nat.zero_le _) ⟨rfl, rfl, rfl, rfl, trivial⟩ ⟨rfl, rfl, rfl, trivial⟩ ⟨rfl, rfl, rfl, rfl, trivial⟩ ?_
 intro i hi
 try simp only
 have hlen : (p.hs.take i).length = i := by simp; omega
 cases hv : p.hs[i]? with
 | some v =>
  have hlt := (List.getElem?_eq_some_iff.1 hv).1
  have d1 : (i : Int) < ((p.hs.map Hd.row).length : Int) := by rw [List.length_map]; omega
  (repeat' first|(apply DJ.s rfl;(· simp(disch:=omega)only[go_sem,simprocAttr,d1]<;>with_reducible rfl))|(apply J.s true true;(· simp(disch:=omega)only[go_sem,simprocAttr,d1]<;>with_reducible rfl))|apply DJ.nil|(refine J.reg0 ?_)|(apply DJ.gw;(· simp(disch:=omega)only[go_sem,simprocAttr,d1]<;>with_reducible rfl))|(apply DJ.gz;(· rfl);(· simp(disch:=omega)only[go_sem,simprocAttr,d1]<;>with_reducible rfl))|(apply DJ.gs;(· simp(disch:=omega)only[go_sem,simprocAttr,d1]<;>with_reducible rfl))|((first|apply DJ.ixm|apply DJ.ixom|apply DJ.ixsm);(· simp(disch:=omega)only[go_sem,simprocAttr,d1]<;>with_reducible rfl);(· simp(disch:=omega)only[go_sem,simprocAttr,d1]<;>with_reducible rfl);(· assumption);(· omega))|intro h)
  (apply DJ.ap';(· simp(disch:=omega)only[go_sem,simprocAttr]<;>with_reducible rfl);(· simp(disch:=omega)only[go_sem,simprocAttr]<;>with_reducible rfl);(· simp only [rowsOf] <;> simp(disch:=omega)only[go_sem,simprocAttr] <;> with_reducible rfl);(· first|omega|(simp only [List.length_map,List.length_drop,List.length_take,List.length_append,List.length_nil,List.length_cons,maxLen] <;> omega));(· first|omega|(simp only [List.length_map,List.length_drop,List.length_take,List.length_append,List.length_nil,List.length_cons,maxLen] <;> omega)))
  (repeat' first|refine D.S ?_|refine D.JJ true true ?_|refine DJ.nil ?_|refine J.reg0 ?_|refine D.W ?_|refine D.Z ?_|refine D.G ?_ ?_|refine D.X ‹_› ?_|refine D.XO ‹_› ?_|refine D.XS ‹_› ?_|intro h)
  refine J.roundX (i + 1) (by omega) ⟨rfl, rfl, rfl, rfl, trivial⟩ (by refine ⟨rfl, rfl, ?_, trivial⟩; simp only [take_snoc _ hv]; rfl) (by refine ⟨rfl, ?_, rfl, rfl, trivial⟩; simp only [take_snoc _ hv, List.length_append]; rfl) rfl rfl (by show p.hs.length - (i + 1) < p.hs.length - i; omega)
 | none =>
 have hge := List.getElem?_eq_none_iff.1 hv
 have e : i = p.hs.length := by omega
 subst e
 have d1 : ¬ (p.hs.length : Int) < ((p.hs.map Hd.row).length : Int) := by rw [List.length_map]; omega
 simp only [List.take_length]
 clear hi hlen hv hge
 (repeat' first|(apply DJ.s rfl;(· simp(disch:=omega)only[go_sem,simprocAttr,d1]<;>with_reducible rfl))|(apply J.s true true;(· simp(disch:=omega)only[go_sem,simprocAttr,d1]<;>with_reducible rfl))|apply DJ.nil|(refine J.reg0 ?_)|(apply DJ.gw;(· simp(disch:=omega)only[go_sem,simprocAttr,d1]<;>with_reducible rfl))|(apply DJ.gz;(· rfl);(· simp(disch:=omega)only[go_sem,simprocAttr,d1]<;>with_reducible rfl))|(apply DJ.gs;(· simp(disch:=omega)only[go_sem,simprocAttr,d1]<;>with_reducible rfl))|((first|apply DJ.ixm|apply DJ.ixom|apply DJ.ixsm);(· simp(disch:=omega)only[go_sem,simprocAttr,d1]<;>with_reducible rfl);(· simp(disch:=omega)only[go_sem,simprocAttr,d1]<;>with_reducible rfl);(· assumption);(· omega))|intro h)
 (repeat' first|refine D.S ?_|refine D.JJ true true ?_|refine DJ.nil ?_|refine J.reg0 ?_|refine D.W ?_|refine D.Z ?_|refine D.G ?_ ?_|refine D.X ‹_› ?_|refine D.XO ‹_› ?_|refine D.XS ‹_› ?_|intro h)
 refine J.loopX (X := Nat) 0 (fun i => [(1, .ptr 0 0), (2, .ptr 1 0), (3, .ptr 2 0), (6, .int .i64 (i : Int))]) (fun i => [(0, 36, p.cells), (1, 27, z6), (2, 27, [.str p.name, .int .i64 p.role, .own 0 7 (p.vars.map Var_.row), .own 1 3 (p.hs.map Hd.row), .own 2 4 ((p.os.take i).map Of_.row), .own 3 3 (([] : List Ins_).map Ins_.row)])]) (fun i => [(0, .frz 68 7 (p.vars.map Var_.row).length), (1, .frz 76 3 (p.hs.map Hd.row).length), (2, .frz 79 4 ((p.os.take i).map Of_.row).length), (3, .frz 41 3 (([] : List Ins_).map Ins_.row).length)]) (fun i => i ≤ p.os.length) (fun i => p.os.length - i) (Nat.zero_le _) ⟨rfl, rfl, rfl, rfl, trivial⟩ ⟨rfl, rfl, rfl, trivial⟩ ⟨rfl, rfl, rfl, rfl, trivial⟩ ?_
 intro i hi
 try simp only
 have hlen : (p.os.take i).length = i := by simp; omega
 cases hv : p.os[i]? with
 | some v =>
  have hlt := (List.getElem?_eq_some_iff.1 hv).1
  have d1 : (i : Int) < ((p.os.map Of_.row).length : Int) := by rw [List.length_map]; omega
  (repeat' first|(apply DJ.s rfl;(· simp(disch:=omega)only[go_sem,simprocAttr,d1]<;>with_reducible rfl))|(apply J.s true true;(· simp(disch:=omega)only[go_sem,simprocAttr,d1]<;>with_reducible rfl))|apply DJ.nil|(refine J.reg0 ?_)|(apply DJ.gw;(· simp(disch:=omega)only[go_sem,simprocAttr,d1]<;>with_reducible rfl))|(apply DJ.gz;(· rfl);(· simp(disch:=omega)only[go_sem,simprocAttr,d1]<;>with_reducible rfl))|(apply DJ.gs;(· simp(disch:=omega)only[go_sem,simprocAttr,d1]<;>with_reducible rfl))|((first|apply DJ.ixm|apply DJ.ixom|apply DJ.ixsm);(· simp(disch:=omega)only[go_sem,simprocAttr,d1]<;>with_reducible rfl);(· simp(disch:=omega)only[go_sem,simprocAttr,d1]<;>with_reducible rfl);(· assumption);(· omega))|intro h)
  (apply DJ.ap';(· simp(disch:=omega)only[go_sem,simprocAttr]<;>with_reducible rfl);(· simp(disch:=omega)only[go_sem,simprocAttr]<;>with_reducible rfl);(· simp only [rowsOf] <;> simp(disch:=omega)only[go_sem,simprocAttr] <;> with_reducible rfl);(· first|omega|(simp only [List.length_map,List.length_drop,List.length_take,List.length_append,List.length_nil,List.length_cons,maxLen] <;> omega));(· first|omega|(simp only [List.length_map,List.length_drop,List.length_take,List.length_append,List.length_nil,List.length_cons,maxLen] <;> omega)))
  (repeat' first|refine D.S ?_|refine D.JJ true true ?_|refine DJ.nil ?_|refine J.reg0 ?_|refine D.W ?_|refine D.Z ?_|refine D.G ?_ ?_|refine D.X ‹_› ?_|refine D.XO ‹_› ?_|refine D.XS ‹_› ?_|intro h)
  refine J.roundX (i + 1) (by omega) ⟨rfl, rfl, rfl, rfl, trivial⟩ (by refine ⟨rfl, rfl, ?_, trivial⟩; simp only [take_snoc _ hv]; rfl) (by refine ⟨rfl, rfl, ?_, rfl, trivial⟩; simp only [take_snoc _ hv, List.length_append]; rfl) rfl rfl (by show p.os.length - (i + 1) < p.os.length - i; omega)
 | none =>
 have hge := List.getElem?_eq_none_iff.1 hv
 have e : i = p.os.length := by omega
 subst e
 have d1 : ¬ (p.os.length : Int) < ((p.os.map Of_.row).length : Int) := by rw [List.length_map]; omega
 simp only [List.take_length]
 clear hi hlen hv hge
 (repeat' first|(apply DJ.s rfl;(· simp(disch:=omega)only[go_sem,simprocAttr,d1]<;>with_reducible rfl))|(apply J.s true true;(· simp(disch:=omega)only[go_sem,simprocAttr,d1]<;>with_reducible rfl))|apply DJ.nil|(refine J.reg0 ?_)|(apply DJ.gw;(· simp(disch:=omega)only[go_sem,simprocAttr,d1]<;>with_reducible rfl))|(apply DJ.gz;(· rfl);(· simp(disch:=omega)only[go_sem,simprocAttr,d1]<;>with_reducible rfl))|(apply DJ.gs;(· simp(disch:=omega)only[go_sem,simprocAttr,d1]<;>with_reducible rfl))|((first|apply DJ.ixm|apply DJ.ixom|apply DJ.ixsm);(· simp(disch:=omega)only[go_sem,simprocAttr,d1]<;>with_reducible rfl);(· simp(disch:=omega)only[go_sem,simprocAttr,d1]<;>with_reducible rfl);(· assumption);(· omega))|intro h)
 (repeat' first|refine D.S ?_|refine D.JJ true true ?_|refine DJ.nil ?_|refine J.reg0 ?_|refine D.W ?_|refine D.Z ?_|refine D.G ?_ ?_|refine D.X ‹_› ?_|refine D.XO ‹_› ?_|refine D.XS ‹_› ?_|intro h)
 refine J.loopX (X := Nat) 0 (fun i => [(1, .ptr 0 0), (2, .ptr 1 0), (3, .ptr 2 0), (7, .int .i64 (i : Int))]) (fun i => [(0, 36, p.cells), (1, 27, z6), (2, 27, [.str p.name, .int .i64 p.role, .own 0 7 (p.vars.map Var_.row), .own 1 3 (p.hs.map Hd.row), .own 2 4 (p.os.map Of_.row), .own 3 3 ((p.code.take i).map Ins_.row)])]) (fun i => [(0, .frz 68 7 (p.vars.map Var_.row).length), (1, .frz 76 3 (p.hs.map Hd.row).length), (2, .frz 79 4 (p.os.map Of_.row).length), (3, .frz 41 3 ((p.code.take i).map Ins_.row).length)]) (fun i => i ≤ p.code.length) (fun i => p.code.length - i) (Nat.zero_le _) ⟨rfl, rfl, rfl, rfl, trivial⟩ ⟨rfl, rfl, rfl, trivial⟩ ⟨rfl, rfl, rfl, rfl, trivial⟩ ?_
 intro i hi
 try simp only
 have hlen : (p.code.take i).length = i := by simp; omega
 cases hv : p.code[i]? with
 | some v =>
  have hlt := (List.getElem?_eq_some_iff.1 hv).1
  have d1 : (i : Int) < ((p.code.map Ins_.row).length : Int) := by rw [List.length_map]; omega
  (repeat' first|(apply DJ.s rfl;(· simp(disch:=omega)only[go_sem,simprocAttr,d1]<;>with_reducible rfl))|(apply J.s true true;(· simp(disch:=omega)only[go_sem,simprocAttr,d1]<;>with_reducible rfl))|apply DJ.nil|(refine J.reg0 ?_)|(apply DJ.gw;(· simp(disch:=omega)only[go_sem,simprocAttr,d1]<;>with_reducible rfl))|(apply DJ.gz;(· rfl);(· simp(disch:=omega)only[go_sem,simprocAttr,d1]<;>with_reducible rfl))|(apply DJ.gs;(· simp(disch:=omega)only[go_sem,simprocAttr,d1]<;>with_reducible rfl))|((first|apply DJ.ixm|apply DJ.ixom|apply DJ.ixsm);(· simp(disch:=omega)only[go_sem,simprocAttr,d1]<;>with_reducible rfl);(· simp(disch:=omega)only[go_sem,simprocAttr,d1]<;>with_reducible rfl);(· assumption);(· omega))|intro h)
  (apply DJ.ap';(· simp(disch:=omega)only[go_sem,simprocAttr]<;>with_reducible rfl);(· simp(disch:=omega)only[go_sem,simprocAttr]<;>with_reducible rfl);(· simp only [rowsOf] <;> simp(disch:=omega)only[go_sem,simprocAttr] <;> with_reducible rfl);(· first|omega|(simp only [List.length_map,List.length_drop,List.length_take,List.length_append,List.length_nil,List.length_cons,maxLen] <;> omega));(· first|omega|(simp only [List.length_map,List.length_drop,List.length_take,List.length_append,List.length_nil,List.length_cons,maxLen] <;> omega)))
  (repeat' first|refine D.S ?_|refine D.JJ true true ?_|refine DJ.nil ?_|refine J.reg0 ?_|refine D.W ?_|refine D.Z ?_|refine D.G ?_ ?_|refine D.X ‹_› ?_|refine D.XO ‹_› ?_|refine D.XS ‹_› ?_|intro h)
  refine J.roundX (i + 1) (by omega) ⟨rfl, rfl, rfl, rfl, trivial⟩ (by refine ⟨rfl, rfl, ?_, trivial⟩; simp only [take_snoc _ hv]; rfl) (by refine ⟨rfl, rfl, rfl, ?_, trivial⟩; simp only [take_snoc _ hv, List.length_append]; rfl) rfl rfl (by show p.code.length - (i + 1) < p.code.length - i; omega)
 | none =>
 have hge := List.getElem?_eq_none_iff.1 hv
 have e : i = p.code.length := by omega
 subst e
 have d1 : ¬ (p.code.length : Int) < ((p.code.map Ins_.row).length : Int) := by rw [List.length_map]; omega
 simp only [List.take_length]
 clear hi hlen hv hge
 (repeat' first|(apply DJ.s rfl;(· simp(disch:=omega)only[go_sem,simprocAttr,d1]<;>with_reducible rfl))|(apply J.s true true;(· simp(disch:=omega)only[go_sem,simprocAttr,d1]<;>with_reducible rfl))|apply DJ.nil|(refine J.reg0 ?_)|(apply DJ.gw;(· simp(disch:=omega)only[go_sem,simprocAttr,d1]<;>with_reducible rfl))|(apply DJ.gz;(· rfl);(· simp(disch:=omega)only[go_sem,simprocAttr,d1]<;>with_reducible rfl))|(apply DJ.gs;(· simp(disch:=omega)only[go_sem,simprocAttr,d1]<;>with_reducible rfl))|((first|apply DJ.ixm|apply DJ.ixom|apply DJ.ixsm);(· simp(disch:=omega)only[go_sem,simprocAttr,d1]<;>with_reducible rfl);(· simp(disch:=omega)only[go_sem,simprocAttr,d1]<;>with_reducible rfl);(· assumption);(· omega))|intro h)
 first|refine D.R ?_|refine D.E ?_
 exact ⟨_, rfl, .agg (.cons (.wk rfl rfl) (.cons (.wk rfl rfl) (.cons (.wk rfl (fl_var _)) (.cons (.wk rfl (fl_hd _)) (.cons (.wk rfl (fl_of _)) (.cons (.wk rfl (fl_ins _)) .nil)))))), trivial, trivial⟩
theorem q12 (p : Prog) (h1 : p.vars.length ≤ 100000) (h2 : p.hs.length ≤ 100000) (h3 : p.os.length ≤ 100000) (h4 : p.code.length ≤ 100000) : Pure Tryz.prog 12 [p.av] p.av := by
 refine pure_of mo Tryz.func12 c12 (by simp only [flatL, AV.flat, fl_var, fl_hd, fl_of, fl_ins, Bool.and_self]) (by simp only [AV.flat, flatL, fl_var, fl_hd, fl_of, fl_ins, Bool.and_self]) ?_
 unfold e12 r12
 simp(disch:=omega)only[go_sem,simprocAttr]
 refine J.seq ?_
 (repeat' first|refine D.S ?_|refine DJ.nil ?_|refine D.W ?_|refine D.Z ?_|refine D.G ?_ ?_|refine D.X ‹_› ?_|refine D.XO ‹_› ?_|refine D.XS ‹_› ?_|intro h)
 refine J.reg0 ?_
 (repeat' first|refine D.S ?_|refine DJ.nil ?_|refine D.W ?_|refine D.Z ?_|refine D.G ?_ ?_|refine D.X ‹_› ?_|refine D.XO ‹_› ?_|refine D.XS ‹_› ?_|intro h)
 refine J.seq ?_
 refine J.reg0 ?_
 (repeat' first|refine D.S ?_|refine DJ.nil ?_|refine D.W ?_|refine D.Z ?_|refine D.G ?_ ?_|refine D.X ‹_› ?_|refine D.XO ‹_› ?_|refine D.XS ‹_› ?_|intro h)
 refine J.ghB 2 2 7 73 rfl rfl (by decide) ?_
 simp(disch:=omega)only[go_sem,simprocAttr]
 refine J.ghB 2 3 3 75 rfl rfl (by decide) ?_
 simp(disch:=omega)only[go_sem,simprocAttr]
 refine J.ghB 2 4 4 78 rfl rfl (by decide) ?_
 simp(disch:=omega)only[go_sem,simprocAttr]
 refine J.ghB 2 5 3 43 rfl rfl (by decide) ?_
 simp(disch:=omega)only[go_sem,simprocAttr]
 (repeat' first|refine D.S ?_|refine D.JJ true true ?_|refine DJ.nil ?_|refine J.reg0 ?_|refine D.W ?_|refine D.Z ?_|refine D.G ?_ ?_|refine D.X ‹_› ?_|refine D.XO ‹_› ?_|refine D.XS ‹_› ?_|intro h)
 refine J.loopX (X := Nat) 0 (fun i => [(1, .ptr 0 0), (2, .ptr 1 0), (3, .ptr 2 0), (4, .int .i64 (i : Int))]) (fun i => [(0, 27, p.cells), (1, 36, z6), (2, 36, [.str p.name, .int .i64 p.role, .own 0 7 ((p.vars.take i).map Var_.row), .own 1 3 (([] : List Hd).map Hd.row), .own 2 4 (([] : List Of_).map Of_.row), .own 3 3 (([] : List Ins_).map Ins_.row)])]) (fun i => [(0, .frz 73 7 ((p.vars.take i).map Var_.row).length), (1, .frz 75 3 (([] : List Hd).map Hd.row).length), (2, .frz 78 4 (([] : List Of_).map Of_.row).length), (3, .frz 43 3 (([] : List Ins_).map Ins_.row).length)]) (fun i => i ≤ p.vars.length) (fun i => p.vars.length - i) (Nat.zero_le _) ⟨rfl, rfl, rfl, rfl, trivial⟩ ⟨rfl, rfl, rfl, trivial⟩ ⟨rfl, rfl, rfl, rfl, trivial⟩ ?_
 intro i hi
 try simp only
 have hlen : (p.vars.take i).length = i := by simp; omega
 cases hv : p.vars[i]? with
 | some v =>
  have hlt := (List.getElem?_eq_some_iff.1 hv).1
  have d1 : (i : Int) < ((p.vars.map Var_.row).length : Int) := by rw [List.length_map]; omega
  (repeat' first|(apply DJ.s rfl;(· simp(disch:=omega)only[go_sem,simprocAttr,d1]<;>with_reducible rfl))|(apply J.s true true;(· simp(disch:=omega)only[go_sem,simprocAttr,d1]<;>with_reducible rfl))|apply DJ.nil|(refine J.reg0 ?_)|(apply DJ.gw;(· simp(disch:=omega)only[go_sem,simprocAttr,d1]<;>with_reducible rfl))|(apply DJ.gz;(· rfl);(· simp(disch:=omega)only[go_sem,simprocAttr,d1]<;>with_reducible rfl))|(apply DJ.gs;(· simp(disch:=omega)only[go_sem,simprocAttr,d1]<;>with_reducible rfl))|((first|apply DJ.ixm|apply DJ.ixom|apply DJ.ixsm);(· simp(disch:=omega)only[go_sem,simprocAttr,d1]<;>with_reducible rfl);(· simp(disch:=omega)only[go_sem,simprocAttr,d1]<;>with_reducible rfl);(· assumption);(· omega))|intro h)
  (apply DJ.ap';(· simp(disch:=omega)only[go_sem,simprocAttr]<;>with_reducible rfl);(· simp(disch:=omega)only[go_sem,simprocAttr]<;>with_reducible rfl);(· simp only [rowsOf] <;> simp(disch:=omega)only[go_sem,simprocAttr] <;> with_reducible rfl);(· first|omega|(simp only [List.length_map,List.length_drop,List.length_take,List.length_append,List.length_nil,List.length_cons,maxLen] <;> omega));(· first|omega|(simp only [List.length_map,List.length_drop,List.length_take,List.length_append,List.length_nil,List.length_cons,maxLen] <;> omega)))
  (repeat' first|refine D.S ?_|refine D.JJ true true ?_|refine DJ.nil ?_|refine J.reg0 ?_|refine D.W ?_|refine D.Z ?_|refine D.G ?_ ?_|refine D.X ‹_› ?_|refine D.XO ‹_› ?_|refine D.XS ‹_› ?_|intro h)
  refine J.roundX (i + 1) (by omega) ⟨rfl, rfl, rfl, rfl, trivial⟩ (by refine ⟨rfl, rfl, ?_, trivial⟩; simp only [take_snoc _ hv]; rfl) (by refine ⟨?_, rfl, rfl, rfl, trivial⟩; simp only [take_snoc _ hv, List.length_append]; rfl) rfl rfl (by show p.vars.length - (i + 1) < p.vars.length - i; omega)
 | none =>
 have hge := List.getElem?_eq_none_iff.1 hv
 have e : i = p.vars.length := by omega
 subst e
 have d1 : ¬ (p.vars.length : Int) < ((p.vars.map Var_.row).length : Int) := by rw [List.length_map]; omega
 simp only [List.take_length]
 clear hi hlen hv hge
 (repeat' first|(apply DJ.s rfl;(· simp(disch:=omega)only[go_sem,simprocAttr,d1]<;>with_reducible rfl))|(apply J.s true true;(· simp(disch:=omega)only[go_sem,simprocAttr,d1]<;>with_reducible rfl))|apply DJ.nil|(refine J.reg0 ?_)|(apply DJ.gw;(· simp(disch:=omega)only[go_sem,simprocAttr,d1]<;>with_reducible rfl))|(apply DJ.gz;(· rfl);(· simp(disch:=omega)only[go_sem,simprocAttr,d1]<;>with_reducible rfl))|(apply DJ.gs;(· simp(disch:=omega)only[go_sem,simprocAttr,d1]<;>with_reducible rfl))|((first|apply DJ.ixm|apply DJ.ixom|apply DJ.ixsm);(· simp(disch:=omega)only[go_sem,simprocAttr,d1]<;>with_reducible rfl);(· simp(disch:=omega)only[go_sem,simprocAttr,d1]<;>with_reducible rfl);(· assumption);(· omega))|intro h)
 (repeat' first|refine D.S ?_|refine D.JJ true true ?_|refine DJ.nil ?_|refine J.reg0 ?_|refine D.W ?_|refine D.Z ?_|refine D.G ?_ ?_|refine D.X ‹_› ?_|refine D.XO ‹_› ?_|refine D.XS ‹_› ?_|intro h)
 refine J.loopX (X := Nat) 0 (fun i => [(1, .ptr 0 0), (2, .ptr 1 0), (3, .ptr 2 0), (5, .int .i64 (i : Int))]) (fun i => [(0, 27, p.cells), (1, 36, z6), (2, 36, [.str p.name, .int .i64 p.role, .own 0 7 (p.vars.map Var_.row), .own 1 3 ((p.hs.take i).map Hd.row), .own 2 4 (([] : List Of_).map Of_.row), .own 3 3 (([] : List Ins_).map Ins_.row)])]) (fun i => [(0, .frz 73 7 (p.vars.map Var_.row).length), (1, .frz 75 3 ((p.hs.take i).map Hd.row).length), (2, .frz 78 4 (([] : List Of_).map Of_.row).length), (3, .frz 43 3 (([] : List Ins_).map Ins_.row).length)]) (fun i => i ≤ p.hs.length) (fun i => p.hs.length - i) (Nat.zero_le _) ⟨rfl, rfl, rfl, rfl, trivial⟩ ⟨rfl, rfl, rfl, trivial⟩ ⟨rfl, rfl, rfl, rfl, trivial⟩ ?_
 intro i hi
 try simp only
 have hlen : (p.hs.take i).length = i := by simp; omega
 cases hv : p.hs[i]? with
 | some v =>
  have hlt := (List.getElem?_eq_some_iff.1 hv).1
  have d1 : (i : Int) < ((p.hs.map Hd.row).length : Int) := by rw [List.length_map]; omega
  (repeat' first|(apply DJ.s rfl;(· simp(disch:=omega)only[go_sem,simprocAttr,d1]<;>with_reducible rfl))|(apply J.s true true;(· simp(disch:=omega)only[go_sem,simprocAttr,d1]<;>with_reducible rfl))|apply DJ.nil|(refine J.reg0 ?_)|(apply DJ.gw;(· simp(disch:=omega)only[go_sem,simprocAttr,d1]<;>with_reducible rfl))|(apply DJ.gz;(· rfl);(· simp(disch:=omega)only[go_sem,simprocAttr,d1]<;>with_reducible rfl))|(apply DJ.gs;(· simp(disch:=omega)only[go_sem,simprocAttr,d1]<;>with_reducible rfl))|((first|apply DJ.ixm|apply DJ.ixom|apply DJ.ixsm);(· simp(disch:=omega)only[go_sem,simprocAttr,d1]<;>with_reducible rfl);(· simp(disch:=omega)only[go_sem,simprocAttr,d1]<;>with_reducible rfl);(· assumption);(· omega))|intro h)
  (apply DJ.ap';(· simp(disch:=omega)only[go_sem,simprocAttr]<;>with_reducible rfl);(· simp(disch:=omega)only[go_sem,simprocAttr]<;>with_reducible rfl);(· simp only [rowsOf] <;> simp(disch:=omega)only[go_sem,simprocAttr] <;> with_reducible rfl);(· first|omega|(simp only [List.length_map,List.length_drop,List.length_take,List.length_append,List.length_nil,List.length_cons,maxLen] <;> omega));(· first|omega|(simp only [List.length_map,List.length_drop,List.length_take,List.length_append,List.length_nil,List.length_cons,maxLen] <;> omega)))
  (repeat' first|refine D.S ?_|refine D.JJ true true ?_|refine DJ.nil ?_|refine J.reg0 ?_|refine D.W ?_|refine D.Z ?_|refine D.G ?_ ?_|refine D.X ‹_› ?_|refine D.XO ‹_› ?_|refine D.XS ‹_› ?_|intro h)
  refine J.roundX (i + 1) (by omega) ⟨rfl, rfl, rfl, rfl, trivial⟩ (by refine ⟨rfl, rfl, ?_, trivial⟩; simp only [take_snoc _ hv]; rfl) (by refine ⟨rfl, ?_, rfl, rfl, trivial⟩; simp only [take_snoc _ hv, List.length_append]; rfl) rfl rfl (by show p.hs.length - (i + 1) < p.hs.length - i; omega)
 | none =>
 have hge := List.getElem?_eq_none_iff.1 hv
 have e : i = p.hs.length := by omega
 subst e
 have d1 : ¬ (p.hs.length : Int) < ((p.hs.map Hd.row).length : Int) := by rw [List.length_map]; omega
 simp only [List.take_length]
 clear hi hlen hv hge
 (repeat' first|(apply DJ.s rfl;(· simp(disch:=omega)only[go_sem,simprocAttr,d1]<;>with_reducible rfl))|(apply J.s true true;(· simp(disch:=omega)only[go_sem,simprocAttr,d1]<;>with_reducible rfl))|apply DJ.nil|(refine J.reg0 ?_)|(apply DJ.gw;(· simp(disch:=omega)only[go_sem,simprocAttr,d1]<;>with_reducible rfl))|(apply DJ.gz;(· rfl);(· simp(disch:=omega)only[go_sem,simprocAttr,d1]<;>with_reducible rfl))|(apply DJ.gs;(· simp(disch:=omega)only[go_sem,simprocAttr,d1]<;>with_reducible rfl))|((first|apply DJ.ixm|apply DJ.ixom|apply DJ.ixsm);(· simp(disch:=omega)only[go_sem,simprocAttr,d1]<;>with_reducible rfl);(· simp(disch:=omega)only[go_sem,simprocAttr,d1]<;>with_reducible rfl);(· assumption);(· omega))|intro h)
 (repeat' first|refine D.S ?_|refine D.JJ true true ?_|refine DJ.nil ?_|refine J.reg0 ?_|refine D.W ?_|refine D.Z ?_|refine D.G ?_ ?_|refine D.X ‹_› ?_|refine D.XO ‹_› ?_|refine D.XS ‹_› ?_|intro h)
 refine J.loopX (X := Nat) 0 (fun i => [(1, .ptr 0 0), (2, .ptr 1 0), (3, .ptr 2 0), (6, .int .i64 (i : Int))]) (fun i => [(0, 27, p.cells), (1, 36, z6), (2, 36, [.str p.name, .int .i64 p.role, .own 0 7 (p.vars.map Var_.row), .own 1 3 (p.hs.map Hd.row), .own 2 4 ((p.os.take i).map Of_.row), .own 3 3 (([] : List Ins_).map Ins_.row)])]) (fun i => [(0, .frz 73 7 (p.vars.map Var_.row).length), (1, .frz 75 3 (p.hs.map Hd.row).length), (2, .frz 78 4 ((p.os.take i).map Of_.row).length), (3, .frz 43 3 (([] : List Ins_).map Ins_.row).length)]) (fun i => i ≤ p.os.length) (fun i => p.os.length - i) (Nat.zero_le _) ⟨rfl, rfl, rfl, rfl, trivial⟩ ⟨rfl, rfl, rfl, trivial⟩ ⟨rfl, rfl, rfl, rfl, trivial⟩ ?_
 intro i hi
 try simp only
 have hlen : (p.os.take i).length = i := by simp; omega
 cases hv : p.os[i]? with
 | some v =>
  have hlt := (List.getElem?_eq_some_iff.1 hv).1
  have d1 : (i : Int) < ((p.os.map Of_.row).length : Int) := by rw [List.length_map]; omega
  (repeat' first|(apply DJ.s rfl;(· simp(disch:=omega)only[go_sem,simprocAttr,d1]<;>with_reducible rfl))|(apply J.s true true;(· simp(disch:=omega)only[go_sem,simprocAttr,d1]<;>with_reducible rfl))|apply DJ.nil|(refine J.reg0 ?_)|(apply DJ.gw;(· simp(disch:=omega)only[go_sem,simprocAttr,d1]<;>with_reducible rfl))|(apply DJ.gz;(· rfl);(· simp(disch:=omega)only[go_sem,simprocAttr,d1]<;>with_reducible rfl))|(apply DJ.gs;(· simp(disch:=omega)only[go_sem,simprocAttr,d1]<;>with_reducible rfl))|((first|apply DJ.ixm|apply DJ.ixom|apply DJ.ixsm);(· simp(disch:=omega)only[go_sem,simprocAttr,d1]<;>with_reducible rfl);(· simp(disch:=omega)only[go_sem,simprocAttr,d1]<;>with_reducible rfl);(· assumption);(· omega))|intro h)
  (apply DJ.ap';(· simp(disch:=omega)only[go_sem,simprocAttr]<;>with_reducible rfl);(· simp(disch:=omega)only[go_sem,simprocAttr]<;>with_reducible rfl);(· simp only [rowsOf] <;> simp(disch:=omega)only[go_sem,simprocAttr] <;> with_reducible rfl);(· first|omega|(simp only [List.length_map,List.length_drop,List.length_take,List.length_append,List.length_nil,List.length_cons,maxLen] <;> omega));(· first|omega|(simp only [List.length_map,List.length_drop,List.length_take,List.length_append,List.length_nil,List.length_cons,maxLen] <;> omega)))
  (repeat' first|refine D.S ?_|refine D.JJ true true ?_|refine DJ.nil ?_|refine J.reg0 ?_|refine D.W ?_|refine D.Z ?_|refine D.G ?_ ?_|refine D.X ‹_› ?_|refine D.XO ‹_› ?_|refine D.XS ‹_› ?_|intro h)
  refine J.roundX (i + 1) (by omega) ⟨rfl, rfl, rfl, rfl, trivial⟩ (by refine ⟨rfl, rfl, ?_, trivial⟩; simp only [take_snoc _ hv]; rfl) (by refine ⟨rfl, rfl, ?_, rfl, trivial⟩; simp only [take_snoc _ hv, List.length_append]; rfl) rfl rfl (by show p.os.length - (i + 1) < p.os.length - i; omega)
 | none =>
 have hge := List.getElem?_eq_none_iff.1 hv
 have e : i = p.os.length := by omega
 subst e
 have d1 : ¬ (p.os.length : Int) < ((p.os.map Of_.row).length : Int) := by rw [List.length_map]; omega
 simp only [List.take_length]
 clear hi hlen hv hge
 (repeat' first|(apply DJ.s rfl;(· simp(disch:=omega)only[go_sem,simprocAttr,d1]<;>with_reducible rfl))|(apply J.s true true;(· simp(disch:=omega)only[go_sem,simprocAttr,d1]<;>with_reducible rfl))|apply DJ.nil|(refine J.reg0 ?_)|(apply DJ.gw;(· simp(disch:=omega)only[go_sem,simprocAttr,d1]<;>with_reducible rfl))|(apply DJ.gz;(· rfl);(· simp(disch:=omega)only[go_sem,simprocAttr,d1]<;>with_reducible rfl))|(apply DJ.gs;(· simp(disch:=omega)only[go_sem,simprocAttr,d1]<;>with_reducible rfl))|((first|apply DJ.ixm|apply DJ.ixom|apply DJ.ixsm);(· simp(disch:=omega)only[go_sem,simprocAttr,d1]<;>with_reducible rfl);(· simp(disch:=omega)only[go_sem,simprocAttr,d1]<;>with_reducible rfl);(· assumption);(· omega))|intro h)
 (repeat' first|refine D.S ?_|refine D.JJ true true ?_|refine DJ.nil ?_|refine J.reg0 ?_|refine D.W ?_|refine D.Z ?_|refine D.G ?_ ?_|refine D.X ‹_› ?_|refine D.XO ‹_› ?_|refine D.XS ‹_› ?_|intro h)
 refine J.loopX (X := Nat) 0 (fun i => [(1, .ptr 0 0), (2, .ptr 1 0), (3, .ptr 2 0), (7, .int .i64 (i : Int))]) (fun i => [(0, 27, p.cells), (1, 36, z6), (2, 36, [.str p.name, .int .i64 p.role, .own 0 7 (p.vars.map Var_.row), .own 1 3 (p.hs.map Hd.row), .own 2 4 (p.os.map Of_.row), .own 3 3 ((p.code.take i).map Ins_.row)])]) (fun i => [(0, .frz 73 7 (p.vars.map Var_.row).length), (1, .frz 75 3 (p.hs.map Hd.row).length), (2, .frz 78 4 (p.os.map Of_.row).length), (3, .frz 43 3 ((p.code.take i).map Ins_.row).length)]) (fun i => i ≤ p.code.length) (fun i => p.code.length - i) (Nat.zero_le _) ⟨rfl, rfl, rfl, rfl, trivial⟩ ⟨rfl, rfl, rfl, trivial⟩ ⟨rfl, rfl, rfl, rfl, trivial⟩ ?_
 intro i hi
 try simp only
 have hlen : (p.code.take i).length = i := by simp; omega
 cases hv : p.code[i]? with
 | some v =>
  have hlt := (List.getElem?_eq_some_iff.1 hv).1
  have d1 : (i : Int) < ((p.code.map Ins_.row).length : Int) := by rw [List.length_map]; omega
  (repeat' first|(apply DJ.s rfl;(· simp(disch:=omega)only[go_sem,simprocAttr,d1]<;>with_reducible rfl))|(apply J.s true true;(· simp(disch:=omega)only[go_sem,simprocAttr,d1]<;>with_reducible rfl))|apply DJ.nil|(refine J.reg0 ?_)|(apply DJ.gw;(· simp(disch:=omega)only[go_sem,simprocAttr,d1]<;>with_reducible rfl))|(apply DJ.gz;(· rfl);(· simp(disch:=omega)only[go_sem,simprocAttr,d1]<;>with_reducible rfl))|(apply DJ.gs;(· simp(disch:=omega)only[go_sem,simprocAttr,d1]<;>with_reducible rfl))|((first|apply DJ.ixm|apply DJ.ixom|apply DJ.ixsm);(· simp(disch:=omega)only[go_sem,simprocAttr,d1]<;>with_reducible rfl);(· simp(disch:=omega)only[go_sem,simprocAttr,d1]<;>with_reducible rfl);(· assumption);(· omega))|intro h)
  (apply DJ.ap';(· simp(disch:=omega)only[go_sem,simprocAttr]<;>with_reducible rfl);(· simp(disch:=omega)only[go_sem,simprocAttr]<;>with_reducible rfl);(· simp only [rowsOf] <;> simp(disch:=omega)only[go_sem,simprocAttr] <;> with_reducible rfl);(· first|omega|(simp only [List.length_map,List.length_drop,List.length_take,List.length_append,List.length_nil,List.length_cons,maxLen] <;> omega));(· first|omega|(simp only [List.length_map,List.length_drop,List.length_take,List.length_append,List.length_nil,List.length_cons,maxLen] <;> omega)))
  (repeat' first|refine D.S ?_|refine D.JJ true true ?_|refine DJ.nil ?_|refine J.reg0 ?_|refine D.W ?_|refine D.Z ?_|refine D.G ?_ ?_|refine D.X ‹_› ?_|refine D.XO ‹_› ?_|refine D.XS ‹_› ?_|intro h)
  refine J.roundX (i + 1) (by omega) ⟨rfl, rfl, rfl, rfl, trivial⟩ (by refine ⟨rfl, rfl, ?_, trivial⟩; simp only [take_snoc _ hv]; rfl) (by refine ⟨rfl, rfl, rfl, ?_, trivial⟩; simp only [take_snoc _ hv, List.length_append]; rfl) rfl rfl (by show p.code.length - (i + 1) < p.code.length - i; omega)
 | none =>
 have hge := List.getElem?_eq_none_iff.1 hv
 have e : i = p.code.length := by omega
 subst e
 have d1 : ¬ (p.code.length : Int) < ((p.code.map Ins_.row).length : Int) := by rw [List.length_map]; omega
 simp only [List.take_length]
 clear hi hlen hv hge
 (repeat' first|(apply DJ.s rfl;(· simp(disch:=omega)only[go_sem,simprocAttr,d1]<;>with_reducible rfl))|(apply J.s true true;(· simp(disch:=omega)only[go_sem,simprocAttr,d1]<;>with_reducible rfl))|apply DJ.nil|(refine J.reg0 ?_)|(apply DJ.gw;(· simp(disch:=omega)only[go_sem,simprocAttr,d1]<;>with_reducible rfl))|(apply DJ.gz;(· rfl);(· simp(disch:=omega)only[go_sem,simprocAttr,d1]<;>with_reducible rfl))|(apply DJ.gs;(· simp(disch:=omega)only[go_sem,simprocAttr,d1]<;>with_reducible rfl))|((first|apply DJ.ixm|apply DJ.ixom|apply DJ.ixsm);(· simp(disch:=omega)only[go_sem,simprocAttr,d1]<;>with_reducible rfl);(· simp(disch:=omega)only[go_sem,simprocAttr,d1]<;>with_reducible rfl);(· assumption);(· omega))|intro h)
 first|refine D.R ?_|refine D.E ?_
 exact ⟨_, rfl, .agg (.cons (.wk rfl rfl) (.cons (.wk rfl rfl) (.cons (.wk rfl (fl_var _)) (.cons (.wk rfl (fl_hd _)) (.cons (.wk rfl (fl_of _)) (.cons (.wk rfl (fl_ins _)) .nil)))))), trivial, trivial⟩
end Go.Aw.T.N
namespace Go.Aw.T.N
open Go Go.Aw Go.Proofs Go.RowKit
set_option maxRecDepth 100000
attribute [local irreducible] Go.Aw.J Go.Aw.DJ Go.Aw.FC
attribute [local go_sem] wrap64 wrapu64 wrapu8 nnif decide_true decide_false dst gst gv_b gv_u jst jpop bdL bdB bdT bdO AV.bd tfL AV.tf o_mv o_pick o_nilck o_build o_load o_loadD o_faddr o_field o_iaddr o_iaddrA o_idxA o_idxS o_bin o_binB o_eqA o_not o_pnil o_neg o_conv o_lenS o_len o_lenA o_minmax o_slS o_slV o_extract o_mkfn o_mkfnB o_convS o_convBS o_mkif o_isnil o_bslice o_box o_alloc o_store o_storeD o_bsliceO o_bsliceM cpv cev_t cev_c Env.get put_some' put_none' of_setB of_addB of_setT of_addT of_upd of_blk of_tok of_nb of_nt of_new rmB rmT rmBs rmTs renB renT apB apT lkB lkT getD_0 getD_s renL AV.ren crange_if cstB_if one_nilS one_pnil oc_nil oc_pnil cbin binInt shInt binStr binBool cbuild_nil cbuild_cons cidx_if AV.cells AV.okc AV.flat flatL flatR setRange minmaxAV AV.one AV.ofCells eqCells eqCell slRows initEnv initFrom cres cresv cresL cond_true cond_false beq_self_eq_true Bool.not_true Bool.not_false beq_true beq_false eq_self if_true Option.some.injEq List.length_cons List.length_nil List.take_succ_cons List.take_zero List.drop_succ_cons List.drop_zero List.set_cons_succ List.set_cons_zero List.nil_append List.cons_append List.append_nil and_self Option.map_some Option.map_none List.map_cons List.map_nil Bool.false_eq_true if_false Nat.zero_add Nat.add_zero true_and and_true Bool.and_true Bool.true_and List.getElem?_cons_zero List.getElem?_cons_succ Nat.zero_le Nat.le_refl List.all_cons List.all_nil List.flatten_cons List.flatten_nil crows crowsOk List.filter_cons List.filter_nil List.contains_cons List.contains_nil Bool.or_false Bool.or_true Bool.false_or Bool.true_or
set_option linter.unusedSimpArgs false
set_option linter.unusedVariables false
attribute [local go_sem] fl_brow brow fl_var fl_hd fl_of fl_ins
theorem decP_lens (bs : List Nat) : (decP bs).1.vars.length ≤ 100000 ∧ (decP bs).1.hs.length ≤ 100000 ∧ (decP bs).1.os.length ≤ 100000 ∧ (decP bs).1.code.length ≤ 100000 := by
 unfold decP
 simp only
 split
 ·decide
 ·rename_i h
  simp only [not_or, Bool.not_eq_false] at h
  have vp := VP.of h.2.2
  have h0 := vp.nv; have h1 := vp.nh; have h2 := vp.no; have h3 := vp.code0
  dsimp only
  omega
theorem ofNat_inj {xs ys : List Nat} (hx : ∀ b ∈ xs, b < 256) (hy : ∀ b ∈ ys, b < 256) (h : xs = ys) : decide (xs.map UInt8.ofNat = ys.map UInt8.ofNat) = true := by subst h; simp
theorem encQ_dec {bs : List Nat} (hbs : ∀ b ∈ bs, b < 256) (h : (decP bs).2 = 0) : encQ (decP bs).1 = bs := by
 have := dec_back hbs h
 unfold encQ
 rw [if_pos this.1, this.2]
set_option maxHeartbeats 1000000 in
theorem q6 (h9 : Pure Tryz.prog 9 [] (.bool true)) (bs : List Nat) (hbs : ∀ b ∈ bs, b < 256) : Pure Tryz.prog 6 [.vs 1 (bs.map brow)] (.bool true) := by
 refine pure_of mo Tryz.func6 c6 (by simp only [flatL, AV.flat, fl_brow, Bool.and_self]) rfl ?_
 unfold e6 r6
 simp(disch:=omega)only[go_sem,simprocAttr]
 (repeat' first|refine D.S ?_|refine D.JJ true true ?_|refine DJ.nil ?_|refine J.reg0 ?_|refine D.W ?_|refine D.Z ?_|refine D.G ?_ ?_|refine D.X ‹_› ?_|refine D.XO ‹_› ?_|refine D.XS ‹_› ?_|intro h)
 refine D.P (h9) ?_
 (repeat' first|(apply DJ.s rfl;(· simp(disch:=omega)only[go_sem,simprocAttr,List.length_map]<;>with_reducible rfl))|(apply J.s true true;(· simp(disch:=omega)only[go_sem,simprocAttr,List.length_map]<;>with_reducible rfl))|apply DJ.nil|(refine J.reg0 ?_)|(apply DJ.gw;(· simp(disch:=omega)only[go_sem,simprocAttr,List.length_map]<;>with_reducible rfl))|(apply DJ.gz;(· rfl);(· simp(disch:=omega)only[go_sem,simprocAttr,List.length_map]<;>with_reducible rfl))|(apply DJ.gs;(· simp(disch:=omega)only[go_sem,simprocAttr,List.length_map]<;>with_reducible rfl))|((first|apply DJ.ixm|apply DJ.ixom|apply DJ.ixsm);(· simp(disch:=omega)only[go_sem,simprocAttr,List.length_map]<;>with_reducible rfl);(· simp(disch:=omega)only[go_sem,simprocAttr,List.length_map]<;>with_reducible rfl);(· assumption);(· omega))|intro h|(apply J.cond;(· simp(disch:=omega)only[go_sem,simprocAttr,List.length_map]<;>with_reducible rfl)))
 ·first|refine D.R ?_|refine D.E ?_
  exact ⟨_, rfl, .wk rfl rfl, trivial, trivial⟩
 simp only [decide_eq_false_iff_not] at h
 have hr : bs.length ≤ 1000000 := by omega
 obtain ⟨l1, l2, l3, l4⟩ := decP_lens bs
 have e20 : Pure Tryz.prog 20 [(decP bs).1.av] (.vs 1 ((encQ (decP bs).1).map brow)) := p20 _
 have e22 : Pure Tryz.prog 22 [.vs 1 ((encQ (decP bs).1).map brow), .vs 1 (bs.map brow)] _ := p22 (encQ (decP bs).1) bs
 have e15 := p15 (decP bs).1 (decP bs).1
 rw [(sameP_iff _ _).2 rfl] at e15
 refine D.P (q21 bs hr hbs) ?_
 (repeat' first|refine D.S ?_|refine D.JJ true true ?_|refine DJ.nil ?_|refine J.reg0 ?_|refine D.W ?_|refine D.Z ?_|refine D.G ?_ ?_|refine D.X ‹_› ?_|refine D.XO ‹_› ?_|refine D.XS ‹_› ?_|intro h)
 refine D.P (q25 bs hr hbs) ?_
 (repeat' first|refine D.S ?_|refine DJ.nil ?_|refine D.W ?_|refine D.Z ?_|refine D.G ?_ ?_|refine D.X ‹_› ?_|refine D.XO ‹_› ?_|refine D.XS ‹_› ?_|intro h)
 refine J.seq ?_
 rcases dec_err bs with e | e
 ·rw [encQ_dec hbs e] at e20 e22
  rw [ofNat_inj hbs hbs rfl] at e22
  refine J.reg (anns := [(decP bs).1.av, .bool true, .vs 1 (bs.map brow), .bool true]) ?_
  (repeat' first|(apply DJ.s rfl;(· simp(disch:=omega)only[go_sem,simprocAttr,e]<;>with_reducible rfl))|apply DJ.nil|(apply DJ.gw;(· simp(disch:=omega)only[go_sem,simprocAttr,e]<;>with_reducible rfl))|(apply DJ.gz;(· rfl);(· simp(disch:=omega)only[go_sem,simprocAttr,e]<;>with_reducible rfl))|(apply DJ.gs;(· simp(disch:=omega)only[go_sem,simprocAttr,e]<;>with_reducible rfl))|((first|apply DJ.ixm|apply DJ.ixom|apply DJ.ixsm);(· simp(disch:=omega)only[go_sem,simprocAttr,e]<;>with_reducible rfl);(· simp(disch:=omega)only[go_sem,simprocAttr,e]<;>with_reducible rfl);(· assumption);(· omega))|intro h)
  refine D.PC (q24 (decP bs).1 l1 l2 l3 l4) ?_
  (repeat' first|(apply DJ.s rfl;(· simp(disch:=omega)only[go_sem,simprocAttr,e]<;>with_reducible rfl))|apply DJ.nil|(apply DJ.gw;(· simp(disch:=omega)only[go_sem,simprocAttr,e]<;>with_reducible rfl))|(apply DJ.gz;(· rfl);(· simp(disch:=omega)only[go_sem,simprocAttr,e]<;>with_reducible rfl))|(apply DJ.gs;(· simp(disch:=omega)only[go_sem,simprocAttr,e]<;>with_reducible rfl))|((first|apply DJ.ixm|apply DJ.ixom|apply DJ.ixsm);(· simp(disch:=omega)only[go_sem,simprocAttr,e]<;>with_reducible rfl);(· simp(disch:=omega)only[go_sem,simprocAttr,e]<;>with_reducible rfl);(· assumption);(· omega))|intro h)
  refine D.PC e15 ?_
  (repeat' first|(apply DJ.s rfl;(· simp(disch:=omega)only[go_sem,simprocAttr,e]<;>with_reducible rfl))|apply DJ.nil|(apply DJ.gw;(· simp(disch:=omega)only[go_sem,simprocAttr,e]<;>with_reducible rfl))|(apply DJ.gz;(· rfl);(· simp(disch:=omega)only[go_sem,simprocAttr,e]<;>with_reducible rfl))|(apply DJ.gs;(· simp(disch:=omega)only[go_sem,simprocAttr,e]<;>with_reducible rfl))|((first|apply DJ.ixm|apply DJ.ixom|apply DJ.ixsm);(· simp(disch:=omega)only[go_sem,simprocAttr,e]<;>with_reducible rfl);(· simp(disch:=omega)only[go_sem,simprocAttr,e]<;>with_reducible rfl);(· assumption);(· omega))|intro h)
  refine D.PC e20 ?_
  (repeat' first|(apply DJ.s rfl;(· simp(disch:=omega)only[go_sem,simprocAttr,e]<;>with_reducible rfl))|apply DJ.nil|(apply DJ.gw;(· simp(disch:=omega)only[go_sem,simprocAttr,e]<;>with_reducible rfl))|(apply DJ.gz;(· rfl);(· simp(disch:=omega)only[go_sem,simprocAttr,e]<;>with_reducible rfl))|(apply DJ.gs;(· simp(disch:=omega)only[go_sem,simprocAttr,e]<;>with_reducible rfl))|((first|apply DJ.ixm|apply DJ.ixom|apply DJ.ixsm);(· simp(disch:=omega)only[go_sem,simprocAttr,e]<;>with_reducible rfl);(· simp(disch:=omega)only[go_sem,simprocAttr,e]<;>with_reducible rfl);(· assumption);(· omega))|intro h)
  refine D.PC e22 ?_
  (repeat' first|(apply DJ.s rfl;(· simp(disch:=omega)only[go_sem,simprocAttr,e]<;>with_reducible rfl))|apply DJ.nil|(apply DJ.gw;(· simp(disch:=omega)only[go_sem,simprocAttr,e]<;>with_reducible rfl))|(apply DJ.gz;(· rfl);(· simp(disch:=omega)only[go_sem,simprocAttr,e]<;>with_reducible rfl))|(apply DJ.gs;(· simp(disch:=omega)only[go_sem,simprocAttr,e]<;>with_reducible rfl))|((first|apply DJ.ixm|apply DJ.ixom|apply DJ.ixsm);(· simp(disch:=omega)only[go_sem,simprocAttr,e]<;>with_reducible rfl);(· simp(disch:=omega)only[go_sem,simprocAttr,e]<;>with_reducible rfl);(· assumption);(· omega))|intro h)
  (repeat' first|refine D.S ?_|refine D.JJ true true ?_|refine DJ.nil ?_|refine J.reg0 ?_|refine D.W ?_|refine D.Z ?_|refine D.G ?_ ?_|refine D.X ‹_› ?_|refine D.XO ‹_› ?_|refine D.XS ‹_› ?_|intro h)
  first|refine D.R ?_|refine D.E ?_
  exact ⟨_, rfl, .wk rfl rfl, trivial, trivial⟩
 ·refine J.reg (anns := [(decP bs).1.av, .bool true, .undef, .undef]) ?_
  (repeat' first|(apply DJ.s rfl;(· simp(disch:=omega)only[go_sem,simprocAttr,e]<;>with_reducible rfl))|apply DJ.nil|(apply DJ.gw;(· simp(disch:=omega)only[go_sem,simprocAttr,e]<;>with_reducible rfl))|(apply DJ.gz;(· rfl);(· simp(disch:=omega)only[go_sem,simprocAttr,e]<;>with_reducible rfl))|(apply DJ.gs;(· simp(disch:=omega)only[go_sem,simprocAttr,e]<;>with_reducible rfl))|((first|apply DJ.ixm|apply DJ.ixom|apply DJ.ixsm);(· simp(disch:=omega)only[go_sem,simprocAttr,e]<;>with_reducible rfl);(· simp(disch:=omega)only[go_sem,simprocAttr,e]<;>with_reducible rfl);(· assumption);(· omega))|intro h)
  refine D.PC (q24 (decP bs).1 l1 l2 l3 l4) ?_
  (repeat' first|(apply DJ.s rfl;(· simp(disch:=omega)only[go_sem,simprocAttr,e]<;>with_reducible rfl))|apply DJ.nil|(apply DJ.gw;(· simp(disch:=omega)only[go_sem,simprocAttr,e]<;>with_reducible rfl))|(apply DJ.gz;(· rfl);(· simp(disch:=omega)only[go_sem,simprocAttr,e]<;>with_reducible rfl))|(apply DJ.gs;(· simp(disch:=omega)only[go_sem,simprocAttr,e]<;>with_reducible rfl))|((first|apply DJ.ixm|apply DJ.ixom|apply DJ.ixsm);(· simp(disch:=omega)only[go_sem,simprocAttr,e]<;>with_reducible rfl);(· simp(disch:=omega)only[go_sem,simprocAttr,e]<;>with_reducible rfl);(· assumption);(· omega))|intro h)
  refine D.PC e15 ?_
  (repeat' first|(apply DJ.s rfl;(· simp(disch:=omega)only[go_sem,simprocAttr,e]<;>with_reducible rfl))|apply DJ.nil|(apply DJ.gw;(· simp(disch:=omega)only[go_sem,simprocAttr,e]<;>with_reducible rfl))|(apply DJ.gz;(· rfl);(· simp(disch:=omega)only[go_sem,simprocAttr,e]<;>with_reducible rfl))|(apply DJ.gs;(· simp(disch:=omega)only[go_sem,simprocAttr,e]<;>with_reducible rfl))|((first|apply DJ.ixm|apply DJ.ixom|apply DJ.ixsm);(· simp(disch:=omega)only[go_sem,simprocAttr,e]<;>with_reducible rfl);(· simp(disch:=omega)only[go_sem,simprocAttr,e]<;>with_reducible rfl);(· assumption);(· omega))|intro h)
  (repeat' first|refine D.S ?_|refine D.JJ true true ?_|refine DJ.nil ?_|refine J.reg0 ?_|refine D.W ?_|refine D.Z ?_|refine D.G ?_ ?_|refine D.X ‹_› ?_|refine D.XO ‹_› ?_|refine D.XS ‹_› ?_|intro h)
  first|refine D.R ?_|refine D.E ?_
  exact ⟨_, rfl, .wk rfl rfl, trivial, trivial⟩
abbrev b8 (l : List Nat) : Prop := ∀ b ∈ l, b < 256
theorem b8_app {a b : List Nat} (h : b8 a) (k : b8 b) : b8 (a ++ b) := fun x hx => (List.mem_append.1 hx).elim (h x) (k x)
theorem b8_map {α : Type} {f : α → List Nat} {l : List α} (h : ∀ x ∈ l, b8 (f x)) : b8 (l.flatMap f) := fun b hb => by
 obtain ⟨x, h1, h2⟩ := List.mem_flatMap.1 hb
 exact h x h1 b h2
theorem b8_enc {n : Int} (h : nb n) : b8 (enc n) := fun b hb => by
 have hz := zig_le h.1 h.2
 unfold enc at hb
 split at hb <;> simp only [List.mem_cons, List.not_mem_nil, or_false] at hb <;> omega
theorem b8_tx {s : List UInt8} (h : s.length ≤ 1000) : b8 (encT s) := b8_app (b8_enc ⟨by omega, by omega⟩) fun b hb => by
 obtain ⟨c, _, rfl⟩ := List.mem_map.1 hb
 exact c.toNat_lt
theorem b8_P {p : Prog} (h : validP p = true) : b8 (encP p) := by
 obtain ⟨h1, h2, ⟨h3, h4⟩, ⟨h5, h6⟩, ⟨h7, h8⟩, h9, h10⟩ := okP_of h
 unfold encP encHd
 refine b8_app (b8_app (b8_app (b8_app (b8_app (b8_app (b8_app (b8_app (b8_tx (by omega)) ?_) ?_) ?_) ?_) ?_) ?_) ?_) ?_
 ·refine b8_map fun x hx => ?_
  simp only [List.mem_cons, List.not_mem_nil, or_false] at hx
  rcases hx with rfl | rfl
  ·exact b8_enc h2
  ·exact b8_enc ⟨by omega, by omega⟩
 ·refine b8_map fun v hv => ?_
  obtain ⟨a1, ⟨a2, a3, a4⟩, a5⟩ := h4 v hv
  refine b8_app (b8_app (b8_tx (by omega)) (b8_map fun x hx => ?_)) ?_
  ·simp only [List.mem_cons, List.not_mem_nil, or_false] at hx
   rcases hx with rfl | rfl | rfl <;> exact b8_enc (by assumption)
  ·have f := val_facts a5
   unfold encV
   refine b8_app (b8_enc f.1) ?_
   split
   ·exact b8_enc f.2.1
   ·split
    ·exact b8_tx (by omega)
    ·exact fun b hb => by simp at hb
 ·refine b8_map fun x hx => ?_
  simp only [List.mem_cons, List.not_mem_nil, or_false] at hx
  subst hx
  exact b8_enc ⟨by omega, by omega⟩
 ·refine b8_map fun v hv => b8_map fun x hx => ?_
  obtain ⟨a1, a2, a3⟩ := h6 v hv
  simp only [List.mem_cons, List.not_mem_nil, or_false] at hx
  rcases hx with rfl | rfl | rfl <;> exact b8_enc (by assumption)
 ·refine b8_map fun x hx => ?_
  simp only [List.mem_cons, List.not_mem_nil, or_false] at hx
  subst hx
  exact b8_enc ⟨by omega, by omega⟩
 ·refine b8_map fun v hv => b8_map fun x hx => ?_
  obtain ⟨a1, a2, a3, a4⟩ := h8 v hv
  simp only [List.mem_cons, List.not_mem_nil, or_false] at hx
  rcases hx with rfl | rfl | rfl | rfl <;> exact b8_enc (by assumption)
 ·refine b8_map fun x hx => ?_
  simp only [List.mem_cons, List.not_mem_nil, or_false] at hx
  subst hx
  exact b8_enc ⟨by omega, by omega⟩
 ·refine b8_map fun v hv => ?_
  obtain ⟨⟨a1, a2⟩, a3⟩ := h10 v hv
  refine b8_app (b8_map fun x hx => ?_) (b8_tx (by omega))
  simp only [List.mem_cons, List.not_mem_nil, or_false] at hx
  rcases hx with rfl | rfl <;> exact b8_enc (by assumption)
theorem encQ_ok (p : Prog) : b8 (encQ p) ∧ (encQ p).length ≤ 1000000 := by
 unfold encQ
 split
 ·rename_i h
  refine ⟨b8_P h, ?_⟩
  have l := VP.lens (VP.of h) 100000
  have vp := VP.of h
  have h0 := vp.nv; have h1 := vp.nh; have h2 := vp.no; have h3 := vp.code0
  have e1 := enc_len (p.hs.length : Int)
  have e2 := enc_len (p.os.length : Int)
  have e3 := enc_len (p.code.length : Int)
  rw [List.take_of_length_le (by omega), List.take_of_length_le (by omega), List.take_of_length_le (by omega), List.take_of_length_le (by omega)] at l
  simp only [encP, List.length_append, List.flatMap_cons, List.flatMap_nil, List.append_nil]
  omega
 ·exact ⟨fun b hb => by simp at hb, by simp⟩
theorem fewP_lens {p : Prog} (h : fewP p = true) : p.vars.length ≤ 100000 ∧ p.hs.length ≤ 100000 ∧ p.os.length ≤ 100000 ∧ p.code.length ≤ 100000 := by
 simp only [fewP, Bool.and_eq_true, decide_eq_true_eq] at h
 omega
set_option maxHeartbeats 1000000 in
theorem q5 (h9 : Pure Tryz.prog 9 [] (.bool true)) (h23 : ∀ p : Prog, Pure Tryz.prog 23 [p.av] (.vs 1 ((encQ p).map brow))) (p : Prog) : Pure Tryz.prog 5 [p.av] (.bool true) := by
 have e10 := p10 p
 refine pure_of mo Tryz.func5 c5 (by simp only [flatL, AV.flat, fl_var, fl_hd, fl_of, fl_ins, Bool.and_self]) rfl ?_
 unfold e5 r5
 simp(disch:=omega)only[go_sem,simprocAttr]
 (repeat' first|refine D.S ?_|refine D.JJ true true ?_|refine DJ.nil ?_|refine J.reg0 ?_|refine D.W ?_|refine D.Z ?_|refine D.G ?_ ?_|refine D.X ‹_› ?_|refine D.XO ‹_› ?_|refine D.XS ‹_› ?_|intro h)
 refine D.P (h9) ?_
 (repeat' first|refine D.S ?_|refine D.JJ true true ?_|refine DJ.nil ?_|refine J.reg0 ?_|refine D.W ?_|refine D.Z ?_|refine D.G ?_ ?_|refine D.X ‹_› ?_|refine D.XO ‹_› ?_|refine D.XS ‹_› ?_|intro h)
 refine D.P (e10) ?_
 cases hf : fewP p with
 | false =>
  (repeat' first|refine D.S ?_|refine D.JJ true true ?_|refine DJ.nil ?_|refine J.reg0 ?_|refine D.W ?_|refine D.Z ?_|refine D.G ?_ ?_|refine D.X ‹_› ?_|refine D.XO ‹_› ?_|refine D.XS ‹_› ?_|intro h)
  first|refine D.R ?_|refine D.E ?_
  exact ⟨_, rfl, .wk rfl rfl, trivial, trivial⟩
 | true =>
  obtain ⟨l1, l2, l3, l4⟩ := fewP_lens hf
  have e20 : Pure Tryz.prog 20 [p.av] (.vs 1 ((encQ p).map brow)) := p20 _
  have e22 : Pure Tryz.prog 22 [.vs 1 ((encQ p).map brow), .vs 1 ((encQ p).map brow)] _ := p22 (encQ p) (encQ p)
  obtain ⟨b1, b2⟩ := encQ_ok p
  rw [ofNat_inj b1 b1 rfl] at e22
  have e13 := p13 p
  obtain ⟨m1, m2, m3, m4⟩ := decP_lens (encQ p)
  (repeat' first|refine D.S ?_|refine D.JJ true true ?_|refine DJ.nil ?_|refine J.reg0 ?_|refine D.W ?_|refine D.Z ?_|refine D.G ?_ ?_|refine D.X ‹_› ?_|refine D.XO ‹_› ?_|refine D.XS ‹_› ?_|intro h)
  refine D.P (q12 p l1 l2 l3 l4) ?_
  (repeat' first|refine D.S ?_|refine D.JJ true true ?_|refine DJ.nil ?_|refine J.reg0 ?_|refine D.W ?_|refine D.Z ?_|refine D.G ?_ ?_|refine D.X ‹_› ?_|refine D.XO ‹_› ?_|refine D.XS ‹_› ?_|intro h)
  refine D.P (e20) ?_
  (repeat' first|refine D.S ?_|refine D.JJ true true ?_|refine DJ.nil ?_|refine J.reg0 ?_|refine D.W ?_|refine D.Z ?_|refine D.G ?_ ?_|refine D.X ‹_› ?_|refine D.XO ‹_› ?_|refine D.XS ‹_› ?_|intro h)
  refine D.P (q21 (encQ p) b2 b1) ?_
  (repeat' first|refine D.S ?_|refine DJ.nil ?_|refine D.W ?_|refine D.Z ?_|refine D.G ?_ ?_|refine D.X ‹_› ?_|refine D.XO ‹_› ?_|refine D.XS ‹_› ?_|intro h)
  refine J.seq ?_
  cases hv : validP p with
  | false =>
   rw [hv] at e13
   refine J.reg (anns := [.vs 1 ((encQ p).map brow), .bool true, .bool false, .undef, .undef]) ?_
   (repeat' first|refine D.S ?_|refine DJ.nil ?_|refine D.W ?_|refine D.Z ?_|refine D.G ?_ ?_|refine D.X ‹_› ?_|refine D.XO ‹_› ?_|refine D.XS ‹_› ?_|intro h)
   refine D.PC (h23 p) ?_
   (repeat' first|refine D.S ?_|refine DJ.nil ?_|refine D.W ?_|refine D.Z ?_|refine D.G ?_ ?_|refine D.X ‹_› ?_|refine D.XO ‹_› ?_|refine D.XS ‹_› ?_|intro h)
   refine D.PC e22 ?_
   (repeat' first|refine D.S ?_|refine DJ.nil ?_|refine D.W ?_|refine D.Z ?_|refine D.G ?_ ?_|refine D.X ‹_› ?_|refine D.XO ‹_› ?_|refine D.XS ‹_› ?_|intro h)
   refine D.PC e13 ?_
   (repeat' first|refine D.S ?_|refine DJ.nil ?_|refine D.W ?_|refine D.Z ?_|refine D.G ?_ ?_|refine D.X ‹_› ?_|refine D.XO ‹_› ?_|refine D.XS ‹_› ?_|intro h)
   (repeat' first|refine D.S ?_|refine D.JJ true true ?_|refine DJ.nil ?_|refine J.reg0 ?_|refine D.W ?_|refine D.Z ?_|refine D.G ?_ ?_|refine D.X ‹_› ?_|refine D.XO ‹_› ?_|refine D.XS ‹_› ?_|intro h)
   first|refine D.R ?_|refine D.E ?_
   exact ⟨_, rfl, .wk rfl rfl, trivial, trivial⟩
  | true =>
   rw [hv] at e13
   have hd : decP (encQ p) = (p, 0) := by unfold encQ; rw [if_pos hv]; exact dec_enc hv
   rw [hd] at *
   have e15 := p15 p p
   rw [(sameP_iff _ _).2 rfl] at e15
   refine J.reg (anns := [.vs 1 ((encQ p).map brow), .bool true, .bool true, p.av, .bool true]) ?_
   (repeat' first|refine D.S ?_|refine DJ.nil ?_|refine D.W ?_|refine D.Z ?_|refine D.G ?_ ?_|refine D.X ‹_› ?_|refine D.XO ‹_› ?_|refine D.XS ‹_› ?_|intro h)
   refine D.PC (h23 p) ?_
   (repeat' first|refine D.S ?_|refine DJ.nil ?_|refine D.W ?_|refine D.Z ?_|refine D.G ?_ ?_|refine D.X ‹_› ?_|refine D.XO ‹_› ?_|refine D.XS ‹_› ?_|intro h)
   refine D.PC e22 ?_
   (repeat' first|refine D.S ?_|refine DJ.nil ?_|refine D.W ?_|refine D.Z ?_|refine D.G ?_ ?_|refine D.X ‹_› ?_|refine D.XO ‹_› ?_|refine D.XS ‹_› ?_|intro h)
   refine D.PC e13 ?_
   (repeat' first|refine D.S ?_|refine DJ.nil ?_|refine D.W ?_|refine D.Z ?_|refine D.G ?_ ?_|refine D.X ‹_› ?_|refine D.XO ‹_› ?_|refine D.XS ‹_› ?_|intro h)
   refine D.PC (q24 p l1 l2 l3 l4) ?_
   (repeat' first|refine D.S ?_|refine DJ.nil ?_|refine D.W ?_|refine D.Z ?_|refine D.G ?_ ?_|refine D.X ‹_› ?_|refine D.XO ‹_› ?_|refine D.XS ‹_› ?_|intro h)
   refine D.PC e15 ?_
   (repeat' first|refine D.S ?_|refine DJ.nil ?_|refine D.W ?_|refine D.Z ?_|refine D.G ?_ ?_|refine D.X ‹_› ?_|refine D.XO ‹_› ?_|refine D.XS ‹_› ?_|intro h)
   (repeat' first|refine D.S ?_|refine D.JJ true true ?_|refine DJ.nil ?_|refine J.reg0 ?_|refine D.W ?_|refine D.Z ?_|refine D.G ?_ ?_|refine D.X ‹_› ?_|refine D.XO ‹_› ?_|refine D.XS ‹_› ?_|intro h)
   first|refine D.R ?_|refine D.E ?_
   exact ⟨_, rfl, .wk rfl rfl, trivial, trivial⟩
end Go.Aw.T.N
