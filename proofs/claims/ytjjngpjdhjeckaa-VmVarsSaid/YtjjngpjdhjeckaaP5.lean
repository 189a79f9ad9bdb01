/- Part of a proof; own work. -/
import Derived.Test.YtjjngpjdhjeckaaP1
import Derived.Test.YtjjngpjdhjeckaaP2
import Derived.Test.YtjjngpjdhjeckaaP3
import Derived.Test.YtjjngpjdhjeckaaP4
import Derived.Test.YtjjngpjdhjeckaaK
import Derived.Test.YtjjngpjdhjeckaaC6
namespace Go.Aw.T
open Go Go.Aw Go.Proofs Go.RowKit
set_option maxRecDepth 100000
attribute [local irreducible] Go.Aw.DM Go.Aw.AHeap.setB Go.Aw.AHeap.setT
attribute [local go_sem] peval EOpd.ev Env.get binInt binStr binBool buildParts AV.cells AV.okc setRange minmaxAV AV.one AV.ofCells eqCells eqCell bslRows cond_true cond_false beq_self_eq_true Bool.not_true Bool.not_false beq_true beq_false eq_self if_true Option.some.injEq List.length_cons List.length_nil List.take_succ_cons List.take_zero List.drop_succ_cons List.drop_zero List.set_cons_succ List.set_cons_zero List.nil_append List.cons_append List.append_nil and_self Option.map_some List.map_cons List.map_nil Bool.false_eq_true if_false Nat.zero_add Nat.add_zero true_and and_true Bool.and_true Bool.true_and List.getElem?_cons_zero List.getElem?_cons_succ Nat.zero_le Nat.le_refl
set_option linter.unusedSimpArgs false
set_option linter.unusedVariables false
theorem p57 (xs : List Val) (hl : xs.length ≤ 1000) : PureM Try.prog 57 [.vs 3 (xs.map Val.row)] 70 3 (xs.map Val.row) := by
  refine pureM_intro mo Try.func57 c57 (by decide) fun H => ?_
  have tail : ∀ (env : Env), env.get 0 = .vs 3 (xs.map Val.row) → AM Try.prog r57 (fun o H' => HSub H H' ∧ ((∃ t ver, o = .ret (.ms t ver) ∧ H'.tok t = some (.mu 70 3 ver (xs.map Val.row)) ∧ H.tok t = none) ∨ (o = .ret .nilS ∧ xs.map Val.row = [])))
      [.c (.region [⟨some 5, none, .bsliceM 70 3 0 [.int .i64 0, .int .i64 0, .str []] []⟩, ⟨some 6, none, .mv (.t 0)⟩, ⟨some 7, none, .appendM 70 3 32 (.t 5) (.t 6)⟩, ⟨some 2, none, .mv (.t 7)⟩] false), .c .ret] env H := by
    intro env he
    unfold r57
    repeat' first | apply AM.seq | apply AM.block | apply AM.skip | apply AM.blkEnd | refine AM.exit rfl ?_ | (apply AM.reg []; simp only [annotate]) | apply DM.nil | refine DM.g1 rfl ?_ | refine DM.g0s (t' := true) rfl rfl ?_ | refine DM.g0s (t' := false) rfl rfl ?_ | refine DM.gus rfl ?_ | ((first | apply DM.ldm1 | apply DM.ldmA | apply DM.bxA | apply DM.al | apply DM.stE | apply DM.ixP | apply DM.lnM | apply DM.fdM | apply DM.bsl | apply DM.p); (repeat first | (change _ = _; first | exact setB_setB | (simp only [go_sem, Nat.reduceBEq, Nat.reduceAdd, Nat.reduceLeDiff, reduceIte] <;> rfl) | rfl | focus ((repeat' first | exact g_same | refine g_ne ‹_› ?_ | refine g_fresh ‹_› ?_ | refine g_T ?_ | exact t_same | refine t_ne ‹_› ?_ | refine t_fresh ‹_› ?_ | refine t_B ?_ | assumption); done)) | exact RD.r | apply RD.p | exact Nat.le_of_ble_eq_true rfl | decide); first | change DM _ _ _ _ _ _ | (intro b hb; repeat first | (refine fresh_elim hb ?_; intro _ _ hb) | (refine fresh_elimT hb ?_; intro hb))) | apply AM.condT rfl | apply AM.condF rfl | (apply DM.gbT; rfl) | (apply DM.gbF; rfl) | intro h
    apply DM.bslM (rows := [])
    · rfl
    · rfl
    · rfl
    · decide
    intro t ht
    apply DM.p
    · simp only [peval, EOpd.ev, Env.get, Nat.reduceBEq, cond_true, cond_false, beq_self_eq_true, he] <;> rfl
    apply DM.apM
    · simp only [EOpd.ev, Env.get, Nat.reduceBEq, cond_true, cond_false, beq_self_eq_true] <;> rfl
    · exact t_same
    · simp only [rowsOf, reduceIte, if_true, eq_self, EOpd.ev, Env.get, Nat.reduceBEq, cond_true, cond_false, beq_self_eq_true] <;> rfl
    · simp only [List.length_map, List.length_nil]; omega
    · simp only [List.length_map, List.length_nil, maxLen]; omega
    rw [setT_setT]
    repeat' first | apply AM.seq | apply AM.block | apply AM.skip | apply AM.blkEnd | refine AM.exit rfl ?_ | (apply AM.reg []; simp only [annotate]) | apply DM.nil | refine DM.g1 rfl ?_ | refine DM.g0s (t' := true) rfl rfl ?_ | refine DM.g0s (t' := false) rfl rfl ?_ | refine DM.gus rfl ?_ | ((first | apply DM.ldm1 | apply DM.ldmA | apply DM.bxA | apply DM.al | apply DM.stE | apply DM.ixP | apply DM.lnM | apply DM.fdM | apply DM.bsl | apply DM.p); (repeat first | (change _ = _; first | exact setB_setB | (simp only [go_sem, Nat.reduceBEq, Nat.reduceAdd, Nat.reduceLeDiff, reduceIte] <;> rfl) | rfl | focus ((repeat' first | exact g_same | refine g_ne ‹_› ?_ | refine g_fresh ‹_› ?_ | refine g_T ?_ | exact t_same | refine t_ne ‹_› ?_ | refine t_fresh ‹_› ?_ | refine t_B ?_ | assumption); done)) | exact RD.r | apply RD.p | exact Nat.le_of_ble_eq_true rfl | decide); first | change DM _ _ _ _ _ _ | (intro b hb; repeat first | (refine fresh_elim hb ?_; intro _ _ hb) | (refine fresh_elimT hb ?_; intro hb))) | apply AM.condT rfl | apply AM.condF rfl | (apply DM.gbT; rfl) | (apply DM.gbF; rfl) | intro h
    refine AM.ret (v := .ms t 1) (by simp only [Aw.results, ERes.ev, Env.get, Nat.reduceBEq, cond_true, cond_false, beq_self_eq_true]) ⟨HSub.setT (HSub.refl _) ht, .inl ⟨t, 1, rfl, t_same, ht⟩⟩
  unfold e57
  simp only [initEnv, initFrom]
  repeat' first | apply AM.seq | apply AM.block | apply AM.skip | apply AM.blkEnd | refine AM.exit rfl ?_ | (apply AM.reg []; simp only [annotate]) | apply DM.nil | refine DM.g1 rfl ?_ | refine DM.g0s (t' := true) rfl rfl ?_ | refine DM.g0s (t' := false) rfl rfl ?_ | refine DM.gus rfl ?_ | ((first | apply DM.ldm1 | apply DM.ldmA | apply DM.bxA | apply DM.al | apply DM.stE | apply DM.ixP | apply DM.lnM | apply DM.fdM | apply DM.bsl | apply DM.p); (repeat first | (change _ = _; first | exact setB_setB | (simp only [go_sem, Nat.reduceBEq, Nat.reduceAdd, Nat.reduceLeDiff, reduceIte] <;> rfl) | rfl | focus ((repeat' first | exact g_same | refine g_ne ‹_› ?_ | refine g_fresh ‹_› ?_ | refine g_T ?_ | exact t_same | refine t_ne ‹_› ?_ | refine t_fresh ‹_› ?_ | refine t_B ?_ | assumption); done)) | exact RD.r | apply RD.p | exact Nat.le_of_ble_eq_true rfl | decide); first | change DM _ _ _ _ _ _ | (intro b hb; repeat first | (refine fresh_elim hb ?_; intro _ _ hb) | (refine fresh_elimT hb ?_; intro hb))) | apply AM.condT rfl | apply AM.condF rfl | (apply DM.gbT; rfl) | (apply DM.gbF; rfl) | intro h
  cases xs with
  | cons a xs =>
    apply DM.isF
    · simp only [EOpd.ev, Env.get, Nat.reduceBEq, cond_true, cond_false, beq_self_eq_true] <;> rfl
    · simp
    refine DM.nil ?_
    refine AM.condF ?_ ?_
    · simp only [EOpd.ev, Env.get, Nat.reduceBEq, cond_true, cond_false, beq_self_eq_true]
    refine AM.skip ?_
    refine AM.seq ?_
    refine tail _ ?_
    simp only [Env.get, Nat.reduceBEq, cond_true, cond_false, beq_self_eq_true]
  | nil =>
    apply DM.isU
    · simp only [EOpd.ev, Env.get, Nat.reduceBEq, cond_true, cond_false, beq_self_eq_true] <;> rfl
    intro b
    refine DM.nil ?_
    cases b with
    | true =>
      refine AM.condT ?_ ?_
      · simp only [EOpd.ev, Env.get, Nat.reduceBEq, cond_true, cond_false, beq_self_eq_true]
      unfold r57
      repeat' first | apply AM.seq | apply AM.block | apply AM.skip | apply AM.blkEnd | refine AM.exit rfl ?_ | (apply AM.reg []; simp only [annotate]) | apply DM.nil | refine DM.g1 rfl ?_ | refine DM.g0s (t' := true) rfl rfl ?_ | refine DM.g0s (t' := false) rfl rfl ?_ | refine DM.gus rfl ?_ | ((first | apply DM.ldm1 | apply DM.ldmA | apply DM.bxA | apply DM.al | apply DM.stE | apply DM.ixP | apply DM.lnM | apply DM.fdM | apply DM.bsl | apply DM.p); (repeat first | (change _ = _; first | exact setB_setB | (simp only [go_sem, Nat.reduceBEq, Nat.reduceAdd, Nat.reduceLeDiff, reduceIte] <;> rfl) | rfl | focus ((repeat' first | exact g_same | refine g_ne ‹_› ?_ | refine g_fresh ‹_› ?_ | refine g_T ?_ | exact t_same | refine t_ne ‹_› ?_ | refine t_fresh ‹_› ?_ | refine t_B ?_ | assumption); done)) | exact RD.r | apply RD.p | exact Nat.le_of_ble_eq_true rfl | decide); first | change DM _ _ _ _ _ _ | (intro b hb; repeat first | (refine fresh_elim hb ?_; intro _ _ hb) | (refine fresh_elimT hb ?_; intro hb))) | apply AM.condT rfl | apply AM.condF rfl | (apply DM.gbT; rfl) | (apply DM.gbF; rfl) | intro h
      exact AM.ret (v := .nilS) (by simp only [Aw.results, ERes.ev, Env.get, Nat.reduceBEq, cond_true, cond_false, beq_self_eq_true]) ⟨HSub.refl _, .inr ⟨rfl, rfl⟩⟩
    | false =>
      refine AM.condF ?_ ?_
      · simp only [EOpd.ev, Env.get, Nat.reduceBEq, cond_true, cond_false, beq_self_eq_true]
      refine AM.skip ?_
      refine AM.seq ?_
      refine tail _ ?_
      simp only [Env.get, Nat.reduceBEq, cond_true, cond_false, beq_self_eq_true]
end Go.Aw.T

namespace Go.Aw.T
open Go Go.Aw Go.Proofs Go.RowKit
set_option maxRecDepth 100000
attribute [local irreducible] Go.Aw.DM Go.Aw.AHeap.setB Go.Aw.AHeap.setT
attribute [local go_sem] peval EOpd.ev Env.get binInt binStr binBool buildParts AV.cells AV.okc setRange minmaxAV AV.one AV.ofCells eqCells eqCell bslRows cond_true cond_false beq_self_eq_true Bool.not_true Bool.not_false beq_true beq_false eq_self if_true Option.some.injEq List.length_cons List.length_nil List.take_succ_cons List.take_zero List.drop_succ_cons List.drop_zero List.set_cons_succ List.set_cons_zero List.nil_append List.cons_append List.append_nil and_self Option.map_some List.map_cons List.map_nil Bool.false_eq_true if_false Nat.zero_add Nat.add_zero true_and and_true Bool.and_true Bool.true_and List.getElem?_cons_zero List.getElem?_cons_succ Nat.zero_le Nat.le_refl
set_option linter.unusedSimpArgs false
set_option linter.unusedVariables false
structure Res where
  stack : List Val
  vars : List Val
  used : Int
  err : Int
abbrev Res.av (r : Res) : AV := .tup [.agg [.vs 3 (r.stack.map Val.row), .vs 3 (r.vars.map Val.row), .int .i64 r.used], .int .i64 r.err]
def runF (p : Prog) (ps : List Val) : Nat → Mach → Nat → Res
  | fuel, M, used =>
    if M.dn then ⟨M.stack, M.vars, used, 0⟩
    else if (p.code.length : Int) ≤ M.pc then ⟨[], [], 0, 25⟩
    else match fuel with
      | 0 => ⟨[], [], 0, 26⟩
      | fuel + 1 => if (stepM p ps M).tr then ⟨[], [], 0, 25⟩ else runF p ps fuel (stepM p ps M) (used + 1)
def mach0 (vars : List Val) (entry : Int) : Mach := ⟨[], vars, [], entry, false, false⟩
def badArgs (p : Prog) (entry : Int) (vars ps : List Val) : Bool := !(soundP p vars) || decide (entry < 0) || decide ((p.code.length : Int) ≤ entry) || decide (4 < ps.length) || ps.any fun v => !(validV v)
def runP (p : Prog) (entry : Int) (vars ps : List Val) (steps : Int) : Res := if badArgs p entry vars ps then ⟨[], [], 0, 1⟩ else runF p ps steps.toNat (mach0 vars entry) 0
structure Inv (p : Prog) (M : Mach) : Prop where
  st : M.stack.length ≤ 16
  str : ∀ v ∈ M.stack, v.s.length ≤ 1000
  vstr : ∀ v ∈ M.vars, v.s.length ≤ 1000
  ll : M.loops.length ≤ 4
  vl : M.vars.length = p.vars.length
  p0 : 0 ≤ M.pc
  p1 : M.pc ≤ p.code.length
theorem push_inv {p : Prog} {M : Mach} {v : Val} (h : Inv p M) (hv : v.s.length ≤ 1000) : Inv p (push v M) := by
  unfold push
  split
  · exact ⟨h.st, h.str, h.vstr, h.ll, h.vl, h.p0, h.p1⟩
  · refine ⟨by simp; omega, fun u hu => ?_, h.vstr, h.ll, h.vl, h.p0, h.p1⟩
    simp only [List.mem_append, List.mem_singleton] at hu
    rcases hu with hu | rfl
    · exact h.str u hu
    · exact hv
theorem pop_inv {p : Prog} {M : Mach} {k : Int} (h : Inv p M) : Inv p (pop k M).2 ∧ (pop k M).1.s.length ≤ 1000 := by
  have hs := pop_s (k := k) h.str
  refine ⟨?_, hs.1⟩
  have h2 := hs.2
  unfold pop at h2 ⊢
  split at h2
  · rw [if_pos (by assumption)]; exact ⟨h.st, h.str, h.vstr, h.ll, h.vl, h.p0, h.p1⟩
  · rw [if_neg (by assumption)]; exact ⟨by simp; have := h.st; omega, h2, h.vstr, h.ll, h.vl, h.p0, h.p1⟩
theorem result_inv {p : Prog} {M : Mach} {n : Int} (h : Inv p M) : Inv p (result n M) := by
  unfold result
  split
  · exact h
  · exact push_inv h (by simp)
theorem texts_inv {p : Prog} {M : Mach} {op : Int} (h : Inv p M) : Inv p (textsM op M) := by
  unfold textsM
  split
  · exact result_inv (pop_inv (pop_inv h).1).1
  · split
    · split
      · exact (pop_inv (pop_inv h).1).1
      · exact push_inv (pop_inv (pop_inv h).1).1 (by rw [List.length_take]; omega)
    · split
      · exact result_inv (pop_inv h).1
      · exact h
theorem arith_inv {p : Prog} {M : Mach} {op : Int} (h : Inv p M) : Inv p (arithM op M) := result_inv (pop_inv (pop_inv h).1).1
theorem clamp_len {s : Sort_} {v : Val} (hv : v.s.length ≤ 1000) : (clampV s v).1.s.length ≤ 1000 := by
  unfold clampV
  split
  · simp
  · rename_i h1
    split
    · simp
    · split
      · exact hv
      · rename_i h2 h3
        simp only [Bool.not_eq_false, Bool.and_eq_true] at h1
        have hk : s.k = v.k := by simpa using h2
        have : s.lo ≤ 40 ∧ s.hi ≤ 40 := by
          have := h1.1
          simp [validS] at this
          rw [hk] at this
          omega
        simp only [clampText, List.length_append, List.length_take, List.length_replicate]
        omega
theorem store_inv {p : Prog} {M : Mach} {s : Sort_} {n : Nat} (h : Inv p M) : Inv p (storeM s n M) := by
  have h1 := pop_inv (k := s.k) h
  have hi := h1.1
  unfold storeM
  split
  · exact hi
  · split
    · refine ⟨hi.st, hi.str, fun v hv => ?_, hi.ll, by simp; exact h.vl, hi.p0, hi.p1⟩
      rcases List.mem_or_eq_of_mem_set hv with hv | rfl
      · exact h.vstr v hv
      · exact clamp_len h1.2
    · exact ⟨hi.st, hi.str, hi.vstr, hi.ll, hi.vl, hi.p0, hi.p1⟩
theorem jump_ok {p : Prog} {x : Ins_} (hv : validP p = true) (hx : x ∈ p.code) : okIns p x = true := by
  obtain ⟨i, hi⟩ := List.getElem?_of_mem hx
  have hlt := (List.getElem?_eq_some_iff.1 hi).1
  simp only [validP, Bool.and_eq_true] at hv
  have := hv.2
  simp only [allI, List.all_eq_true, List.mem_range] at this
  have := this i hlt
  simpa [okIx, hi] using this
theorem control_inv {p : Prog} {M : Mach} {x : Ins_} (hv : validP p = true) (hx : x ∈ p.code) (h : Inv p M) : Inv p (controlM x M) := by
  have hok := jump_ok hv hx
  have ht : x.op = 19 ∨ x.op = 20 ∨ x.op = 22 → 0 ≤ x.n ∧ x.n ≤ p.code.length := by
    intro hop
    simp only [okIns, Bool.and_eq_true] at hok
    have := hok.2
    rw [if_neg (by omega), if_pos hop] at this
    simp [Prog.target, inB] at this
    omega
  unfold controlM
  split
  · have := ht (.inl (by assumption))
    exact ⟨h.st, h.str, h.vstr, h.ll, h.vl, this.1, this.2⟩
  · split
    · have := ht (.inr (.inl (by assumption)))
      have h1 := (pop_inv (k := 1) h).1
      split
      · exact ⟨h1.st, h1.str, h1.vstr, h1.ll, h1.vl, this.1, this.2⟩
      · exact h1
    · split
      · split
        · exact ⟨h.st, h.str, h.vstr, h.ll, h.vl, h.p0, h.p1⟩
        · exact ⟨h.st, h.str, h.vstr, by simp; omega, h.vl, h.p0, h.p1⟩
      · split
        · have := ht (.inr (.inr (by assumption)))
          split
          · exact ⟨h.st, h.str, h.vstr, h.ll, h.vl, h.p0, h.p1⟩
          · rename_i k hk
            have hne : M.loops.length ≠ 0 := fun e => by rw [List.eq_nil_of_length_eq_zero e] at hk; simp at hk
            have hll := h.ll
            split
            · exact ⟨h.st, h.str, h.vstr, by simp; omega, h.vl, this.1, this.2⟩
            · exact ⟨h.st, h.str, h.vstr, by simp; omega, h.vl, h.p0, h.p1⟩
        · split
          · split
            · exact ⟨h.st, h.str, h.vstr, h.ll, h.vl, h.p0, h.p1⟩
            · exact ⟨h.st, h.str, h.vstr, by simp; have := h.ll; omega, h.vl, h.p0, h.p1⟩
          · split
            · exact ⟨h.st, h.str, h.vstr, h.ll, h.vl, h.p0, h.p1⟩
            · exact h
theorem code_len {p : Prog} (hv : validP p = true) : p.code.length ≤ 1000 := by
  simp [validP, inB] at hv
  omega
theorem insOk {p : Prog} {x : Ins_} (hv : validP p = true) (hx : x ∈ p.code) : InsOk p x := by
  have hok := jump_ok hv hx
  simp only [okIns, Bool.and_eq_true] at hok
  obtain ⟨h1, h2⟩ := hok
  refine ⟨fun hop => ?_, fun hop => ?_⟩
  · rw [if_pos hop] at h2
    have : (numd x.op) = (0, 11, true) := by rcases hop with h | h <;> simp [numd, h]
    rw [formed, if_neg (by omega), this] at h1
    simp [inB] at h1 h2
    omega
  · have : (numd x.op) = (0, 3, true) := by simp [numd, hop]
    rw [formed, if_neg (by omega), this] at h1
    simp [inB] at h1
    omega
theorem step_inv {p : Prog} {ps : List Val} {M : Mach} {i : Nat} {x : Ins_} (hv : validP p = true) (hp : ∀ v ∈ ps, v.s.length ≤ 1000) (h : Inv p M) (hi : M.pc = (i : Int)) (hx : p.code[i]? = some x) : Inv p (stepM p ps M) := by
  have hlt := (List.getElem?_eq_some_iff.1 hx).1
  have hcl := code_len hv
  have hm := List.mem_of_getElem? hx
  have hW : W (M.pc + 1) = M.pc + 1 := wrap64 (by omega) (by omega)
  have e0 : stepM p ps M = stepX p ps x { M with pc := W (M.pc + 1) } := by simp [stepM, hi, hx]
  rw [e0]
  have hN : Inv p { M with pc := W (M.pc + 1) } := ⟨h.st, h.str, h.vstr, h.ll, h.vl, by show 0 ≤ W _; rw [hW]; omega, by show W _ ≤ _; rw [hW]; omega⟩
  generalize hM : ({ M with pc := W (M.pc + 1) } : Mach) = N at *
  unfold stepX
  split
  · exact push_inv hN (by simp)
  · split
    · refine push_inv hN ?_
      have := jump_ok hv hm
      simp only [okIns, Bool.and_eq_true] at this
      have := this.1
      rw [formed, if_pos (by assumption)] at this
      simp [validV] at this
      show x.s.length ≤ 1000
      omega
    · split
      · refine push_inv hN ?_
        cases hu : N.vars[x.n.toNat]? with
        | none => simp
        | some u => exact hN.vstr u (List.mem_of_getElem? hu)
      · split
        · split
          · exact ⟨hN.st, hN.str, hN.vstr, hN.ll, hN.vl, hN.p0, hN.p1⟩
          · rename_i u hu
            exact push_inv hN (hp u (List.mem_of_getElem? hu))
        · split
          · split
            · exact hN
            · exact store_inv hN
          · split
            · exact result_inv (pop_inv hN).1
            · split
              · exact result_inv (pop_inv hN).1
              · split
                · exact texts_inv hN
                · split
                  · exact arith_inv hN
                  · exact control_inv hv hm hN
end Go.Aw.T

namespace Go.Aw.T
open Go Go.Aw Go.Proofs Go.RowKit
set_option maxRecDepth 100000
attribute [local irreducible] Go.Aw.DM Go.Aw.AHeap.setB Go.Aw.AHeap.setT
attribute [local go_sem] peval EOpd.ev Env.get binInt binStr binBool buildParts AV.cells AV.okc setRange minmaxAV AV.one AV.ofCells eqCells eqCell bslRows cond_true cond_false beq_self_eq_true Bool.not_true Bool.not_false beq_true beq_false eq_self if_true Option.some.injEq List.length_cons List.length_nil List.take_succ_cons List.take_zero List.drop_succ_cons List.drop_zero List.set_cons_succ List.set_cons_zero List.nil_append List.cons_append List.append_nil and_self Option.map_some List.map_cons List.map_nil Bool.false_eq_true if_false Nat.zero_add Nat.add_zero true_and and_true Bool.and_true Bool.true_and List.getElem?_cons_zero List.getElem?_cons_succ Nat.zero_le Nat.le_refl
set_option linter.unusedSimpArgs false
set_option linter.unusedVariables false
theorem valid_len {v : Val} (h : validV v = true) : v.s.length ≤ 1000 := by
  simp [validV] at h
  rcases h with h | h
  · rw [h.2]; simp
  · omega
theorem eqF_all {α β : Type} {q : α → β → Bool} {r : β → Prop} (hq : ∀ a b, q a b = true → r b) : ∀ {l : List α} {m : List β}, eqF q l m = true → l.length = m.length ∧ ∀ b ∈ m, r b
  | [], [], _ => by simp
  | [], _ :: _, h => by simp [eqF] at h
  | _ :: _, [], h => by simp [eqF] at h
  | a :: l, b :: m, h => by
    simp only [eqF, Bool.and_eq_true] at h
    obtain ⟨h1, h2⟩ := eqF_all hq h.2
    exact ⟨by simp [h1], fun c hc => by rcases List.mem_cons.1 hc with rfl | hc; exact hq a c h.1; exact h2 c hc⟩
theorem sound_len {p : Prog} {vars : List Val} (h : soundP p vars = true) : validP p = true ∧ vars.length = p.vars.length ∧ (∀ v ∈ vars, v.s.length ≤ 1000) ∧ vars.length ≤ 12 := by
  simp only [soundP, Bool.and_eq_true] at h
  obtain ⟨h1, h2⟩ := h
  obtain ⟨h3, h4⟩ := eqF_all (r := fun v : Val => v.s.length ≤ 1000) (fun a b hab => by
    simp only [fitsV, Bool.and_eq_true] at hab
    exact valid_len hab.1.1.1.2) h2
  refine ⟨h1, h3.symm, h4, ?_⟩
  simp [validP, varsOk] at h1
  omega
theorem errLe (e : Int) : AVLe (.tup [.agg [.nilS, .nilS, .int .i64 0], .int .i64 e]) (⟨[], [], 0, e⟩ : Res).av :=
  avle_tup (avles_cons (avle_agg (avles_cons AVLe.nil (avles_cons AVLe.nil (avles_cons (AVLe.refl _) avles_nil)))) (avles_cons (AVLe.refl _) avles_nil))
theorem AM.retF {P : Program} {rs : List ERes} {k : List Item} {env : Env} {H0 H : AHeap} {q r : AV} (hv : Aw.results rs env H = some q) (hs : HSub H0 H) (hf : Frz H H0 q r) : AM P rs (fun o H' => ∃ a, o = .ret a ∧ HSub H0 H' ∧ Frz H' H0 a r) (.c .ret :: k) env H :=
  AM.ret hv ⟨_, rfl, hs, hf⟩
theorem hm_sub {H H0 : AHeap} {ρ : Ref} {p : Prog} {ps : List Val} {M : Mach} {vs vl : Nat} (h : HSub H H0) (hb : H.blk ρ.b = none) (hs : H.tok ρ.ts = none) (hl : H.tok ρ.tl = none) (hv : H.tok ρ.tv = none) : HSub H (HM H0 ρ p ps M vs vl) where
  blk := fun x y hx => hm_old (fun e => by subst e; rw [hb] at hx; cases hx) (h.blk x y hx)
  tok := fun x y hx => hm_oldT (fun e => by subst e; rw [hs] at hx; cases hx) (fun e => by subst e; rw [hl] at hx; cases hx) (fun e => by subst e; rw [hv] at hx; cases hx) (h.tok x y hx)
theorem p26 (p : Prog) (entry : Int) (vars ps : List Val) (steps : Int) (hR : RepeatOk ∨ ∀ w ∈ p.vars, w.sort.k ≠ 2) (hst : steps ≤ 9223372036854775806) : Pure Try.prog 26 [p.av, .int .i64 entry, .vs 3 (vars.map Val.row), .vs 3 (ps.map Val.row), .int .i64 steps] (runP p entry vars ps steps).av := by
  refine pure_introF mo Try.func26 c26 fun H => ?_
  have bad : badArgs p entry vars ps = true → AVLe (.tup [.agg [.nilS, .nilS, .int .i64 0], .int .i64 1]) (runP p entry vars ps steps).av := fun h => by
    rw [runP, if_pos h]; exact errLe 1
  unfold e26 r26
  simp only [initEnv, initFrom]
  repeat' first | apply AM.seq | apply AM.block | apply AM.skip | apply AM.blkEnd | refine AM.exit rfl ?_ | (apply AM.reg (draw := false) []; simp only [annotate]) | apply DM.nil | refine DM.g1 rfl ?_ | refine DM.g0s (t' := true) rfl rfl ?_ | refine DM.g0s (t' := false) rfl rfl ?_ | refine DM.gus rfl ?_ | ((first | apply DM.ldm1 | apply DM.ldmA | apply DM.bxA | apply DM.al | apply DM.stE | apply DM.ixP | apply DM.lnM | apply DM.fdM | apply DM.bsl | apply DM.p); (repeat first | (change _ = _; first | exact setB_setB | (simp only [go_sem, Nat.reduceBEq, Nat.reduceAdd, Nat.reduceLeDiff, reduceIte] <;> rfl) | rfl | focus ((repeat' first | exact g_same | refine g_ne ‹_› ?_ | refine g_fresh ‹_› ?_ | refine g_T ?_ | exact t_same | refine t_ne ‹_› ?_ | refine t_fresh ‹_› ?_ | refine t_B ?_ | assumption); done)) | exact RD.r | apply RD.p | exact Nat.le_of_ble_eq_true rfl | decide); first | change DM _ _ _ _ _ _ | (intro b hb; repeat first | (refine fresh_elim hb ?_; intro _ _ hb) | (refine fresh_elimT hb ?_; intro hb))) | apply AM.condT rfl | apply AM.condF rfl | (apply DM.gbT; rfl) | (apply DM.gbF; rfl) | intro h
  rename_i bp hbp hbr0 nrp npr
  rename Nat => br
  (apply DM.pcs (p28 p vars); (· simp only [go_sem, Nat.reduceBEq, Nat.reduceAdd] <;> rfl); (· exact AVLes.refl _))
  repeat' first | apply AM.seq | apply AM.block | apply AM.skip | apply AM.blkEnd | refine AM.exit rfl ?_ | (apply AM.reg (draw := false) []; simp only [annotate]) | apply DM.nil | refine DM.g1 rfl ?_ | refine DM.g0s (t' := true) rfl rfl ?_ | refine DM.g0s (t' := false) rfl rfl ?_ | refine DM.gus rfl ?_ | ((first | apply DM.ldm1 | apply DM.ldmA | apply DM.bxA | apply DM.al | apply DM.stE | apply DM.ixP | apply DM.lnM | apply DM.fdM | apply DM.bsl | apply DM.p); (repeat first | (change _ = _; first | exact setB_setB | (simp only [go_sem, Nat.reduceBEq, Nat.reduceAdd, Nat.reduceLeDiff, reduceIte] <;> rfl) | rfl | focus ((repeat' first | exact g_same | refine g_ne ‹_› ?_ | refine g_fresh ‹_› ?_ | refine g_T ?_ | exact t_same | refine t_ne ‹_› ?_ | refine t_fresh ‹_› ?_ | refine t_B ?_ | assumption); done)) | exact RD.r | apply RD.p | exact Nat.le_of_ble_eq_true rfl | decide); first | change DM _ _ _ _ _ _ | (intro b hb; repeat first | (refine fresh_elim hb ?_; intro _ _ hb) | (refine fresh_elimT hb ?_; intro hb))) | apply AM.condT rfl | apply AM.condF rfl | (apply DM.gbT; rfl) | (apply DM.gbF; rfl) | intro h
  · (apply DM.pcs (p56 ps); (· simp only [go_sem, Nat.reduceBEq, Nat.reduceAdd] <;> rfl); (· exact AVLes.refl _))
    repeat' first | apply AM.seq | apply AM.block | apply AM.skip | apply AM.blkEnd | refine AM.exit rfl ?_ | (apply AM.reg (draw := false) []; simp only [annotate]) | apply DM.nil | refine DM.g1 rfl ?_ | refine DM.g0s (t' := true) rfl rfl ?_ | refine DM.g0s (t' := false) rfl rfl ?_ | refine DM.gus rfl ?_ | ((first | apply DM.ldm1 | apply DM.ldmA | apply DM.bxA | apply DM.al | apply DM.stE | apply DM.ixP | apply DM.lnM | apply DM.fdM | apply DM.bsl | apply DM.p); (repeat first | (change _ = _; first | exact setB_setB | (simp only [go_sem, Nat.reduceBEq, Nat.reduceAdd, Nat.reduceLeDiff, reduceIte] <;> rfl) | rfl | focus ((repeat' first | exact g_same | refine g_ne ‹_› ?_ | refine g_fresh ‹_› ?_ | refine g_T ?_ | exact t_same | refine t_ne ‹_› ?_ | refine t_fresh ‹_› ?_ | refine t_B ?_ | assumption); done)) | exact RD.r | apply RD.p | exact Nat.le_of_ble_eq_true rfl | decide); first | change DM _ _ _ _ _ _ | (intro b hb; repeat first | (refine fresh_elim hb ?_; intro _ _ hb) | (refine fresh_elimT hb ?_; intro hb))) | apply AM.condT rfl | apply AM.condF rfl | (apply DM.gbT; rfl) | (apply DM.gbF; rfl) | intro h
    (apply AM.cond; (· rfl))
    · intro h
      repeat' first | apply AM.seq | apply AM.block | apply AM.skip | apply AM.blkEnd | refine AM.exit rfl ?_ | (apply AM.reg (draw := false) []; simp only [annotate]) | apply DM.nil | refine DM.g1 rfl ?_ | refine DM.g0s (t' := true) rfl rfl ?_ | refine DM.g0s (t' := false) rfl rfl ?_ | refine DM.gus rfl ?_ | ((first | apply DM.ldm1 | apply DM.ldmA | apply DM.bxA | apply DM.al | apply DM.stE | apply DM.ixP | apply DM.lnM | apply DM.fdM | apply DM.bsl | apply DM.p); (repeat first | (change _ = _; first | exact setB_setB | (simp only [go_sem, Nat.reduceBEq, Nat.reduceAdd, Nat.reduceLeDiff, reduceIte] <;> rfl) | rfl | focus ((repeat' first | exact g_same | refine g_ne ‹_› ?_ | refine g_fresh ‹_› ?_ | refine g_T ?_ | exact t_same | refine t_ne ‹_› ?_ | refine t_fresh ‹_› ?_ | refine t_B ?_ | assumption); done)) | exact RD.r | apply RD.p | exact Nat.le_of_ble_eq_true rfl | decide); first | change DM _ _ _ _ _ _ | (intro b hb; repeat first | (refine fresh_elim hb ?_; intro _ _ hb) | (refine fresh_elimT hb ?_; intro hb))) | apply AM.condT rfl | apply AM.condF rfl | (apply DM.gbT; rfl) | (apply DM.gbF; rfl) | intro h
      (apply AM.retF; (· first | (apply results_t; (· simp only [go_sem, Nat.reduceBEq, Nat.reduceAdd, Nat.reduceLeDiff, reduceIte] <;> rfl)) | (apply results_c; (· rfl); (· repeat' first | exact g_same | refine g_ne ‹_› ?_ | refine g_fresh ‹_› ?_ | refine g_T ?_ | assumption); (· rfl)) | (apply results_ct; (· rfl); (· repeat' first | exact g_same | refine g_ne ‹_› ?_ | refine g_fresh ‹_› ?_ | refine g_T ?_ | assumption); (· rfl); (· simp only [go_sem, Nat.reduceBEq, Nat.reduceAdd, Nat.reduceLeDiff, reduceIte] <;> rfl)) | (apply results_tt; (· simp only [go_sem, Nat.reduceBEq, Nat.reduceAdd, Nat.reduceLeDiff, reduceIte] <;> rfl); (· simp only [go_sem, Nat.reduceBEq, Nat.reduceAdd, Nat.reduceLeDiff, reduceIte] <;> rfl)) | (apply results_ttt; (· simp only [go_sem, Nat.reduceBEq, Nat.reduceAdd, Nat.reduceLeDiff, reduceIte] <;> rfl); (· simp only [go_sem, Nat.reduceBEq, Nat.reduceAdd, Nat.reduceLeDiff, reduceIte] <;> rfl); (· simp only [go_sem, Nat.reduceBEq, Nat.reduceAdd, Nat.reduceLeDiff, reduceIte] <;> rfl)) | exact results_nil); (· (repeat' first | exact HSub.refl _ | assumption | refine HSub.setB ?_ ‹_› | refine HSub.setT ?_ ‹_›)))
      refine Frz.le ?_ (bad (by simp at *; simp [badArgs, *]))
      (repeat' first | exact HSub.refl _ | assumption | refine HSub.setB ?_ ‹_› | refine HSub.setT ?_ ‹_›)
    · intro h
      have hgood : badArgs p entry vars ps = false := by simp at *; simp [badArgs, *]; exact ⟨by omega, by assumption⟩
      have hsd : soundP p vars = true := by simp [badArgs] at hgood; exact hgood.1.1.1.1
      obtain ⟨hvp, hvl, hvs, hv12⟩ := sound_len hsd
      have hent : 0 ≤ entry ∧ entry < p.code.length := by simp [badArgs] at hgood; omega
      have hps : ∀ v ∈ ps, v.s.length ≤ 1000 := fun v hv => valid_len (by simp [badArgs] at hgood; exact hgood.2 v hv)
      have hrun : runP p entry vars ps steps = runF p ps steps.toNat (mach0 vars entry) 0 := by rw [runP, hgood]; rfl
      rw [hrun]
      repeat' first | apply AM.seq | apply AM.block | apply AM.skip | apply AM.blkEnd | refine AM.exit rfl ?_ | (apply AM.reg (draw := false) []; simp only [annotate]) | apply DM.nil | refine DM.g1 rfl ?_ | refine DM.g0s (t' := true) rfl rfl ?_ | refine DM.g0s (t' := false) rfl rfl ?_ | refine DM.gus rfl ?_ | ((first | apply DM.ldm1 | apply DM.ldmA | apply DM.bxA | apply DM.al | apply DM.stE | apply DM.ixP | apply DM.lnM | apply DM.fdM | apply DM.bsl | apply DM.p); (repeat first | (change _ = _; first | exact setB_setB | (simp only [go_sem, Nat.reduceBEq, Nat.reduceAdd, Nat.reduceLeDiff, reduceIte] <;> rfl) | rfl | focus ((repeat' first | exact g_same | refine g_ne ‹_› ?_ | refine g_fresh ‹_› ?_ | refine g_T ?_ | exact t_same | refine t_ne ‹_› ?_ | refine t_fresh ‹_› ?_ | refine t_B ?_ | assumption); done)) | exact RD.r | apply RD.p | exact Nat.le_of_ble_eq_true rfl | decide); first | change DM _ _ _ _ _ _ | (intro b hb; repeat first | (refine fresh_elim hb ?_; intro _ _ hb) | (refine fresh_elimT hb ?_; intro hb))) | apply AM.condT rfl | apply AM.condF rfl | (apply DM.gbT; rfl) | (apply DM.gbF; rfl) | intro h
      (refine AM.reg [.vs 3 (vars.map Val.row)] ?_; simp only [annotate, AV.rows])
      repeat' first | apply AM.seq | apply AM.block | apply AM.skip | apply AM.blkEnd | refine AM.exit rfl ?_ | (apply AM.reg []; simp only [annotate]) | apply DM.nil | refine DM.g1 rfl ?_ | refine DM.g0s (t' := true) rfl rfl ?_ | refine DM.g0s (t' := false) rfl rfl ?_ | refine DM.gus rfl ?_ | ((first | apply DM.ldm1 | apply DM.ldmA | apply DM.bxA | apply DM.al | apply DM.stE | apply DM.ixP | apply DM.lnM | apply DM.fdM | apply DM.bsl | apply DM.p); (repeat first | (change _ = _; first | exact setB_setB | (simp only [go_sem, Nat.reduceBEq, Nat.reduceAdd, Nat.reduceLeDiff, reduceIte] <;> rfl) | rfl | focus ((repeat' first | exact g_same | refine g_ne ‹_› ?_ | refine g_fresh ‹_› ?_ | refine g_T ?_ | exact t_same | refine t_ne ‹_› ?_ | refine t_fresh ‹_› ?_ | refine t_B ?_ | refine hm_look ‹_› ?_ | exact hm_blk | exact hm_ts | exact hm_tl ‹_› | exact hm_tv ‹_› | assumption); done)) | exact RD.r | apply RD.p | exact Nat.le_of_ble_eq_true rfl | decide); first | change DM _ _ _ _ _ _ | (intro b hb; repeat first | (refine fresh_elim hb ?_; intro _ _ hb) | (refine fresh_elimT hb ?_; intro hb) | (refine fresh_elimM hb ?_; intro _ _ hb))) | apply AM.condT rfl | apply AM.condF rfl | (apply DM.gbT; rfl) | (apply DM.gbF; rfl) | intro h
      apply DM.pcm (p57 vars (by omega))
      · simp only [List.map_cons, List.map_nil, EOpd.ev, Env.get, Nat.reduceBEq, cond_true, cond_false, beq_self_eq_true] <;> rfl
      · exact AVLes.refl _
      intro tv htv
      repeat' first | apply AM.seq | apply AM.block | apply AM.skip | apply AM.blkEnd | refine AM.exit rfl ?_ | (apply AM.reg []; simp only [annotate]) | apply DM.nil | refine DM.g1 rfl ?_ | refine DM.g0s (t' := true) rfl rfl ?_ | refine DM.g0s (t' := false) rfl rfl ?_ | refine DM.gus rfl ?_ | ((first | apply DM.ldm1 | apply DM.ldmA | apply DM.bxA | apply DM.al | apply DM.stE | apply DM.ixP | apply DM.lnM | apply DM.fdM | apply DM.bsl | apply DM.p); (repeat first | (change _ = _; first | exact setB_setB | (simp only [go_sem, Nat.reduceBEq, Nat.reduceAdd, Nat.reduceLeDiff, reduceIte] <;> rfl) | rfl | focus ((repeat' first | exact g_same | refine g_ne ‹_› ?_ | refine g_fresh ‹_› ?_ | refine g_T ?_ | exact t_same | refine t_ne ‹_› ?_ | refine t_fresh ‹_› ?_ | refine t_B ?_ | refine hm_look ‹_› ?_ | exact hm_blk | exact hm_ts | exact hm_tl ‹_› | exact hm_tv ‹_› | assumption); done)) | exact RD.r | apply RD.p | exact Nat.le_of_ble_eq_true rfl | decide); first | change DM _ _ _ _ _ _ | (intro b hb; repeat first | (refine fresh_elim hb ?_; intro _ _ hb) | (refine fresh_elimT hb ?_; intro hb) | (refine fresh_elimM hb ?_; intro _ _ hb))) | apply AM.condT rfl | apply AM.condF rfl | (apply DM.gbT; rfl) | (apply DM.gbF; rfl) | intro h
      rename Nat => b
      apply AM.ghostB b 8 70 3 (by decide)
      · (· repeat' first | exact g_same | refine g_ne ‹_› ?_ | refine g_fresh ‹_› ?_ | refine g_T ?_ | refine hm_look ‹_› ?_ | exact hm_blk | exact hm_ts | exact hm_tl ‹_› | exact hm_tv ‹_› | assumption)
      · rfl
      intro ts hts
      apply AM.ghostB b 9 3 1 (by decide)
      · (· repeat' first | exact g_same | refine g_ne ‹_› ?_ | refine g_fresh ‹_› ?_ | refine g_T ?_ | refine hm_look ‹_› ?_ | exact hm_blk | exact hm_ts | exact hm_tl ‹_› | exact hm_tv ‹_› | assumption)
      · rfl
      intro tl htl
      have htv' : H.tok tv = none := freshT_setB (freshT_setB htv)
      obtain ⟨nsv, nvs, q1⟩ := freshT_setT (freshT_setB hts)
      have hts' : H.tok ts = none := freshT_setB (freshT_setB q1)
      obtain ⟨nls, nsl, q2⟩ := freshT_setT (freshT_setB htl)
      obtain ⟨nlv, nvl, q3⟩ := freshT_setT (freshT_setB q2)
      have htl' : H.tok tl = none := freshT_setB (freshT_setB q3)
      have d : (⟨b, tv, ts, tl⟩ : Ref).Ok := ⟨nvs, nvl, nls⟩
      have hsub0 : HSub H ((H.setB bp 41 p.cells).setB br 60 [.nilS, .nilS, .int .i64 0]) := HSub.setB (HSub.setB (HSub.refl _) hbp) (by assumption)
      have hbb : ((H.setB bp 41 p.cells).setB br 60 [.nilS, .nilS, .int .i64 0]).blk b = none := by assumption
      have hbr : ((H.setB bp 41 p.cells).setB br 60 [.nilS, .nilS, .int .i64 0]).blk br = some (60, [.nilS, .nilS, .int .i64 0]) := g_same
      have hbpp : ((H.setB bp 41 p.cells).setB br 60 [.nilS, .nilS, .int .i64 0]).blk bp = some (41, p.cells) := g_ne npr g_same
      have hbrn : H.blk br = none := by assumption
      have nbr : br ≠ b := by assumption
      have nbp : bp ≠ b := by assumption
      refine AM.forget (HM ((H.setB bp 41 p.cells).setB br 60 [.nilS, .nilS, .int .i64 0]) ⟨b, tv, ts, tl⟩ p ps (mach0 vars entry) 0 0) ?_ ?_
      · (refine hsub_hm ?_ ?_ ?_ ?_ ?_ ?_; (· repeat' first | exact g_same | refine g_ne ‹_› ?_ | refine g_fresh ‹_› ?_ | refine g_T ?_ | refine hm_look ‹_› ?_ | exact hm_blk | exact hm_ts | exact hm_tl ‹_› | exact hm_tv ‹_› | assumption); (· intro x y hx h; repeat first | exact h | refine hm_old hx ?_ | refine g_ne hx ?_ | refine g_ne (ne_blk ‹_› h).2 ?_ | refine g_fresh ‹_› ?_ | refine g_T ?_); (· repeat' first | exact t_same | refine t_ne ‹_› ?_ | refine t_fresh ‹_› ?_ | refine t_B ?_ | refine hm_look ‹_› ?_ | exact hm_blk | exact hm_ts | exact hm_tl ‹_› | exact hm_tv ‹_› | assumption); (· repeat' first | exact t_same | refine t_ne ‹_› ?_ | refine t_fresh ‹_› ?_ | refine t_B ?_ | refine hm_look ‹_› ?_ | exact hm_blk | exact hm_ts | exact hm_tl ‹_› | exact hm_tv ‹_› | assumption); (· repeat' first | exact t_same | refine t_ne ‹_› ?_ | refine t_fresh ‹_› ?_ | refine t_B ?_ | refine hm_look ‹_› ?_ | exact hm_blk | exact hm_ts | exact hm_tl ‹_› | exact hm_tv ‹_› | assumption); (· intro x y h1 h2 h3 h; repeat first | exact h | refine hm_oldT h1 h2 h3 ?_ | refine t_ne ‹_› ?_ | refine t_fresh ‹_› ?_ | refine t_B ?_))
      generalize ((H.setB bp 41 p.cells).setB br 60 [.nilS, .nilS, .int .i64 0]) = H0 at hsub0 hbb hbr hbpp
      have inv0 : Inv p (mach0 vars entry) := ⟨by simp [mach0], by simp [mach0], hvs, by simp [mach0], hvl, hent.1, by show entry ≤ _; omega⟩
      clear hts q1 htl q2 q3 htv
      refine AM.loopX (X := Mach × Nat) (mach0 vars entry, 0) (fun x => [(4, .int .i64 steps), (5, .ptr bp 0), (10, .ptr br 0), (13, .ptr b 0), (14, .int .i64 (x.2 : Int))]) (fun x H' => MS H0 ⟨b, tv, ts, tl⟩ p ps x.1 H' ∧ Inv p x.1 ∧ x.2 ≤ steps.toNat ∧ runF p ps steps.toNat (mach0 vars entry) 0 = runF p ps (steps.toNat - x.2) x.1 x.2) (fun x => steps.toNat - x.2) ⟨⟨0, 0, rfl⟩, inv0, Nat.zero_le _, rfl⟩ ?_ ?_
      · (repeat first | exact envle_nil _ | (refine envle_cons ?_ ?_; · (simp only [go_sem, Nat.reduceBEq, Nat.reduceAdd]; exact AVLe.refl _)))
      · rintro ⟨M, used⟩ H' ⟨⟨vs, vl, rfl⟩, hinv, hu, he⟩
        simp only at hinv hu he ⊢
        rw [he]
        repeat' first | apply AM.seq | apply AM.block | apply AM.skip | apply AM.blkEnd | refine AM.exit rfl ?_ | (apply AM.reg []; simp only [annotate]) | apply DM.nil | refine DM.g1 rfl ?_ | refine DM.g0s (t' := true) rfl rfl ?_ | refine DM.g0s (t' := false) rfl rfl ?_ | refine DM.gus rfl ?_ | ((first | apply DM.ldm1 | apply DM.ldmA | apply DM.bxA | apply DM.al | apply DM.stE | apply DM.ixP | apply DM.lnM | apply DM.fdM | apply DM.bsl | apply DM.p); (repeat first | (change _ = _; first | exact setB_setB | (simp only [go_sem, Nat.reduceBEq, Nat.reduceAdd, Nat.reduceLeDiff, reduceIte] <;> rfl) | rfl | focus ((repeat' first | exact g_same | refine g_ne ‹_› ?_ | refine g_fresh ‹_› ?_ | refine g_T ?_ | exact t_same | refine t_ne ‹_› ?_ | refine t_fresh ‹_› ?_ | refine t_B ?_ | refine hm_look ‹_› ?_ | exact hm_blk | exact hm_ts | exact hm_tl ‹_› | exact hm_tv ‹_› | assumption); done)) | exact RD.r | apply RD.p | exact Nat.le_of_ble_eq_true rfl | decide); first | change DM _ _ _ _ _ _ | (intro b hb; repeat first | (refine fresh_elim hb ?_; intro _ _ hb) | (refine fresh_elimT hb ?_; intro hb) | (refine fresh_elimM hb ?_; intro _ _ hb))) | apply AM.condT rfl | apply AM.condF rfl | (apply DM.gbT; rfl) | (apply DM.gbF; rfl) | intro h
        (apply AM.cond; (· rfl))
        · intro hd
          simp at hd
          repeat' first | apply AM.seq | apply AM.block | apply AM.skip | apply AM.blkEnd | refine AM.exit rfl ?_ | (apply AM.reg []; simp only [annotate]) | apply DM.nil | refine DM.g1 rfl ?_ | refine DM.g0s (t' := true) rfl rfl ?_ | refine DM.g0s (t' := false) rfl rfl ?_ | refine DM.gus rfl ?_ | ((first | apply DM.ldm1 | apply DM.ldmA | apply DM.bxA | apply DM.al | apply DM.stE | apply DM.ixP | apply DM.lnM | apply DM.fdM | apply DM.bsl | apply DM.p); (repeat first | (change _ = _; first | exact setB_setB | (simp only [go_sem, Nat.reduceBEq, Nat.reduceAdd, Nat.reduceLeDiff, reduceIte] <;> rfl) | rfl | focus ((repeat' first | exact g_same | refine g_ne ‹_› ?_ | refine g_fresh ‹_› ?_ | refine g_T ?_ | exact t_same | refine t_ne ‹_› ?_ | refine t_fresh ‹_› ?_ | refine t_B ?_ | refine hm_look ‹_› ?_ | exact hm_blk | exact hm_ts | exact hm_tl ‹_› | exact hm_tv ‹_› | assumption); done)) | exact RD.r | apply RD.p | exact Nat.le_of_ble_eq_true rfl | decide); first | change DM _ _ _ _ _ _ | (intro b hb; repeat first | (refine fresh_elim hb ?_; intro _ _ hb) | (refine fresh_elimT hb ?_; intro hb) | (refine fresh_elimM hb ?_; intro _ _ hb))) | apply AM.condT rfl | apply AM.condF rfl | (apply DM.gbT; rfl) | (apply DM.gbF; rfl) | intro h
          (apply AM.cond; (· rfl))
          · intro h2
            simp at h2
            repeat' first | apply AM.seq | apply AM.block | apply AM.skip | apply AM.blkEnd | refine AM.exit rfl ?_ | (apply AM.reg []; simp only [annotate]) | apply DM.nil | refine DM.g1 rfl ?_ | refine DM.g0s (t' := true) rfl rfl ?_ | refine DM.g0s (t' := false) rfl rfl ?_ | refine DM.gus rfl ?_ | ((first | apply DM.ldm1 | apply DM.ldmA | apply DM.bxA | apply DM.al | apply DM.stE | apply DM.ixP | apply DM.lnM | apply DM.fdM | apply DM.bsl | apply DM.p); (repeat first | (change _ = _; first | exact setB_setB | (simp only [go_sem, Nat.reduceBEq, Nat.reduceAdd, Nat.reduceLeDiff, reduceIte] <;> rfl) | rfl | focus ((repeat' first | exact g_same | refine g_ne ‹_› ?_ | refine g_fresh ‹_› ?_ | refine g_T ?_ | exact t_same | refine t_ne ‹_› ?_ | refine t_fresh ‹_› ?_ | refine t_B ?_ | refine hm_look ‹_› ?_ | exact hm_blk | exact hm_ts | exact hm_tl ‹_› | exact hm_tv ‹_› | assumption); done)) | exact RD.r | apply RD.p | exact Nat.le_of_ble_eq_true rfl | decide); first | change DM _ _ _ _ _ _ | (intro b hb; repeat first | (refine fresh_elim hb ?_; intro _ _ hb) | (refine fresh_elimT hb ?_; intro hb) | (refine fresh_elimM hb ?_; intro _ _ hb))) | apply AM.condT rfl | apply AM.condF rfl | (apply DM.gbT; rfl) | (apply DM.gbF; rfl) | intro h
            (apply AM.retF; (· first | (apply results_t; (· simp only [go_sem, Nat.reduceBEq, Nat.reduceAdd, Nat.reduceLeDiff, reduceIte] <;> rfl)) | (apply results_c; (· rfl); (· repeat' first | exact g_same | refine g_ne ‹_› ?_ | refine g_fresh ‹_› ?_ | refine g_T ?_ | refine hm_look ‹_› ?_ | exact hm_blk | exact hm_ts | exact hm_tl ‹_› | exact hm_tv ‹_› | assumption); (· rfl)) | (apply results_ct; (· rfl); (· repeat' first | exact g_same | refine g_ne ‹_› ?_ | refine g_fresh ‹_› ?_ | refine g_T ?_ | refine hm_look ‹_› ?_ | exact hm_blk | exact hm_ts | exact hm_tl ‹_› | exact hm_tv ‹_› | assumption); (· rfl); (· simp only [go_sem, Nat.reduceBEq, Nat.reduceAdd, Nat.reduceLeDiff, reduceIte] <;> rfl)) | (apply results_tt; (· simp only [go_sem, Nat.reduceBEq, Nat.reduceAdd, Nat.reduceLeDiff, reduceIte] <;> rfl); (· simp only [go_sem, Nat.reduceBEq, Nat.reduceAdd, Nat.reduceLeDiff, reduceIte] <;> rfl)) | (apply results_ttt; (· simp only [go_sem, Nat.reduceBEq, Nat.reduceAdd, Nat.reduceLeDiff, reduceIte] <;> rfl); (· simp only [go_sem, Nat.reduceBEq, Nat.reduceAdd, Nat.reduceLeDiff, reduceIte] <;> rfl); (· simp only [go_sem, Nat.reduceBEq, Nat.reduceAdd, Nat.reduceLeDiff, reduceIte] <;> rfl)) | exact results_nil); (· (repeat' first | exact HSub.refl _ | assumption | refine HSub.setB ?_ ‹_› | refine hm_sub ?_ ‹_› ‹_› ‹_› ‹_› | refine HSub.setT ?_ ‹_›)))
            have e : runF p ps (steps.toNat - used) M used = ⟨[], [], 0, 25⟩ := by rw [runF.eq_def]; simp [hd, h2]
            rw [e]
            refine Frz.le ?_ (errLe 25)
            (repeat' first | exact HSub.refl _ | assumption | refine HSub.setB ?_ ‹_› | refine hm_sub ?_ ‹_› ‹_› ‹_› ‹_› | refine HSub.setT ?_ ‹_›)
          · intro h2
            simp at h2
            repeat' first | apply AM.seq | apply AM.block | apply AM.skip | apply AM.blkEnd | refine AM.exit rfl ?_ | (apply AM.reg []; simp only [annotate]) | apply DM.nil | refine DM.g1 rfl ?_ | refine DM.g0s (t' := true) rfl rfl ?_ | refine DM.g0s (t' := false) rfl rfl ?_ | refine DM.gus rfl ?_ | ((first | apply DM.ldm1 | apply DM.ldmA | apply DM.bxA | apply DM.al | apply DM.stE | apply DM.ixP | apply DM.lnM | apply DM.fdM | apply DM.bsl | apply DM.p); (repeat first | (change _ = _; first | exact setB_setB | (simp only [go_sem, Nat.reduceBEq, Nat.reduceAdd, Nat.reduceLeDiff, reduceIte] <;> rfl) | rfl | focus ((repeat' first | exact g_same | refine g_ne ‹_› ?_ | refine g_fresh ‹_› ?_ | refine g_T ?_ | exact t_same | refine t_ne ‹_› ?_ | refine t_fresh ‹_› ?_ | refine t_B ?_ | refine hm_look ‹_› ?_ | exact hm_blk | exact hm_ts | exact hm_tl ‹_› | exact hm_tv ‹_› | assumption); done)) | exact RD.r | apply RD.p | exact Nat.le_of_ble_eq_true rfl | decide); first | change DM _ _ _ _ _ _ | (intro b hb; repeat first | (refine fresh_elim hb ?_; intro _ _ hb) | (refine fresh_elimT hb ?_; intro hb) | (refine fresh_elimM hb ?_; intro _ _ hb))) | apply AM.condT rfl | apply AM.condF rfl | (apply DM.gbT; rfl) | (apply DM.gbF; rfl) | intro h
            (apply AM.cond; (· rfl))
            · intro h3
              simp at h3
              repeat' first | apply AM.seq | apply AM.block | apply AM.skip | apply AM.blkEnd | refine AM.exit rfl ?_ | (apply AM.reg []; simp only [annotate]) | apply DM.nil | refine DM.g1 rfl ?_ | refine DM.g0s (t' := true) rfl rfl ?_ | refine DM.g0s (t' := false) rfl rfl ?_ | refine DM.gus rfl ?_ | ((first | apply DM.ldm1 | apply DM.ldmA | apply DM.bxA | apply DM.al | apply DM.stE | apply DM.ixP | apply DM.lnM | apply DM.fdM | apply DM.bsl | apply DM.p); (repeat first | (change _ = _; first | exact setB_setB | (simp only [go_sem, Nat.reduceBEq, Nat.reduceAdd, Nat.reduceLeDiff, reduceIte] <;> rfl) | rfl | focus ((repeat' first | exact g_same | refine g_ne ‹_› ?_ | refine g_fresh ‹_› ?_ | refine g_T ?_ | exact t_same | refine t_ne ‹_› ?_ | refine t_fresh ‹_› ?_ | refine t_B ?_ | refine hm_look ‹_› ?_ | exact hm_blk | exact hm_ts | exact hm_tl ‹_› | exact hm_tv ‹_› | assumption); done)) | exact RD.r | apply RD.p | exact Nat.le_of_ble_eq_true rfl | decide); first | change DM _ _ _ _ _ _ | (intro b hb; repeat first | (refine fresh_elim hb ?_; intro _ _ hb) | (refine fresh_elimT hb ?_; intro hb) | (refine fresh_elimM hb ?_; intro _ _ hb))) | apply AM.condT rfl | apply AM.condF rfl | (apply DM.gbT; rfl) | (apply DM.gbF; rfl) | intro h
              (apply AM.retF; (· first | (apply results_t; (· simp only [go_sem, Nat.reduceBEq, Nat.reduceAdd, Nat.reduceLeDiff, reduceIte] <;> rfl)) | (apply results_c; (· rfl); (· repeat' first | exact g_same | refine g_ne ‹_› ?_ | refine g_fresh ‹_› ?_ | refine g_T ?_ | refine hm_look ‹_› ?_ | exact hm_blk | exact hm_ts | exact hm_tl ‹_› | exact hm_tv ‹_› | assumption); (· rfl)) | (apply results_ct; (· rfl); (· repeat' first | exact g_same | refine g_ne ‹_› ?_ | refine g_fresh ‹_› ?_ | refine g_T ?_ | refine hm_look ‹_› ?_ | exact hm_blk | exact hm_ts | exact hm_tl ‹_› | exact hm_tv ‹_› | assumption); (· rfl); (· simp only [go_sem, Nat.reduceBEq, Nat.reduceAdd, Nat.reduceLeDiff, reduceIte] <;> rfl)) | (apply results_tt; (· simp only [go_sem, Nat.reduceBEq, Nat.reduceAdd, Nat.reduceLeDiff, reduceIte] <;> rfl); (· simp only [go_sem, Nat.reduceBEq, Nat.reduceAdd, Nat.reduceLeDiff, reduceIte] <;> rfl)) | (apply results_ttt; (· simp only [go_sem, Nat.reduceBEq, Nat.reduceAdd, Nat.reduceLeDiff, reduceIte] <;> rfl); (· simp only [go_sem, Nat.reduceBEq, Nat.reduceAdd, Nat.reduceLeDiff, reduceIte] <;> rfl); (· simp only [go_sem, Nat.reduceBEq, Nat.reduceAdd, Nat.reduceLeDiff, reduceIte] <;> rfl)) | exact results_nil); (· (repeat' first | exact HSub.refl _ | assumption | refine HSub.setB ?_ ‹_› | refine hm_sub ?_ ‹_› ‹_› ‹_› ‹_› | refine HSub.setT ?_ ‹_›)))
              have e : runF p ps (steps.toNat - used) M used = ⟨[], [], 0, 26⟩ := by
                rw [show steps.toNat - used = 0 by omega, runF.eq_def]; simp [hd]; omega
              rw [e]
              refine Frz.le ?_ (errLe 26)
              (repeat' first | exact HSub.refl _ | assumption | refine HSub.setB ?_ ‹_› | refine hm_sub ?_ ‹_› ‹_› ‹_› ‹_› | refine HSub.setT ?_ ‹_›)
            · intro h3
              simp at h3
              obtain ⟨i, hi⟩ : ∃ i : Nat, M.pc = (i : Int) := ⟨M.pc.toNat, by have := hinv.p0; omega⟩
              obtain ⟨x, hx⟩ := some_of (show i < p.code.length by omega)
              have g : Good p M := ⟨hinv.st, hinv.str, by have := hinv.ll; unfold maxLen; omega, hinv.vl⟩
              obtain ⟨k, hk⟩ : ∃ k, steps.toNat - used = k + 1 := ⟨steps.toNat - used - 1, by omega⟩
              have hstep : runF p ps (steps.toNat - used) M used = if (stepM p ps M).tr then ⟨[], [], 0, 25⟩ else runF p ps k (stepM p ps M) (used + 1) := by
                rw [hk, runF.eq_def]; simp only [hd]; rw [if_neg (by simp), if_neg (by omega)]
              repeat' first | apply AM.seq | apply AM.block | apply AM.skip | apply AM.blkEnd | refine AM.exit rfl ?_ | (apply AM.reg []; simp only [annotate]) | apply DM.nil | refine DM.g1 rfl ?_ | refine DM.g0s (t' := true) rfl rfl ?_ | refine DM.g0s (t' := false) rfl rfl ?_ | refine DM.gus rfl ?_ | ((first | apply DM.ldm1 | apply DM.ldmA | apply DM.bxA | apply DM.al | apply DM.stE | apply DM.ixP | apply DM.lnM | apply DM.fdM | apply DM.bsl | apply DM.p); (repeat first | (change _ = _; first | exact setB_setB | (simp only [go_sem, Nat.reduceBEq, Nat.reduceAdd, Nat.reduceLeDiff, reduceIte] <;> rfl) | rfl | focus ((repeat' first | exact g_same | refine g_ne ‹_› ?_ | refine g_fresh ‹_› ?_ | refine g_T ?_ | exact t_same | refine t_ne ‹_› ?_ | refine t_fresh ‹_› ?_ | refine t_B ?_ | refine hm_look ‹_› ?_ | exact hm_blk | exact hm_ts | exact hm_tl ‹_› | exact hm_tv ‹_› | assumption); done)) | exact RD.r | apply RD.p | exact Nat.le_of_ble_eq_true rfl | decide); first | change DM _ _ _ _ _ _ | (intro b hb; repeat first | (refine fresh_elim hb ?_; intro _ _ hb) | (refine fresh_elimT hb ?_; intro hb) | (refine fresh_elimM hb ?_; intro _ _ hb))) | apply AM.condT rfl | apply AM.condF rfl | (apply DM.gbT; rfl) | (apply DM.gbF; rfl) | intro h
              (apply DM.cal (p58 H0 ⟨b, tv, ts, tl⟩ d p ps M g hR i hi x hx (insOk hvp (List.mem_of_getElem? hx)) _ ⟨_, _, rfl⟩); (· simp only [go_sem, Nat.reduceBEq, Nat.reduceAdd] <;> rfl); (· exact AVLes.refl _))
              rintro r H1 ⟨rfl, vs, vl, rfl⟩
              simp only [put_some]
              repeat' first | apply AM.seq | apply AM.block | apply AM.skip | apply AM.blkEnd | refine AM.exit rfl ?_ | (apply AM.reg []; simp only [annotate]) | apply DM.nil | refine DM.g1 rfl ?_ | refine DM.g0s (t' := true) rfl rfl ?_ | refine DM.g0s (t' := false) rfl rfl ?_ | refine DM.gus rfl ?_ | ((first | apply DM.ldm1 | apply DM.ldmA | apply DM.bxA | apply DM.al | apply DM.stE | apply DM.ixP | apply DM.lnM | apply DM.fdM | apply DM.bsl | apply DM.p); (repeat first | (change _ = _; first | exact setB_setB | (simp only [go_sem, Nat.reduceBEq, Nat.reduceAdd, Nat.reduceLeDiff, reduceIte] <;> rfl) | rfl | focus ((repeat' first | exact g_same | refine g_ne ‹_› ?_ | refine g_fresh ‹_› ?_ | refine g_T ?_ | exact t_same | refine t_ne ‹_› ?_ | refine t_fresh ‹_› ?_ | refine t_B ?_ | refine hm_look ‹_› ?_ | exact hm_blk | exact hm_ts | exact hm_tl ‹_› | exact hm_tv ‹_› | assumption); done)) | exact RD.r | apply RD.p | exact Nat.le_of_ble_eq_true rfl | decide); first | change DM _ _ _ _ _ _ | (intro b hb; repeat first | (refine fresh_elim hb ?_; intro _ _ hb) | (refine fresh_elimT hb ?_; intro hb) | (refine fresh_elimM hb ?_; intro _ _ hb))) | apply AM.condT rfl | apply AM.condF rfl | (apply DM.gbT; rfl) | (apply DM.gbF; rfl) | intro h
              (apply AM.cond; (· rfl))
              · intro h4
                repeat' first | apply AM.seq | apply AM.block | apply AM.skip | apply AM.blkEnd | refine AM.exit rfl ?_ | (apply AM.reg []; simp only [annotate]) | apply DM.nil | refine DM.g1 rfl ?_ | refine DM.g0s (t' := true) rfl rfl ?_ | refine DM.g0s (t' := false) rfl rfl ?_ | refine DM.gus rfl ?_ | ((first | apply DM.ldm1 | apply DM.ldmA | apply DM.bxA | apply DM.al | apply DM.stE | apply DM.ixP | apply DM.lnM | apply DM.fdM | apply DM.bsl | apply DM.p); (repeat first | (change _ = _; first | exact setB_setB | (simp only [go_sem, Nat.reduceBEq, Nat.reduceAdd, Nat.reduceLeDiff, reduceIte] <;> rfl) | rfl | focus ((repeat' first | exact g_same | refine g_ne ‹_› ?_ | refine g_fresh ‹_› ?_ | refine g_T ?_ | exact t_same | refine t_ne ‹_› ?_ | refine t_fresh ‹_› ?_ | refine t_B ?_ | refine hm_look ‹_› ?_ | exact hm_blk | exact hm_ts | exact hm_tl ‹_› | exact hm_tv ‹_› | assumption); done)) | exact RD.r | apply RD.p | exact Nat.le_of_ble_eq_true rfl | decide); first | change DM _ _ _ _ _ _ | (intro b hb; repeat first | (refine fresh_elim hb ?_; intro _ _ hb) | (refine fresh_elimT hb ?_; intro hb) | (refine fresh_elimM hb ?_; intro _ _ hb))) | apply AM.condT rfl | apply AM.condF rfl | (apply DM.gbT; rfl) | (apply DM.gbF; rfl) | intro h
                (apply AM.retF; (· first | (apply results_t; (· simp only [go_sem, Nat.reduceBEq, Nat.reduceAdd, Nat.reduceLeDiff, reduceIte] <;> rfl)) | (apply results_c; (· rfl); (· repeat' first | exact g_same | refine g_ne ‹_› ?_ | refine g_fresh ‹_› ?_ | refine g_T ?_ | refine hm_look ‹_› ?_ | exact hm_blk | exact hm_ts | exact hm_tl ‹_› | exact hm_tv ‹_› | assumption); (· rfl)) | (apply results_ct; (· rfl); (· repeat' first | exact g_same | refine g_ne ‹_› ?_ | refine g_fresh ‹_› ?_ | refine g_T ?_ | refine hm_look ‹_› ?_ | exact hm_blk | exact hm_ts | exact hm_tl ‹_› | exact hm_tv ‹_› | assumption); (· rfl); (· simp only [go_sem, Nat.reduceBEq, Nat.reduceAdd, Nat.reduceLeDiff, reduceIte] <;> rfl)) | (apply results_tt; (· simp only [go_sem, Nat.reduceBEq, Nat.reduceAdd, Nat.reduceLeDiff, reduceIte] <;> rfl); (· simp only [go_sem, Nat.reduceBEq, Nat.reduceAdd, Nat.reduceLeDiff, reduceIte] <;> rfl)) | (apply results_ttt; (· simp only [go_sem, Nat.reduceBEq, Nat.reduceAdd, Nat.reduceLeDiff, reduceIte] <;> rfl); (· simp only [go_sem, Nat.reduceBEq, Nat.reduceAdd, Nat.reduceLeDiff, reduceIte] <;> rfl); (· simp only [go_sem, Nat.reduceBEq, Nat.reduceAdd, Nat.reduceLeDiff, reduceIte] <;> rfl)) | exact results_nil); (· (repeat' first | exact HSub.refl _ | assumption | refine HSub.setB ?_ ‹_› | refine hm_sub ?_ ‹_› ‹_› ‹_› ‹_› | refine HSub.setT ?_ ‹_›)))
                rw [hstep, if_pos h4]
                refine Frz.le ?_ (errLe 25)
                (repeat' first | exact HSub.refl _ | assumption | refine HSub.setB ?_ ‹_› | refine hm_sub ?_ ‹_› ‹_› ‹_› ‹_› | refine HSub.setT ?_ ‹_›)
              · intro h4
                repeat' first | apply AM.seq | apply AM.block | apply AM.skip | apply AM.blkEnd | refine AM.exit rfl ?_ | (apply AM.reg []; simp only [annotate]) | apply DM.nil | refine DM.g1 rfl ?_ | refine DM.g0s (t' := true) rfl rfl ?_ | refine DM.g0s (t' := false) rfl rfl ?_ | refine DM.gus rfl ?_ | ((first | apply DM.ldm1 | apply DM.ldmA | apply DM.bxA | apply DM.al | apply DM.stE | apply DM.ixP | apply DM.lnM | apply DM.fdM | apply DM.bsl | apply DM.p); (repeat first | (change _ = _; first | exact setB_setB | (simp only [go_sem, Nat.reduceBEq, Nat.reduceAdd, Nat.reduceLeDiff, reduceIte] <;> rfl) | rfl | focus ((repeat' first | exact g_same | refine g_ne ‹_› ?_ | refine g_fresh ‹_› ?_ | refine g_T ?_ | exact t_same | refine t_ne ‹_› ?_ | refine t_fresh ‹_› ?_ | refine t_B ?_ | refine hm_look ‹_› ?_ | exact hm_blk | exact hm_ts | exact hm_tl ‹_› | exact hm_tv ‹_› | assumption); done)) | exact RD.r | apply RD.p | exact Nat.le_of_ble_eq_true rfl | decide); first | change DM _ _ _ _ _ _ | (intro b hb; repeat first | (refine fresh_elim hb ?_; intro _ _ hb) | (refine fresh_elimT hb ?_; intro hb) | (refine fresh_elimM hb ?_; intro _ _ hb))) | apply AM.condT rfl | apply AM.condF rfl | (apply DM.gbT; rfl) | (apply DM.gbF; rfl) | intro h
                rw [← he]
                refine AM.roundX (stepM p ps M, used + 1) ⟨⟨vs, vl, rfl⟩, step_inv hvp hps hinv hi hx, by show used + 1 ≤ _; omega, ?_⟩ ?_ ?_
                · show _ = runF p ps (steps.toNat - (used + 1)) (stepM p ps M) (used + 1)
                  rw [he, hstep, if_neg (by rw [h4]; simp), show steps.toNat - (used + 1) = k by omega]
                · (repeat first | exact envle_nil _ | (refine envle_cons ?_ ?_; · (simp only [go_sem, Nat.reduceBEq, Nat.reduceAdd]; exact AVLe.refl _)))
                  refine envle_cons ?_ (envle_nil _)
                  simp only [EOpd.ev, Env.get, Nat.reduceBEq, cond_true, cond_false, beq_self_eq_true, Nat.zero_add, Nat.add_zero, Nat.reduceAdd]
                  refine avle_int ?_
                  rw [inc64 (show used < steps.toNat by omega) (by unfold maxLen; omega)]
                · show steps.toNat - (used + 1) < steps.toNat - used
                  omega
        · intro hd
          simp at hd
          have e : runF p ps (steps.toNat - used) M used = ⟨M.stack, M.vars, used, 0⟩ := by rw [runF.eq_def]; simp [hd]
          rw [e]
          repeat' first | apply AM.seq | apply AM.block | apply AM.skip | apply AM.blkEnd | refine AM.exit rfl ?_ | (apply AM.reg []; simp only [annotate]) | apply DM.nil | refine DM.g1 rfl ?_ | refine DM.g0s (t' := true) rfl rfl ?_ | refine DM.g0s (t' := false) rfl rfl ?_ | refine DM.gus rfl ?_ | ((first | apply DM.ldm1 | apply DM.ldmA | apply DM.bxA | apply DM.al | apply DM.stE | apply DM.ixP | apply DM.lnM | apply DM.fdM | apply DM.bsl | apply DM.p); (repeat first | (change _ = _; first | exact setB_setB | (simp only [go_sem, Nat.reduceBEq, Nat.reduceAdd, Nat.reduceLeDiff, reduceIte] <;> rfl) | rfl | focus ((repeat' first | exact g_same | refine g_ne ‹_› ?_ | refine g_fresh ‹_› ?_ | refine g_T ?_ | exact t_same | refine t_ne ‹_› ?_ | refine t_fresh ‹_› ?_ | refine t_B ?_ | refine hm_look ‹_› ?_ | exact hm_blk | exact hm_ts | exact hm_tl ‹_› | exact hm_tv ‹_› | assumption); done)) | exact RD.r | apply RD.p | exact Nat.le_of_ble_eq_true rfl | decide); first | change DM _ _ _ _ _ _ | (intro b hb; repeat first | (refine fresh_elim hb ?_; intro _ _ hb) | (refine fresh_elimT hb ?_; intro hb) | (refine fresh_elimM hb ?_; intro _ _ hb))) | apply AM.condT rfl | apply AM.condF rfl | (apply DM.gbT; rfl) | (apply DM.gbF; rfl) | intro h
          (apply AM.retF; (· first | (apply results_t; (· simp only [go_sem, Nat.reduceBEq, Nat.reduceAdd, Nat.reduceLeDiff, reduceIte] <;> rfl)) | (apply results_c; (· rfl); (· repeat' first | exact g_same | refine g_ne ‹_› ?_ | refine g_fresh ‹_› ?_ | refine g_T ?_ | refine hm_look ‹_› ?_ | exact hm_blk | exact hm_ts | exact hm_tl ‹_› | exact hm_tv ‹_› | assumption); (· rfl)) | (apply results_ct; (· rfl); (· repeat' first | exact g_same | refine g_ne ‹_› ?_ | refine g_fresh ‹_› ?_ | refine g_T ?_ | refine hm_look ‹_› ?_ | exact hm_blk | exact hm_ts | exact hm_tl ‹_› | exact hm_tv ‹_› | assumption); (· rfl); (· simp only [go_sem, Nat.reduceBEq, Nat.reduceAdd, Nat.reduceLeDiff, reduceIte] <;> rfl)) | (apply results_tt; (· simp only [go_sem, Nat.reduceBEq, Nat.reduceAdd, Nat.reduceLeDiff, reduceIte] <;> rfl); (· simp only [go_sem, Nat.reduceBEq, Nat.reduceAdd, Nat.reduceLeDiff, reduceIte] <;> rfl)) | (apply results_ttt; (· simp only [go_sem, Nat.reduceBEq, Nat.reduceAdd, Nat.reduceLeDiff, reduceIte] <;> rfl); (· simp only [go_sem, Nat.reduceBEq, Nat.reduceAdd, Nat.reduceLeDiff, reduceIte] <;> rfl); (· simp only [go_sem, Nat.reduceBEq, Nat.reduceAdd, Nat.reduceLeDiff, reduceIte] <;> rfl)) | exact results_nil); (· (repeat' first | exact HSub.refl _ | assumption | refine HSub.setB ?_ ‹_› | refine hm_sub ?_ ‹_› ‹_› ‹_› ‹_› | refine HSub.setT ?_ ‹_›)))
          have hs2 : ∀ c, HSub H ((HM H0 ⟨b, tv, ts, tl⟩ p ps M vs vl).setB br 60 c) := by
            intro c
            (repeat' first | exact HSub.refl _ | assumption | refine HSub.setB ?_ ‹_› | refine hm_sub ?_ ‹_› ‹_› ‹_› ‹_› | refine HSub.setT ?_ ‹_›)
          exact Frz.tup (FrzL.cons (Frz.agg (FrzL.cons (Frz.ms (hs2 _) (t_B hm_ts) hts') (FrzL.cons (Frz.ms (hs2 _) (t_B (hm_tv d)) htv') (FrzL.cons (Frz.same (hs2 _)) FrzL.nil)))) (FrzL.cons (Frz.same (hs2 _)) FrzL.nil))
  all_goals ((apply AM.retF; (· first | (apply results_t; (· simp only [go_sem, Nat.reduceBEq, Nat.reduceAdd, Nat.reduceLeDiff, reduceIte] <;> rfl)) | (apply results_c; (· rfl); (· repeat' first | exact g_same | refine g_ne ‹_› ?_ | refine g_fresh ‹_› ?_ | refine g_T ?_ | assumption); (· rfl)) | (apply results_ct; (· rfl); (· repeat' first | exact g_same | refine g_ne ‹_› ?_ | refine g_fresh ‹_› ?_ | refine g_T ?_ | assumption); (· rfl); (· simp only [go_sem, Nat.reduceBEq, Nat.reduceAdd, Nat.reduceLeDiff, reduceIte] <;> rfl)) | (apply results_tt; (· simp only [go_sem, Nat.reduceBEq, Nat.reduceAdd, Nat.reduceLeDiff, reduceIte] <;> rfl); (· simp only [go_sem, Nat.reduceBEq, Nat.reduceAdd, Nat.reduceLeDiff, reduceIte] <;> rfl)) | (apply results_ttt; (· simp only [go_sem, Nat.reduceBEq, Nat.reduceAdd, Nat.reduceLeDiff, reduceIte] <;> rfl); (· simp only [go_sem, Nat.reduceBEq, Nat.reduceAdd, Nat.reduceLeDiff, reduceIte] <;> rfl); (· simp only [go_sem, Nat.reduceBEq, Nat.reduceAdd, Nat.reduceLeDiff, reduceIte] <;> rfl)) | exact results_nil); (· (repeat' first | exact HSub.refl _ | assumption | refine HSub.setB ?_ ‹_› | refine HSub.setT ?_ ‹_›))))
  all_goals refine Frz.le ?_ (bad (by simp at *; simp [badArgs, *]; try omega))
  all_goals ((repeat' first | exact HSub.refl _ | assumption | refine HSub.setB ?_ ‹_› | refine HSub.setT ?_ ‹_›))
end Go.Aw.T
