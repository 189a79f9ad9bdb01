/- Part of a proof; own work. -/
import Derived.Test.YtjjngpjdhjeckaaQ1
namespace Go.Aw.T.R
open Go Go.Aw Go.Aw.T Go.Proofs Go.RowKit
set_option maxRecDepth 100000
attribute [local irreducible] Go.Aw.DM Go.Aw.AHeap.setB Go.Aw.AHeap.setT
attribute [local go_sem] peval EOpd.ev Env.get binInt binStr binBool buildParts AV.cells AV.okc setRange minmaxAV AV.one AV.ofCells eqCells eqCell bslRows cond_true cond_false beq_self_eq_true Bool.not_true Bool.not_false beq_true beq_false eq_self if_true Option.some.injEq List.length_cons List.length_nil List.take_succ_cons List.take_zero List.drop_succ_cons List.drop_zero List.set_cons_succ List.set_cons_zero List.nil_append List.cons_append List.append_nil and_self Option.map_some List.map_cons List.map_nil Bool.false_eq_true if_false Nat.zero_add Nat.add_zero true_and and_true Bool.and_true Bool.true_and List.getElem?_cons_zero List.getElem?_cons_succ Nat.zero_le Nat.le_refl
set_option linter.unusedSimpArgs false
set_option linter.unusedVariables false
def okV (v : Val) : Prop := (v.k = 1 ∧ v.s = []) ∨ (v.k = 2 ∧ validV v = true)
theorem push_pc (v : Val) (M : Mach) : (push v M).pc = M.pc := by unfold push; split <;> rfl
theorem pop_pc (k : Int) (M : Mach) : (pop k M).2.pc = M.pc := by unfold pop; split <;> rfl
theorem result_pc (n : Int) (M : Mach) : (result n M).pc = M.pc := by unfold result; split; rfl; exact push_pc _ _
theorem pop_get {k : Int} {M : Mach} (h : (pop k M).2.tr = false) (hk : k ≠ 0) : (pop k M).1.k = k ∧ (pop k M).1 ∈ M.stack := by
  unfold pop at h ⊢
  cases hp : popTrap k M with
  | true => rw [hp] at h; simp at h
  | false =>
    simp only [Bool.false_eq_true, if_false]
    unfold popTrap at hp
    cases hl : M.stack.getLast? with
    | none => rw [hl] at hp; simp at hp
    | some v =>
      rw [hl] at hp
      simp [hk] at hp
      exact ⟨hp.2, List.mem_of_getLast? hl⟩
theorem store_eq {s : Sort_} {v : Val} (hs : validS s = true) (hk : v.k = s.k) (hv : okV v) : (clampV s (clampN v)).2 = 0 ∧ storeR s v = (clampV s (clampN v)).1 := by
  obtain ⟨k, n, u⟩ := v
  simp only at hk
  subst hk
  have hsv := hs
  simp only [validS, Bool.or_eq_true, Bool.and_eq_true, decide_eq_true_eq] at hsv
  rcases hv with ⟨h1, h2⟩ | ⟨h1, h2⟩
  · simp only at h1 h2
    subst h2
    have hc : validV (clampN ⟨s.k, n, []⟩) = true := by
      simp only [clampN, validV, Bool.or_eq_true, Bool.and_eq_true]
      left
      exact ⟨⟨⟨decide_eq_true h1, decide_eq_true (by omega)⟩, decide_eq_true (by omega)⟩, decide_eq_true trivial⟩
    have e : clampV s (clampN ⟨s.k, n, []⟩) = (⟨s.k, max s.lo (min s.hi (max (-1000) (min 1000 n))), []⟩, 0) := by
      unfold clampV
      rw [hs, hc, if_neg (by decide), if_neg (by simp [clampN]), if_pos (by exact h1)]
      rfl
    rw [e]
    refine ⟨rfl, ?_⟩
    rw [storeR, if_pos h1]
    simp only [Val.mk.injEq, and_true]
    exact ⟨h1.symm, by omega⟩
  · simp only at h1
    have hn : n = 0 := by
      simp only [validV, Bool.or_eq_true, Bool.and_eq_true, decide_eq_true_eq] at h2
      rcases h2 with h2 | h2
      · omega
      · exact h2.1.1.2
    subst hn
    have hcn : clampN ⟨s.k, 0, u⟩ = ⟨s.k, 0, u⟩ := rfl
    rw [hcn, storeR, if_neg (by omega)]
    refine ⟨?_, rfl⟩
    unfold clampV
    rw [hs, h2, if_neg (by decide), if_neg (by simp), if_neg (by simp; omega)]
theorem pop_tr {k : Int} {M : Mach} (h : (pop k M).2.tr = false) : M.tr = false := by
  unfold pop at h
  cases hp : popTrap k M with
  | true => rw [hp] at h; simp at h
  | false => unfold popTrap at hp; simp at hp; exact hp.1
theorem popR_0 (M : Mach) : popR 0 M = (pop 0 M).1 := by
  unfold popR pop
  cases popTrap 0 M <;> rfl
theorem popR_s {k : Int} {M : Mach} (h : ∀ v ∈ M.stack, v.s.length ≤ 1000) : (popR k M).s.length ≤ 1000 := by
  unfold popR
  split
  · simp
  · exact (pop_s h).1
theorem result_tr {n : Int} {M : Mach} (h : M.tr = true) : result n M = M := by rw [result, if_pos h]
theorem result_ok {n : Int} {M : Mach} (h : M.tr = false) : result n M = push (intV n) M := by rw [result, if_neg (by simp [h])]
set_option maxHeartbeats 4000000 in
theorem p63 (H0 : AHeap) (ρ : Ref) (d : ρ.Ok) (p : Prog) (ps : List Val) (M : Mach) (g : Good p M) (hll : M.loops.length ≤ 4) (hsrt : ∀ w ∈ p.vars, validS w.sort = true) (hsv : ∀ v ∈ M.stack, okV v) (i : Nat) (hi : M.pc = (i : Int)) (x : Ins_) (hx : p.code[i]? = some x) (hI : InsOk p x) (hop : 1 ≤ x.op ∧ x.op ≤ 23) : ∀ H, MS H0 ρ ps M H → ACalls Try.prog 63 [.ptr ρ.b 0, p.av, .int .i64 (i : Int)] H (Ret fun a H' => ∃ n : Int, a = .int .i64 n ∧ ((stepM p ps M).tr = false → n = (stepM p ps M).pc) ∧ MS H0 ρ ps (stepM p ps M) H') := by
  rintro H ⟨vs, vl, rfl⟩
  have e0 : stepM p ps M = stepX p ps x { M with pc := W (M.pc + 1) } := by simp [stepM, hi, hx]
  rw [e0]
  have d1 := d.vs; have d2 := d.vl; have d3 := d.ls
  have d1' := Ne.symm d1; have d2' := Ne.symm d2; have d3' := Ne.symm d3
  have hN : (HM H0 ρ ps M vs vl) = HM H0 ρ ps { M with pc := W (M.pc + 1) } vs vl := rfl
  rw [hN]
  have hpc : ({ M with pc := W (M.pc + 1) } : Mach).pc = W ((i : Int) + 1) := by rw [hi]
  generalize hM : ({ M with pc := W (M.pc + 1) } : Mach) = N at *
  have gst : N.stack.length ≤ 16 := by subst hM; exact g.st
  have gstr : ∀ v ∈ N.stack, v.s.length ≤ 1000 := by subst hM; exact g.str
  have gok : ∀ v ∈ N.stack, okV v := by subst hM; exact hsv
  have gll : N.loops.length ≤ 4 := by subst hM; exact hll
  have gvl : N.vars.length = p.vars.length := by subst hM; exact g.vl
  have hlen : N.stack.length ≤ maxLen := by unfold maxLen; omega
  clear hN hM e0 hsv hll g
  have key : AM Try.prog r63 (Ret fun a H' => ∃ n : Int, a = .int .i64 n ∧ ((stepX p ps x N).tr = false → n = (stepX p ps x N).pc) ∧ ∃ vs' vl', HSub (HM H0 ρ ps (stepX p ps x N) vs' vl') H') [.c e63] (initEnv [.ptr ρ.b 0, p.av, .int .i64 (i : Int)]) (HM H0 ρ ps N vs vl) := by
    unfold e63 r63
    simp only [initEnv, initFrom]
    repeat' first|(apply Sp.go;·constructor<;>first|exact ss|(change _=_;first|(simp only[go_sem,Nat.reduceBEq,Nat.reduceAdd,Nat.reduceLeDiff,reduceIte]<;>rfl)|rfl)|exact Nat.le_of_ble_eq_true rfl|decide|(repeat' first|(apply Lk.go;constructor)|assumption|exact nb ‹_› ‹_›|exact nt ‹_› ‹_›|(apply Lm.go;constructor)))|(intro b hb;repeat first|(refine fe hb ?_;intro _ _ hb)|(refine fT hb ?_;intro hb)|(refine fresh_elimM hb ?_;intro _ _ hb))|refine rt ?_|refine gA rfl ?_|refine gB rfl ?_|apply cT rfl|apply cF rfl|(apply DM.gbT;rfl)|(apply DM.gbF;rfl)|(apply DM.ixV (row := x.row) (z := (i : Int)) (by omega) (row_get Ins_.row hx); (· rfl); (· rfl))|intro h
    rw [hm_setB (by assumption)]
    rw [hm_setB (by assumption)]
    (apply AM.cond; (· rfl))
    · intro h1
      simp at h1
      repeat' first|(apply Sp.go;·constructor<;>first|exact ss|(change _=_;first|(simp only[go_sem,Nat.reduceBEq,Nat.reduceAdd,Nat.reduceLeDiff,reduceIte]<;>rfl)|rfl)|exact Nat.le_of_ble_eq_true rfl|decide|(repeat' first|(apply Lk.go;constructor)|assumption|exact nb ‹_› ‹_›|exact nt ‹_› ‹_›|(apply Lm.go;constructor)))|(intro b hb;repeat first|(refine fe hb ?_;intro _ _ hb)|(refine fT hb ?_;intro hb)|(refine fresh_elimM hb ?_;intro _ _ hb))|refine rt ?_|refine gA rfl ?_|refine gB rfl ?_|apply cT rfl|apply cF rfl|(apply DM.gbT;rfl)|(apply DM.gbF;rfl)|((apply DM.cal (p98 _ ρ d ps N gst x.n _ ⟨_, _, rfl⟩); (· simp only [go_sem, Nat.reduceBEq, Nat.reduceAdd] <;> rfl); (· exact AVLes.refl _)); rintro r H1 ⟨rfl, vs, vl, rfl⟩; simp only [put_some])|intro h
      (apply Sr.go;·constructor<;>first|(apply Lk.go;constructor<;>first|exact ss|(change _=_;first|(simp only[go_sem,Nat.reduceBEq,Nat.reduceAdd,Nat.reduceLeDiff,reduceIte]<;>rfl)|rfl)|exact Nat.le_of_ble_eq_true rfl|decide|(repeat' first|(apply Lk.go;constructor)|assumption|exact nb ‹_› ‹_›|exact nt ‹_› ‹_›))|assumption)
      have e : stepX p ps x N = push (intV x.n) N := by simp [stepX, h1]
      rw [e]
      refine ⟨_, rfl, fun _ => by rw [push_pc, hpc]; rfl, vs, vl, ?_⟩
      (refine hsub_hm ?_ ?_ ?_ ?_ ?_ ?_<;>first|(intro x y h1 h2 h3 h;repeat first|exact h|refine hm_oldT h1 h2 h3 ?_|refine t_ne ‹_› ?_|refine t_fresh ‹_› ?_|refine t_B ?_)|(intro x y hx h;repeat first|exact h|refine hm_old hx ?_|refine g_ne hx ?_|refine g_ne (nb ‹_› h) ?_|refine g_fresh ‹_› ?_|refine g_T ?_)|(repeat' first|(apply Lk.go;constructor)|assumption|exact nb ‹_› ‹_›|exact nt ‹_› ‹_›|(apply Lm.go;constructor)))
    · intro h1
      simp at h1
      repeat' first|(apply Sp.go;·constructor<;>first|exact ss|(change _=_;first|(simp only[go_sem,Nat.reduceBEq,Nat.reduceAdd,Nat.reduceLeDiff,reduceIte]<;>rfl)|rfl)|exact Nat.le_of_ble_eq_true rfl|decide|(repeat' first|(apply Lk.go;constructor)|assumption|exact nb ‹_› ‹_›|exact nt ‹_› ‹_›|(apply Lm.go;constructor)))|(intro b hb;repeat first|(refine fe hb ?_;intro _ _ hb)|(refine fT hb ?_;intro hb)|(refine fresh_elimM hb ?_;intro _ _ hb))|refine rt ?_|refine gA rfl ?_|refine gB rfl ?_|apply cT rfl|apply cF rfl|(apply DM.gbT;rfl)|(apply DM.gbF;rfl)|intro h
      (apply AM.cond; (· rfl))
      · intro h2
        simp at h2
        repeat' first|(apply Sp.go;·constructor<;>first|exact ss|(change _=_;first|(simp only[go_sem,Nat.reduceBEq,Nat.reduceAdd,Nat.reduceLeDiff,reduceIte]<;>rfl)|rfl)|exact Nat.le_of_ble_eq_true rfl|decide|(repeat' first|(apply Lk.go;constructor)|assumption|exact nb ‹_› ‹_›|exact nt ‹_› ‹_›|(apply Lm.go;constructor)))|(intro b hb;repeat first|(refine fe hb ?_;intro _ _ hb)|(refine fT hb ?_;intro hb)|(refine fresh_elimM hb ?_;intro _ _ hb))|refine rt ?_|refine gA rfl ?_|refine gB rfl ?_|apply cT rfl|apply cF rfl|(apply DM.gbT;rfl)|(apply DM.gbF;rfl)|(apply DM.pcs (p31 x.s); (· simp only [go_sem, Nat.reduceBEq, Nat.reduceAdd] <;> rfl); (· exact AVLes.refl _))|((apply DM.cal (p99 _ ρ d ps N gst ⟨2, 0, x.s⟩ _ ⟨_, _, rfl⟩); (· simp only [go_sem, Nat.reduceBEq, Nat.reduceAdd] <;> rfl); (· exact AVLes.refl _)); rintro r H1 ⟨rfl, vs, vl, rfl⟩; simp only [put_some])|intro h
        (apply Sr.go;·constructor<;>first|(apply Lk.go;constructor<;>first|exact ss|(change _=_;first|(simp only[go_sem,Nat.reduceBEq,Nat.reduceAdd,Nat.reduceLeDiff,reduceIte]<;>rfl)|rfl)|exact Nat.le_of_ble_eq_true rfl|decide|(repeat' first|(apply Lk.go;constructor)|assumption|exact nb ‹_› ‹_›|exact nt ‹_› ‹_›))|assumption)
        have e : stepX p ps x N = push ⟨2, 0, x.s⟩ N := by simp [stepX, h2]
        rw [e]
        refine ⟨_, rfl, fun _ => by rw [push_pc, hpc]; rfl, vs, vl, ?_⟩
        (refine hsub_hm ?_ ?_ ?_ ?_ ?_ ?_<;>first|(intro x y h1 h2 h3 h;repeat first|exact h|refine hm_oldT h1 h2 h3 ?_|refine t_ne ‹_› ?_|refine t_fresh ‹_› ?_|refine t_B ?_)|(intro x y hx h;repeat first|exact h|refine hm_old hx ?_|refine g_ne hx ?_|refine g_ne (nb ‹_› h) ?_|refine g_fresh ‹_› ?_|refine g_T ?_)|(repeat' first|(apply Lk.go;constructor)|assumption|exact nb ‹_› ‹_›|exact nt ‹_› ‹_›|(apply Lm.go;constructor)))
      · intro h2
        simp at h2
        repeat' first|(apply Sp.go;·constructor<;>first|exact ss|(change _=_;first|(simp only[go_sem,Nat.reduceBEq,Nat.reduceAdd,Nat.reduceLeDiff,reduceIte]<;>rfl)|rfl)|exact Nat.le_of_ble_eq_true rfl|decide|(repeat' first|(apply Lk.go;constructor)|assumption|exact nb ‹_› ‹_›|exact nt ‹_› ‹_›|(apply Lm.go;constructor)))|(intro b hb;repeat first|(refine fe hb ?_;intro _ _ hb)|(refine fT hb ?_;intro hb)|(refine fresh_elimM hb ?_;intro _ _ hb))|refine rt ?_|refine gA rfl ?_|refine gB rfl ?_|apply cT rfl|apply cF rfl|(apply DM.gbT;rfl)|(apply DM.gbF;rfl)|intro h
        (apply AM.cond; (· rfl))
        · intro h3
          simp at h3
          obtain ⟨q1, q2⟩ := hI.var (.inl h3)
          obtain ⟨u, hu⟩ := some_of (show x.n.toNat < N.vars.length by omega)
          repeat' first|(apply Sp.go;·constructor<;>first|exact ss|(change _=_;first|(simp only[go_sem,Nat.reduceBEq,Nat.reduceAdd,Nat.reduceLeDiff,reduceIte]<;>rfl)|rfl)|exact Nat.le_of_ble_eq_true rfl|decide|(repeat' first|(apply Lk.go;constructor)|assumption|exact nb ‹_› ‹_›|exact nt ‹_› ‹_›|(apply Lm.go;constructor)))|(intro b hb;repeat first|(refine fe hb ?_;intro _ _ hb)|(refine fT hb ?_;intro hb)|(refine fresh_elimM hb ?_;intro _ _ hb))|refine rt ?_|refine gA rfl ?_|refine gB rfl ?_|apply cT rfl|apply cF rfl|(apply DM.gbT;rfl)|(apply DM.gbF;rfl)|(apply DM.ixM; (· rfl); (· repeat' first|(apply Lk.go;constructor)|assumption|exact nb ‹_› ‹_›|exact nt ‹_› ‹_›|(apply Lm.go;constructor)); (· rfl); (· (first | omega | (rw [List.length_map, gvl]; omega))); (· (first | omega | (rw [List.length_map, gvl]; omega))))|(apply DM.ldMA (i := x.n.toNat); (· rfl); (· repeat' first|(apply Lk.go;constructor)|assumption|exact nb ‹_› ‹_›|exact nt ‹_› ‹_›|(apply Lm.go;constructor)); (· exact rows_len _); (· (rw [List.getElem?_map, hu]; rfl)); (· simp))|((apply DM.cal (p99 _ ρ d ps N gst u _ ⟨_, _, rfl⟩); (· simp only [go_sem, Nat.reduceBEq, Nat.reduceAdd] <;> rfl); (· exact AVLes.refl _)); rintro r H1 ⟨rfl, vs, vl, rfl⟩; simp only [put_some])|intro h
          (apply Sr.go;·constructor<;>first|(apply Lk.go;constructor<;>first|exact ss|(change _=_;first|(simp only[go_sem,Nat.reduceBEq,Nat.reduceAdd,Nat.reduceLeDiff,reduceIte]<;>rfl)|rfl)|exact Nat.le_of_ble_eq_true rfl|decide|(repeat' first|(apply Lk.go;constructor)|assumption|exact nb ‹_› ‹_›|exact nt ‹_› ‹_›))|assumption)
          have e : stepX p ps x N = push u N := by simp [stepX, h3, hu]
          rw [e]
          refine ⟨_, rfl, fun _ => by rw [push_pc, hpc]; rfl, vs, vl, ?_⟩
          (refine hsub_hm ?_ ?_ ?_ ?_ ?_ ?_<;>first|(intro x y h1 h2 h3 h;repeat first|exact h|refine hm_oldT h1 h2 h3 ?_|refine t_ne ‹_› ?_|refine t_fresh ‹_› ?_|refine t_B ?_)|(intro x y hx h;repeat first|exact h|refine hm_old hx ?_|refine g_ne hx ?_|refine g_ne (nb ‹_› h) ?_|refine g_fresh ‹_› ?_|refine g_T ?_)|(repeat' first|(apply Lk.go;constructor)|assumption|exact nb ‹_› ‹_›|exact nt ‹_› ‹_›|(apply Lm.go;constructor)))
        · intro h3
          simp at h3
          repeat' first|(apply Sp.go;·constructor<;>first|exact ss|(change _=_;first|(simp only[go_sem,Nat.reduceBEq,Nat.reduceAdd,Nat.reduceLeDiff,reduceIte]<;>rfl)|rfl)|exact Nat.le_of_ble_eq_true rfl|decide|(repeat' first|(apply Lk.go;constructor)|assumption|exact nb ‹_› ‹_›|exact nt ‹_› ‹_›|(apply Lm.go;constructor)))|(intro b hb;repeat first|(refine fe hb ?_;intro _ _ hb)|(refine fT hb ?_;intro hb)|(refine fresh_elimM hb ?_;intro _ _ hb))|refine rt ?_|refine gA rfl ?_|refine gB rfl ?_|apply cT rfl|apply cF rfl|(apply DM.gbT;rfl)|(apply DM.gbF;rfl)|intro h
          (apply AM.cond; (· rfl))
          · intro h4
            simp at h4
            have q1 := hI.par h4
            repeat' first|(apply Sp.go;·constructor<;>first|exact ss|(change _=_;first|(simp only[go_sem,Nat.reduceBEq,Nat.reduceAdd,Nat.reduceLeDiff,reduceIte]<;>rfl)|rfl)|exact Nat.le_of_ble_eq_true rfl|decide|(repeat' first|(apply Lk.go;constructor)|assumption|exact nb ‹_› ‹_›|exact nt ‹_› ‹_›|(apply Lm.go;constructor)))|(intro b hb;repeat first|(refine fe hb ?_;intro _ _ hb)|(refine fT hb ?_;intro hb)|(refine fresh_elimM hb ?_;intro _ _ hb))|refine rt ?_|refine gA rfl ?_|refine gB rfl ?_|apply cT rfl|apply cF rfl|(apply DM.gbT;rfl)|(apply DM.gbF;rfl)|intro h
            (apply AM.cond; (· rfl))
            · intro h5
              simp at h5
              repeat' first|(apply Sp.go;·constructor<;>first|exact ss|(change _=_;first|(simp only[go_sem,Nat.reduceBEq,Nat.reduceAdd,Nat.reduceLeDiff,reduceIte]<;>rfl)|rfl)|exact Nat.le_of_ble_eq_true rfl|decide|(repeat' first|(apply Lk.go;constructor)|assumption|exact nb ‹_› ‹_›|exact nt ‹_› ‹_›|(apply Lm.go;constructor)))|(intro b hb;repeat first|(refine fe hb ?_;intro _ _ hb)|(refine fT hb ?_;intro hb)|(refine fresh_elimM hb ?_;intro _ _ hb))|refine rt ?_|refine gA rfl ?_|refine gB rfl ?_|apply cT rfl|apply cF rfl|(apply DM.gbT;rfl)|(apply DM.gbF;rfl)|intro h
              (apply Sr.go;·constructor<;>first|(apply Lk.go;constructor<;>first|exact ss|(change _=_;first|(simp only[go_sem,Nat.reduceBEq,Nat.reduceAdd,Nat.reduceLeDiff,reduceIte]<;>rfl)|rfl)|exact Nat.le_of_ble_eq_true rfl|decide|(repeat' first|(apply Lk.go;constructor)|assumption|exact nb ‹_› ‹_›|exact nt ‹_› ‹_›))|assumption)
              have e : stepX p ps x N = { N with tr := true } := by simp [stepX, h4]; rw [List.getElem?_eq_none (by omega)]
              rw [e]
              refine ⟨_, rfl, fun h => (by cases h), vs, vl, ?_⟩
              (refine hsub_hm ?_ ?_ ?_ ?_ ?_ ?_<;>first|(intro x y h1 h2 h3 h;repeat first|exact h|refine hm_oldT h1 h2 h3 ?_|refine t_ne ‹_› ?_|refine t_fresh ‹_› ?_|refine t_B ?_)|(intro x y hx h;repeat first|exact h|refine hm_old hx ?_|refine g_ne hx ?_|refine g_ne (nb ‹_› h) ?_|refine g_fresh ‹_› ?_|refine g_T ?_)|(repeat' first|(apply Lk.go;constructor)|assumption|exact nb ‹_› ‹_›|exact nt ‹_› ‹_›|(apply Lm.go;constructor)))
            · intro h5
              simp at h5
              obtain ⟨u, hu⟩ := some_of (show x.n.toNat < ps.length by omega)
              repeat' first|(apply Sp.go;·constructor<;>first|exact ss|(change _=_;first|(simp only[go_sem,Nat.reduceBEq,Nat.reduceAdd,Nat.reduceLeDiff,reduceIte]<;>rfl)|rfl)|exact Nat.le_of_ble_eq_true rfl|decide|(repeat' first|(apply Lk.go;constructor)|assumption|exact nb ‹_› ‹_›|exact nt ‹_› ‹_›|(apply Lm.go;constructor)))|(intro b hb;repeat first|(refine fe hb ?_;intro _ _ hb)|(refine fT hb ?_;intro hb)|(refine fresh_elimM hb ?_;intro _ _ hb))|refine rt ?_|refine gA rfl ?_|refine gB rfl ?_|apply cT rfl|apply cF rfl|(apply DM.gbT;rfl)|(apply DM.gbF;rfl)|(apply DM.ixV (rows := ps.map Val.row) (row := u.row) (z := x.n) q1 (by rw [List.getElem?_map, hu]; rfl); (· rfl); (· rfl))|((apply DM.cal (p99 _ ρ d ps N gst u _ ⟨_, _, rfl⟩); (· simp only [go_sem, Nat.reduceBEq, Nat.reduceAdd] <;> rfl); (· exact AVLes.refl _)); rintro r H1 ⟨rfl, vs, vl, rfl⟩; simp only [put_some])|intro h
              (apply Sr.go;·constructor<;>first|(apply Lk.go;constructor<;>first|exact ss|(change _=_;first|(simp only[go_sem,Nat.reduceBEq,Nat.reduceAdd,Nat.reduceLeDiff,reduceIte]<;>rfl)|rfl)|exact Nat.le_of_ble_eq_true rfl|decide|(repeat' first|(apply Lk.go;constructor)|assumption|exact nb ‹_› ‹_›|exact nt ‹_› ‹_›))|assumption)
              have e : stepX p ps x N = push u N := by simp [stepX, h4, hu]
              rw [e]
              refine ⟨_, rfl, fun _ => by rw [push_pc, hpc]; rfl, vs, vl, ?_⟩
              (refine hsub_hm ?_ ?_ ?_ ?_ ?_ ?_<;>first|(intro x y h1 h2 h3 h;repeat first|exact h|refine hm_oldT h1 h2 h3 ?_|refine t_ne ‹_› ?_|refine t_fresh ‹_› ?_|refine t_B ?_)|(intro x y hx h;repeat first|exact h|refine hm_old hx ?_|refine g_ne hx ?_|refine g_ne (nb ‹_› h) ?_|refine g_fresh ‹_› ?_|refine g_T ?_)|(repeat' first|(apply Lk.go;constructor)|assumption|exact nb ‹_› ‹_›|exact nt ‹_› ‹_›|(apply Lm.go;constructor)))
          · intro h4
            simp at h4
            repeat' first|(apply Sp.go;·constructor<;>first|exact ss|(change _=_;first|(simp only[go_sem,Nat.reduceBEq,Nat.reduceAdd,Nat.reduceLeDiff,reduceIte]<;>rfl)|rfl)|exact Nat.le_of_ble_eq_true rfl|decide|(repeat' first|(apply Lk.go;constructor)|assumption|exact nb ‹_› ‹_›|exact nt ‹_› ‹_›|(apply Lm.go;constructor)))|(intro b hb;repeat first|(refine fe hb ?_;intro _ _ hb)|(refine fT hb ?_;intro hb)|(refine fresh_elimM hb ?_;intro _ _ hb))|refine rt ?_|refine gA rfl ?_|refine gB rfl ?_|apply cT rfl|apply cF rfl|(apply DM.gbT;rfl)|(apply DM.gbF;rfl)|intro h
            (apply AM.cond; (· rfl))
            · intro h5
              simp at h5
              obtain ⟨q1, q2⟩ := hI.var (.inr h5)
              obtain ⟨w, hw⟩ := some_of (show x.n.toNat < p.vars.length by omega)
              have hws := hsrt w (List.mem_of_getElem? hw)
              obtain ⟨u, hu⟩ := some_of (show x.n.toNat < N.vars.length by omega)
              repeat' first|(apply Sp.go;·constructor<;>first|exact ss|(change _=_;first|(simp only[go_sem,Nat.reduceBEq,Nat.reduceAdd,Nat.reduceLeDiff,reduceIte]<;>rfl)|rfl)|exact Nat.le_of_ble_eq_true rfl|decide|(repeat' first|(apply Lk.go;constructor)|assumption|exact nb ‹_› ‹_›|exact nt ‹_› ‹_›|(apply Lm.go;constructor)))|(intro b hb;repeat first|(refine fe hb ?_;intro _ _ hb)|(refine fT hb ?_;intro hb)|(refine fresh_elimM hb ?_;intro _ _ hb))|refine rt ?_|refine gA rfl ?_|refine gB rfl ?_|apply cT rfl|apply cF rfl|(apply DM.gbT;rfl)|(apply DM.gbF;rfl)|(apply DM.ixV (row := w.row) (z := x.n) q1 (by rw [List.getElem?_map, hw]; rfl); (· rfl); (· rfl))|intro h
              rw [hm_setB (by assumption)]
              (apply DM.cal (p100 _ ρ d ps N w.sort.k hlen _ ⟨_, _, rfl⟩); (· simp only [go_sem, Nat.reduceBEq, Nat.reduceAdd] <;> rfl); (· exact AVLes.refl _))
              rintro r H1 ⟨rfl, vs, vl, rfl⟩
              simp only [put_some]
              repeat' first|(apply Sp.go;·constructor<;>first|exact ss|(change _=_;first|(simp only[go_sem,Nat.reduceBEq,Nat.reduceAdd,Nat.reduceLeDiff,reduceIte]<;>rfl)|rfl)|exact Nat.le_of_ble_eq_true rfl|decide|(repeat' first|(apply Lk.go;constructor)|assumption|exact nb ‹_› ‹_›|exact nt ‹_› ‹_›|(apply Lm.go;constructor)))|(intro b hb;repeat first|(refine fe hb ?_;intro _ _ hb)|(refine fT hb ?_;intro hb)|(refine fresh_elimM hb ?_;intro _ _ hb))|refine rt ?_|refine gA rfl ?_|refine gB rfl ?_|apply cT rfl|apply cF rfl|(apply DM.gbT;rfl)|(apply DM.gbF;rfl)|intro h
              rw [hm_setB (by assumption)]
              (apply AM.cond; (· rfl))
              · intro h
                simp at h
                obtain ⟨k1, k2⟩ := pop_get h (by simp [validS] at hws; omega)
                obtain ⟨c1, c2⟩ := store_eq hws k1 (gok _ k2)
                repeat' first|(apply Sp.go;·constructor<;>first|exact ss|(change _=_;first|(simp only[go_sem,Nat.reduceBEq,Nat.reduceAdd,Nat.reduceLeDiff,reduceIte]<;>rfl)|rfl)|exact Nat.le_of_ble_eq_true rfl|decide|(repeat' first|(apply Lk.go;constructor)|assumption|exact nb ‹_› ‹_›|exact nt ‹_› ‹_›|(apply Lm.go;constructor)))|(intro b hb;repeat first|(refine fe hb ?_;intro _ _ hb)|(refine fT hb ?_;intro hb)|(refine fresh_elimM hb ?_;intro _ _ hb))|refine gA rfl ?_|refine gB rfl ?_|apply cT rfl|apply cF rfl|(apply DM.gbT;rfl)|(apply DM.gbF;rfl)|intro h
                (refine AM.reg [(storeR w.sort (popR w.sort.k N)).av] ?_; simp only [annotate, AV.rows])
                repeat' first|(apply Sp.go;·constructor<;>first|exact ss|(change _=_;first|(simp only[go_sem,Nat.reduceBEq,Nat.reduceAdd,Nat.reduceLeDiff,reduceIte]<;>rfl)|rfl)|exact Nat.le_of_ble_eq_true rfl|decide|(repeat' first|(apply Lk.go;constructor)|assumption|exact nb ‹_› ‹_›|exact nt ‹_› ‹_›|(apply Lm.go;constructor)))|(intro b hb;repeat first|(refine fe hb ?_;intro _ _ hb)|(refine fT hb ?_;intro hb)|(refine fresh_elimM hb ?_;intro _ _ hb))|refine rt ?_|refine gA rfl ?_|refine gB rfl ?_|apply cT rfl|apply cF rfl|(apply DM.gbT;rfl)|(apply DM.gbF;rfl)|intro h
                rw [popR_tr h]
                (apply DM.pcRs (p101 w.sort (pop w.sort.k N).1); (· simp only [go_sem, Nat.reduceBEq, Nat.reduceAdd] <;> rfl); (· exact AVLes.refl _))
                rw [c2]
                repeat' first|(apply Sp.go;·constructor<;>first|exact ss|(change _=_;first|(simp only[go_sem,Nat.reduceBEq,Nat.reduceAdd,Nat.reduceLeDiff,reduceIte]<;>rfl)|rfl)|exact Nat.le_of_ble_eq_true rfl|decide|(repeat' first|(apply Lk.go;constructor)|assumption|exact nb ‹_› ‹_›|exact nt ‹_› ‹_›|(apply Lm.go;constructor)))|(intro b hb;repeat first|(refine fe hb ?_;intro _ _ hb)|(refine fT hb ?_;intro hb)|(refine fresh_elimM hb ?_;intro _ _ hb))|refine rt ?_|refine gA rfl ?_|refine gB rfl ?_|apply cT rfl|apply cF rfl|(apply DM.gbT;rfl)|(apply DM.gbF;rfl)|(apply DM.ixM; (· rfl); (· repeat' first|(apply Lk.go;constructor)|assumption|exact nb ‹_› ‹_›|exact nt ‹_› ‹_›|(apply Lm.go;constructor)); (· rfl); (· (first | omega | (rw [List.length_map, pop_vars]; omega))); (· (first | omega | (rw [List.length_map, pop_vars]; omega))))|(apply DM.stM (i := x.n.toNat); (· rfl); (· repeat' first|(apply Lk.go;constructor)|assumption|exact nb ‹_› ‹_›|exact nt ‹_› ‹_›|(apply Lm.go;constructor)); (· simp only [go_sem, Nat.reduceBEq, Nat.reduceAdd] <;> rfl); (· exact rows_len _); (· (rw [List.getElem?_map, pop_vars, hu]; rfl)); (· simp); (· rfl); (· rfl))|intro h
                (apply Sr.go;·constructor<;>first|(apply Lk.go;constructor<;>first|exact ss|(change _=_;first|(simp only[go_sem,Nat.reduceBEq,Nat.reduceAdd,Nat.reduceLeDiff,reduceIte]<;>rfl)|rfl)|exact Nat.le_of_ble_eq_true rfl|decide|(repeat' first|(apply Lk.go;constructor)|assumption|exact nb ‹_› ‹_›|exact nt ‹_› ‹_›))|assumption)
                have e : stepX p ps x N = { (pop w.sort.k N).2 with vars := N.vars.set x.n.toNat (clampV w.sort (clampN (pop w.sort.k N).1)).1 } := by simp [stepX, h5, hw, storeM, h, c1]
                rw [e]
                refine ⟨_, rfl, fun _ => by show _ = (pop w.sort.k N).2.pc; rw [pop_pc, hpc]; rfl, vs, vl, ?_⟩
                rw [pop_vars]
                rw [show (N.vars.map Val.row).set x.n.toNat [AV.int IntKind.i64 (clampV w.sort (clampN (pop w.sort.k N).1)).1.k, AV.int IntKind.i64 (clampV w.sort (clampN (pop w.sort.k N).1)).1.n, AV.str (clampV w.sort (clampN (pop w.sort.k N).1)).1.s] = (N.vars.set x.n.toNat (clampV w.sort (clampN (pop w.sort.k N).1)).1).map Val.row by rw [List.map_set]]
                (refine hsub_hm ?_ ?_ ?_ ?_ ?_ ?_<;>first|(intro x y h1 h2 h3 h;repeat first|exact h|refine hm_oldT h1 h2 h3 ?_|refine t_ne ‹_› ?_|refine t_fresh ‹_› ?_|refine t_B ?_)|(intro x y hx h;repeat first|exact h|refine hm_old hx ?_|refine g_ne hx ?_|refine g_ne (nb ‹_› h) ?_|refine g_fresh ‹_› ?_|refine g_T ?_)|(repeat' first|(apply Lk.go;constructor)|assumption|exact nb ‹_› ‹_›|exact nt ‹_› ‹_›|(apply Lm.go;constructor)))
              · intro h
                simp at h
                repeat' first|(apply Sp.go;·constructor<;>first|exact ss|(change _=_;first|(simp only[go_sem,Nat.reduceBEq,Nat.reduceAdd,Nat.reduceLeDiff,reduceIte]<;>rfl)|rfl)|exact Nat.le_of_ble_eq_true rfl|decide|(repeat' first|(apply Lk.go;constructor)|assumption|exact nb ‹_› ‹_›|exact nt ‹_› ‹_›|(apply Lm.go;constructor)))|(intro b hb;repeat first|(refine fe hb ?_;intro _ _ hb)|(refine fT hb ?_;intro hb)|(refine fresh_elimM hb ?_;intro _ _ hb))|refine rt ?_|refine gA rfl ?_|refine gB rfl ?_|apply cT rfl|apply cF rfl|(apply DM.gbT;rfl)|(apply DM.gbF;rfl)|intro h
                (apply Sr.go;·constructor<;>first|(apply Lk.go;constructor<;>first|exact ss|(change _=_;first|(simp only[go_sem,Nat.reduceBEq,Nat.reduceAdd,Nat.reduceLeDiff,reduceIte]<;>rfl)|rfl)|exact Nat.le_of_ble_eq_true rfl|decide|(repeat' first|(apply Lk.go;constructor)|assumption|exact nb ‹_› ‹_›|exact nt ‹_› ‹_›))|assumption)
                have e : stepX p ps x N = (pop w.sort.k N).2 := by simp [stepX, h5, hw, storeM, h]
                rw [e]
                refine ⟨_, rfl, fun _ => by rw [pop_pc, hpc]; rfl, vs, vl, ?_⟩
                (refine hsub_hm ?_ ?_ ?_ ?_ ?_ ?_<;>first|(intro x y h1 h2 h3 h;repeat first|exact h|refine hm_oldT h1 h2 h3 ?_|refine t_ne ‹_› ?_|refine t_fresh ‹_› ?_|refine t_B ?_)|(intro x y hx h;repeat first|exact h|refine hm_old hx ?_|refine g_ne hx ?_|refine g_ne (nb ‹_› h) ?_|refine g_fresh ‹_› ?_|refine g_T ?_)|(repeat' first|(apply Lk.go;constructor)|assumption|exact nb ‹_› ‹_›|exact nt ‹_› ‹_›|(apply Lm.go;constructor)))
            · intro h5
              simp at h5
              repeat' first|(apply Sp.go;·constructor<;>first|exact ss|(change _=_;first|(simp only[go_sem,Nat.reduceBEq,Nat.reduceAdd,Nat.reduceLeDiff,reduceIte]<;>rfl)|rfl)|exact Nat.le_of_ble_eq_true rfl|decide|(repeat' first|(apply Lk.go;constructor)|assumption|exact nb ‹_› ‹_›|exact nt ‹_› ‹_›|(apply Lm.go;constructor)))|(intro b hb;repeat first|(refine fe hb ?_;intro _ _ hb)|(refine fT hb ?_;intro hb)|(refine fresh_elimM hb ?_;intro _ _ hb))|refine rt ?_|refine gA rfl ?_|refine gB rfl ?_|apply cT rfl|apply cF rfl|(apply DM.gbT;rfl)|(apply DM.gbF;rfl)|intro h
              (apply AM.cond; (· rfl))
              · intro h11
                simp at h11
                repeat' first|(apply Sp.go;·constructor<;>first|exact ss|(change _=_;first|(simp only[go_sem,Nat.reduceBEq,Nat.reduceAdd,Nat.reduceLeDiff,reduceIte]<;>rfl)|rfl)|exact Nat.le_of_ble_eq_true rfl|decide|(repeat' first|(apply Lk.go;constructor)|assumption|exact nb ‹_› ‹_›|exact nt ‹_› ‹_›|(apply Lm.go;constructor)))|(intro b hb;repeat first|(refine fe hb ?_;intro _ _ hb)|(refine fT hb ?_;intro hb)|(refine fresh_elimM hb ?_;intro _ _ hb))|refine rt ?_|refine gA rfl ?_|refine gB rfl ?_|apply cT rfl|apply cF rfl|(apply DM.gbT;rfl)|(apply DM.gbF;rfl)|((apply DM.cal (p100 _ ρ d ps N 1 hlen _ ⟨_, _, rfl⟩); (· simp only [go_sem, Nat.reduceBEq, Nat.reduceAdd] <;> rfl); (· exact AVLes.refl _)); rintro r H1 ⟨rfl, vs, vl, rfl⟩; simp only [put_some])|intro h
                rw [hm_setB (by assumption)]
                (apply AM.cond; (· rfl))
                · intro h
                  simp at h
                  repeat' first|(apply Sp.go;·constructor<;>first|exact ss|(change _=_;first|(simp only[go_sem,Nat.reduceBEq,Nat.reduceAdd,Nat.reduceLeDiff,reduceIte]<;>rfl)|rfl)|exact Nat.le_of_ble_eq_true rfl|decide|(repeat' first|(apply Lk.go;constructor)|assumption|exact nb ‹_› ‹_›|exact nt ‹_› ‹_›|(apply Lm.go;constructor)))|(intro b hb;repeat first|(refine fe hb ?_;intro _ _ hb)|(refine fT hb ?_;intro hb)|(refine fresh_elimM hb ?_;intro _ _ hb))|refine rt ?_|refine gA rfl ?_|refine gB rfl ?_|apply cT rfl|apply cF rfl|(apply DM.gbT;rfl)|(apply DM.gbF;rfl)|intro h
                  rw [popR_n]
                  (apply DM.cal (p98 _ ρ d ps _ (pop_st gst) _ _ ⟨_, _, rfl⟩); (· simp only [go_sem, Nat.reduceBEq, Nat.reduceAdd] <;> rfl); (· exact AVLes.refl _))
                  rintro r H1 ⟨rfl, vs, vl, rfl⟩
                  simp only [put_some]
                  repeat' first|(apply Sp.go;·constructor<;>first|exact ss|(change _=_;first|(simp only[go_sem,Nat.reduceBEq,Nat.reduceAdd,Nat.reduceLeDiff,reduceIte]<;>rfl)|rfl)|exact Nat.le_of_ble_eq_true rfl|decide|(repeat' first|(apply Lk.go;constructor)|assumption|exact nb ‹_› ‹_›|exact nt ‹_› ‹_›|(apply Lm.go;constructor)))|(intro b hb;repeat first|(refine fe hb ?_;intro _ _ hb)|(refine fT hb ?_;intro hb)|(refine fresh_elimM hb ?_;intro _ _ hb))|refine rt ?_|refine gA rfl ?_|refine gB rfl ?_|apply cT rfl|apply cF rfl|(apply DM.gbT;rfl)|(apply DM.gbF;rfl)|intro h
                  (apply Sr.go;·constructor<;>first|(apply Lk.go;constructor<;>first|exact ss|(change _=_;first|(simp only[go_sem,Nat.reduceBEq,Nat.reduceAdd,Nat.reduceLeDiff,reduceIte]<;>rfl)|rfl)|exact Nat.le_of_ble_eq_true rfl|decide|(repeat' first|(apply Lk.go;constructor)|assumption|exact nb ‹_› ‹_›|exact nt ‹_› ‹_›))|assumption)
                  have e : stepX p ps x N = push (intV (W (0 - (pop 1 N).1.n))) (pop 1 N).2 := by rw [← result_ok h]; simp [stepX, h11]
                  rw [e]
                  refine ⟨_, rfl, fun _ => by rw [push_pc, pop_pc, hpc]; rfl, vs, vl, ?_⟩
                  (refine hsub_hm ?_ ?_ ?_ ?_ ?_ ?_<;>first|(intro x y h1 h2 h3 h;repeat first|exact h|refine hm_oldT h1 h2 h3 ?_|refine t_ne ‹_› ?_|refine t_fresh ‹_› ?_|refine t_B ?_)|(intro x y hx h;repeat first|exact h|refine hm_old hx ?_|refine g_ne hx ?_|refine g_ne (nb ‹_› h) ?_|refine g_fresh ‹_› ?_|refine g_T ?_)|(repeat' first|(apply Lk.go;constructor)|assumption|exact nb ‹_› ‹_›|exact nt ‹_› ‹_›|(apply Lm.go;constructor)))
                · intro h
                  simp at h
                  repeat' first|(apply Sp.go;·constructor<;>first|exact ss|(change _=_;first|(simp only[go_sem,Nat.reduceBEq,Nat.reduceAdd,Nat.reduceLeDiff,reduceIte]<;>rfl)|rfl)|exact Nat.le_of_ble_eq_true rfl|decide|(repeat' first|(apply Lk.go;constructor)|assumption|exact nb ‹_› ‹_›|exact nt ‹_› ‹_›|(apply Lm.go;constructor)))|(intro b hb;repeat first|(refine fe hb ?_;intro _ _ hb)|(refine fT hb ?_;intro hb)|(refine fresh_elimM hb ?_;intro _ _ hb))|refine rt ?_|refine gA rfl ?_|refine gB rfl ?_|apply cT rfl|apply cF rfl|(apply DM.gbT;rfl)|(apply DM.gbF;rfl)|intro h
                  (apply Sr.go;·constructor<;>first|(apply Lk.go;constructor<;>first|exact ss|(change _=_;first|(simp only[go_sem,Nat.reduceBEq,Nat.reduceAdd,Nat.reduceLeDiff,reduceIte]<;>rfl)|rfl)|exact Nat.le_of_ble_eq_true rfl|decide|(repeat' first|(apply Lk.go;constructor)|assumption|exact nb ‹_› ‹_›|exact nt ‹_› ‹_›))|assumption)
                  have e : stepX p ps x N = (pop 1 N).2 := by rw [← result_tr (n := W (0 - (pop 1 N).1.n)) h]; simp [stepX, h11]
                  rw [e]
                  refine ⟨_, rfl, fun _ => by rw [pop_pc, hpc]; rfl, vs, vl, ?_⟩
                  (refine hsub_hm ?_ ?_ ?_ ?_ ?_ ?_<;>first|(intro x y h1 h2 h3 h;repeat first|exact h|refine hm_oldT h1 h2 h3 ?_|refine t_ne ‹_› ?_|refine t_fresh ‹_› ?_|refine t_B ?_)|(intro x y hx h;repeat first|exact h|refine hm_old hx ?_|refine g_ne hx ?_|refine g_ne (nb ‹_› h) ?_|refine g_fresh ‹_› ?_|refine g_T ?_)|(repeat' first|(apply Lk.go;constructor)|assumption|exact nb ‹_› ‹_›|exact nt ‹_› ‹_›|(apply Lm.go;constructor)))
              · intro h11
                simp at h11
                repeat' first|(apply Sp.go;·constructor<;>first|exact ss|(change _=_;first|(simp only[go_sem,Nat.reduceBEq,Nat.reduceAdd,Nat.reduceLeDiff,reduceIte]<;>rfl)|rfl)|exact Nat.le_of_ble_eq_true rfl|decide|(repeat' first|(apply Lk.go;constructor)|assumption|exact nb ‹_› ‹_›|exact nt ‹_› ‹_›|(apply Lm.go;constructor)))|(intro b hb;repeat first|(refine fe hb ?_;intro _ _ hb)|(refine fT hb ?_;intro hb)|(refine fresh_elimM hb ?_;intro _ _ hb))|refine rt ?_|refine gA rfl ?_|refine gB rfl ?_|apply cT rfl|apply cF rfl|(apply DM.gbT;rfl)|(apply DM.gbF;rfl)|intro h
                (apply AM.cond; (· rfl))
                · intro h14
                  simp at h14
                  repeat' first|(apply Sp.go;·constructor<;>first|exact ss|(change _=_;first|(simp only[go_sem,Nat.reduceBEq,Nat.reduceAdd,Nat.reduceLeDiff,reduceIte]<;>rfl)|rfl)|exact Nat.le_of_ble_eq_true rfl|decide|(repeat' first|(apply Lk.go;constructor)|assumption|exact nb ‹_› ‹_›|exact nt ‹_› ‹_›|(apply Lm.go;constructor)))|(intro b hb;repeat first|(refine fe hb ?_;intro _ _ hb)|(refine fT hb ?_;intro hb)|(refine fresh_elimM hb ?_;intro _ _ hb))|refine rt ?_|refine gA rfl ?_|refine gB rfl ?_|apply cT rfl|apply cF rfl|(apply DM.gbT;rfl)|(apply DM.gbF;rfl)|((apply DM.cal (p100 _ ρ d ps N 1 hlen _ ⟨_, _, rfl⟩); (· simp only [go_sem, Nat.reduceBEq, Nat.reduceAdd] <;> rfl); (· exact AVLes.refl _)); rintro r H1 ⟨rfl, vs, vl, rfl⟩; simp only [put_some])|intro h
                  rw [hm_setB (by assumption)]
                  (apply AM.cond; (· rfl))
                  · intro h
                    simp at h
                    repeat' first|(apply Sp.go;·constructor<;>first|exact ss|(change _=_;first|(simp only[go_sem,Nat.reduceBEq,Nat.reduceAdd,Nat.reduceLeDiff,reduceIte]<;>rfl)|rfl)|exact Nat.le_of_ble_eq_true rfl|decide|(repeat' first|(apply Lk.go;constructor)|assumption|exact nb ‹_› ‹_›|exact nt ‹_› ‹_›|(apply Lm.go;constructor)))|(intro b hb;repeat first|(refine fe hb ?_;intro _ _ hb)|(refine fT hb ?_;intro hb)|(refine fresh_elimM hb ?_;intro _ _ hb))|refine rt ?_|refine gA rfl ?_|refine gB rfl ?_|apply cT rfl|apply cF rfl|(apply DM.gbT;rfl)|(apply DM.gbF;rfl)|intro h
                    rw [popR_n]
                    (apply DM.cal (p102 _ ρ d ps _ (pop_st gst) _ _ ⟨_, _, rfl⟩); (· simp only [go_sem, Nat.reduceBEq, Nat.reduceAdd] <;> rfl); (· exact AVLes.refl _))
                    rintro r H1 ⟨rfl, vs, vl, rfl⟩
                    simp only [put_some]
                    repeat' first|(apply Sp.go;·constructor<;>first|exact ss|(change _=_;first|(simp only[go_sem,Nat.reduceBEq,Nat.reduceAdd,Nat.reduceLeDiff,reduceIte]<;>rfl)|rfl)|exact Nat.le_of_ble_eq_true rfl|decide|(repeat' first|(apply Lk.go;constructor)|assumption|exact nb ‹_› ‹_›|exact nt ‹_› ‹_›|(apply Lm.go;constructor)))|(intro b hb;repeat first|(refine fe hb ?_;intro _ _ hb)|(refine fT hb ?_;intro hb)|(refine fresh_elimM hb ?_;intro _ _ hb))|refine rt ?_|refine gA rfl ?_|refine gB rfl ?_|apply cT rfl|apply cF rfl|(apply DM.gbT;rfl)|(apply DM.gbF;rfl)|intro h
                    (apply Sr.go;·constructor<;>first|(apply Lk.go;constructor<;>first|exact ss|(change _=_;first|(simp only[go_sem,Nat.reduceBEq,Nat.reduceAdd,Nat.reduceLeDiff,reduceIte]<;>rfl)|rfl)|exact Nat.le_of_ble_eq_true rfl|decide|(repeat' first|(apply Lk.go;constructor)|assumption|exact nb ‹_› ‹_›|exact nt ‹_› ‹_›))|assumption)
                    have e : stepX p ps x N = push (intV (if decide ((pop 1 N).1.n = 0) = true then 1 else 0)) (pop 1 N).2 := by rw [← result_ok h]; simp [stepX, h14]
                    rw [e]
                    refine ⟨_, rfl, fun _ => by rw [push_pc, pop_pc, hpc]; rfl, vs, vl, ?_⟩
                    (refine hsub_hm ?_ ?_ ?_ ?_ ?_ ?_<;>first|(intro x y h1 h2 h3 h;repeat first|exact h|refine hm_oldT h1 h2 h3 ?_|refine t_ne ‹_› ?_|refine t_fresh ‹_› ?_|refine t_B ?_)|(intro x y hx h;repeat first|exact h|refine hm_old hx ?_|refine g_ne hx ?_|refine g_ne (nb ‹_› h) ?_|refine g_fresh ‹_› ?_|refine g_T ?_)|(repeat' first|(apply Lk.go;constructor)|assumption|exact nb ‹_› ‹_›|exact nt ‹_› ‹_›|(apply Lm.go;constructor)))
                  · intro h
                    simp at h
                    repeat' first|(apply Sp.go;·constructor<;>first|exact ss|(change _=_;first|(simp only[go_sem,Nat.reduceBEq,Nat.reduceAdd,Nat.reduceLeDiff,reduceIte]<;>rfl)|rfl)|exact Nat.le_of_ble_eq_true rfl|decide|(repeat' first|(apply Lk.go;constructor)|assumption|exact nb ‹_› ‹_›|exact nt ‹_› ‹_›|(apply Lm.go;constructor)))|(intro b hb;repeat first|(refine fe hb ?_;intro _ _ hb)|(refine fT hb ?_;intro hb)|(refine fresh_elimM hb ?_;intro _ _ hb))|refine rt ?_|refine gA rfl ?_|refine gB rfl ?_|apply cT rfl|apply cF rfl|(apply DM.gbT;rfl)|(apply DM.gbF;rfl)|intro h
                    (apply Sr.go;·constructor<;>first|(apply Lk.go;constructor<;>first|exact ss|(change _=_;first|(simp only[go_sem,Nat.reduceBEq,Nat.reduceAdd,Nat.reduceLeDiff,reduceIte]<;>rfl)|rfl)|exact Nat.le_of_ble_eq_true rfl|decide|(repeat' first|(apply Lk.go;constructor)|assumption|exact nb ‹_› ‹_›|exact nt ‹_› ‹_›))|assumption)
                    have e : stepX p ps x N = (pop 1 N).2 := by rw [← result_tr (n := if (pop 1 N).1.n = 0 then 1 else 0) h]; simp [stepX, h14]
                    rw [e]
                    refine ⟨_, rfl, fun _ => by rw [pop_pc, hpc]; rfl, vs, vl, ?_⟩
                    (refine hsub_hm ?_ ?_ ?_ ?_ ?_ ?_<;>first|(intro x y h1 h2 h3 h;repeat first|exact h|refine hm_oldT h1 h2 h3 ?_|refine t_ne ‹_› ?_|refine t_fresh ‹_› ?_|refine t_B ?_)|(intro x y hx h;repeat first|exact h|refine hm_old hx ?_|refine g_ne hx ?_|refine g_ne (nb ‹_› h) ?_|refine g_fresh ‹_› ?_|refine g_T ?_)|(repeat' first|(apply Lk.go;constructor)|assumption|exact nb ‹_› ‹_›|exact nt ‹_› ‹_›|(apply Lm.go;constructor)))
                · intro h14
                  simp at h14
                  repeat' first|(apply Sp.go;·constructor<;>first|exact ss|(change _=_;first|(simp only[go_sem,Nat.reduceBEq,Nat.reduceAdd,Nat.reduceLeDiff,reduceIte]<;>rfl)|rfl)|exact Nat.le_of_ble_eq_true rfl|decide|(repeat' first|(apply Lk.go;constructor)|assumption|exact nb ‹_› ‹_›|exact nt ‹_› ‹_›|(apply Lm.go;constructor)))|(intro b hb;repeat first|(refine fe hb ?_;intro _ _ hb)|(refine fT hb ?_;intro hb)|(refine fresh_elimM hb ?_;intro _ _ hb))|refine rt ?_|refine gA rfl ?_|refine gB rfl ?_|apply cT rfl|apply cF rfl|(apply DM.gbT;rfl)|(apply DM.gbF;rfl)|intro h
                  (apply AM.cond; (· rfl))
                  · intro h12
                    simp at h12
                    repeat' first|(apply Sp.go;·constructor<;>first|exact ss|(change _=_;first|(simp only[go_sem,Nat.reduceBEq,Nat.reduceAdd,Nat.reduceLeDiff,reduceIte]<;>rfl)|rfl)|exact Nat.le_of_ble_eq_true rfl|decide|(repeat' first|(apply Lk.go;constructor)|assumption|exact nb ‹_› ‹_›|exact nt ‹_› ‹_›|(apply Lm.go;constructor)))|(intro b hb;repeat first|(refine fe hb ?_;intro _ _ hb)|(refine fT hb ?_;intro hb)|(refine fresh_elimM hb ?_;intro _ _ hb))|refine rt ?_|refine gA rfl ?_|refine gB rfl ?_|apply cT rfl|apply cF rfl|(apply DM.gbT;rfl)|(apply DM.gbF;rfl)|intro h
                    (apply DM.cal (p100 _ ρ d ps N 0 hlen _ ⟨_, _, rfl⟩); (· simp only [go_sem, Nat.reduceBEq, Nat.reduceAdd] <;> rfl); (· exact AVLes.refl _))
                    rintro r H1 ⟨rfl, vs, vl, rfl⟩
                    simp only [put_some]
                    rw [popR_0]
                    repeat' first|(apply Sp.go;·constructor<;>first|exact ss|(change _=_;first|(simp only[go_sem,Nat.reduceBEq,Nat.reduceAdd,Nat.reduceLeDiff,reduceIte]<;>rfl)|rfl)|exact Nat.le_of_ble_eq_true rfl|decide|(repeat' first|(apply Lk.go;constructor)|assumption|exact nb ‹_› ‹_›|exact nt ‹_› ‹_›|(apply Lm.go;constructor)))|(intro b hb;repeat first|(refine fe hb ?_;intro _ _ hb)|(refine fT hb ?_;intro hb)|(refine fresh_elimM hb ?_;intro _ _ hb))|refine rt ?_|refine gA rfl ?_|refine gB rfl ?_|apply cT rfl|apply cF rfl|(apply DM.gbT;rfl)|(apply DM.gbF;rfl)|intro h
                    rw [hm_setB (by assumption)]
                    (apply DM.cal (p100 _ ρ d ps (pop 0 N).2 (pop 0 N).1.k (by have := pop_st (k := 0) gst; unfold maxLen; omega) _ ⟨_, _, rfl⟩); (· simp only [go_sem, Nat.reduceBEq, Nat.reduceAdd] <;> rfl); (· exact AVLes.refl _))
                    rintro r H1 ⟨rfl, vs, vl, rfl⟩
                    simp only [put_some]
                    repeat' first|(apply Sp.go;·constructor<;>first|exact ss|(change _=_;first|(simp only[go_sem,Nat.reduceBEq,Nat.reduceAdd,Nat.reduceLeDiff,reduceIte]<;>rfl)|rfl)|exact Nat.le_of_ble_eq_true rfl|decide|(repeat' first|(apply Lk.go;constructor)|assumption|exact nb ‹_› ‹_›|exact nt ‹_› ‹_›|(apply Lm.go;constructor)))|(intro b hb;repeat first|(refine fe hb ?_;intro _ _ hb)|(refine fT hb ?_;intro hb)|(refine fresh_elimM hb ?_;intro _ _ hb))|refine rt ?_|refine gA rfl ?_|refine gB rfl ?_|apply cT rfl|apply cF rfl|(apply DM.gbT;rfl)|(apply DM.gbF;rfl)|intro h
                    rw [hm_setB (by assumption)]
                    (apply AM.cond; (· rfl))
                    · intro h
                      simp at h
                      rw [popR_tr h]
                      repeat' first|(apply Sp.go;·constructor<;>first|exact ss|(change _=_;first|(simp only[go_sem,Nat.reduceBEq,Nat.reduceAdd,Nat.reduceLeDiff,reduceIte]<;>rfl)|rfl)|exact Nat.le_of_ble_eq_true rfl|decide|(repeat' first|(apply Lk.go;constructor)|assumption|exact nb ‹_› ‹_›|exact nt ‹_› ‹_›|(apply Lm.go;constructor)))|(intro b hb;repeat first|(refine fe hb ?_;intro _ _ hb)|(refine fT hb ?_;intro hb)|(refine fresh_elimM hb ?_;intro _ _ hb))|refine rt ?_|refine gA rfl ?_|refine gB rfl ?_|apply cT rfl|apply cF rfl|(apply DM.gbT;rfl)|(apply DM.gbF;rfl)|((apply DM.cal (p102 _ ρ d ps _ (pop_st (pop_st gst)) _ _ ⟨_, _, rfl⟩); (· simp only [go_sem, Nat.reduceBEq, Nat.reduceAdd] <;> rfl); (· exact AVLes.refl _)); rintro r H1 ⟨rfl, vs, vl, rfl⟩; simp only [put_some])|intro h
                      (apply Sr.go;·constructor<;>first|(apply Lk.go;constructor<;>first|exact ss|(change _=_;first|(simp only[go_sem,Nat.reduceBEq,Nat.reduceAdd,Nat.reduceLeDiff,reduceIte]<;>rfl)|rfl)|exact Nat.le_of_ble_eq_true rfl|decide|(repeat' first|(apply Lk.go;constructor)|assumption|exact nb ‹_› ‹_›|exact nt ‹_› ‹_›))|assumption)
                      have e : stepX p ps x N = push (intV (if valEq (pop (pop 0 N).1.k (pop 0 N).2).1 (pop 0 N).1 = true then 1 else 0)) (pop (pop 0 N).1.k (pop 0 N).2).2 := by rw [← result_ok h]; simp [stepX, h12, textsM]
                      rw [e]
                      refine ⟨_, rfl, fun _ => by rw [push_pc, pop_pc, pop_pc, hpc]; rfl, vs, vl, ?_⟩
                      (refine hsub_hm ?_ ?_ ?_ ?_ ?_ ?_<;>first|(intro x y h1 h2 h3 h;repeat first|exact h|refine hm_oldT h1 h2 h3 ?_|refine t_ne ‹_› ?_|refine t_fresh ‹_› ?_|refine t_B ?_)|(intro x y hx h;repeat first|exact h|refine hm_old hx ?_|refine g_ne hx ?_|refine g_ne (nb ‹_› h) ?_|refine g_fresh ‹_› ?_|refine g_T ?_)|(repeat' first|(apply Lk.go;constructor)|assumption|exact nb ‹_› ‹_›|exact nt ‹_› ‹_›|(apply Lm.go;constructor)))
                    · intro h
                      simp at h
                      repeat' first|(apply Sp.go;·constructor<;>first|exact ss|(change _=_;first|(simp only[go_sem,Nat.reduceBEq,Nat.reduceAdd,Nat.reduceLeDiff,reduceIte]<;>rfl)|rfl)|exact Nat.le_of_ble_eq_true rfl|decide|(repeat' first|(apply Lk.go;constructor)|assumption|exact nb ‹_› ‹_›|exact nt ‹_› ‹_›|(apply Lm.go;constructor)))|(intro b hb;repeat first|(refine fe hb ?_;intro _ _ hb)|(refine fT hb ?_;intro hb)|(refine fresh_elimM hb ?_;intro _ _ hb))|refine rt ?_|refine gA rfl ?_|refine gB rfl ?_|apply cT rfl|apply cF rfl|(apply DM.gbT;rfl)|(apply DM.gbF;rfl)|intro h
                      (apply Sr.go;·constructor<;>first|(apply Lk.go;constructor<;>first|exact ss|(change _=_;first|(simp only[go_sem,Nat.reduceBEq,Nat.reduceAdd,Nat.reduceLeDiff,reduceIte]<;>rfl)|rfl)|exact Nat.le_of_ble_eq_true rfl|decide|(repeat' first|(apply Lk.go;constructor)|assumption|exact nb ‹_› ‹_›|exact nt ‹_› ‹_›))|assumption)
                      have e : stepX p ps x N = (pop (pop 0 N).1.k (pop 0 N).2).2 := by rw [← result_tr (n := if valEq (pop (pop 0 N).1.k (pop 0 N).2).1 (pop 0 N).1 = true then 1 else 0) h]; simp [stepX, h12, textsM]
                      rw [e]
                      refine ⟨_, rfl, fun _ => by rw [pop_pc, pop_pc, hpc]; rfl, vs, vl, ?_⟩
                      (refine hsub_hm ?_ ?_ ?_ ?_ ?_ ?_<;>first|(intro x y h1 h2 h3 h;repeat first|exact h|refine hm_oldT h1 h2 h3 ?_|refine t_ne ‹_› ?_|refine t_fresh ‹_› ?_|refine t_B ?_)|(intro x y hx h;repeat first|exact h|refine hm_old hx ?_|refine g_ne hx ?_|refine g_ne (nb ‹_› h) ?_|refine g_fresh ‹_› ?_|refine g_T ?_)|(repeat' first|(apply Lk.go;constructor)|assumption|exact nb ‹_› ‹_›|exact nt ‹_› ‹_›|(apply Lm.go;constructor)))
                  · intro h12
                    simp at h12
                    repeat' first|(apply Sp.go;·constructor<;>first|exact ss|(change _=_;first|(simp only[go_sem,Nat.reduceBEq,Nat.reduceAdd,Nat.reduceLeDiff,reduceIte]<;>rfl)|rfl)|exact Nat.le_of_ble_eq_true rfl|decide|(repeat' first|(apply Lk.go;constructor)|assumption|exact nb ‹_› ‹_›|exact nt ‹_› ‹_›|(apply Lm.go;constructor)))|(intro b hb;repeat first|(refine fe hb ?_;intro _ _ hb)|(refine fT hb ?_;intro hb)|(refine fresh_elimM hb ?_;intro _ _ hb))|refine rt ?_|refine gA rfl ?_|refine gB rfl ?_|apply cT rfl|apply cF rfl|(apply DM.gbT;rfl)|(apply DM.gbF;rfl)|intro h
                    (apply AM.cond; (· rfl))
                    · intro h17
                      simp at h17
                      have hsl := popR_s (k := 2) gstr
                      have hsl2 := popR_s (k := 2) (pop_s (k := 2) gstr).2
                      repeat' first|(apply Sp.go;·constructor<;>first|exact ss|(change _=_;first|(simp only[go_sem,Nat.reduceBEq,Nat.reduceAdd,Nat.reduceLeDiff,reduceIte]<;>rfl)|rfl)|exact Nat.le_of_ble_eq_true rfl|decide|(repeat' first|(apply Lk.go;constructor)|assumption|exact nb ‹_› ‹_›|exact nt ‹_› ‹_›|(apply Lm.go;constructor)))|(intro b hb;repeat first|(refine fe hb ?_;intro _ _ hb)|(refine fT hb ?_;intro hb)|(refine fresh_elimM hb ?_;intro _ _ hb))|refine rt ?_|refine gA rfl ?_|refine gB rfl ?_|apply cT rfl|apply cF rfl|(apply DM.gbT;rfl)|(apply DM.gbF;rfl)|((apply DM.cal (p100 _ ρ d ps N 2 hlen _ ⟨_, _, rfl⟩); (· simp only [go_sem, Nat.reduceBEq, Nat.reduceAdd] <;> rfl); (· exact AVLes.refl _)); rintro r H1 ⟨rfl, vs, vl, rfl⟩; simp only [put_some])|intro h
                      rw [hm_setB (by assumption)]
                      (apply DM.cal (p100 _ ρ d ps (pop 2 N).2 2 (by have := pop_st (k := 2) gst; unfold maxLen; omega) _ ⟨_, _, rfl⟩); (· simp only [go_sem, Nat.reduceBEq, Nat.reduceAdd] <;> rfl); (· exact AVLes.refl _))
                      rintro r H1 ⟨rfl, vs, vl, rfl⟩
                      simp only [put_some]
                      repeat' first|(apply Sp.go;·constructor<;>first|exact ss|(change _=_;first|(simp only[go_sem,Nat.reduceBEq,Nat.reduceAdd,Nat.reduceLeDiff,reduceIte]<;>rfl)|rfl)|exact Nat.le_of_ble_eq_true rfl|decide|(repeat' first|(apply Lk.go;constructor)|assumption|exact nb ‹_› ‹_›|exact nt ‹_› ‹_›|(apply Lm.go;constructor)))|(intro b hb;repeat first|(refine fe hb ?_;intro _ _ hb)|(refine fT hb ?_;intro hb)|(refine fresh_elimM hb ?_;intro _ _ hb))|refine rt ?_|refine gA rfl ?_|refine gB rfl ?_|apply cT rfl|apply cF rfl|(apply DM.gbT;rfl)|(apply DM.gbF;rfl)|intro h
                      rw [hm_setB (by assumption)]
                      (apply DM.catS; (· rfl); (· rfl); (· (unfold maxLen; omega)))
                      repeat' first|(apply Sp.go;·constructor<;>first|exact ss|(change _=_;first|(simp only[go_sem,Nat.reduceBEq,Nat.reduceAdd,Nat.reduceLeDiff,reduceIte]<;>rfl)|rfl)|exact Nat.le_of_ble_eq_true rfl|decide|(repeat' first|(apply Lk.go;constructor)|assumption|exact nb ‹_› ‹_›|exact nt ‹_› ‹_›|(apply Lm.go;constructor)))|(intro b hb;repeat first|(refine fe hb ?_;intro _ _ hb)|(refine fT hb ?_;intro hb)|(refine fresh_elimM hb ?_;intro _ _ hb))|refine rt ?_|refine gA rfl ?_|refine gB rfl ?_|apply cT rfl|apply cF rfl|(apply DM.gbT;rfl)|(apply DM.gbF;rfl)|intro h
                      (apply AM.cond; (· rfl))
                      · intro h
                        simp at h
                        have h1' : (pop 2 N).2.tr = false := pop_tr h
                        rw [popR_tr h, popR_tr h1']
                        rw [popR_tr h] at hsl2
                        rw [popR_tr h1'] at hsl
                        repeat' first|(apply Sp.go;·constructor<;>first|exact ss|(change _=_;first|(simp only[go_sem,Nat.reduceBEq,Nat.reduceAdd,Nat.reduceLeDiff,reduceIte]<;>rfl)|rfl)|exact Nat.le_of_ble_eq_true rfl|decide|(repeat' first|(apply Lk.go;constructor)|assumption|exact nb ‹_› ‹_›|exact nt ‹_› ‹_›|(apply Lm.go;constructor)))|(intro b hb;repeat first|(refine fe hb ?_;intro _ _ hb)|(refine fT hb ?_;intro hb)|(refine fresh_elimM hb ?_;intro _ _ hb))|refine rt ?_|refine gA rfl ?_|refine gB rfl ?_|apply cT rfl|apply cF rfl|(apply DM.gbT;rfl)|(apply DM.gbF;rfl)|intro h
                        rw [min_len]
                        apply DM.slSs (p := 0)
                        · simp only [EOpd.ev, Env.get, Nat.reduceBEq, cond_true, cond_false, beq_self_eq_true] <;> rfl
                        · rfl
                        · simp only [optNat, EOpd.ev, Env.get, Nat.reduceBEq, cond_true, cond_false, beq_self_eq_true] <;> rfl
                        · omega
                        · omega
                        · exact take_min _
                        repeat' first|(apply Sp.go;·constructor<;>first|exact ss|(change _=_;first|(simp only[go_sem,Nat.reduceBEq,Nat.reduceAdd,Nat.reduceLeDiff,reduceIte]<;>rfl)|rfl)|exact Nat.le_of_ble_eq_true rfl|decide|(repeat' first|(apply Lk.go;constructor)|assumption|exact nb ‹_› ‹_›|exact nt ‹_› ‹_›|(apply Lm.go;constructor)))|(intro b hb;repeat first|(refine fe hb ?_;intro _ _ hb)|(refine fT hb ?_;intro hb)|(refine fresh_elimM hb ?_;intro _ _ hb))|refine rt ?_|refine gA rfl ?_|refine gB rfl ?_|apply cT rfl|apply cF rfl|(apply DM.gbT;rfl)|(apply DM.gbF;rfl)|(apply DM.pcs (p31 _); (· simp only [go_sem, Nat.reduceBEq, Nat.reduceAdd] <;> rfl); (· exact AVLes.refl _))|((apply DM.cal (p99 _ ρ d ps _ (pop_st (pop_st gst)) ⟨2, 0, ((pop 2 (pop 2 N).2).1.s ++ (pop 2 N).1.s).take 40⟩ _ ⟨_, _, rfl⟩); (· simp only [go_sem, Nat.reduceBEq, Nat.reduceAdd] <;> rfl); (· exact AVLes.refl _)); rintro r H1 ⟨rfl, vs, vl, rfl⟩; simp only [put_some])|intro h
                        (apply Sr.go;·constructor<;>first|(apply Lk.go;constructor<;>first|exact ss|(change _=_;first|(simp only[go_sem,Nat.reduceBEq,Nat.reduceAdd,Nat.reduceLeDiff,reduceIte]<;>rfl)|rfl)|exact Nat.le_of_ble_eq_true rfl|decide|(repeat' first|(apply Lk.go;constructor)|assumption|exact nb ‹_› ‹_›|exact nt ‹_› ‹_›))|assumption)
                        have e : stepX p ps x N = push ⟨2, 0, ((pop 2 (pop 2 N).2).1.s ++ (pop 2 N).1.s).take 40⟩ (pop 2 (pop 2 N).2).2 := by simp [stepX, h17, textsM, h]
                        rw [e]
                        refine ⟨_, rfl, fun _ => by rw [push_pc, pop_pc, pop_pc, hpc]; rfl, vs, vl, ?_⟩
                        (refine hsub_hm ?_ ?_ ?_ ?_ ?_ ?_<;>first|(intro x y h1 h2 h3 h;repeat first|exact h|refine hm_oldT h1 h2 h3 ?_|refine t_ne ‹_› ?_|refine t_fresh ‹_› ?_|refine t_B ?_)|(intro x y hx h;repeat first|exact h|refine hm_old hx ?_|refine g_ne hx ?_|refine g_ne (nb ‹_› h) ?_|refine g_fresh ‹_› ?_|refine g_T ?_)|(repeat' first|(apply Lk.go;constructor)|assumption|exact nb ‹_› ‹_›|exact nt ‹_› ‹_›|(apply Lm.go;constructor)))
                      · intro h
                        simp at h
                        repeat' first|(apply Sp.go;·constructor<;>first|exact ss|(change _=_;first|(simp only[go_sem,Nat.reduceBEq,Nat.reduceAdd,Nat.reduceLeDiff,reduceIte]<;>rfl)|rfl)|exact Nat.le_of_ble_eq_true rfl|decide|(repeat' first|(apply Lk.go;constructor)|assumption|exact nb ‹_› ‹_›|exact nt ‹_› ‹_›|(apply Lm.go;constructor)))|(intro b hb;repeat first|(refine fe hb ?_;intro _ _ hb)|(refine fT hb ?_;intro hb)|(refine fresh_elimM hb ?_;intro _ _ hb))|refine rt ?_|refine gA rfl ?_|refine gB rfl ?_|apply cT rfl|apply cF rfl|(apply DM.gbT;rfl)|(apply DM.gbF;rfl)|intro h
                        (apply Sr.go;·constructor<;>first|(apply Lk.go;constructor<;>first|exact ss|(change _=_;first|(simp only[go_sem,Nat.reduceBEq,Nat.reduceAdd,Nat.reduceLeDiff,reduceIte]<;>rfl)|rfl)|exact Nat.le_of_ble_eq_true rfl|decide|(repeat' first|(apply Lk.go;constructor)|assumption|exact nb ‹_› ‹_›|exact nt ‹_› ‹_›))|assumption)
                        have e : stepX p ps x N = (pop 2 (pop 2 N).2).2 := by simp [stepX, h17, textsM, h]
                        rw [e]
                        refine ⟨_, rfl, fun _ => by rw [pop_pc, pop_pc, hpc]; rfl, vs, vl, ?_⟩
                        (refine hsub_hm ?_ ?_ ?_ ?_ ?_ ?_<;>first|(intro x y h1 h2 h3 h;repeat first|exact h|refine hm_oldT h1 h2 h3 ?_|refine t_ne ‹_› ?_|refine t_fresh ‹_› ?_|refine t_B ?_)|(intro x y hx h;repeat first|exact h|refine hm_old hx ?_|refine g_ne hx ?_|refine g_ne (nb ‹_› h) ?_|refine g_fresh ‹_› ?_|refine g_T ?_)|(repeat' first|(apply Lk.go;constructor)|assumption|exact nb ‹_› ‹_›|exact nt ‹_› ‹_›|(apply Lm.go;constructor)))
                    · intro h17
                      simp at h17
                      repeat' first|(apply Sp.go;·constructor<;>first|exact ss|(change _=_;first|(simp only[go_sem,Nat.reduceBEq,Nat.reduceAdd,Nat.reduceLeDiff,reduceIte]<;>rfl)|rfl)|exact Nat.le_of_ble_eq_true rfl|decide|(repeat' first|(apply Lk.go;constructor)|assumption|exact nb ‹_› ‹_›|exact nt ‹_› ‹_›|(apply Lm.go;constructor)))|(intro b hb;repeat first|(refine fe hb ?_;intro _ _ hb)|(refine fT hb ?_;intro hb)|(refine fresh_elimM hb ?_;intro _ _ hb))|refine rt ?_|refine gA rfl ?_|refine gB rfl ?_|apply cT rfl|apply cF rfl|(apply DM.gbT;rfl)|(apply DM.gbF;rfl)|intro h
                      (apply AM.cond; (· rfl))
                      · intro h18
                        simp at h18
                        repeat' first|(apply Sp.go;·constructor<;>first|exact ss|(change _=_;first|(simp only[go_sem,Nat.reduceBEq,Nat.reduceAdd,Nat.reduceLeDiff,reduceIte]<;>rfl)|rfl)|exact Nat.le_of_ble_eq_true rfl|decide|(repeat' first|(apply Lk.go;constructor)|assumption|exact nb ‹_› ‹_›|exact nt ‹_› ‹_›|(apply Lm.go;constructor)))|(intro b hb;repeat first|(refine fe hb ?_;intro _ _ hb)|(refine fT hb ?_;intro hb)|(refine fresh_elimM hb ?_;intro _ _ hb))|refine rt ?_|refine gA rfl ?_|refine gB rfl ?_|apply cT rfl|apply cF rfl|(apply DM.gbT;rfl)|(apply DM.gbF;rfl)|((apply DM.cal (p100 _ ρ d ps N 2 hlen _ ⟨_, _, rfl⟩); (· simp only [go_sem, Nat.reduceBEq, Nat.reduceAdd] <;> rfl); (· exact AVLes.refl _)); rintro r H1 ⟨rfl, vs, vl, rfl⟩; simp only [put_some])|intro h
                        rw [hm_setB (by assumption)]
                        (apply AM.cond; (· rfl))
                        · intro h
                          simp at h
                          rw [popR_tr h]
                          repeat' first|(apply Sp.go;·constructor<;>first|exact ss|(change _=_;first|(simp only[go_sem,Nat.reduceBEq,Nat.reduceAdd,Nat.reduceLeDiff,reduceIte]<;>rfl)|rfl)|exact Nat.le_of_ble_eq_true rfl|decide|(repeat' first|(apply Lk.go;constructor)|assumption|exact nb ‹_› ‹_›|exact nt ‹_› ‹_›|(apply Lm.go;constructor)))|(intro b hb;repeat first|(refine fe hb ?_;intro _ _ hb)|(refine fT hb ?_;intro hb)|(refine fresh_elimM hb ?_;intro _ _ hb))|refine rt ?_|refine gA rfl ?_|refine gB rfl ?_|apply cT rfl|apply cF rfl|(apply DM.gbT;rfl)|(apply DM.gbF;rfl)|((apply DM.cal (p98 _ ρ d ps _ (pop_st gst) _ _ ⟨_, _, rfl⟩); (· simp only [go_sem, Nat.reduceBEq, Nat.reduceAdd] <;> rfl); (· exact AVLes.refl _)); rintro r H1 ⟨rfl, vs, vl, rfl⟩; simp only [put_some])|intro h
                          (apply Sr.go;·constructor<;>first|(apply Lk.go;constructor<;>first|exact ss|(change _=_;first|(simp only[go_sem,Nat.reduceBEq,Nat.reduceAdd,Nat.reduceLeDiff,reduceIte]<;>rfl)|rfl)|exact Nat.le_of_ble_eq_true rfl|decide|(repeat' first|(apply Lk.go;constructor)|assumption|exact nb ‹_› ‹_›|exact nt ‹_› ‹_›))|assumption)
                          have e : stepX p ps x N = push (intV ((pop 2 N).1.s.length : Int)) (pop 2 N).2 := by rw [← result_ok h]; simp [stepX, h18, textsM]
                          rw [e]
                          refine ⟨_, rfl, fun _ => by rw [push_pc, pop_pc, hpc]; rfl, vs, vl, ?_⟩
                          (refine hsub_hm ?_ ?_ ?_ ?_ ?_ ?_<;>first|(intro x y h1 h2 h3 h;repeat first|exact h|refine hm_oldT h1 h2 h3 ?_|refine t_ne ‹_› ?_|refine t_fresh ‹_› ?_|refine t_B ?_)|(intro x y hx h;repeat first|exact h|refine hm_old hx ?_|refine g_ne hx ?_|refine g_ne (nb ‹_› h) ?_|refine g_fresh ‹_› ?_|refine g_T ?_)|(repeat' first|(apply Lk.go;constructor)|assumption|exact nb ‹_› ‹_›|exact nt ‹_› ‹_›|(apply Lm.go;constructor)))
                        · intro h
                          simp at h
                          repeat' first|(apply Sp.go;·constructor<;>first|exact ss|(change _=_;first|(simp only[go_sem,Nat.reduceBEq,Nat.reduceAdd,Nat.reduceLeDiff,reduceIte]<;>rfl)|rfl)|exact Nat.le_of_ble_eq_true rfl|decide|(repeat' first|(apply Lk.go;constructor)|assumption|exact nb ‹_› ‹_›|exact nt ‹_› ‹_›|(apply Lm.go;constructor)))|(intro b hb;repeat first|(refine fe hb ?_;intro _ _ hb)|(refine fT hb ?_;intro hb)|(refine fresh_elimM hb ?_;intro _ _ hb))|refine rt ?_|refine gA rfl ?_|refine gB rfl ?_|apply cT rfl|apply cF rfl|(apply DM.gbT;rfl)|(apply DM.gbF;rfl)|intro h
                          (apply Sr.go;·constructor<;>first|(apply Lk.go;constructor<;>first|exact ss|(change _=_;first|(simp only[go_sem,Nat.reduceBEq,Nat.reduceAdd,Nat.reduceLeDiff,reduceIte]<;>rfl)|rfl)|exact Nat.le_of_ble_eq_true rfl|decide|(repeat' first|(apply Lk.go;constructor)|assumption|exact nb ‹_› ‹_›|exact nt ‹_› ‹_›))|assumption)
                          have e : stepX p ps x N = (pop 2 N).2 := by rw [← result_tr (n := ((pop 2 N).1.s.length : Int)) h]; simp [stepX, h18, textsM]
                          rw [e]
                          refine ⟨_, rfl, fun _ => by rw [pop_pc, hpc]; rfl, vs, vl, ?_⟩
                          (refine hsub_hm ?_ ?_ ?_ ?_ ?_ ?_<;>first|(intro x y h1 h2 h3 h;repeat first|exact h|refine hm_oldT h1 h2 h3 ?_|refine t_ne ‹_› ?_|refine t_fresh ‹_› ?_|refine t_B ?_)|(intro x y hx h;repeat first|exact h|refine hm_old hx ?_|refine g_ne hx ?_|refine g_ne (nb ‹_› h) ?_|refine g_fresh ‹_› ?_|refine g_T ?_)|(repeat' first|(apply Lk.go;constructor)|assumption|exact nb ‹_› ‹_›|exact nt ‹_› ‹_›|(apply Lm.go;constructor)))
                      · intro h18
                        simp at h18
                        repeat' first|(apply Sp.go;·constructor<;>first|exact ss|(change _=_;first|(simp only[go_sem,Nat.reduceBEq,Nat.reduceAdd,Nat.reduceLeDiff,reduceIte]<;>rfl)|rfl)|exact Nat.le_of_ble_eq_true rfl|decide|(repeat' first|(apply Lk.go;constructor)|assumption|exact nb ‹_› ‹_›|exact nt ‹_› ‹_›|(apply Lm.go;constructor)))|(intro b hb;repeat first|(refine fe hb ?_;intro _ _ hb)|(refine fT hb ?_;intro hb)|(refine fresh_elimM hb ?_;intro _ _ hb))|refine rt ?_|refine gA rfl ?_|refine gB rfl ?_|apply cT rfl|apply cF rfl|(apply DM.gbT;rfl)|(apply DM.gbF;rfl)|intro h
                        (apply AM.cond; (· rfl))
                        · intro h19
                          simp at h19
                          repeat' first|(apply Sp.go;·constructor<;>first|exact ss|(change _=_;first|(simp only[go_sem,Nat.reduceBEq,Nat.reduceAdd,Nat.reduceLeDiff,reduceIte]<;>rfl)|rfl)|exact Nat.le_of_ble_eq_true rfl|decide|(repeat' first|(apply Lk.go;constructor)|assumption|exact nb ‹_› ‹_›|exact nt ‹_› ‹_›|(apply Lm.go;constructor)))|(intro b hb;repeat first|(refine fe hb ?_;intro _ _ hb)|(refine fT hb ?_;intro hb)|(refine fresh_elimM hb ?_;intro _ _ hb))|refine rt ?_|refine gA rfl ?_|refine gB rfl ?_|apply cT rfl|apply cF rfl|(apply DM.gbT;rfl)|(apply DM.gbF;rfl)|intro h
                          (apply Sr.go;·constructor<;>first|(apply Lk.go;constructor<;>first|exact ss|(change _=_;first|(simp only[go_sem,Nat.reduceBEq,Nat.reduceAdd,Nat.reduceLeDiff,reduceIte]<;>rfl)|rfl)|exact Nat.le_of_ble_eq_true rfl|decide|(repeat' first|(apply Lk.go;constructor)|assumption|exact nb ‹_› ‹_›|exact nt ‹_› ‹_›))|assumption)
                          have e : stepX p ps x N = { N with pc := x.n } := by simp [stepX, isArith, controlM, h19]
                          rw [e]
                          refine ⟨_, rfl, fun _ => rfl, vs, vl, ?_⟩
                          (refine hsub_hm ?_ ?_ ?_ ?_ ?_ ?_<;>first|(intro x y h1 h2 h3 h;repeat first|exact h|refine hm_oldT h1 h2 h3 ?_|refine t_ne ‹_› ?_|refine t_fresh ‹_› ?_|refine t_B ?_)|(intro x y hx h;repeat first|exact h|refine hm_old hx ?_|refine g_ne hx ?_|refine g_ne (nb ‹_› h) ?_|refine g_fresh ‹_› ?_|refine g_T ?_)|(repeat' first|(apply Lk.go;constructor)|assumption|exact nb ‹_› ‹_›|exact nt ‹_› ‹_›|(apply Lm.go;constructor)))
                        · intro h19
                          simp at h19
                          repeat' first|(apply Sp.go;·constructor<;>first|exact ss|(change _=_;first|(simp only[go_sem,Nat.reduceBEq,Nat.reduceAdd,Nat.reduceLeDiff,reduceIte]<;>rfl)|rfl)|exact Nat.le_of_ble_eq_true rfl|decide|(repeat' first|(apply Lk.go;constructor)|assumption|exact nb ‹_› ‹_›|exact nt ‹_› ‹_›|(apply Lm.go;constructor)))|(intro b hb;repeat first|(refine fe hb ?_;intro _ _ hb)|(refine fT hb ?_;intro hb)|(refine fresh_elimM hb ?_;intro _ _ hb))|refine rt ?_|refine gA rfl ?_|refine gB rfl ?_|apply cT rfl|apply cF rfl|(apply DM.gbT;rfl)|(apply DM.gbF;rfl)|intro h
                          (apply AM.cond; (· rfl))
                          · intro h20
                            simp at h20
                            repeat' first|(apply Sp.go;·constructor<;>first|exact ss|(change _=_;first|(simp only[go_sem,Nat.reduceBEq,Nat.reduceAdd,Nat.reduceLeDiff,reduceIte]<;>rfl)|rfl)|exact Nat.le_of_ble_eq_true rfl|decide|(repeat' first|(apply Lk.go;constructor)|assumption|exact nb ‹_› ‹_›|exact nt ‹_› ‹_›|(apply Lm.go;constructor)))|(intro b hb;repeat first|(refine fe hb ?_;intro _ _ hb)|(refine fT hb ?_;intro hb)|(refine fresh_elimM hb ?_;intro _ _ hb))|refine rt ?_|refine gA rfl ?_|refine gB rfl ?_|apply cT rfl|apply cF rfl|(apply DM.gbT;rfl)|(apply DM.gbF;rfl)|((apply DM.cal (p100 _ ρ d ps N 1 hlen _ ⟨_, _, rfl⟩); (· simp only [go_sem, Nat.reduceBEq, Nat.reduceAdd] <;> rfl); (· exact AVLes.refl _)); rintro r H1 ⟨rfl, vs, vl, rfl⟩; simp only [put_some])|intro h
                            rw [hm_setB (by assumption)]
                            · have h' : (pop 1 N).2.tr = false := by simpa using h
                              rw [popR_n]
                              (apply AM.cond; (· rfl))
                              · intro hz
                                simp at hz
                                repeat' first|(apply Sp.go;·constructor<;>first|exact ss|(change _=_;first|(simp only[go_sem,Nat.reduceBEq,Nat.reduceAdd,Nat.reduceLeDiff,reduceIte]<;>rfl)|rfl)|exact Nat.le_of_ble_eq_true rfl|decide|(repeat' first|(apply Lk.go;constructor)|assumption|exact nb ‹_› ‹_›|exact nt ‹_› ‹_›|(apply Lm.go;constructor)))|(intro b hb;repeat first|(refine fe hb ?_;intro _ _ hb)|(refine fT hb ?_;intro hb)|(refine fresh_elimM hb ?_;intro _ _ hb))|refine rt ?_|refine gA rfl ?_|refine gB rfl ?_|apply cT rfl|apply cF rfl|(apply DM.gbT;rfl)|(apply DM.gbF;rfl)|intro h
                                (apply Sr.go;·constructor<;>first|(apply Lk.go;constructor<;>first|exact ss|(change _=_;first|(simp only[go_sem,Nat.reduceBEq,Nat.reduceAdd,Nat.reduceLeDiff,reduceIte]<;>rfl)|rfl)|exact Nat.le_of_ble_eq_true rfl|decide|(repeat' first|(apply Lk.go;constructor)|assumption|exact nb ‹_› ‹_›|exact nt ‹_› ‹_›))|assumption)
                                have e : stepX p ps x N = { (pop 1 N).2 with pc := x.n } := by simp [stepX, isArith, controlM, h20, h', hz]
                                rw [e]
                                refine ⟨_, rfl, fun _ => rfl, vs, vl, ?_⟩
                                (refine hsub_hm ?_ ?_ ?_ ?_ ?_ ?_<;>first|(intro x y h1 h2 h3 h;repeat first|exact h|refine hm_oldT h1 h2 h3 ?_|refine t_ne ‹_› ?_|refine t_fresh ‹_› ?_|refine t_B ?_)|(intro x y hx h;repeat first|exact h|refine hm_old hx ?_|refine g_ne hx ?_|refine g_ne (nb ‹_› h) ?_|refine g_fresh ‹_› ?_|refine g_T ?_)|(repeat' first|(apply Lk.go;constructor)|assumption|exact nb ‹_› ‹_›|exact nt ‹_› ‹_›|(apply Lm.go;constructor)))
                              · intro hz
                                simp at hz
                                repeat' first|(apply Sp.go;·constructor<;>first|exact ss|(change _=_;first|(simp only[go_sem,Nat.reduceBEq,Nat.reduceAdd,Nat.reduceLeDiff,reduceIte]<;>rfl)|rfl)|exact Nat.le_of_ble_eq_true rfl|decide|(repeat' first|(apply Lk.go;constructor)|assumption|exact nb ‹_› ‹_›|exact nt ‹_› ‹_›|(apply Lm.go;constructor)))|(intro b hb;repeat first|(refine fe hb ?_;intro _ _ hb)|(refine fT hb ?_;intro hb)|(refine fresh_elimM hb ?_;intro _ _ hb))|refine rt ?_|refine gA rfl ?_|refine gB rfl ?_|apply cT rfl|apply cF rfl|(apply DM.gbT;rfl)|(apply DM.gbF;rfl)|intro h
                                (apply Sr.go;·constructor<;>first|(apply Lk.go;constructor<;>first|exact ss|(change _=_;first|(simp only[go_sem,Nat.reduceBEq,Nat.reduceAdd,Nat.reduceLeDiff,reduceIte]<;>rfl)|rfl)|exact Nat.le_of_ble_eq_true rfl|decide|(repeat' first|(apply Lk.go;constructor)|assumption|exact nb ‹_› ‹_›|exact nt ‹_› ‹_›))|assumption)
                                have e : stepX p ps x N = (pop 1 N).2 := by simp [stepX, isArith, controlM, h20, h', hz]
                                rw [e]
                                refine ⟨_, rfl, fun _ => by rw [pop_pc, hpc]; rfl, vs, vl, ?_⟩
                                (refine hsub_hm ?_ ?_ ?_ ?_ ?_ ?_<;>first|(intro x y h1 h2 h3 h;repeat first|exact h|refine hm_oldT h1 h2 h3 ?_|refine t_ne ‹_› ?_|refine t_fresh ‹_› ?_|refine t_B ?_)|(intro x y hx h;repeat first|exact h|refine hm_old hx ?_|refine g_ne hx ?_|refine g_ne (nb ‹_› h) ?_|refine g_fresh ‹_› ?_|refine g_T ?_)|(repeat' first|(apply Lk.go;constructor)|assumption|exact nb ‹_› ‹_›|exact nt ‹_› ‹_›|(apply Lm.go;constructor)))
                            · have h' : (pop 1 N).2.tr = true := by simpa using h
                              (apply Sr.go;·constructor<;>first|(apply Lk.go;constructor<;>first|exact ss|(change _=_;first|(simp only[go_sem,Nat.reduceBEq,Nat.reduceAdd,Nat.reduceLeDiff,reduceIte]<;>rfl)|rfl)|exact Nat.le_of_ble_eq_true rfl|decide|(repeat' first|(apply Lk.go;constructor)|assumption|exact nb ‹_› ‹_›|exact nt ‹_› ‹_›))|assumption)
                              have e : stepX p ps x N = (pop 1 N).2 := by simp [stepX, isArith, controlM, h20, h']
                              rw [e]
                              refine ⟨_, rfl, fun _ => by rw [pop_pc, hpc]; rfl, vs, vl, ?_⟩
                              (refine hsub_hm ?_ ?_ ?_ ?_ ?_ ?_<;>first|(intro x y h1 h2 h3 h;repeat first|exact h|refine hm_oldT h1 h2 h3 ?_|refine t_ne ‹_› ?_|refine t_fresh ‹_› ?_|refine t_B ?_)|(intro x y hx h;repeat first|exact h|refine hm_old hx ?_|refine g_ne hx ?_|refine g_ne (nb ‹_› h) ?_|refine g_fresh ‹_› ?_|refine g_T ?_)|(repeat' first|(apply Lk.go;constructor)|assumption|exact nb ‹_› ‹_›|exact nt ‹_› ‹_›|(apply Lm.go;constructor)))
                          · intro h20
                            simp at h20
                            repeat' first|(apply Sp.go;·constructor<;>first|exact ss|(change _=_;first|(simp only[go_sem,Nat.reduceBEq,Nat.reduceAdd,Nat.reduceLeDiff,reduceIte]<;>rfl)|rfl)|exact Nat.le_of_ble_eq_true rfl|decide|(repeat' first|(apply Lk.go;constructor)|assumption|exact nb ‹_› ‹_›|exact nt ‹_› ‹_›|(apply Lm.go;constructor)))|(intro b hb;repeat first|(refine fe hb ?_;intro _ _ hb)|(refine fT hb ?_;intro hb)|(refine fresh_elimM hb ?_;intro _ _ hb))|refine rt ?_|refine gA rfl ?_|refine gB rfl ?_|apply cT rfl|apply cF rfl|(apply DM.gbT;rfl)|(apply DM.gbF;rfl)|intro h
                            (apply AM.cond; (· rfl))
                            · intro h21
                              simp at h21
                              repeat' first|(apply Sp.go;·constructor<;>first|exact ss|(change _=_;first|(simp only[go_sem,Nat.reduceBEq,Nat.reduceAdd,Nat.reduceLeDiff,reduceIte]<;>rfl)|rfl)|exact Nat.le_of_ble_eq_true rfl|decide|(repeat' first|(apply Lk.go;constructor)|assumption|exact nb ‹_› ‹_›|exact nt ‹_› ‹_›|(apply Lm.go;constructor)))|(intro b hb;repeat first|(refine fe hb ?_;intro _ _ hb)|(refine fT hb ?_;intro hb)|(refine fresh_elimM hb ?_;intro _ _ hb))|refine rt ?_|refine gA rfl ?_|refine gB rfl ?_|apply cT rfl|apply cF rfl|(apply DM.gbT;rfl)|(apply DM.gbF;rfl)|intro h
                              (apply AM.cond; (· rfl))
                              · intro h
                                simp at h
                                repeat' first|(apply Sp.go;·constructor<;>first|exact ss|(change _=_;first|(simp only[go_sem,Nat.reduceBEq,Nat.reduceAdd,Nat.reduceLeDiff,reduceIte]<;>rfl)|rfl)|exact Nat.le_of_ble_eq_true rfl|decide|(repeat' first|(apply Lk.go;constructor)|assumption|exact nb ‹_› ‹_›|exact nt ‹_› ‹_›|(apply Lm.go;constructor)))|(intro b hb;repeat first|(refine fe hb ?_;intro _ _ hb)|(refine fT hb ?_;intro hb)|(refine fresh_elimM hb ?_;intro _ _ hb))|refine rt ?_|refine gA rfl ?_|refine gB rfl ?_|apply cT rfl|apply cF rfl|(apply DM.gbT;rfl)|(apply DM.gbF;rfl)|intro h
                                (apply Sr.go;·constructor<;>first|(apply Lk.go;constructor<;>first|exact ss|(change _=_;first|(simp only[go_sem,Nat.reduceBEq,Nat.reduceAdd,Nat.reduceLeDiff,reduceIte]<;>rfl)|rfl)|exact Nat.le_of_ble_eq_true rfl|decide|(repeat' first|(apply Lk.go;constructor)|assumption|exact nb ‹_› ‹_›|exact nt ‹_› ‹_›))|assumption)
                                have e : stepX p ps x N = { N with tr := true } := by simp [stepX, isArith, controlM, h21]; omega
                                rw [e]
                                refine ⟨_, rfl, fun h => (by cases h), vs, vl, ?_⟩
                                (refine hsub_hm ?_ ?_ ?_ ?_ ?_ ?_<;>first|(intro x y h1 h2 h3 h;repeat first|exact h|refine hm_oldT h1 h2 h3 ?_|refine t_ne ‹_› ?_|refine t_fresh ‹_› ?_|refine t_B ?_)|(intro x y hx h;repeat first|exact h|refine hm_old hx ?_|refine g_ne hx ?_|refine g_ne (nb ‹_› h) ?_|refine g_fresh ‹_› ?_|refine g_T ?_)|(repeat' first|(apply Lk.go;constructor)|assumption|exact nb ‹_› ‹_›|exact nt ‹_› ‹_›|(apply Lm.go;constructor)))
                              · intro h
                                simp at h
                                have hl4 : N.loops.length < 4 := by omega
                                repeat' first|(apply Sp.go;·constructor<;>first|exact ss|(change _=_;first|(simp only[go_sem,Nat.reduceBEq,Nat.reduceAdd,Nat.reduceLeDiff,reduceIte]<;>rfl)|rfl)|exact Nat.le_of_ble_eq_true rfl|decide|(repeat' first|(apply Lk.go;constructor)|assumption|exact nb ‹_› ‹_›|exact nt ‹_› ‹_›|(apply Lm.go;constructor)))|(intro b hb;repeat first|(refine fe hb ?_;intro _ _ hb)|(refine fT hb ?_;intro hb)|(refine fresh_elimM hb ?_;intro _ _ hb))|refine rt ?_|refine gA rfl ?_|refine gB rfl ?_|apply cT rfl|apply cF rfl|(apply DM.gbT;rfl)|(apply DM.gbF;rfl)|(apply DM.apM; (· rfl); (· repeat' first|(apply Lk.go;constructor)|assumption|exact nb ‹_› ‹_›|exact nt ‹_› ‹_›|(apply Lm.go;constructor)); (· simp only [rowsOf, if_true, eq_self, go_sem, Nat.reduceBEq, reduceIte] <;> rfl); (· (simp only [List.length_map, List.length_cons, List.length_nil, maxLen]; omega)); (· (simp only [List.length_map, List.length_cons, List.length_nil, maxLen]; omega)))|intro h
                                (apply Sr.go;·constructor<;>first|(apply Lk.go;constructor<;>first|exact ss|(change _=_;first|(simp only[go_sem,Nat.reduceBEq,Nat.reduceAdd,Nat.reduceLeDiff,reduceIte]<;>rfl)|rfl)|exact Nat.le_of_ble_eq_true rfl|decide|(repeat' first|(apply Lk.go;constructor)|assumption|exact nb ‹_› ‹_›|exact nt ‹_› ‹_›))|assumption)
                                have e : stepX p ps x N = { N with loops := N.loops ++ [x.n] } := by simp [stepX, isArith, controlM, h21]; omega
                                rw [e]
                                refine ⟨_, rfl, fun _ => by show _ = N.pc; rw [hpc]; rfl, vs, vl + 1, ?_⟩
                                rw [show N.loops.map irow ++ [[AV.int IntKind.i64 x.n]] = (N.loops ++ [x.n]).map irow by simp]
                                (refine hsub_hm ?_ ?_ ?_ ?_ ?_ ?_<;>first|(intro x y h1 h2 h3 h;repeat first|exact h|refine hm_oldT h1 h2 h3 ?_|refine t_ne ‹_› ?_|refine t_fresh ‹_› ?_|refine t_B ?_)|(intro x y hx h;repeat first|exact h|refine hm_old hx ?_|refine g_ne hx ?_|refine g_ne (nb ‹_› h) ?_|refine g_fresh ‹_› ?_|refine g_T ?_)|(repeat' first|(apply Lk.go;constructor)|assumption|exact nb ‹_› ‹_›|exact nt ‹_› ‹_›|(apply Lm.go;constructor)))
                            · intro h21
                              simp at h21
                              repeat' first|(apply Sp.go;·constructor<;>first|exact ss|(change _=_;first|(simp only[go_sem,Nat.reduceBEq,Nat.reduceAdd,Nat.reduceLeDiff,reduceIte]<;>rfl)|rfl)|exact Nat.le_of_ble_eq_true rfl|decide|(repeat' first|(apply Lk.go;constructor)|assumption|exact nb ‹_› ‹_›|exact nt ‹_› ‹_›|(apply Lm.go;constructor)))|(intro b hb;repeat first|(refine fe hb ?_;intro _ _ hb)|(refine fT hb ?_;intro hb)|(refine fresh_elimM hb ?_;intro _ _ hb))|refine rt ?_|refine gA rfl ?_|refine gB rfl ?_|apply cT rfl|apply cF rfl|(apply DM.gbT;rfl)|(apply DM.gbF;rfl)|intro h
                              (apply AM.cond; (· rfl))
                              · intro h22
                                have hX : x.op = 22 := by simpa using h22
                                repeat' first|(apply Sp.go;·constructor<;>first|exact ss|(change _=_;first|(simp only[go_sem,Nat.reduceBEq,Nat.reduceAdd,Nat.reduceLeDiff,reduceIte]<;>rfl)|rfl)|exact Nat.le_of_ble_eq_true rfl|decide|(repeat' first|(apply Lk.go;constructor)|assumption|exact nb ‹_› ‹_›|exact nt ‹_› ‹_›|(apply Lm.go;constructor)))|(intro b hb;repeat first|(refine fe hb ?_;intro _ _ hb)|(refine fT hb ?_;intro hb)|(refine fresh_elimM hb ?_;intro _ _ hb))|refine rt ?_|refine gA rfl ?_|refine gB rfl ?_|apply cT rfl|apply cF rfl|(apply DM.gbT;rfl)|(apply DM.gbF;rfl)|intro h
                                (apply AM.cond; (· rfl))
                                · intro _
                                  rcases hl0 : N.loops.length with _ | n
                                  · have h0 : N.loops = [] := List.length_eq_zero_iff.1 hl0
                                    repeat' first|(apply Sp.go;·constructor<;>first|exact ss|(change _=_;first|(simp only[go_sem,Nat.reduceBEq,Nat.reduceAdd,Nat.reduceLeDiff,reduceIte]<;>rfl)|rfl)|exact Nat.le_of_ble_eq_true rfl|decide|(repeat' first|(apply Lk.go;constructor)|assumption|exact nb ‹_› ‹_›|exact nt ‹_› ‹_›|(apply Lm.go;constructor)))|(intro b hb;repeat first|(refine fe hb ?_;intro _ _ hb)|(refine fT hb ?_;intro hb)|(refine fresh_elimM hb ?_;intro _ _ hb))|refine rt ?_|refine gA rfl ?_|refine gB rfl ?_|apply cT rfl|apply cF rfl|(apply DM.gbT;rfl)|(apply DM.gbF;rfl)|intro h
                                    (apply AM.cond; (· rfl))
                                    · intro _
                                      repeat' first|(apply Sp.go;·constructor<;>first|exact ss|(change _=_;first|(simp only[go_sem,Nat.reduceBEq,Nat.reduceAdd,Nat.reduceLeDiff,reduceIte]<;>rfl)|rfl)|exact Nat.le_of_ble_eq_true rfl|decide|(repeat' first|(apply Lk.go;constructor)|assumption|exact nb ‹_› ‹_›|exact nt ‹_› ‹_›|(apply Lm.go;constructor)))|(intro b hb;repeat first|(refine fe hb ?_;intro _ _ hb)|(refine fT hb ?_;intro hb)|(refine fresh_elimM hb ?_;intro _ _ hb))|refine rt ?_|refine gA rfl ?_|refine gB rfl ?_|apply cT rfl|apply cF rfl|(apply DM.gbT;rfl)|(apply DM.gbF;rfl)|intro h
                                      (apply Sr.go;·constructor<;>first|(apply Lk.go;constructor<;>first|exact ss|(change _=_;first|(simp only[go_sem,Nat.reduceBEq,Nat.reduceAdd,Nat.reduceLeDiff,reduceIte]<;>rfl)|rfl)|exact Nat.le_of_ble_eq_true rfl|decide|(repeat' first|(apply Lk.go;constructor)|assumption|exact nb ‹_› ‹_›|exact nt ‹_› ‹_›))|assumption)
                                      have e : stepX p ps x N = { N with tr := true } := by simp [stepX, isArith, controlM, hX, h0]
                                      rw [e]
                                      refine ⟨_, rfl, fun h => (by cases h), vs, vl, ?_⟩
                                      (refine hsub_hm ?_ ?_ ?_ ?_ ?_ ?_<;>first|(intro x y h1 h2 h3 h;repeat first|exact h|refine hm_oldT h1 h2 h3 ?_|refine t_ne ‹_› ?_|refine t_fresh ‹_› ?_|refine t_B ?_)|(intro x y hx h;repeat first|exact h|refine hm_old hx ?_|refine g_ne hx ?_|refine g_ne (nb ‹_› h) ?_|refine g_fresh ‹_› ?_|refine g_T ?_)|(repeat' first|(apply Lk.go;constructor)|assumption|exact nb ‹_› ‹_›|exact nt ‹_› ‹_›|(apply Lm.go;constructor)))
                                    · intro hh
                                      simp [h0] at hh
                                  · obtain ⟨k, hk⟩ := some_of (show n < N.loops.length by omega)
                                    have hl : N.loops.getLast? = some k := by rw [← last_ix hl0]; exact hk
                                    have hw : IntKind.i64.wrap (((N.loops.map irow).length : Int) - 1) = (n : Int) := by rw [List.length_map, hl0, wrap64 (by omega) (by omega)]; omega
                                    repeat' first|(apply Sp.go;·constructor<;>first|exact ss|(change _=_;first|(simp only[go_sem,Nat.reduceBEq,Nat.reduceAdd,Nat.reduceLeDiff,reduceIte]<;>rfl)|rfl)|exact Nat.le_of_ble_eq_true rfl|decide|(repeat' first|(apply Lk.go;constructor)|assumption|exact nb ‹_› ‹_›|exact nt ‹_› ‹_›|(apply Lm.go;constructor)))|(intro b hb;repeat first|(refine fe hb ?_;intro _ _ hb)|(refine fT hb ?_;intro hb)|(refine fresh_elimM hb ?_;intro _ _ hb))|refine rt ?_|refine gA rfl ?_|refine gB rfl ?_|apply cT rfl|apply cF rfl|(apply DM.gbT;rfl)|(apply DM.gbF;rfl)|intro h
                                    (apply AM.cond; (· rfl))
                                    · intro hh
                                      simp at hh
                                      rw [hh] at hl0
                                      simp at hl0
                                    · intro _
                                      repeat' first|(apply Sp.go;·constructor<;>first|exact ss|(change _=_;first|(simp only[go_sem,Nat.reduceBEq,Nat.reduceAdd,Nat.reduceLeDiff,reduceIte]<;>rfl)|rfl)|exact Nat.le_of_ble_eq_true rfl|decide|(repeat' first|(apply Lk.go;constructor)|assumption|exact nb ‹_› ‹_›|exact nt ‹_› ‹_›|(apply Lm.go;constructor)))|(intro b hb;repeat first|(refine fe hb ?_;intro _ _ hb)|(refine fT hb ?_;intro hb)|(refine fresh_elimM hb ?_;intro _ _ hb))|refine rt ?_|refine gA rfl ?_|refine gB rfl ?_|apply cT rfl|apply cF rfl|(apply DM.gbT;rfl)|(apply DM.gbF;rfl)|intro h
                                      (apply AM.cond; (· rfl))
                                      · intro hh
                                        exfalso
                                        simp at hh
                                        omega
                                      · intro _
                                        repeat' first|(apply Sp.go;·constructor<;>first|exact ss|(change _=_;first|(simp only[go_sem,Nat.reduceBEq,Nat.reduceAdd,Nat.reduceLeDiff,reduceIte]<;>rfl)|rfl)|exact Nat.le_of_ble_eq_true rfl|decide|(repeat' first|(apply Lk.go;constructor)|assumption|exact nb ‹_› ‹_›|exact nt ‹_› ‹_›|(apply Lm.go;constructor)))|(intro b hb;repeat first|(refine fe hb ?_;intro _ _ hb)|(refine fT hb ?_;intro hb)|(refine fresh_elimM hb ?_;intro _ _ hb))|refine rt ?_|refine gA rfl ?_|refine gB rfl ?_|apply cT rfl|apply cF rfl|(apply DM.gbT;rfl)|(apply DM.gbF;rfl)|intro h
                                        simp only [hw]
                                        (apply DM.ixM; (· rfl); (· repeat' first|(apply Lk.go;constructor)|assumption|exact nb ‹_› ‹_›|exact nt ‹_› ‹_›|(apply Lm.go;constructor)); (· rfl); (· (first | omega | (simp only [List.length_map]; omega))); (· (first | omega | (simp only [List.length_map]; omega))))
                                        repeat' first|(apply Sp.go;·constructor<;>first|exact ss|(change _=_;first|(simp only[go_sem,Nat.reduceBEq,Nat.reduceAdd,Nat.reduceLeDiff,reduceIte]<;>rfl)|rfl)|exact Nat.le_of_ble_eq_true rfl|decide|(repeat' first|(apply Lk.go;constructor)|assumption|exact nb ‹_› ‹_›|exact nt ‹_› ‹_›|(apply Lm.go;constructor)))|(intro b hb;repeat first|(refine fe hb ?_;intro _ _ hb)|(refine fT hb ?_;intro hb)|(refine fresh_elimM hb ?_;intro _ _ hb))|refine rt ?_|refine gA rfl ?_|refine gB rfl ?_|apply cT rfl|apply cF rfl|(apply DM.gbT;rfl)|(apply DM.gbF;rfl)|(apply DM.ldM1 (i := n) (j := 0); (· rfl); (· repeat' first|(apply Lk.go;constructor)|assumption|exact nb ‹_› ‹_›|exact nt ‹_› ‹_›|(apply Lm.go;constructor)); (· exact irow_len _); (· (rw [List.getElem?_map, hk]; rfl)); (· simp); (· rfl))|(apply DM.ixM; (· rfl); (· repeat' first|(apply Lk.go;constructor)|assumption|exact nb ‹_› ‹_›|exact nt ‹_› ‹_›|(apply Lm.go;constructor)); (· rfl); (· (first | omega | (simp only [List.length_map]; omega))); (· (first | omega | (simp only [List.length_map]; omega))))|intro h
                                        (apply DM.stM (i := n); (· rfl); (· repeat' first|(apply Lk.go;constructor)|assumption|exact nb ‹_› ‹_›|exact nt ‹_› ‹_›|(apply Lm.go;constructor)); (· simp only [go_sem, Nat.reduceBEq, Nat.reduceAdd] <;> rfl); (· exact irow_len _); (· (rw [List.getElem?_map, hk]; rfl)); (· simp); (· rfl); (· rfl))
                                        rw [show (N.loops.map irow).set n [AV.int IntKind.i64 (IntKind.i64.wrap (k - 1))] = (N.loops.dropLast ++ [W (k - 1)]).map irow by rw [← set_last hl0, List.map_set]; rfl]
                                        repeat' first|(apply Sp.go;·constructor<;>first|exact ss|(change _=_;first|(simp only[go_sem,Nat.reduceBEq,Nat.reduceAdd,Nat.reduceLeDiff,reduceIte]<;>rfl)|rfl)|exact Nat.le_of_ble_eq_true rfl|decide|(repeat' first|(apply Lk.go;constructor)|assumption|exact nb ‹_› ‹_›|exact nt ‹_› ‹_›|(apply Lm.go;constructor)))|(intro b hb;repeat first|(refine fe hb ?_;intro _ _ hb)|(refine fT hb ?_;intro hb)|(refine fresh_elimM hb ?_;intro _ _ hb))|refine rt ?_|refine gA rfl ?_|refine gB rfl ?_|apply cT rfl|apply cF rfl|(apply DM.gbT;rfl)|(apply DM.gbF;rfl)|intro h
                                        simp only [hw]
                                        (apply DM.ixM; (· rfl); (· repeat' first|(apply Lk.go;constructor)|assumption|exact nb ‹_› ‹_›|exact nt ‹_› ‹_›|(apply Lm.go;constructor)); (· rfl); (· (first | omega | (simp only [List.length_map, List.length_append, List.length_dropLast, List.length_cons, List.length_nil]; omega))); (· (first | omega | (simp only [List.length_map, List.length_append, List.length_dropLast, List.length_cons, List.length_nil]; omega))))
                                        repeat' first|(apply Sp.go;·constructor<;>first|exact ss|(change _=_;first|(simp only[go_sem,Nat.reduceBEq,Nat.reduceAdd,Nat.reduceLeDiff,reduceIte]<;>rfl)|rfl)|exact Nat.le_of_ble_eq_true rfl|decide|(repeat' first|(apply Lk.go;constructor)|assumption|exact nb ‹_› ‹_›|exact nt ‹_› ‹_›|(apply Lm.go;constructor)))|(intro b hb;repeat first|(refine fe hb ?_;intro _ _ hb)|(refine fT hb ?_;intro hb)|(refine fresh_elimM hb ?_;intro _ _ hb))|refine rt ?_|refine gA rfl ?_|refine gB rfl ?_|apply cT rfl|apply cF rfl|(apply DM.gbT;rfl)|(apply DM.gbF;rfl)|(apply DM.ldM1 (i := n) (j := 0) (row := [AV.int .i64 (W (k - 1))]); (· rfl); (· repeat' first|(apply Lk.go;constructor)|assumption|exact nb ‹_› ‹_›|exact nt ‹_› ‹_›|(apply Lm.go;constructor)); (· exact irow_len _); (· (rw [List.getElem?_map, List.getElem?_append_right (by simp; omega)]; simp [hl0])); (· simp); (· rfl))|intro h
                                        (apply AM.cond; (· rfl))
                                        · intro hz
                                          have hz' : 0 < W (k - 1) := by simpa using hz
                                          repeat' first|(apply Sp.go;·constructor<;>first|exact ss|(change _=_;first|(simp only[go_sem,Nat.reduceBEq,Nat.reduceAdd,Nat.reduceLeDiff,reduceIte]<;>rfl)|rfl)|exact Nat.le_of_ble_eq_true rfl|decide|(repeat' first|(apply Lk.go;constructor)|assumption|exact nb ‹_› ‹_›|exact nt ‹_› ‹_›|(apply Lm.go;constructor)))|(intro b hb;repeat first|(refine fe hb ?_;intro _ _ hb)|(refine fT hb ?_;intro hb)|(refine fresh_elimM hb ?_;intro _ _ hb))|refine rt ?_|refine gA rfl ?_|refine gB rfl ?_|apply cT rfl|apply cF rfl|(apply DM.gbT;rfl)|(apply DM.gbF;rfl)|intro h
                                          (apply Sr.go;·constructor<;>first|(apply Lk.go;constructor<;>first|exact ss|(change _=_;first|(simp only[go_sem,Nat.reduceBEq,Nat.reduceAdd,Nat.reduceLeDiff,reduceIte]<;>rfl)|rfl)|exact Nat.le_of_ble_eq_true rfl|decide|(repeat' first|(apply Lk.go;constructor)|assumption|exact nb ‹_› ‹_›|exact nt ‹_› ‹_›))|assumption)
                                          have e : stepX p ps x N = { N with loops := N.loops.dropLast ++ [W (k - 1)], pc := x.n } := by simp [stepX, isArith, controlM, hX, hl, hz']
                                          rw [e]
                                          refine ⟨_, rfl, fun _ => rfl, vs, vl, ?_⟩
                                          (refine hsub_hm ?_ ?_ ?_ ?_ ?_ ?_<;>first|(intro x y h1 h2 h3 h;repeat first|exact h|refine hm_oldT h1 h2 h3 ?_|refine t_ne ‹_› ?_|refine t_fresh ‹_› ?_|refine t_B ?_)|(intro x y hx h;repeat first|exact h|refine hm_old hx ?_|refine g_ne hx ?_|refine g_ne (nb ‹_› h) ?_|refine g_fresh ‹_› ?_|refine g_T ?_)|(repeat' first|(apply Lk.go;constructor)|assumption|exact nb ‹_› ‹_›|exact nt ‹_› ‹_›|(apply Lm.go;constructor)))
                                        · intro hz
                                          have hz' : ¬ 0 < W (k - 1) := by simpa using hz
                                          repeat' first|(apply Sp.go;·constructor<;>first|exact ss|(change _=_;first|(simp only[go_sem,Nat.reduceBEq,Nat.reduceAdd,Nat.reduceLeDiff,reduceIte]<;>rfl)|rfl)|exact Nat.le_of_ble_eq_true rfl|decide|(repeat' first|(apply Lk.go;constructor)|assumption|exact nb ‹_› ‹_›|exact nt ‹_› ‹_›|(apply Lm.go;constructor)))|(intro b hb;repeat first|(refine fe hb ?_;intro _ _ hb)|(refine fT hb ?_;intro hb)|(refine fresh_elimM hb ?_;intro _ _ hb))|refine rt ?_|refine gA rfl ?_|refine gB rfl ?_|apply cT rfl|apply cF rfl|(apply DM.gbT;rfl)|(apply DM.gbF;rfl)|intro h
                                          (apply Sr.go;·constructor<;>first|(apply Lk.go;constructor<;>first|exact ss|(change _=_;first|(simp only[go_sem,Nat.reduceBEq,Nat.reduceAdd,Nat.reduceLeDiff,reduceIte]<;>rfl)|rfl)|exact Nat.le_of_ble_eq_true rfl|decide|(repeat' first|(apply Lk.go;constructor)|assumption|exact nb ‹_› ‹_›|exact nt ‹_› ‹_›))|assumption)
                                          have e : stepX p ps x N = { N with loops := N.loops.dropLast ++ [W (k - 1)] } := by simp [stepX, isArith, controlM, hX, hl, hz']
                                          rw [e]
                                          refine ⟨_, rfl, fun _ => by show _ = N.pc; rw [hpc]; rfl, vs, vl, ?_⟩
                                          (refine hsub_hm ?_ ?_ ?_ ?_ ?_ ?_<;>first|(intro x y h1 h2 h3 h;repeat first|exact h|refine hm_oldT h1 h2 h3 ?_|refine t_ne ‹_› ?_|refine t_fresh ‹_› ?_|refine t_B ?_)|(intro x y hx h;repeat first|exact h|refine hm_old hx ?_|refine g_ne hx ?_|refine g_ne (nb ‹_› h) ?_|refine g_fresh ‹_› ?_|refine g_T ?_)|(repeat' first|(apply Lk.go;constructor)|assumption|exact nb ‹_› ‹_›|exact nt ‹_› ‹_›|(apply Lm.go;constructor)))
                                · intro hh
                                  exact absurd (h22.symm.trans hh) (by decide)
                              · intro h22
                                simp at h22
                                repeat' first|(apply Sp.go;·constructor<;>first|exact ss|(change _=_;first|(simp only[go_sem,Nat.reduceBEq,Nat.reduceAdd,Nat.reduceLeDiff,reduceIte]<;>rfl)|rfl)|exact Nat.le_of_ble_eq_true rfl|decide|(repeat' first|(apply Lk.go;constructor)|assumption|exact nb ‹_› ‹_›|exact nt ‹_› ‹_›|(apply Lm.go;constructor)))|(intro b hb;repeat first|(refine fe hb ?_;intro _ _ hb)|(refine fT hb ?_;intro hb)|(refine fresh_elimM hb ?_;intro _ _ hb))|refine rt ?_|refine gA rfl ?_|refine gB rfl ?_|apply cT rfl|apply cF rfl|(apply DM.gbT;rfl)|(apply DM.gbF;rfl)|intro h
                                (apply AM.cond; (· rfl))
                                · intro h23
                                  have hX : x.op = 23 := by simpa using h23
                                  rcases hl0 : N.loops.length with _ | n
                                  · have h0 : N.loops = [] := List.length_eq_zero_iff.1 hl0
                                    repeat' first|(apply Sp.go;·constructor<;>first|exact ss|(change _=_;first|(simp only[go_sem,Nat.reduceBEq,Nat.reduceAdd,Nat.reduceLeDiff,reduceIte]<;>rfl)|rfl)|exact Nat.le_of_ble_eq_true rfl|decide|(repeat' first|(apply Lk.go;constructor)|assumption|exact nb ‹_› ‹_›|exact nt ‹_› ‹_›|(apply Lm.go;constructor)))|(intro b hb;repeat first|(refine fe hb ?_;intro _ _ hb)|(refine fT hb ?_;intro hb)|(refine fresh_elimM hb ?_;intro _ _ hb))|refine rt ?_|refine gA rfl ?_|refine gB rfl ?_|apply cT rfl|apply cF rfl|(apply DM.gbT;rfl)|(apply DM.gbF;rfl)|intro h
                                    (apply AM.cond; (· rfl))
                                    · intro _
                                      repeat' first|(apply Sp.go;·constructor<;>first|exact ss|(change _=_;first|(simp only[go_sem,Nat.reduceBEq,Nat.reduceAdd,Nat.reduceLeDiff,reduceIte]<;>rfl)|rfl)|exact Nat.le_of_ble_eq_true rfl|decide|(repeat' first|(apply Lk.go;constructor)|assumption|exact nb ‹_› ‹_›|exact nt ‹_› ‹_›|(apply Lm.go;constructor)))|(intro b hb;repeat first|(refine fe hb ?_;intro _ _ hb)|(refine fT hb ?_;intro hb)|(refine fresh_elimM hb ?_;intro _ _ hb))|refine rt ?_|refine gA rfl ?_|refine gB rfl ?_|apply cT rfl|apply cF rfl|(apply DM.gbT;rfl)|(apply DM.gbF;rfl)|intro h
                                      (apply Sr.go;·constructor<;>first|(apply Lk.go;constructor<;>first|exact ss|(change _=_;first|(simp only[go_sem,Nat.reduceBEq,Nat.reduceAdd,Nat.reduceLeDiff,reduceIte]<;>rfl)|rfl)|exact Nat.le_of_ble_eq_true rfl|decide|(repeat' first|(apply Lk.go;constructor)|assumption|exact nb ‹_› ‹_›|exact nt ‹_› ‹_›))|assumption)
                                      have e : stepX p ps x N = { N with tr := true } := by simp [stepX, isArith, controlM, hX, h0]
                                      rw [e]
                                      refine ⟨_, rfl, fun h => (by cases h), vs, vl, ?_⟩
                                      (refine hsub_hm ?_ ?_ ?_ ?_ ?_ ?_<;>first|(intro x y h1 h2 h3 h;repeat first|exact h|refine hm_oldT h1 h2 h3 ?_|refine t_ne ‹_› ?_|refine t_fresh ‹_› ?_|refine t_B ?_)|(intro x y hx h;repeat first|exact h|refine hm_old hx ?_|refine g_ne hx ?_|refine g_ne (nb ‹_› h) ?_|refine g_fresh ‹_› ?_|refine g_T ?_)|(repeat' first|(apply Lk.go;constructor)|assumption|exact nb ‹_› ‹_›|exact nt ‹_› ‹_›|(apply Lm.go;constructor)))
                                    · intro hh
                                      simp [h0] at hh
                                  · obtain ⟨k, hk⟩ := some_of (show n < N.loops.length by omega)
                                    have hl : N.loops.getLast? = some k := by rw [← last_ix hl0]; exact hk
                                    have hw : IntKind.i64.wrap (((N.loops.map irow).length : Int) - 1) = (n : Int) := by rw [List.length_map, hl0, wrap64 (by omega) (by omega)]; omega
                                    repeat' first|(apply Sp.go;·constructor<;>first|exact ss|(change _=_;first|(simp only[go_sem,Nat.reduceBEq,Nat.reduceAdd,Nat.reduceLeDiff,reduceIte]<;>rfl)|rfl)|exact Nat.le_of_ble_eq_true rfl|decide|(repeat' first|(apply Lk.go;constructor)|assumption|exact nb ‹_› ‹_›|exact nt ‹_› ‹_›|(apply Lm.go;constructor)))|(intro b hb;repeat first|(refine fe hb ?_;intro _ _ hb)|(refine fT hb ?_;intro hb)|(refine fresh_elimM hb ?_;intro _ _ hb))|refine rt ?_|refine gA rfl ?_|refine gB rfl ?_|apply cT rfl|apply cF rfl|(apply DM.gbT;rfl)|(apply DM.gbF;rfl)|intro h
                                    (apply AM.cond; (· rfl))
                                    · intro hh
                                      simp at hh
                                      rw [hh] at hl0
                                      simp at hl0
                                    · intro _
                                      repeat' first|(apply Sp.go;·constructor<;>first|exact ss|(change _=_;first|(simp only[go_sem,Nat.reduceBEq,Nat.reduceAdd,Nat.reduceLeDiff,reduceIte]<;>rfl)|rfl)|exact Nat.le_of_ble_eq_true rfl|decide|(repeat' first|(apply Lk.go;constructor)|assumption|exact nb ‹_› ‹_›|exact nt ‹_› ‹_›|(apply Lm.go;constructor)))|(intro b hb;repeat first|(refine fe hb ?_;intro _ _ hb)|(refine fT hb ?_;intro hb)|(refine fresh_elimM hb ?_;intro _ _ hb))|refine rt ?_|refine gA rfl ?_|refine gB rfl ?_|apply cT rfl|apply cF rfl|(apply DM.gbT;rfl)|(apply DM.gbF;rfl)|intro h
                                      (apply AM.cond; (· rfl))
                                      · intro _
                                        repeat' first|(apply Sp.go;·constructor<;>first|exact ss|(change _=_;first|(simp only[go_sem,Nat.reduceBEq,Nat.reduceAdd,Nat.reduceLeDiff,reduceIte]<;>rfl)|rfl)|exact Nat.le_of_ble_eq_true rfl|decide|(repeat' first|(apply Lk.go;constructor)|assumption|exact nb ‹_› ‹_›|exact nt ‹_› ‹_›|(apply Lm.go;constructor)))|(intro b hb;repeat first|(refine fe hb ?_;intro _ _ hb)|(refine fT hb ?_;intro hb)|(refine fresh_elimM hb ?_;intro _ _ hb))|refine rt ?_|refine gA rfl ?_|refine gB rfl ?_|apply cT rfl|apply cF rfl|(apply DM.gbT;rfl)|(apply DM.gbF;rfl)|intro h
                                        simp only [hw]
                                        (apply DM.sM; (· rfl); (· repeat' first|(apply Lk.go;constructor)|assumption|exact nb ‹_› ‹_›|exact nt ‹_› ‹_›|(apply Lm.go;constructor)); (· rfl); (· (simp only [List.length_map]; omega)))
                                        repeat' first|(apply Sp.go;·constructor<;>first|exact ss|(change _=_;first|(simp only[go_sem,Nat.reduceBEq,Nat.reduceAdd,Nat.reduceLeDiff,reduceIte]<;>rfl)|rfl)|exact Nat.le_of_ble_eq_true rfl|decide|(repeat' first|(apply Lk.go;constructor)|assumption|exact nb ‹_› ‹_›|exact nt ‹_› ‹_›|(apply Lm.go;constructor)))|(intro b hb;repeat first|(refine fe hb ?_;intro _ _ hb)|(refine fT hb ?_;intro hb)|(refine fresh_elimM hb ?_;intro _ _ hb))|refine rt ?_|refine gA rfl ?_|refine gB rfl ?_|apply cT rfl|apply cF rfl|(apply DM.gbT;rfl)|(apply DM.gbF;rfl)|intro h
                                        (apply Sr.go;·constructor<;>first|(apply Lk.go;constructor<;>first|exact ss|(change _=_;first|(simp only[go_sem,Nat.reduceBEq,Nat.reduceAdd,Nat.reduceLeDiff,reduceIte]<;>rfl)|rfl)|exact Nat.le_of_ble_eq_true rfl|decide|(repeat' first|(apply Lk.go;constructor)|assumption|exact nb ‹_› ‹_›|exact nt ‹_› ‹_›))|assumption)
                                        have e : stepX p ps x N = { N with loops := N.loops.dropLast } := by simp [stepX, isArith, controlM, hX, hl]
                                        rw [e]
                                        refine ⟨_, rfl, fun _ => by show _ = N.pc; rw [hpc]; rfl, vs, vl + 1, ?_⟩
                                        rw [show (N.loops.map irow).take n = N.loops.dropLast.map irow by rw [← List.map_take, List.dropLast_eq_take, hl0]; rfl]
                                        (refine hsub_hm ?_ ?_ ?_ ?_ ?_ ?_<;>first|(intro x y h1 h2 h3 h;repeat first|exact h|refine hm_oldT h1 h2 h3 ?_|refine t_ne ‹_› ?_|refine t_fresh ‹_› ?_|refine t_B ?_)|(intro x y hx h;repeat first|exact h|refine hm_old hx ?_|refine g_ne hx ?_|refine g_ne (nb ‹_› h) ?_|refine g_fresh ‹_› ?_|refine g_T ?_)|(repeat' first|(apply Lk.go;constructor)|assumption|exact nb ‹_› ‹_›|exact nt ‹_› ‹_›|(apply Lm.go;constructor)))
                                      · intro hh
                                        exfalso
                                        simp at hh
                                        omega
                                · intro h23
                                  simp at h23
                                  have ha : isArith x.op = true := by simp [isArith]; omega
                                  repeat' first|(apply Sp.go;·constructor<;>first|exact ss|(change _=_;first|(simp only[go_sem,Nat.reduceBEq,Nat.reduceAdd,Nat.reduceLeDiff,reduceIte]<;>rfl)|rfl)|exact Nat.le_of_ble_eq_true rfl|decide|(repeat' first|(apply Lk.go;constructor)|assumption|exact nb ‹_› ‹_›|exact nt ‹_› ‹_›|(apply Lm.go;constructor)))|(intro b hb;repeat first|(refine fe hb ?_;intro _ _ hb)|(refine fT hb ?_;intro hb)|(refine fresh_elimM hb ?_;intro _ _ hb))|refine rt ?_|refine gA rfl ?_|refine gB rfl ?_|apply cT rfl|apply cF rfl|(apply DM.gbT;rfl)|(apply DM.gbF;rfl)|((apply DM.cal (p103 _ ρ d ps N gst x.op ha _ ⟨_, _, rfl⟩); (· simp only [go_sem, Nat.reduceBEq, Nat.reduceAdd] <;> rfl); (· exact AVLes.refl _)); rintro r H1 ⟨rfl, vs, vl, rfl⟩; simp only [put_some])|intro h
                                  (apply Sr.go;·constructor<;>first|(apply Lk.go;constructor<;>first|exact ss|(change _=_;first|(simp only[go_sem,Nat.reduceBEq,Nat.reduceAdd,Nat.reduceLeDiff,reduceIte]<;>rfl)|rfl)|exact Nat.le_of_ble_eq_true rfl|decide|(repeat' first|(apply Lk.go;constructor)|assumption|exact nb ‹_› ‹_›|exact nt ‹_› ‹_›))|assumption)
                                  have e : stepX p ps x N = arithM x.op N := by simp [stepX, ha, *]
                                  rw [e]
                                  refine ⟨_, rfl, fun _ => by rw [arithM, result_pc]; show _ = (pop 1 (pop 1 N).2).2.pc; rw [pop_pc, pop_pc, hpc]; rfl, vs, vl, ?_⟩
                                  (refine hsub_hm ?_ ?_ ?_ ?_ ?_ ?_<;>first|(intro x y h1 h2 h3 h;repeat first|exact h|refine hm_oldT h1 h2 h3 ?_|refine t_ne ‹_› ?_|refine t_fresh ‹_› ?_|refine t_B ?_)|(intro x y hx h;repeat first|exact h|refine hm_old hx ?_|refine g_ne hx ?_|refine g_ne (nb ‹_› h) ?_|refine g_fresh ‹_› ?_|refine g_T ?_)|(repeat' first|(apply Lk.go;constructor)|assumption|exact nb ‹_› ‹_›|exact nt ‹_› ‹_›|(apply Lm.go;constructor)))
  refine (acalls_of mo Try.func63 (show chkF Try.prog Try.f63 ([AV.ptr ρ.b 0, p.av, .int .i64 (i : Int)] : List AV).length e63 r63 = true from c63) key).mono ?_
  rintro o H' ⟨a, rfl, n, rfl, hn, vs', vl', hs⟩
  exact ⟨.ret _, _, AVLe.refl _, hs, _, rfl, n, rfl, hn, vs', vl', rfl⟩
theorem valid_okV {v : Val} (h : validV v = true) : okV v := by
  have h' := h
  simp only [validV, Bool.or_eq_true, Bool.and_eq_true, decide_eq_true_eq] at h'
  rcases h' with h' | h'
  · exact .inl ⟨h'.1.1.1, h'.2⟩
  · exact .inr ⟨h'.1.1.1, h⟩
structure OkM (M : Mach) : Prop where
  st : ∀ v ∈ M.stack, okV v
  vs : ∀ v ∈ M.vars, okV v
  dn : M.dn = false
theorem intV_ok (n : Int) : okV (intV n) := .inl ⟨rfl, rfl⟩
theorem push_ok {v : Val} {M : Mach} (h : OkM M) (hv : okV v) : OkM (push v M) := by
  unfold push
  split
  · exact ⟨h.st, h.vs, h.dn⟩
  · refine ⟨fun u hu => ?_, h.vs, h.dn⟩
    simp only [List.mem_append, List.mem_singleton] at hu
    rcases hu with hu | rfl
    · exact h.st u hu
    · exact hv
theorem pop_ok {k : Int} {M : Mach} (h : OkM M) : OkM (pop k M).2 := by
  unfold pop
  split
  · exact ⟨h.st, h.vs, h.dn⟩
  · exact ⟨fun v hv => h.st v (List.dropLast_subset _ hv), h.vs, h.dn⟩
theorem res_ok {n : Int} {M : Mach} (h : OkM M) : OkM (result n M) := by
  unfold result
  split
  · exact h
  · exact push_ok h (intV_ok n)
theorem clampText_ok {lo hi : Int} {s : List UInt8} (h1 : lo ≤ hi) (h2 : hi ≤ 40) (h3 : 0 ≤ lo) (hs : printable s = true) : validV ⟨2, 0, clampText lo hi s⟩ = true := by
  have e : (clampText lo hi s).length ≤ 40 := by simp only [clampText, List.length_append, List.length_take, List.length_replicate]; omega
  have e2 : printable (clampText lo hi s) = true := by
    simp only [printable, clampText, List.all_append, Bool.and_eq_true] at hs ⊢
    refine ⟨?_, ?_⟩
    · rw [List.all_eq_true] at hs ⊢
      exact fun c hc => hs c (List.mem_of_mem_take hc)
    · rw [List.all_eq_true]
      intro c hc
      rw [List.eq_of_mem_replicate hc]
      rfl
  simp only [validV, Bool.or_eq_true, Bool.and_eq_true]
  right
  exact ⟨⟨⟨decide_eq_true trivial, decide_eq_true trivial⟩, decide_eq_true e⟩, e2⟩
theorem clamp_ok {s : Sort_} {v : Val} (hs : validS s = true) (hk : v.k = s.k) (hv : okV v) : okV (clampV s (clampN v)).1 := by
  rw [← (store_eq hs hk hv).2, storeR]
  split
  · exact .inl ⟨rfl, rfl⟩
  · rename_i h1
    rcases hv with ⟨h2, _⟩ | ⟨h2, h3⟩
    · omega
    · have hsv := hs
      simp only [validS, Bool.or_eq_true, Bool.and_eq_true, decide_eq_true_eq] at hsv
      have hv' := h3
      simp only [validV, Bool.or_eq_true, Bool.and_eq_true, decide_eq_true_eq] at hv'
      have hp : v.n = 0 ∧ printable v.s = true := by
        rcases hv' with hv' | hv'
        · omega
        · exact ⟨hv'.1.1.2, hv'.2⟩
      unfold clampV
      rw [hs, h3, if_neg (by decide), if_neg (by omega), if_neg (by omega)]
      right
      refine ⟨h2, ?_⟩
      have := clampText_ok (lo := s.lo) (hi := s.hi) (by omega) (by omega) (by omega) hp.2
      rw [h2, hp.1]
      exact this
theorem store_ok {s : Sort_} {n : Nat} {M : Mach} (hs : validS s = true) (h : OkM M) : OkM (storeM s n M) := by
  unfold storeM
  have hp := pop_ok (k := s.k) h
  split
  · exact hp
  · rename_i ht
    split
    · refine ⟨hp.st, fun v hv => ?_, hp.dn⟩
      have ht' : (pop s.k M).2.tr = false := by simpa using ht
      have hs0 : s.k ≠ 0 := by simp [validS] at hs; omega
      obtain ⟨k1, k2⟩ := pop_get ht' hs0
      rcases List.mem_or_eq_of_mem_set hv with hv | rfl
      · exact h.vs v hv
      · exact clamp_ok hs k1 (h.st _ k2)
    · exact ⟨hp.st, hp.vs, hp.dn⟩
theorem printable_take {s : List UInt8} {n : Nat} (h : printable s = true) : printable (s.take n) = true := by
  simp only [printable, List.all_eq_true] at h ⊢
  exact fun c hc => h c (List.mem_of_mem_take hc)
theorem text_ok {v : Val} (h : okV v) (hk : v.k = 2) : printable v.s = true := by
  rcases h with ⟨h1, _⟩ | ⟨_, h2⟩
  · omega
  · simp only [validV, Bool.or_eq_true, Bool.and_eq_true, decide_eq_true_eq] at h2
    rcases h2 with h2 | h2
    · omega
    · exact h2.2
theorem texts_ok {op : Int} {M : Mach} (h : OkM M) : OkM (textsM op M) := by
  unfold textsM
  split
  · exact res_ok (pop_ok (pop_ok h))
  · split
    · split
      · exact pop_ok (pop_ok h)
      · rename_i ht
        have ht2 : (pop 2 (pop 2 M).2).2.tr = false := by simpa using ht
        have ht1 := pop_tr ht2
        obtain ⟨a1, a2⟩ := pop_get ht1 (by decide)
        obtain ⟨b1, b2⟩ := pop_get ht2 (by decide)
        have pa := text_ok (h.st _ a2) a1
        have pb := text_ok ((pop_ok h).st _ b2) b1
        refine push_ok (pop_ok (pop_ok h)) (.inr ⟨rfl, ?_⟩)
        have e : printable (((pop 2 (pop 2 M).2).1.s ++ (pop 2 M).1.s).take 40) = true := printable_take (by simp only [printable, List.all_append, Bool.and_eq_true] at pa pb ⊢; exact ⟨pb, pa⟩)
        simp only [validV, Bool.or_eq_true, Bool.and_eq_true]
        right
        exact ⟨⟨⟨decide_eq_true trivial, decide_eq_true trivial⟩, decide_eq_true (by simp; omega)⟩, e⟩
    · split
      · exact res_ok (pop_ok h)
      · exact h
theorem control_ok {x : Ins_} {M : Mach} (hx : x.op ≠ 24) (h : OkM M) : OkM (controlM x M) := by
  have hp := pop_ok (k := 1) h
  unfold controlM
  repeat' split
  all_goals first
    | exact h
    | exact hp
    | exact ⟨h.st, h.vs, h.dn⟩
    | exact ⟨hp.st, hp.vs, hp.dn⟩
    | (exfalso; omega)
theorem step_ok {p : Prog} {ps : List Val} {M : Mach} {i : Nat} {x : Ins_} (hv : validP p = true) (hsrt : ∀ w ∈ p.vars, validS w.sort = true) (hps : ∀ v ∈ ps, validV v = true) (h : OkM M) (hvl : M.vars.length = p.vars.length) (hi : M.pc = (i : Int)) (hx : p.code[i]? = some x) (h24 : x.op ≠ 24) : OkM (stepM p ps M) := by
  have e0 : stepM p ps M = stepX p ps x { M with pc := W (M.pc + 1) } := by simp [stepM, hi, hx]
  rw [e0]
  have hN : OkM { M with pc := W (M.pc + 1) } := ⟨h.st, h.vs, h.dn⟩
  have hNl : ({ M with pc := W (M.pc + 1) } : Mach).vars.length = p.vars.length := hvl
  have hI := insOk hv (List.mem_of_getElem? hx)
  generalize ({ M with pc := W (M.pc + 1) } : Mach) = N at hN hNl
  have hok := jump_ok hv (List.mem_of_getElem? hx)
  have hfm : formed x = true := by simp only [okIns, Bool.and_eq_true] at hok; exact hok.1
  unfold stepX
  split
  · exact push_ok hN (intV_ok _)
  · split
    · rename_i h2
      refine push_ok hN (.inr ⟨rfl, ?_⟩)
      simp only [formed, h2, if_true, Bool.and_eq_true] at hfm
      exact hfm.2
    · split
      · refine push_ok hN ?_
        cases hg : N.vars[x.n.toNat]? with
        | none =>
          rename_i h3
          have := hI.var (.inl h3)
          rw [List.getElem?_eq_none_iff] at hg
          omega
        | some v => exact hN.vs v (List.mem_of_getElem? hg)
      · split
        · split
          · exact ⟨hN.st, hN.vs, hN.dn⟩
          · rename_i v hg
            exact push_ok hN (valid_okV (hps v (List.mem_of_getElem? hg)))
        · split
          · split
            · exact hN
            · rename_i w hg
              exact store_ok (hsrt w (List.mem_of_getElem? hg)) hN
          · split
            · exact res_ok (pop_ok hN)
            · split
              · exact res_ok (pop_ok hN)
              · split
                · exact texts_ok hN
                · split
                  · exact res_ok (pop_ok (pop_ok hN))
                  · exact control_ok h24 hN
theorem sound_sorts {p : Prog} {vars : List Val} (h : soundP p vars = true) : ∀ w ∈ p.vars, validS w.sort = true := by
  intro w hw
  simp only [soundP, Bool.and_eq_true] at h
  have hv := h.1
  simp only [validP, varsOk, Bool.and_eq_true] at hv
  obtain ⟨i, hi⟩ := List.getElem?_of_mem hw
  have hlt : i < p.vars.length := (List.getElem?_eq_some_iff.1 hi).1
  have ho : okVar p.vars i = true := by
    have := hv.1.1.2.1
    simp only [allI, List.all_eq_true, List.mem_range] at this
    exact this i hlt
  simp only [okVar, hi, Bool.and_eq_true, fitsV] at ho
  exact ho.2.1.1.1.1
theorem sound_okV {p : Prog} {vars : List Val} (h : soundP p vars = true) : ∀ v ∈ vars, okV v := by
  simp only [soundP, Bool.and_eq_true] at h
  exact (eqF_all (r := fun v : Val => okV v) (fun a b hab => by
    simp only [fitsV, Bool.and_eq_true] at hab
    exact valid_okV hab.1.1.1.2) h.2).2
theorem hm_sub {H H0 : AHeap} {ρ : Ref} {ps : List Val} {M : Mach} {vs vl : Nat} (h : HSub H H0) (hb : H.blk ρ.b = none) (hs : H.tok ρ.ts = none) (hl : H.tok ρ.tl = none) (hv : H.tok ρ.tv = none) : HSub H (HM H0 ρ ps M vs vl) where
  blk := fun x y hx => hm_old (fun e => by subst e; rw [hb] at hx; cases hx) (h.blk x y hx)
  tok := fun x y hx => hm_oldT (fun e => by subst e; rw [hs] at hx; cases hx) (fun e => by subst e; rw [hl] at hx; cases hx) (fun e => by subst e; rw [hv] at hx; cases hx) (h.tok x y hx)
set_option maxHeartbeats 4000000 in
theorem p33 (p : Prog) (entry : Int) (vars ps : List Val) (steps : Int) (hst : steps ≤ 9223372036854775806) : Pure Try.prog 33 [p.av, .int .i64 entry, .vs 3 (vars.map Val.row), .vs 3 (ps.map Val.row), .int .i64 steps] (runP p entry vars ps steps).av := by
  refine pure_introF mo Try.func33 c33 fun H => ?_
  have bad : badArgs p entry vars ps = true → AVLe (.tup [.agg [.nilS, .nilS, .int .i64 0], .int .i64 1]) (runP p entry vars ps steps).av := fun h => by
    rw [runP, if_pos h]; exact errLe 1
  unfold e33 r33
  simp only [initEnv, initFrom]
  repeat' first|(apply Sp.go;·constructor<;>first|exact ss|(change _=_;first|(simp only[go_sem,Nat.reduceBEq,Nat.reduceAdd,Nat.reduceLeDiff,reduceIte]<;>rfl)|rfl)|exact Nat.le_of_ble_eq_true rfl|decide|(repeat' first|(apply Lk.go;constructor)|assumption|exact nb ‹_› ‹_›|exact nt ‹_› ‹_›))|(intro b hb;repeat first|(refine fe hb ?_;intro _ _ hb)|(refine fT hb ?_;intro hb))|refine gA rfl ?_|refine gB rfl ?_|apply cT rfl|apply cF rfl|(apply DM.gbT;rfl)|(apply DM.gbF;rfl)|intro h
  rename_i bp hbp hbr0 nrp npr
  rename Nat => br
  (apply DM.pcs (p37 p vars); (· simp only [go_sem, Nat.reduceBEq, Nat.reduceAdd] <;> rfl); (· exact AVLes.refl _))
  repeat' first|(apply Sp.go;·constructor<;>first|exact ss|(change _=_;first|(simp only[go_sem,Nat.reduceBEq,Nat.reduceAdd,Nat.reduceLeDiff,reduceIte]<;>rfl)|rfl)|exact Nat.le_of_ble_eq_true rfl|decide|(repeat' first|(apply Lk.go;constructor)|assumption|exact nb ‹_› ‹_›|exact nt ‹_› ‹_›))|(intro b hb;repeat first|(refine fe hb ?_;intro _ _ hb)|(refine fT hb ?_;intro hb))|refine gA rfl ?_|refine gB rfl ?_|apply cT rfl|apply cF rfl|(apply DM.gbT;rfl)|(apply DM.gbF;rfl)|intro h
  · rename_i f1 f2
    have f3 := h
    clear h
    (apply AM.cond; (· rfl))
    · intro h
      repeat' first|(apply Sp.go;·constructor<;>first|exact ss|(change _=_;first|(simp only[go_sem,Nat.reduceBEq,Nat.reduceAdd,Nat.reduceLeDiff,reduceIte]<;>rfl)|rfl)|exact Nat.le_of_ble_eq_true rfl|decide|(repeat' first|(apply Lk.go;constructor)|assumption|exact nb ‹_› ‹_›|exact nt ‹_› ‹_›))|(intro b hb;repeat first|(refine fe hb ?_;intro _ _ hb)|(refine fT hb ?_;intro hb))|refine gA rfl ?_|refine gB rfl ?_|apply cT rfl|apply cF rfl|(apply DM.gbT;rfl)|(apply DM.gbF;rfl)|intro h
      (apply AM.retF; (· apply Lk.go;constructor<;>first|exact ss|(change _=_;first|(simp only[go_sem,Nat.reduceBEq,Nat.reduceAdd,Nat.reduceLeDiff,reduceIte]<;>rfl)|rfl)|exact Nat.le_of_ble_eq_true rfl|decide|(repeat' first|(apply Lk.go;constructor)|assumption|exact nb ‹_› ‹_›|exact nt ‹_› ‹_›)); (· (repeat' first|assumption|(apply Lk.go;constructor))))
      refine Frz.le ?_ (bad (by simp at *; simp [badArgs, *]; exact .inl (.inr (by omega))))
      (repeat' first|assumption|(apply Lk.go;constructor))
    · intro h
      have hsd : soundP p vars = true := by simpa using f1
      simp only [List.length_map, decide_eq_false_iff_not] at f2 f3 h
      repeat' first|(apply Sp.go;·constructor<;>first|exact ss|(change _=_;first|(simp only[go_sem,Nat.reduceBEq,Nat.reduceAdd,Nat.reduceLeDiff,reduceIte]<;>rfl)|rfl)|exact Nat.le_of_ble_eq_true rfl|decide|(repeat' first|(apply Lk.go;constructor)|assumption|exact nb ‹_› ‹_›|exact nt ‹_› ‹_›))|(intro b hb;repeat first|(refine fe hb ?_;intro _ _ hb)|(refine fT hb ?_;intro hb))|refine gA rfl ?_|refine gB rfl ?_|apply cT rfl|apply cF rfl|(apply DM.gbT;rfl)|(apply DM.gbF;rfl)|intro h
      refine AM.loopX (X := Nat) 0 (fun i => [(1, .int .i64 entry), (2, .vs 3 (vars.map Val.row)), (3, .vs 3 (ps.map Val.row)), (4, .int .i64 steps), (5, .ptr bp 0), (10, .ptr br 0), (12, .int .i64 i)]) (fun i H' => H' = (H.setB bp 27 p.cells).setB br 64 [.nilS, .nilS, .int .i64 0] ∧ i ≤ ps.length ∧ ∀ v ∈ ps.take i, validV v = true) (fun i => ps.length - i) ⟨rfl, by omega, by simp⟩ ?_ ?_
      · (repeat first | exact envle_nil _ | (refine envle_cons ?_ ?_; · (simp only [go_sem, Nat.reduceBEq, Nat.reduceAdd]; exact AVLe.refl _)))
      · intro i H' ⟨e, hi, hv⟩
        subst e
        repeat' first|(apply Sp.go;·constructor<;>first|exact ss|(change _=_;first|(simp only[go_sem,Nat.reduceBEq,Nat.reduceAdd,Nat.reduceLeDiff,reduceIte]<;>rfl)|rfl)|exact Nat.le_of_ble_eq_true rfl|decide|(repeat' first|(apply Lk.go;constructor)|assumption|exact nb ‹_› ‹_›|exact nt ‹_› ‹_›))|(intro b hb;repeat first|(refine fe hb ?_;intro _ _ hb)|(refine fT hb ?_;intro hb))|refine gA rfl ?_|refine gB rfl ?_|apply cT rfl|apply cF rfl|(apply DM.gbT;rfl)|(apply DM.gbF;rfl)|intro h
        (apply AM.cond; (· rfl))
        · intro h3
          simp at h3
          obtain ⟨v, hx⟩ := some_of h3
          repeat' first|(apply Sp.go;·constructor<;>first|exact ss|(change _=_;first|(simp only[go_sem,Nat.reduceBEq,Nat.reduceAdd,Nat.reduceLeDiff,reduceIte]<;>rfl)|rfl)|exact Nat.le_of_ble_eq_true rfl|decide|(repeat' first|(apply Lk.go;constructor)|assumption|exact nb ‹_› ‹_›|exact nt ‹_› ‹_›))|(intro b hb;repeat first|(refine fe hb ?_;intro _ _ hb)|(refine fT hb ?_;intro hb))|refine gA rfl ?_|refine gB rfl ?_|apply cT rfl|apply cF rfl|(apply DM.gbT;rfl)|(apply DM.gbF;rfl)|intro h
          (apply DM.ixV (row := v.row) (z := (i : Int)) (by omega) (row_get Val.row hx); (· rfl); (· rfl))
          repeat' first|(apply Sp.go;·constructor<;>first|exact ss|(change _=_;first|(simp only[go_sem,Nat.reduceBEq,Nat.reduceAdd,Nat.reduceLeDiff,reduceIte]<;>rfl)|rfl)|exact Nat.le_of_ble_eq_true rfl|decide|(repeat' first|(apply Lk.go;constructor)|assumption|exact nb ‹_› ‹_›|exact nt ‹_› ‹_›))|(intro b hb;repeat first|(refine fe hb ?_;intro _ _ hb)|(refine fT hb ?_;intro hb))|refine gA rfl ?_|refine gB rfl ?_|apply cT rfl|apply cF rfl|(apply DM.gbT;rfl)|(apply DM.gbF;rfl)|intro h
          (apply DM.pcs (p32 v); (· simp only [go_sem, Nat.reduceBEq, Nat.reduceAdd] <;> rfl); (· exact AVLes.refl _))
          repeat' first|(apply Sp.go;·constructor<;>first|exact ss|(change _=_;first|(simp only[go_sem,Nat.reduceBEq,Nat.reduceAdd,Nat.reduceLeDiff,reduceIte]<;>rfl)|rfl)|exact Nat.le_of_ble_eq_true rfl|decide|(repeat' first|(apply Lk.go;constructor)|assumption|exact nb ‹_› ‹_›|exact nt ‹_› ‹_›))|(intro b hb;repeat first|(refine fe hb ?_;intro _ _ hb)|(refine fT hb ?_;intro hb))|refine gA rfl ?_|refine gB rfl ?_|apply cT rfl|apply cF rfl|(apply DM.gbT;rfl)|(apply DM.gbF;rfl)|intro h
          (apply AM.cond; (· rfl))
          · intro h4
            repeat' first|(apply Sp.go;·constructor<;>first|exact ss|(change _=_;first|(simp only[go_sem,Nat.reduceBEq,Nat.reduceAdd,Nat.reduceLeDiff,reduceIte]<;>rfl)|rfl)|exact Nat.le_of_ble_eq_true rfl|decide|(repeat' first|(apply Lk.go;constructor)|assumption|exact nb ‹_› ‹_›|exact nt ‹_› ‹_›))|(intro b hb;repeat first|(refine fe hb ?_;intro _ _ hb)|(refine fT hb ?_;intro hb))|refine gA rfl ?_|refine gB rfl ?_|apply cT rfl|apply cF rfl|(apply DM.gbT;rfl)|(apply DM.gbF;rfl)|intro h
            (apply AM.retF; (· apply Lk.go;constructor<;>first|exact ss|(change _=_;first|(simp only[go_sem,Nat.reduceBEq,Nat.reduceAdd,Nat.reduceLeDiff,reduceIte]<;>rfl)|rfl)|exact Nat.le_of_ble_eq_true rfl|decide|(repeat' first|(apply Lk.go;constructor)|assumption|exact nb ‹_› ‹_›|exact nt ‹_› ‹_›)); (· (repeat' first|assumption|(apply Lk.go;constructor))))
            refine Frz.le ?_ (bad ?_)
            · (repeat' first|assumption|(apply Lk.go;constructor))
            · have : (ps.any fun v => !(validV v)) = true := List.any_eq_true.2 ⟨v, List.mem_of_getElem? hx, h4⟩
              rw [badArgs, this, Bool.or_true]
          · intro h4
            have h5 : validV v = true := by simpa using h4
            repeat' first|(apply Sp.go;·constructor<;>first|exact ss|(change _=_;first|(simp only[go_sem,Nat.reduceBEq,Nat.reduceAdd,Nat.reduceLeDiff,reduceIte]<;>rfl)|rfl)|exact Nat.le_of_ble_eq_true rfl|decide|(repeat' first|(apply Lk.go;constructor)|assumption|exact nb ‹_› ‹_›|exact nt ‹_› ‹_›))|(intro b hb;repeat first|(refine fe hb ?_;intro _ _ hb)|(refine fT hb ?_;intro hb))|refine gA rfl ?_|refine gB rfl ?_|apply cT rfl|apply cF rfl|(apply DM.gbT;rfl)|(apply DM.gbF;rfl)|intro h
            refine AM.roundX (i + 1) ⟨rfl, by omega, ?_⟩ ?_ ?_
            · intro u hu
              rw [List.take_add_one, hx, List.mem_append] at hu
              rcases hu with hu | hu
              · exact hv u hu
              · simp at hu
                rw [hu]
                exact h5
            · (repeat first | exact envle_nil _ | (refine envle_cons ?_ ?_; · (simp only [go_sem, Nat.reduceBEq, Nat.reduceAdd]; exact AVLe.refl _)))
              refine envle_cons ?_ ?_
              · simp only [go_sem, Nat.reduceBEq, Nat.reduceAdd]
                refine avle_int ?_
                rw [inc64 h3 (by unfold maxLen; omega)]
              exact envle_nil _
            · show ps.length - (i + 1) < ps.length - i
              omega
        · intro h3
          simp at h3
          have hall : ∀ v ∈ ps, validV v = true := by
            rw [List.take_of_length_le (by omega)] at hv
            exact hv
          have hgood : badArgs p entry vars ps = false := by
            have : (ps.any fun v => !(validV v)) = false := by
              rw [List.any_eq_false]
              intro v hv
              rw [hall v hv]
              decide
            rw [badArgs, this, hsd]
            simp
            omega
          obtain ⟨hvp, hvl, hvs, hv12⟩ := sound_len hsd
          have hent : 0 ≤ entry ∧ entry < p.code.length := by omega
          have hps : ∀ v ∈ ps, v.s.length ≤ 1000 := fun v hv => valid_len (hall v hv)
          have hrun : runP p entry vars ps steps = runF p ps steps.toNat (mach0 vars entry) 0 := by rw [runP, hgood]; rfl
          rw [hrun]
          clear bad hrun hv
          repeat' first|(apply Sp.go;·constructor<;>first|exact ss|(change _=_;first|(simp only[go_sem,Nat.reduceBEq,Nat.reduceAdd,Nat.reduceLeDiff,reduceIte]<;>rfl)|rfl)|exact Nat.le_of_ble_eq_true rfl|decide|(repeat' first|(apply Lk.go;constructor)|assumption|exact nb ‹_› ‹_›|exact nt ‹_› ‹_›))|(intro b hb;repeat first|(refine fe hb ?_;intro _ _ hb)|(refine fT hb ?_;intro hb))|refine gA rfl ?_|refine gB rfl ?_|apply cT rfl|apply cF rfl|(apply DM.gbT;rfl)|(apply DM.gbF;rfl)|intro h
          apply DM.bslM (rows := [])
          · rfl
          · rfl
          · rfl
          · decide
          intro tv htv
          apply DM.p
          · simp only [peval, EOpd.ev, Env.get, Nat.reduceBEq, cond_true, cond_false, beq_self_eq_true] <;> rfl
          apply DM.apM
          · simp only [EOpd.ev, Env.get, Nat.reduceBEq, cond_true, cond_false, beq_self_eq_true] <;> rfl
          · exact t_same
          · simp only [rowsOf, reduceIte, if_true, eq_self, EOpd.ev, Env.get, Nat.reduceBEq, cond_true, cond_false, beq_self_eq_true] <;> rfl
          · simp only [List.length_map, List.length_nil]; omega
          · simp only [List.length_map, List.length_nil, maxLen]; omega
          rw [setT_setT]
          repeat' first|(apply Sp.go;·constructor<;>first|exact ss|(change _=_;first|(simp only[go_sem,Nat.reduceBEq,Nat.reduceAdd,Nat.reduceLeDiff,reduceIte]<;>rfl)|rfl)|exact Nat.le_of_ble_eq_true rfl|decide|(repeat' first|(apply Lk.go;constructor)|assumption|exact nb ‹_› ‹_›|exact nt ‹_› ‹_›|(apply Lm.go;constructor)))|(intro b hb;repeat first|(refine fe hb ?_;intro _ _ hb)|(refine fT hb ?_;intro hb)|(refine fresh_elimM hb ?_;intro _ _ hb))|refine rt ?_|refine gA rfl ?_|refine gB rfl ?_|apply cT rfl|apply cF rfl|(apply DM.gbT;rfl)|(apply DM.gbF;rfl)|intro h
          apply AM.ghostB b 0 70 3 (by decide)
          · (· repeat' first|(apply Lk.go;constructor)|assumption|exact nb ‹_› ‹_›|exact nt ‹_› ‹_›|(apply Lm.go;constructor))
          · rfl
          intro ts hts
          apply AM.ghostB b 3 3 1 (by decide)
          · (· repeat' first|(apply Lk.go;constructor)|assumption|exact nb ‹_› ‹_›|exact nt ‹_› ‹_›|(apply Lm.go;constructor))
          · rfl
          intro tl htl
          have htv' : H.tok tv = none := freshT_setB (freshT_setB htv)
          obtain ⟨nsv, nvs, q1⟩ := freshT_setT (freshT_setB hts)
          have hts' : H.tok ts = none := freshT_setB (freshT_setB q1)
          obtain ⟨nls, nsl, q2⟩ := freshT_setT (freshT_setB htl)
          obtain ⟨nlv, nvl, q3⟩ := freshT_setT (freshT_setB q2)
          have htl' : H.tok tl = none := freshT_setB (freshT_setB q3)
          have d : (⟨b, tv, ts, tl, 1⟩ : Ref).Ok := ⟨nvs, nvl, nls⟩
          have hsub0 : HSub H ((H.setB bp 27 p.cells).setB br 64 [.nilS, .nilS, .int .i64 0]) := HSub.setB (HSub.setB (HSub.refl _) hbp) (by assumption)
          have hbb : ((H.setB bp 27 p.cells).setB br 64 [.nilS, .nilS, .int .i64 0]).blk b = none := by assumption
          have hbr : ((H.setB bp 27 p.cells).setB br 64 [.nilS, .nilS, .int .i64 0]).blk br = some (64, [.nilS, .nilS, .int .i64 0]) := g_same
          have hbpp : ((H.setB bp 27 p.cells).setB br 64 [.nilS, .nilS, .int .i64 0]).blk bp = some (27, p.cells) := g_ne npr g_same
          have hbrn : H.blk br = none := by assumption
          have nbr : br ≠ b := by assumption
          have nbp : bp ≠ b := by assumption
          refine AM.forget (HM ((H.setB bp 27 p.cells).setB br 64 [.nilS, .nilS, .int .i64 0]) ⟨b, tv, ts, tl, 1⟩ ps (mach0 vars entry) 0 0) ?_ ?_
          · rw [List.nil_append]
            (refine hsub_hm ?_ ?_ ?_ ?_ ?_ ?_<;>first|(intro x y h1 h2 h3 h;repeat first|exact h|refine hm_oldT h1 h2 h3 ?_|refine t_ne ‹_› ?_|refine t_fresh ‹_› ?_|refine t_B ?_)|(intro x y hx h;repeat first|exact h|refine hm_old hx ?_|refine g_ne hx ?_|refine g_ne (nb ‹_› h) ?_|refine g_fresh ‹_› ?_|refine g_T ?_)|(repeat' first|(apply Lk.go;constructor)|assumption|exact nb ‹_› ‹_›|exact nt ‹_› ‹_›|(apply Lm.go;constructor)))
          generalize ((H.setB bp 27 p.cells).setB br 64 [.nilS, .nilS, .int .i64 0]) = H0 at hsub0 hbb hbr hbpp
          have inv0 : Inv p (mach0 vars entry) := ⟨by simp [mach0], by simp [mach0], hvs, by simp [mach0], hvl, hent.1, by show entry ≤ _; omega⟩
          have hsrt : ∀ w ∈ p.vars, validS w.sort = true := sound_sorts hsd
          have ok0 : OkM (mach0 vars entry) := ⟨by simp [mach0], sound_okV hsd, rfl⟩
          clear hts q1 htl q2 q3 htv
          refine AM.loopX (X := Mach × Nat × Int) (mach0 vars entry, 0, entry) (fun x => [(4, .int .i64 steps), (5, .ptr bp 0), (10, .ptr br 0), (13, .ptr b 0), (14, .int .i64 x.2.2), (15, .int .i64 (x.2.1 : Int))]) (fun x H' => MS H0 ⟨b, tv, ts, tl, 1⟩ ps x.1 H' ∧ Inv p x.1 ∧ OkM x.1 ∧ x.2.1 ≤ steps.toNat ∧ (x.1.tr = false → x.2.2 = x.1.pc) ∧ runF p ps steps.toNat (mach0 vars entry) 0 = if x.1.tr then ⟨[], [], 0, 25⟩ else runF p ps (steps.toNat - x.2.1) x.1 x.2.1) (fun x => steps.toNat - x.2.1) ⟨⟨0, 0, rfl⟩, inv0, ok0, Nat.zero_le _, fun _ => rfl, rfl⟩ ?_ ?_
          · (repeat first | exact envle_nil _ | (refine envle_cons ?_ ?_; · (simp only [go_sem, Nat.reduceBEq, Nat.reduceAdd]; exact AVLe.refl _)))
          · rintro ⟨M, used, a⟩ H' ⟨⟨vs, vl, rfl⟩, hinv, hok, hu, ha, he⟩
            simp only at hinv hok hu ha he ⊢
            rw [he]
            repeat' first|(apply Sp.go;·constructor<;>first|exact ss|(change _=_;first|(simp only[go_sem,Nat.reduceBEq,Nat.reduceAdd,Nat.reduceLeDiff,reduceIte]<;>rfl)|rfl)|exact Nat.le_of_ble_eq_true rfl|decide|(repeat' first|(apply Lk.go;constructor)|assumption|exact nb ‹_› ‹_›|exact nt ‹_› ‹_›|(apply Lm.go;constructor)))|(intro b hb;repeat first|(refine fe hb ?_;intro _ _ hb)|(refine fT hb ?_;intro hb)|(refine fresh_elimM hb ?_;intro _ _ hb))|refine rt ?_|refine gA rfl ?_|refine gB rfl ?_|apply cT rfl|apply cF rfl|(apply DM.gbT;rfl)|(apply DM.gbF;rfl)|intro h
            · skip
              have ea := ha h
              subst ea
              rw [h, if_neg (by simp)]
              (apply AM.cond; (· rfl))
              · intro h2
                simp at h2
                repeat' first|(apply Sp.go;·constructor<;>first|exact ss|(change _=_;first|(simp only[go_sem,Nat.reduceBEq,Nat.reduceAdd,Nat.reduceLeDiff,reduceIte]<;>rfl)|rfl)|exact Nat.le_of_ble_eq_true rfl|decide|(repeat' first|(apply Lk.go;constructor)|assumption|exact nb ‹_› ‹_›|exact nt ‹_› ‹_›|(apply Lm.go;constructor)))|(intro b hb;repeat first|(refine fe hb ?_;intro _ _ hb)|(refine fT hb ?_;intro hb)|(refine fresh_elimM hb ?_;intro _ _ hb))|refine rt ?_|refine gA rfl ?_|refine gB rfl ?_|apply cT rfl|apply cF rfl|(apply DM.gbT;rfl)|(apply DM.gbF;rfl)|intro h
                (apply AM.retF; (· apply Lk.go;constructor<;>first|exact ss|(change _=_;first|(simp only[go_sem,Nat.reduceBEq,Nat.reduceAdd,Nat.reduceLeDiff,reduceIte]<;>rfl)|rfl)|exact Nat.le_of_ble_eq_true rfl|decide|(repeat' first|(apply Lk.go;constructor)|assumption|exact nb ‹_› ‹_›|exact nt ‹_› ‹_›|(apply Lm.go;constructor))); (· (repeat' first|assumption|refine hm_sub ?_ ‹_› ‹_› ‹_› ‹_›|(apply Lk.go;constructor))))
                have e : runF p ps (steps.toNat - used) M used = ⟨[], [], 0, 25⟩ := by rw [runF.eq_def]; simp [hok.dn, h2]
                rw [e]
                refine Frz.le ?_ (errLe 25)
                (repeat' first|assumption|refine hm_sub ?_ ‹_› ‹_› ‹_› ‹_›|(apply Lk.go;constructor))
              · intro h2
                simp at h2
                repeat' first|(apply Sp.go;·constructor<;>first|exact ss|(change _=_;first|(simp only[go_sem,Nat.reduceBEq,Nat.reduceAdd,Nat.reduceLeDiff,reduceIte]<;>rfl)|rfl)|exact Nat.le_of_ble_eq_true rfl|decide|(repeat' first|(apply Lk.go;constructor)|assumption|exact nb ‹_› ‹_›|exact nt ‹_› ‹_›|(apply Lm.go;constructor)))|(intro b hb;repeat first|(refine fe hb ?_;intro _ _ hb)|(refine fT hb ?_;intro hb)|(refine fresh_elimM hb ?_;intro _ _ hb))|refine rt ?_|refine gA rfl ?_|refine gB rfl ?_|apply cT rfl|apply cF rfl|(apply DM.gbT;rfl)|(apply DM.gbF;rfl)|intro h
                (apply AM.cond; (· rfl))
                · intro h3
                  simp at h3
                  repeat' first|(apply Sp.go;·constructor<;>first|exact ss|(change _=_;first|(simp only[go_sem,Nat.reduceBEq,Nat.reduceAdd,Nat.reduceLeDiff,reduceIte]<;>rfl)|rfl)|exact Nat.le_of_ble_eq_true rfl|decide|(repeat' first|(apply Lk.go;constructor)|assumption|exact nb ‹_› ‹_›|exact nt ‹_› ‹_›|(apply Lm.go;constructor)))|(intro b hb;repeat first|(refine fe hb ?_;intro _ _ hb)|(refine fT hb ?_;intro hb)|(refine fresh_elimM hb ?_;intro _ _ hb))|refine rt ?_|refine gA rfl ?_|refine gB rfl ?_|apply cT rfl|apply cF rfl|(apply DM.gbT;rfl)|(apply DM.gbF;rfl)|intro h
                  (apply AM.retF; (· apply Lk.go;constructor<;>first|exact ss|(change _=_;first|(simp only[go_sem,Nat.reduceBEq,Nat.reduceAdd,Nat.reduceLeDiff,reduceIte]<;>rfl)|rfl)|exact Nat.le_of_ble_eq_true rfl|decide|(repeat' first|(apply Lk.go;constructor)|assumption|exact nb ‹_› ‹_›|exact nt ‹_› ‹_›|(apply Lm.go;constructor))); (· (repeat' first|assumption|refine hm_sub ?_ ‹_› ‹_› ‹_› ‹_›|(apply Lk.go;constructor))))
                  have e : runF p ps (steps.toNat - used) M used = ⟨[], [], 0, 26⟩ := by
                    rw [show steps.toNat - used = 0 by omega, runF.eq_def]; simp [hok.dn]; omega
                  rw [e]
                  refine Frz.le ?_ (errLe 26)
                  (repeat' first|assumption|refine hm_sub ?_ ‹_› ‹_› ‹_› ‹_›|(apply Lk.go;constructor))
                · intro h3
                  simp at h3
                  obtain ⟨i, hi⟩ : ∃ i : Nat, M.pc = (i : Int) := ⟨M.pc.toNat, by have := hinv.p0; omega⟩
                  obtain ⟨x, hx⟩ := some_of (show i < p.code.length by omega)
                  have g : Good p M := ⟨hinv.st, hinv.str, by have := hinv.ll; unfold maxLen; omega, hinv.vl⟩
                  obtain ⟨k, hk⟩ : ∃ k, steps.toNat - used = k + 1 := ⟨steps.toNat - used - 1, by omega⟩
                  have hstep : runF p ps (steps.toNat - used) M used = if (stepM p ps M).tr then ⟨[], [], 0, 25⟩ else runF p ps k (stepM p ps M) (used + 1) := by
                    rw [hk, runF.eq_def]; simp only [hok.dn]; rw [if_neg (by simp), if_neg (by omega)]
                  repeat' first|(apply Sp.go;·constructor<;>first|exact ss|(change _=_;first|(simp only[go_sem,Nat.reduceBEq,Nat.reduceAdd,Nat.reduceLeDiff,reduceIte]<;>rfl)|rfl)|exact Nat.le_of_ble_eq_true rfl|decide|(repeat' first|(apply Lk.go;constructor)|assumption|exact nb ‹_› ‹_›|exact nt ‹_› ‹_›|(apply Lm.go;constructor)))|(intro b hb;repeat first|(refine fe hb ?_;intro _ _ hb)|(refine fT hb ?_;intro hb)|(refine fresh_elimM hb ?_;intro _ _ hb))|refine rt ?_|refine gA rfl ?_|refine gB rfl ?_|apply cT rfl|apply cF rfl|(apply DM.gbT;rfl)|(apply DM.gbF;rfl)|(apply DM.ixV (row := x.row) (z := M.pc) hinv.p0 (by rw [hi]; exact row_get Ins_.row hx); (· rfl); (· rfl))|intro h
                  (apply AM.cond; (· rfl))
                  · intro h4
                    simp at h4
                    repeat' first|(apply Sp.go;·constructor<;>first|exact ss|(change _=_;first|(simp only[go_sem,Nat.reduceBEq,Nat.reduceAdd,Nat.reduceLeDiff,reduceIte]<;>rfl)|rfl)|exact Nat.le_of_ble_eq_true rfl|decide|(repeat' first|(apply Lk.go;constructor)|assumption|exact nb ‹_› ‹_›|exact nt ‹_› ‹_›|(apply Lm.go;constructor)))|(intro b hb;repeat first|(refine fe hb ?_;intro _ _ hb)|(refine fT hb ?_;intro hb)|(refine fresh_elimM hb ?_;intro _ _ hb))|refine rt ?_|refine gA rfl ?_|refine gB rfl ?_|apply cT rfl|apply cF rfl|(apply DM.gbT;rfl)|(apply DM.gbF;rfl)|intro h
                    rw [inc64 (show used < steps.toNat by omega) (by unfold maxLen; omega)]
                    (apply AM.retF; (· apply Lk.go;constructor<;>first|exact ss|(change _=_;first|(simp only[go_sem,Nat.reduceBEq,Nat.reduceAdd,Nat.reduceLeDiff,reduceIte]<;>rfl)|rfl)|exact Nat.le_of_ble_eq_true rfl|decide|(repeat' first|(apply Lk.go;constructor)|assumption|exact nb ‹_› ‹_›|exact nt ‹_› ‹_›|(apply Lm.go;constructor))); (· (repeat' first|assumption|refine hm_sub ?_ ‹_› ‹_› ‹_› ‹_›|(apply Lk.go;constructor))))
                    have hs : stepM p ps M = { M with pc := W (M.pc + 1), dn := true } := by simp [stepM, hi, hx, stepX, isArith, controlM, h4]
                    have e : runF p ps (steps.toNat - used) M used = ⟨M.stack, M.vars, ((used + 1 : Nat) : Int), 0⟩ := by
                      rw [hstep, hs]
                      simp only [h]
                      rw [if_neg (by simp), runF.eq_def]
                      simp
                    rw [e]
                    have hs2 : ∀ c, HSub H ((HM H0 ⟨b, tv, ts, tl, 1⟩ ps M vs vl).setB br 64 c) := by
                      intro c
                      (repeat' first|assumption|refine hm_sub ?_ ‹_› ‹_› ‹_› ‹_›|(apply Lk.go;constructor))
                    exact Frz.tup (FrzL.cons (Frz.agg (FrzL.cons (Frz.ms (hs2 _) (t_B hm_ts) hts') (FrzL.cons (Frz.ms (hs2 _) (t_B (hm_tv d)) htv') (FrzL.cons (Frz.same (hs2 _)) FrzL.nil)))) (FrzL.cons (Frz.same (hs2 _)) FrzL.nil))
                  · intro h4
                    simp at h4
                    repeat' first|(apply Sp.go;·constructor<;>first|exact ss|(change _=_;first|(simp only[go_sem,Nat.reduceBEq,Nat.reduceAdd,Nat.reduceLeDiff,reduceIte]<;>rfl)|rfl)|exact Nat.le_of_ble_eq_true rfl|decide|(repeat' first|(apply Lk.go;constructor)|assumption|exact nb ‹_› ‹_›|exact nt ‹_› ‹_›|(apply Lm.go;constructor)))|(intro b hb;repeat first|(refine fe hb ?_;intro _ _ hb)|(refine fT hb ?_;intro hb)|(refine fresh_elimM hb ?_;intro _ _ hb))|refine rt ?_|refine gA rfl ?_|refine gB rfl ?_|apply cT rfl|apply cF rfl|(apply DM.gbT;rfl)|(apply DM.gbF;rfl)|intro h
                    have he2 : runF p ps steps.toNat (mach0 vars entry) 0 = runF p ps (steps.toNat - used) M used := by rw [he, h]; rfl
                    rw [← he2]
                    have hfm := formed_eq x
                    rw [show formed x = true by have := jump_ok hvp (List.mem_of_getElem? hx); simp only [okIns, Bool.and_eq_true] at this; exact this.1] at hfm
                    have hop : 1 ≤ x.op ∧ x.op ≤ 23 := by
                      have h1 := hfm.symm
                      simp only [Bool.and_eq_true, inB, decide_eq_true_eq] at h1
                      omega
                    rw [hi]
                    (apply DM.cal (p63 H0 ⟨b, tv, ts, tl, 1⟩ d p ps M g hinv.ll hsrt hok.st i hi x hx (insOk hvp (List.mem_of_getElem? hx)) hop _ ⟨_, _, rfl⟩); (· simp only [go_sem, Nat.reduceBEq, Nat.reduceAdd] <;> rfl); (· exact AVLes.refl _))
                    rintro r H1 ⟨n, rfl, hn, vs', vl', rfl⟩
                    simp only [put_some]
                    repeat' first|(apply Sp.go;·constructor<;>first|exact ss|(change _=_;first|(simp only[go_sem,Nat.reduceBEq,Nat.reduceAdd,Nat.reduceLeDiff,reduceIte]<;>rfl)|rfl)|exact Nat.le_of_ble_eq_true rfl|decide|(repeat' first|(apply Lk.go;constructor)|assumption|exact nb ‹_› ‹_›|exact nt ‹_› ‹_›|(apply Lm.go;constructor)))|(intro b hb;repeat first|(refine fe hb ?_;intro _ _ hb)|(refine fT hb ?_;intro hb)|(refine fresh_elimM hb ?_;intro _ _ hb))|refine rt ?_|refine gA rfl ?_|refine gB rfl ?_|apply cT rfl|apply cF rfl|(apply DM.gbT;rfl)|(apply DM.gbF;rfl)|intro h
                    refine AM.roundX (stepM p ps M, used + 1, n) ⟨⟨vs', vl', rfl⟩, step_inv hvp hps hinv hi hx, step_ok hvp hsrt hall hok hinv.vl hi hx h4, by show used + 1 ≤ _; omega, hn, ?_⟩ ?_ ?_
                    · rw [he2, hstep]
                      show _ = if (stepM p ps M).tr = true then _ else runF p ps (steps.toNat - (used + 1)) (stepM p ps M) (used + 1)
                      rw [show steps.toNat - (used + 1) = k by omega]
                    · (repeat first | exact envle_nil _ | (refine envle_cons ?_ ?_; · (simp only [go_sem, Nat.reduceBEq, Nat.reduceAdd]; exact AVLe.refl _)))
                      refine envle_cons ?_ (envle_nil _)
                      simp only [EOpd.ev, Env.get, Nat.reduceBEq, cond_true, cond_false, beq_self_eq_true, Nat.zero_add, Nat.add_zero, Nat.reduceAdd]
                      refine avle_int ?_
                      rw [inc64 (show used < steps.toNat by omega) (by unfold maxLen; omega)]
                    · show steps.toNat - (used + 1) < steps.toNat - used
                      omega
            · rw [h, if_pos rfl]
              (apply AM.retF; (· apply Lk.go;constructor<;>first|exact ss|(change _=_;first|(simp only[go_sem,Nat.reduceBEq,Nat.reduceAdd,Nat.reduceLeDiff,reduceIte]<;>rfl)|rfl)|exact Nat.le_of_ble_eq_true rfl|decide|(repeat' first|(apply Lk.go;constructor)|assumption|exact nb ‹_› ‹_›|exact nt ‹_› ‹_›|(apply Lm.go;constructor))); (· (repeat' first|assumption|refine hm_sub ?_ ‹_› ‹_› ‹_› ‹_›|(apply Lk.go;constructor))))
              refine Frz.le ?_ (errLe 25)
              (repeat' first|assumption|refine hm_sub ?_ ‹_› ‹_› ‹_› ‹_›|(apply Lk.go;constructor))
  all_goals ((apply AM.retF; (· apply Lk.go;constructor<;>first|exact ss|(change _=_;first|(simp only[go_sem,Nat.reduceBEq,Nat.reduceAdd,Nat.reduceLeDiff,reduceIte]<;>rfl)|rfl)|exact Nat.le_of_ble_eq_true rfl|decide|(repeat' first|(apply Lk.go;constructor)|assumption|exact nb ‹_› ‹_›|exact nt ‹_› ‹_›)); (· (repeat' first|assumption|(apply Lk.go;constructor)))))
  all_goals refine Frz.le ?_ (bad (by simp at *; simp [badArgs, *]; try omega))
  all_goals ((repeat' first|assumption|(apply Lk.go;constructor)))
end Go.Aw.T.R
namespace Go.Aw.T.R
open Go Go.Aw Go.Aw.T Go.Proofs Go.RowKit
set_option maxRecDepth 100000
attribute [local irreducible] Go.Aw.DM Go.Aw.AHeap.setB Go.Aw.AHeap.setT
attribute [local go_sem] peval EOpd.ev Env.get binInt binStr binBool buildParts AV.cells AV.okc setRange minmaxAV AV.one AV.ofCells eqCells eqCell bslRows cond_true cond_false beq_self_eq_true Bool.not_true Bool.not_false beq_true beq_false eq_self if_true Option.some.injEq List.length_cons List.length_nil List.take_succ_cons List.take_zero List.drop_succ_cons List.drop_zero List.set_cons_succ List.set_cons_zero List.nil_append List.cons_append List.append_nil and_self Option.map_some List.map_cons List.map_nil Bool.false_eq_true if_false Nat.zero_add Nat.add_zero true_and and_true Bool.and_true Bool.true_and List.getElem?_cons_zero List.getElem?_cons_succ Nat.zero_le Nat.le_refl
set_option linter.unusedSimpArgs false
set_option linter.unusedVariables false
set_option maxHeartbeats 4000000 in
theorem p11 (p : Prog) (e : Int) (vars ps : List Val) (s : Int) : Pure Try.prog 11 [p.av, callAv e vars ps s] (.bool true) := by
  refine pure_intro mo Try.func11 c11 fun H => ?_
  unfold e11 r11
  simp only [initEnv, initFrom]
  repeat' first|(apply Sp.go;·constructor<;>first|exact ss|(change _=_;first|(simp only[go_sem,Nat.reduceBEq,Nat.reduceAdd,Nat.reduceLeDiff,reduceIte]<;>rfl)|rfl)|exact Nat.le_of_ble_eq_true rfl|decide|(repeat' first|(apply Lk.go;constructor)|assumption|exact nb ‹_› ‹_›|exact nt ‹_› ‹_›))|(intro b hb;repeat first|(refine fe hb ?_;intro _ _ hb)|(refine fT hb ?_;intro hb))|refine gA rfl ?_|refine gB rfl ?_|apply cT rfl|apply cF rfl|(apply DM.gbT;rfl)|(apply DM.gbF;rfl)|intro h
  (apply DM.pcs (p24); (· simp only [go_sem, Nat.reduceBEq, Nat.reduceAdd] <;> rfl); (· exact AVLes.refl _))
  repeat' first|(apply Sp.go;·constructor<;>first|exact ss|(change _=_;first|(simp only[go_sem,Nat.reduceBEq,Nat.reduceAdd,Nat.reduceLeDiff,reduceIte]<;>rfl)|rfl)|exact Nat.le_of_ble_eq_true rfl|decide|(repeat' first|(apply Lk.go;constructor)|assumption|exact nb ‹_› ‹_›|exact nt ‹_› ‹_›))|(intro b hb;repeat first|(refine fe hb ?_;intro _ _ hb)|(refine fT hb ?_;intro hb))|refine gA rfl ?_|refine gB rfl ?_|apply cT rfl|apply cF rfl|(apply DM.gbT;rfl)|(apply DM.gbF;rfl)|intro h
  (apply DM.pcs (p16 p); (· simp only [go_sem, Nat.reduceBEq, Nat.reduceAdd] <;> rfl); (· exact AVLes.refl _))
  cases hf : fewP p with
  | false =>
    repeat' first|(apply Sp.go;·constructor<;>first|exact ss|(change _=_;first|(simp only[go_sem,Nat.reduceBEq,Nat.reduceAdd,Nat.reduceLeDiff,reduceIte]<;>rfl)|rfl)|exact Nat.le_of_ble_eq_true rfl|decide|(repeat' first|(apply Lk.go;constructor)|assumption|exact nb ‹_› ‹_›|exact nt ‹_› ‹_›))|(intro b hb;repeat first|(refine fe hb ?_;intro _ _ hb)|(refine fT hb ?_;intro hb))|refine gA rfl ?_|refine gB rfl ?_|apply cT rfl|apply cF rfl|(apply DM.gbT;rfl)|(apply DM.gbF;rfl)|intro h
    (apply Sr.go;·constructor<;>first|(apply Lk.go;constructor<;>first|exact ss|(change _=_;first|(simp only[go_sem,Nat.reduceBEq,Nat.reduceAdd,Nat.reduceLeDiff,reduceIte]<;>rfl)|rfl)|exact Nat.le_of_ble_eq_true rfl|decide|(repeat' first|(apply Lk.go;constructor)|assumption|exact nb ‹_› ‹_›|exact nt ‹_› ‹_›))|assumption)
    exact AVLe.refl _
  | true =>
    repeat' first|(apply Sp.go;·constructor<;>first|exact ss|(change _=_;first|(simp only[go_sem,Nat.reduceBEq,Nat.reduceAdd,Nat.reduceLeDiff,reduceIte]<;>rfl)|rfl)|exact Nat.le_of_ble_eq_true rfl|decide|(repeat' first|(apply Lk.go;constructor)|assumption|exact nb ‹_› ‹_›|exact nt ‹_› ‹_›))|(intro b hb;repeat first|(refine fe hb ?_;intro _ _ hb)|(refine fT hb ?_;intro hb))|refine gA rfl ?_|refine gB rfl ?_|apply cT rfl|apply cF rfl|(apply DM.gbT;rfl)|(apply DM.gbF;rfl)|intro h
    (apply DM.pcs (p25 e vars ps s); (· simp only [go_sem, Nat.reduceBEq, Nat.reduceAdd] <;> rfl); (· exact AVLes.refl _))
    cases hg : (fewL vars && fewL ps && decide (s ≤ 3000)) with
    | false =>
      repeat' first|(apply Sp.go;·constructor<;>first|exact ss|(change _=_;first|(simp only[go_sem,Nat.reduceBEq,Nat.reduceAdd,Nat.reduceLeDiff,reduceIte]<;>rfl)|rfl)|exact Nat.le_of_ble_eq_true rfl|decide|(repeat' first|(apply Lk.go;constructor)|assumption|exact nb ‹_› ‹_›|exact nt ‹_› ‹_›))|(intro b hb;repeat first|(refine fe hb ?_;intro _ _ hb)|(refine fT hb ?_;intro hb))|refine gA rfl ?_|refine gB rfl ?_|apply cT rfl|apply cF rfl|(apply DM.gbT;rfl)|(apply DM.gbF;rfl)|intro h
      (apply Sr.go;·constructor<;>first|(apply Lk.go;constructor<;>first|exact ss|(change _=_;first|(simp only[go_sem,Nat.reduceBEq,Nat.reduceAdd,Nat.reduceLeDiff,reduceIte]<;>rfl)|rfl)|exact Nat.le_of_ble_eq_true rfl|decide|(repeat' first|(apply Lk.go;constructor)|assumption|exact nb ‹_› ‹_›|exact nt ‹_› ‹_›))|assumption)
      exact AVLe.refl _
    | true =>
      have hs : s ≤ 3000 := by simp at hg; omega
      have q1 := p26 p e vars ps s (.inl repeatOk) (by omega)
      have q2 := p33 p e vars ps s (by omega)
      have q3 := p34 p
      have q4 := p35 p
      have q5 := p28 p vars
      have q6 := p37 p vars
      generalize runP p e vars ps s = R at q1 q2
      generalize startP p = S at q3 q4
      generalize soundP p vars = B at q5 q6
      obtain ⟨st, vs, u, er⟩ := R
      obtain ⟨iv, ie⟩ := S
      dsimp only at q1 q2 q3 q4
      have q7 := p27 st vs st vs u u
      rw [sameL_refl, sameL_refl, decide_eq_true rfl] at q7
      have q8 := p36 iv iv
      rw [sameL_refl] at q8
      repeat' first|(apply Sp.go;·constructor<;>first|exact ss|(change _=_;first|(simp only[go_sem,Nat.reduceBEq,Nat.reduceAdd,Nat.reduceLeDiff,reduceIte]<;>rfl)|rfl)|exact Nat.le_of_ble_eq_true rfl|decide|(repeat' first|(apply Lk.go;constructor)|assumption|exact nb ‹_› ‹_›|exact nt ‹_› ‹_›))|(intro b hb;repeat first|(refine fe hb ?_;intro _ _ hb)|(refine fT hb ?_;intro hb))|refine gA rfl ?_|refine gB rfl ?_|apply cT rfl|apply cF rfl|(apply DM.gbT;rfl)|(apply DM.gbF;rfl)|intro h
      (apply DM.pcs (p18 p (fewP_len hf)); (· simp only [go_sem, Nat.reduceBEq, Nat.reduceAdd] <;> rfl); (· exact AVLes.refl _))
      repeat' first|(apply Sp.go;·constructor<;>first|exact ss|(change _=_;first|(simp only[go_sem,Nat.reduceBEq,Nat.reduceAdd,Nat.reduceLeDiff,reduceIte]<;>rfl)|rfl)|exact Nat.le_of_ble_eq_true rfl|decide|(repeat' first|(apply Lk.go;constructor)|assumption|exact nb ‹_› ‹_›|exact nt ‹_› ‹_›))|(intro b hb;repeat first|(refine fe hb ?_;intro _ _ hb)|(refine fT hb ?_;intro hb))|refine gA rfl ?_|refine gB rfl ?_|apply cT rfl|apply cF rfl|(apply DM.gbT;rfl)|(apply DM.gbF;rfl)|intro h
      (apply DM.pcs (q1); (· simp only [go_sem, Nat.reduceBEq, Nat.reduceAdd] <;> rfl); (· exact AVLes.refl _))
      repeat' first|(apply Sp.go;·constructor<;>first|exact ss|(change _=_;first|(simp only[go_sem,Nat.reduceBEq,Nat.reduceAdd,Nat.reduceLeDiff,reduceIte]<;>rfl)|rfl)|exact Nat.le_of_ble_eq_true rfl|decide|(repeat' first|(apply Lk.go;constructor)|assumption|exact nb ‹_› ‹_›|exact nt ‹_› ‹_›))|(intro b hb;repeat first|(refine fe hb ?_;intro _ _ hb)|(refine fT hb ?_;intro hb))|refine gA rfl ?_|refine gB rfl ?_|apply cT rfl|apply cF rfl|(apply DM.gbT;rfl)|(apply DM.gbF;rfl)|intro h
      (apply DM.pcs (q2); (· simp only [go_sem, Nat.reduceBEq, Nat.reduceAdd] <;> rfl); (· exact AVLes.refl _))
      repeat' first|(apply Sp.go;·constructor<;>first|exact ss|(change _=_;first|(simp only[go_sem,Nat.reduceBEq,Nat.reduceAdd,Nat.reduceLeDiff,reduceIte]<;>rfl)|rfl)|exact Nat.le_of_ble_eq_true rfl|decide|(repeat' first|(apply Lk.go;constructor)|assumption|exact nb ‹_› ‹_›|exact nt ‹_› ‹_›))|(intro b hb;repeat first|(refine fe hb ?_;intro _ _ hb)|(refine fT hb ?_;intro hb))|refine gA rfl ?_|refine gB rfl ?_|apply cT rfl|apply cF rfl|(apply DM.gbT;rfl)|(apply DM.gbF;rfl)|intro h
      (apply DM.pcs (q3); (· simp only [go_sem, Nat.reduceBEq, Nat.reduceAdd] <;> rfl); (· exact AVLes.refl _))
      repeat' first|(apply Sp.go;·constructor<;>first|exact ss|(change _=_;first|(simp only[go_sem,Nat.reduceBEq,Nat.reduceAdd,Nat.reduceLeDiff,reduceIte]<;>rfl)|rfl)|exact Nat.le_of_ble_eq_true rfl|decide|(repeat' first|(apply Lk.go;constructor)|assumption|exact nb ‹_› ‹_›|exact nt ‹_› ‹_›))|(intro b hb;repeat first|(refine fe hb ?_;intro _ _ hb)|(refine fT hb ?_;intro hb))|refine gA rfl ?_|refine gB rfl ?_|apply cT rfl|apply cF rfl|(apply DM.gbT;rfl)|(apply DM.gbF;rfl)|intro h
      (apply DM.pcs (q4); (· simp only [go_sem, Nat.reduceBEq, Nat.reduceAdd] <;> rfl); (· exact AVLes.refl _))
      repeat' first|(apply Sp.go;·constructor<;>first|exact ss|(change _=_;first|(simp only[go_sem,Nat.reduceBEq,Nat.reduceAdd,Nat.reduceLeDiff,reduceIte]<;>rfl)|rfl)|exact Nat.le_of_ble_eq_true rfl|decide|(repeat' first|(apply Lk.go;constructor)|assumption|exact nb ‹_› ‹_›|exact nt ‹_› ‹_›))|(intro b hb;repeat first|(refine fe hb ?_;intro _ _ hb)|(refine fT hb ?_;intro hb))|refine gA rfl ?_|refine gB rfl ?_|apply cT rfl|apply cF rfl|(apply DM.gbT;rfl)|(apply DM.gbF;rfl)|intro h
      (refine AM.reg [.bool true, .bool true, .bool B, .bool B] ?_; simp only [annotate, AV.rows])
      repeat' first|(apply Sp.go;·constructor<;>first|exact ss|(change _=_;first|(simp only[go_sem,Nat.reduceBEq,Nat.reduceAdd,Nat.reduceLeDiff,reduceIte]<;>rfl)|rfl)|exact Nat.le_of_ble_eq_true rfl|decide|(repeat' first|(apply Lk.go;constructor)|assumption|exact nb ‹_› ‹_›|exact nt ‹_› ‹_›))|(intro b hb;repeat first|(refine fe hb ?_;intro _ _ hb)|(refine fT hb ?_;intro hb))|refine rt ?_|refine gA rfl ?_|refine gB rfl ?_|apply cT rfl|apply cF rfl|(apply DM.gbT;rfl)|(apply DM.gbF;rfl)|intro h
      (apply DM.pcRs (q7); (· simp only [go_sem, Nat.reduceBEq, Nat.reduceAdd] <;> rfl); (· exact AVLes.refl _))
      repeat' first|(apply Sp.go;·constructor<;>first|exact ss|(change _=_;first|(simp only[go_sem,Nat.reduceBEq,Nat.reduceAdd,Nat.reduceLeDiff,reduceIte, decide_true]<;>rfl)|rfl)|exact Nat.le_of_ble_eq_true rfl|decide|(repeat' first|(apply Lk.go;constructor)|assumption|exact nb ‹_› ‹_›|exact nt ‹_› ‹_›))|(intro b hb;repeat first|(refine fe hb ?_;intro _ _ hb)|(refine fT hb ?_;intro hb))|refine rt ?_|refine gA rfl ?_|refine gB rfl ?_|apply cT rfl|apply cF rfl|(apply DM.gbT;rfl)|(apply DM.gbF;rfl)|intro h
      all_goals try (exact absurd h (by simp))
      (apply DM.pcRs (q8); (· simp only [go_sem, Nat.reduceBEq, Nat.reduceAdd] <;> rfl); (· exact AVLes.refl _))
      repeat' first|(apply Sp.go;·constructor<;>first|exact ss|(change _=_;first|(simp only[go_sem,Nat.reduceBEq,Nat.reduceAdd,Nat.reduceLeDiff,reduceIte, decide_true]<;>rfl)|rfl)|exact Nat.le_of_ble_eq_true rfl|decide|(repeat' first|(apply Lk.go;constructor)|assumption|exact nb ‹_› ‹_›|exact nt ‹_› ‹_›))|(intro b hb;repeat first|(refine fe hb ?_;intro _ _ hb)|(refine fT hb ?_;intro hb))|refine rt ?_|refine gA rfl ?_|refine gB rfl ?_|apply cT rfl|apply cF rfl|(apply DM.gbT;rfl)|(apply DM.gbF;rfl)|intro h
      all_goals try (exact absurd h (by simp))
      (apply DM.pcRs (q5); (· simp only [go_sem, Nat.reduceBEq, Nat.reduceAdd] <;> rfl); (· exact AVLes.refl _))
      repeat' first|(apply Sp.go;·constructor<;>first|exact ss|(change _=_;first|(simp only[go_sem,Nat.reduceBEq,Nat.reduceAdd,Nat.reduceLeDiff,reduceIte]<;>rfl)|rfl)|exact Nat.le_of_ble_eq_true rfl|decide|(repeat' first|(apply Lk.go;constructor)|assumption|exact nb ‹_› ‹_›|exact nt ‹_› ‹_›))|(intro b hb;repeat first|(refine fe hb ?_;intro _ _ hb)|(refine fT hb ?_;intro hb))|refine rt ?_|refine gA rfl ?_|refine gB rfl ?_|apply cT rfl|apply cF rfl|(apply DM.gbT;rfl)|(apply DM.gbF;rfl)|(apply DM.pcRs (q6); (· simp only [go_sem, Nat.reduceBEq, Nat.reduceAdd] <;> rfl); (· exact AVLes.refl _))|intro h
      (apply Sr.go;·constructor<;>first|(apply Lk.go;constructor<;>first|exact ss|(change _=_;first|(simp only[go_sem,Nat.reduceBEq,Nat.reduceAdd,Nat.reduceLeDiff,reduceIte]<;>rfl)|rfl)|exact Nat.le_of_ble_eq_true rfl|decide|(repeat' first|(apply Lk.go;constructor)|assumption|exact nb ‹_› ‹_›|exact nt ‹_› ‹_›))|assumption)
      exact AVLe.refl _
end Go.Aw.T.R
