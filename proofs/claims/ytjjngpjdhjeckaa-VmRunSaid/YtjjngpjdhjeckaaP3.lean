/- Part of a proof; own work. -/
import Derived.Test.YtjjngpjdhjeckaaP2
import Derived.Shelf.Strings.Repeat
import Derived.Ground.NamesProg
import Derived.Below
import Derived.KernelRfl
namespace Go.Aw.T
open Go Go.Aw Go.Proofs Go.RowKit
set_option maxRecDepth 100000
attribute [local irreducible] Go.Aw.DM Go.Aw.AHeap.setB Go.Aw.AHeap.setT
attribute [local go_sem] peval EOpd.ev Env.get binInt binStr binBool buildParts AV.cells AV.okc setRange minmaxAV AV.one AV.ofCells eqCells eqCell bslRows cond_true cond_false beq_self_eq_true Bool.not_true Bool.not_false beq_true beq_false eq_self if_true Option.some.injEq List.length_cons List.length_nil List.take_succ_cons List.take_zero List.drop_succ_cons List.drop_zero List.set_cons_succ List.set_cons_zero List.nil_append List.cons_append List.append_nil and_self Option.map_some List.map_cons List.map_nil Bool.false_eq_true if_false Nat.zero_add Nat.add_zero true_and and_true Bool.and_true Bool.true_and List.getElem?_cons_zero List.getElem?_cons_succ Nat.zero_le Nat.le_refl
set_option linter.unusedSimpArgs false
set_option linter.unusedVariables false
abbrev prg (code : List Ins_) : Prog := ⟨[115], 0, [], [], [], code⟩
theorem prgLe (code : List Ins_) {r : AV} (h : r = .vs 3 (code.map Ins_.row)) : AVLe (.agg [.str [115], .int .i64 0, .nilS, .nilS, .nilS, r]) (prg code).av :=
  avle_agg (avles_cons (AVLe.refl _) (avles_cons (AVLe.refl _) (avles_cons AVLe.nil (avles_cons AVLe.nil (avles_cons AVLe.nil (avles_cons (avle_eq h) avles_nil))))))
abbrev codeA : List Ins_ := [⟨1, 7, []⟩, ⟨1, -2, []⟩, ⟨9, 0, []⟩, ⟨24, 0, []⟩]
theorem run4 : runP (prg codeA) 0 [] [] 4 = ⟨[⟨1, -3, []⟩], [], 4, 0⟩ := by kernel_rfl
theorem run3 : runP (prg codeA) 0 [] [] 3 = ⟨[], [], 0, 26⟩ := by kernel_rfl
theorem soundA : soundP (prg codeA) [] = true := by kernel_rfl
theorem p24 : Pure Try.prog 24 [] (.bool true) := by
  have h4 := p26 (prg codeA) 0 [] [] 4 (.inr (by simp)) (by omega)
  rw [run4] at h4
  have h3 := p26 (prg codeA) 0 [] [] 3 (.inr (by simp)) (by omega)
  rw [run3] at h3
  have h28 := p28 (prg codeA) []
  rw [soundA] at h28
  refine pure_intro mo Try.func24 c24 fun H => ?_
  unfold e24 r24
  simp only [initEnv, initFrom]
  repeat' first|(apply Sp.go;·constructor<;>first|exact ss|(change _=_;first|(simp only[go_sem,Nat.reduceBEq,Nat.reduceAdd,Nat.reduceLeDiff,reduceIte]<;>rfl)|rfl)|exact Nat.le_of_ble_eq_true rfl|decide|(repeat' first|(apply Lk.go;constructor)|assumption|exact nb ‹_› ‹_›|exact nt ‹_› ‹_›))|(intro b hb;repeat first|(refine fe hb ?_;intro _ _ hb)|(refine fT hb ?_;intro hb))|refine gA rfl ?_|refine gB rfl ?_|apply cT rfl|apply cF rfl|(apply DM.gbT;rfl)|(apply DM.gbF;rfl)|intro h
  apply DM.pcs h4
  · simp only [List.map_cons, List.map_nil, EOpd.ev, Env.get, Nat.reduceBEq, cond_true, cond_false, beq_self_eq_true] <;> rfl
  · exact avles_cons (prgLe codeA rfl) (avles_cons (AVLe.refl _) (avles_cons AVLe.nil (avles_cons AVLe.nil (avles_cons (AVLe.refl _) avles_nil))))
  repeat' first|(apply Sp.go;·constructor<;>first|exact ss|(change _=_;first|(simp only[go_sem,Nat.reduceBEq,Nat.reduceAdd,Nat.reduceLeDiff,reduceIte]<;>rfl)|rfl)|exact Nat.le_of_ble_eq_true rfl|decide|(repeat' first|(apply Lk.go;constructor)|assumption|exact nb ‹_› ‹_›|exact nt ‹_› ‹_›))|(intro b hb;repeat first|(refine fe hb ?_;intro _ _ hb)|(refine fT hb ?_;intro hb))|refine gA rfl ?_|refine gB rfl ?_|apply cT rfl|apply cF rfl|(apply DM.gbT;rfl)|(apply DM.gbF;rfl)|intro h
  apply DM.pcs h3
  · simp only [List.map_cons, List.map_nil, EOpd.ev, Env.get, Nat.reduceBEq, cond_true, cond_false, beq_self_eq_true] <;> rfl
  · exact avles_cons (prgLe codeA rfl) (avles_cons (AVLe.refl _) (avles_cons AVLe.nil (avles_cons AVLe.nil (avles_cons (AVLe.refl _) avles_nil))))
  repeat' first|(apply Sp.go;·constructor<;>first|exact ss|(change _=_;first|(simp only[go_sem,Nat.reduceBEq,Nat.reduceAdd,Nat.reduceLeDiff,reduceIte]<;>rfl)|rfl)|exact Nat.le_of_ble_eq_true rfl|decide|(repeat' first|(apply Lk.go;constructor)|assumption|exact nb ‹_› ‹_›|exact nt ‹_› ‹_›))|(intro b hb;repeat first|(refine fe hb ?_;intro _ _ hb)|(refine fT hb ?_;intro hb))|refine gA rfl ?_|refine gB rfl ?_|apply cT rfl|apply cF rfl|(apply DM.gbT;rfl)|(apply DM.gbF;rfl)|intro h
  (refine AM.reg [.agg [.int .i64 1, .int .i64 (-3), .str []], .bool true] ?_; simp only [annotate, AV.rows])
  repeat' first|(apply Sp.go;·constructor<;>first|exact ss|(change _=_;first|(simp only[go_sem,Nat.reduceBEq,Nat.reduceAdd,Nat.reduceLeDiff,reduceIte, decide_true, List.map_cons, List.map_nil, List.length_cons, List.length_nil]<;>rfl)|rfl)|exact Nat.le_of_ble_eq_true rfl|decide|(repeat' first|(apply Lk.go;constructor)|assumption|exact nb ‹_› ‹_›|exact nt ‹_› ‹_›))|(intro b hb;repeat first|(refine fe hb ?_;intro _ _ hb)|(refine fT hb ?_;intro hb))|refine rt ?_|refine gA rfl ?_|refine gB rfl ?_|apply cT rfl|apply cF rfl|(apply DM.gbT;rfl)|(apply DM.gbF;rfl)|intro h
  all_goals try (exact absurd h (by decide))
  (apply DM.ixV (rows := [[.int .i64 1, .int .i64 (-3), .str []]]) (row := [.int .i64 1, .int .i64 (-3), .str []]) (z := 0) (by omega) rfl; (· rfl); (· rfl))
  repeat' first|(apply Sp.go;·constructor<;>first|exact ss|(change _=_;first|(simp only[go_sem,Nat.reduceBEq,Nat.reduceAdd,Nat.reduceLeDiff,reduceIte, decide_true]<;>rfl)|rfl)|exact Nat.le_of_ble_eq_true rfl|decide|(repeat' first|(apply Lk.go;constructor)|assumption|exact nb ‹_› ‹_›|exact nt ‹_› ‹_›))|(intro b hb;repeat first|(refine fe hb ?_;intro _ _ hb)|(refine fT hb ?_;intro hb))|refine rt ?_|refine gA rfl ?_|refine gB rfl ?_|apply cT rfl|apply cF rfl|(apply DM.gbT;rfl)|(apply DM.gbF;rfl)|intro h
  all_goals try (exact absurd h (by decide))
  (apply DM.pcRs (p29 (-3)); (· simp only [go_sem, Nat.reduceBEq, Nat.reduceAdd] <;> rfl); (· exact AVLes.refl _))
  repeat' first|(apply Sp.go;·constructor<;>first|exact ss|(change _=_;first|(simp only[go_sem,Nat.reduceBEq,Nat.reduceAdd,Nat.reduceLeDiff,reduceIte, decide_true]<;>rfl)|rfl)|exact Nat.le_of_ble_eq_true rfl|decide|(repeat' first|(apply Lk.go;constructor)|assumption|exact nb ‹_› ‹_›|exact nt ‹_› ‹_›))|(intro b hb;repeat first|(refine fe hb ?_;intro _ _ hb)|(refine fT hb ?_;intro hb))|refine rt ?_|refine gA rfl ?_|refine gB rfl ?_|apply cT rfl|apply cF rfl|(apply DM.gbT;rfl)|(apply DM.gbF;rfl)|intro h
  all_goals try (exact absurd h (by decide))
  apply DM.pcRs h28
  · simp only [List.map_cons, List.map_nil, EOpd.ev, Env.get, Nat.reduceBEq, cond_true, cond_false, beq_self_eq_true] <;> rfl
  · exact avles_cons (prgLe codeA rfl) (avles_cons AVLe.nil avles_nil)
  repeat' first|(apply Sp.go;·constructor<;>first|exact ss|(change _=_;first|(simp only[go_sem,Nat.reduceBEq,Nat.reduceAdd,Nat.reduceLeDiff,reduceIte, decide_true]<;>rfl)|rfl)|exact Nat.le_of_ble_eq_true rfl|decide|(repeat' first|(apply Lk.go;constructor)|assumption|exact nb ‹_› ‹_›|exact nt ‹_› ‹_›))|(intro b hb;repeat first|(refine fe hb ?_;intro _ _ hb)|(refine fT hb ?_;intro hb))|refine rt ?_|refine gA rfl ?_|refine gB rfl ?_|apply cT rfl|apply cF rfl|(apply DM.gbT;rfl)|(apply DM.gbF;rfl)|intro h
  all_goals try (exact absurd h (by decide))
  (apply Sr.go;·constructor<;>first|(apply Lk.go;constructor<;>first|exact ss|(change _=_;first|(simp only[go_sem,Nat.reduceBEq,Nat.reduceAdd,Nat.reduceLeDiff,reduceIte]<;>rfl)|rfl)|exact Nat.le_of_ble_eq_true rfl|decide|(repeat' first|(apply Lk.go;constructor)|assumption|exact nb ‹_› ‹_›|exact nt ‹_› ‹_›))|assumption)
  exact AVLe.refl _
abbrev codeB (op : Int) : List Ins_ := [⟨4, 0, []⟩, ⟨4, 1, []⟩, ⟨op, 0, []⟩, ⟨24, 0, []⟩]
abbrev runB (op : Int) (a b : Val) : Res := runP (prg (codeB op)) 0 [] [a, b] 9
def binOf (r : Res) : Val × Bool := if r.err = 0 then (match r.stack with | [v] => (v, true) | _ => (val0, false)) else (val0, false)
def binV (op : Int) (a b : Val) : Val × Bool := binOf (runB op a b)
theorem w30 (op : Int) (a c : Val) (r : Res) (h9 : Pure Try.prog 26 [(prg (codeB op)).av, .int .i64 0, .vs 3 [], .vs 3 [a.row, c.row], .int .i64 9] r.av) : Pure Try.prog 30 [.int .i64 op, a.av, c.av] (.tup [(binOf r).1.av, .bool (binOf r).2]) := by
  have key : ∀ {v : Val} {t : Bool}, binOf r = (v, t) → AVLe (.tup [v.av, .bool t]) (.tup [(binOf r).1.av, .bool (binOf r).2]) := by
    intro v t h
    rw [h]
    exact AVLe.refl _
  refine pure_intro mo Try.func30 c30 fun H => ?_
  unfold e30 r30
  simp only [initEnv, initFrom]
  repeat' first|(apply Sp.go;·constructor<;>first|exact ss|(change _=_;first|(simp only[go_sem,Nat.reduceBEq,Nat.reduceAdd,Nat.reduceLeDiff,reduceIte]<;>rfl)|rfl)|exact Nat.le_of_ble_eq_true rfl|decide|(repeat' first|(apply Lk.go;constructor)|assumption|exact nb ‹_› ‹_›|exact nt ‹_› ‹_›))|(intro b hb;repeat first|(refine fe hb ?_;intro _ _ hb)|(refine fT hb ?_;intro hb))|refine rt ?_|refine gA rfl ?_|refine gB rfl ?_|apply cT rfl|apply cF rfl|(apply DM.gbT;rfl)|(apply DM.gbF;rfl)|intro h
  apply DM.pcs h9
  · simp only [List.map_cons, List.map_nil, EOpd.ev, Env.get, Nat.reduceBEq, cond_true, cond_false, beq_self_eq_true] <;> rfl
  · exact avles_cons (prgLe (codeB op) rfl) (avles_cons (AVLe.refl _) (avles_cons AVLe.nil (avles_cons (AVLe.refl _) (avles_cons (AVLe.refl _) avles_nil))))
  repeat' first|(apply Sp.go;·constructor<;>first|exact ss|(change _=_;first|(simp only[go_sem,Nat.reduceBEq,Nat.reduceAdd,Nat.reduceLeDiff,reduceIte]<;>rfl)|rfl)|exact Nat.le_of_ble_eq_true rfl|decide|(repeat' first|(apply Lk.go;constructor)|assumption|exact nb ‹_› ‹_›|exact nt ‹_› ‹_›))|(intro b hb;repeat first|(refine fe hb ?_;intro _ _ hb)|(refine fT hb ?_;intro hb))|refine rt ?_|refine gA rfl ?_|refine gB rfl ?_|apply cT rfl|apply cF rfl|(apply DM.gbT;rfl)|(apply DM.gbF;rfl)|intro h
  · have he : r.err = 0 := by simp at h; exact h
    (apply AM.cond; (· rfl))
    · intro h
      repeat' first|(apply Sp.go;·constructor<;>first|exact ss|(change _=_;first|(simp only[go_sem,Nat.reduceBEq,Nat.reduceAdd,Nat.reduceLeDiff,reduceIte]<;>rfl)|rfl)|exact Nat.le_of_ble_eq_true rfl|decide|(repeat' first|(apply Lk.go;constructor)|assumption|exact nb ‹_› ‹_›|exact nt ‹_› ‹_›))|(intro b hb;repeat first|(refine fe hb ?_;intro _ _ hb)|(refine fT hb ?_;intro hb))|refine rt ?_|refine gA rfl ?_|refine gB rfl ?_|apply cT rfl|apply cF rfl|(apply DM.gbT;rfl)|(apply DM.gbF;rfl)|intro h
      (apply Sr.go;·constructor<;>first|(apply Lk.go;constructor<;>first|exact ss|(change _=_;first|(simp only[go_sem,Nat.reduceBEq,Nat.reduceAdd,Nat.reduceLeDiff,reduceIte]<;>rfl)|rfl)|exact Nat.le_of_ble_eq_true rfl|decide|(repeat' first|(apply Lk.go;constructor)|assumption|exact nb ‹_› ‹_›|exact nt ‹_› ‹_›))|assumption)
      refine key (v := val0) ?_
      rcases r with ⟨s, vs, u, e⟩
      rcases s with _ | ⟨v, _ | ⟨w, l⟩⟩
      · simp [binOf]
      · simp at h
      · simp [binOf]
    · intro h
      simp at h
      obtain ⟨v, hv⟩ : ∃ v, r.stack = [v] := by
        rcases hs : r.stack with _ | ⟨v, _ | ⟨w, l⟩⟩
        · rw [hs] at h; simp at h
        · exact ⟨v, rfl⟩
        · rw [hs] at h; simp at h; omega
      repeat' first|(apply Sp.go;·constructor<;>first|exact ss|(change _=_;first|(simp only[go_sem,Nat.reduceBEq,Nat.reduceAdd,Nat.reduceLeDiff,reduceIte]<;>rfl)|rfl)|exact Nat.le_of_ble_eq_true rfl|decide|(repeat' first|(apply Lk.go;constructor)|assumption|exact nb ‹_› ‹_›|exact nt ‹_› ‹_›))|(intro b hb;repeat first|(refine fe hb ?_;intro _ _ hb)|(refine fT hb ?_;intro hb))|refine rt ?_|refine gA rfl ?_|refine gB rfl ?_|apply cT rfl|apply cF rfl|(apply DM.gbT;rfl)|(apply DM.gbF;rfl)|(apply DM.ixV (rows := r.stack.map Val.row) (row := v.row) (z := 0) (by omega) (by rw [hv]; rfl); (· rfl); (· rfl))|intro h
      (apply Sr.go;·constructor<;>first|(apply Lk.go;constructor<;>first|exact ss|(change _=_;first|(simp only[go_sem,Nat.reduceBEq,Nat.reduceAdd,Nat.reduceLeDiff,reduceIte]<;>rfl)|rfl)|exact Nat.le_of_ble_eq_true rfl|decide|(repeat' first|(apply Lk.go;constructor)|assumption|exact nb ‹_› ‹_›|exact nt ‹_› ‹_›))|assumption)
      refine key ?_
      simp [binOf, he, hv]
  · (apply Sr.go;·constructor<;>first|(apply Lk.go;constructor<;>first|exact ss|(change _=_;first|(simp only[go_sem,Nat.reduceBEq,Nat.reduceAdd,Nat.reduceLeDiff,reduceIte]<;>rfl)|rfl)|exact Nat.le_of_ble_eq_true rfl|decide|(repeat' first|(apply Lk.go;constructor)|assumption|exact nb ‹_› ‹_›|exact nt ‹_› ‹_›))|assumption)
    refine key (v := val0) ?_
    simp at h
    simp [binOf, h]
theorem p30 (op : Int) (a c : Val) : Pure Try.prog 30 [.int .i64 op, a.av, c.av] (.tup [(binV op a c).1.av, .bool (binV op a c).2]) :=
  w30 op a c (runB op a c) (p26 (prg (codeB op)) 0 [] [a, c] 9 (.inr (by simp)) (by omega))
abbrev iv (n : Int) : Val := ⟨1, n, []⟩
theorem isArith_or {op : Int} (h : isArith op = true) : op = 6 ∨ op = 7 ∨ op = 8 ∨ op = 9 ∨ op = 10 ∨ op = 13 ∨ op = 15 ∨ op = 16 := by
  simp [isArith] at h; omega
theorem sound_arith {op : Int} (h : isArith op = true) : soundP (prg (codeB op)) [] = true := by
  rcases isArith_or h with rfl | rfl | rfl | rfl | rfl | rfl | rfl | rfl <;> kernel_rfl
theorem validI {n : Int} (h1 : -1000 ≤ n) (h2 : n ≤ 1000) : validV (iv n) = true := by simp [validV, h1, h2]
theorem runF_go {p : Prog} {ps : List Val} {M : Mach} {k u : Nat} (hd : M.dn = false) (hpc : M.pc < p.code.length) (hs : (stepM p ps M).tr = false) : runF p ps (k + 1) M u = runF p ps k (stepM p ps M) (u + 1) := by
  rw [runF.eq_def]
  simp only [hd]
  rw [if_neg (by simp), if_neg (by omega), if_neg (by rw [hs]; simp)]
theorem runF_done {p : Prog} {ps : List Val} {M : Mach} {k u : Nat} (hd : M.dn = true) : runF p ps k M u = ⟨M.stack, M.vars, u, 0⟩ := by
  rw [runF.eq_def]
  simp only [hd, if_true]
theorem run_four {p : Prog} {ps : List Val} {M1 M2 M3 M4 : Mach} (hl : p.code.length = 4) (h1 : stepM p ps (mach0 [] 0) = M1) (h2 : stepM p ps M1 = M2) (h3 : stepM p ps M2 = M3) (h4 : stepM p ps M3 = M4)
    (t1 : M1.tr = false) (t2 : M2.tr = false) (t3 : M3.tr = false) (t4 : M4.tr = false) (d1 : M1.dn = false) (d2 : M2.dn = false) (d3 : M3.dn = false) (d4 : M4.dn = true) (p1 : M1.pc = 1) (p2 : M2.pc = 2) (p3 : M3.pc = 3) : runF p ps 9 (mach0 [] 0) 0 = ⟨M4.stack, M4.vars, 4, 0⟩ := by
  rw [runF_go (k := 8) rfl (by rw [hl]; simp [mach0]) (by rw [h1]; exact t1), h1, runF_go (k := 7) d1 (by rw [hl, p1]; omega) (by rw [h2]; exact t2), h2, runF_go (k := 6) d2 (by rw [hl, p2]; omega) (by rw [h3]; exact t3), h3, runF_go (k := 5) d3 (by rw [hl, p3]; omega) (by rw [h4]; exact t4), h4, runF_done d4]
  rfl
theorem W1_ : W 1 = 1 := by decide
theorem W2_ : W 2 = 2 := by decide
theorem W3_ : W 3 = 3 := by decide
theorem W4_ : W 4 = 4 := by decide
theorem st1 (op : Int) (A B : Val) : stepM (prg (codeB op)) [A, B] (mach0 [] 0) = ⟨[A], [], [], 1, false, false⟩ := by
  simp [stepM, mach0, stepX, push, W1_]
theorem st2 (op : Int) (A B : Val) : stepM (prg (codeB op)) [A, B] ⟨[A], [], [], 1, false, false⟩ = ⟨[A, B], [], [], 2, false, false⟩ := by
  simp [stepM, stepX, push, W2_]
theorem st4 (op : Int) (A B : Val) (s : List Val) : stepM (prg (codeB op)) [A, B] ⟨s, [], [], 3, false, false⟩ = ⟨s, [], [], 4, false, true⟩ := by
  simp [stepM, stepX, controlM, isArith, W4_]
theorem st3 {op : Int} (h : isArith op = true) (a b : Int) : stepM (prg (codeB op)) [iv a, iv b] ⟨[iv a, iv b], [], [], 2, false, false⟩ = ⟨[intV (arith op a b)], [], [], 3, false, false⟩ := by
  have h' := isArith_or h
  have e : stepM (prg (codeB op)) [iv a, iv b] ⟨[iv a, iv b], [], [], 2, false, false⟩ = stepX (prg (codeB op)) [iv a, iv b] ⟨op, 0, []⟩ ⟨[iv a, iv b], [], [], 3, false, false⟩ := by simp [stepM, W3_]
  rw [e]
  have e2 : stepX (prg (codeB op)) [iv a, iv b] ⟨op, 0, []⟩ ⟨[iv a, iv b], [], [], 3, false, false⟩ = arithM op ⟨[iv a, iv b], [], [], 3, false, false⟩ := by
    simp only [stepX]
    rw [if_neg (by omega), if_neg (by omega), if_neg (by omega), if_neg (by omega), if_neg (by omega), if_neg (by omega), if_neg (by omega), if_neg (by omega), if_pos h]
  rw [e2]
  simp [arithM, ints, pop, popTrap, result, push]
theorem run_arith {op : Int} (h : isArith op = true) {a b : Int} (ha : -1000 ≤ a ∧ a ≤ 1000) (hb : -1000 ≤ b ∧ b ≤ 1000) : runB op (iv a) (iv b) = ⟨[intV (arith op a b)], [], 4, 0⟩ := by
  have hbad : badArgs (prg (codeB op)) 0 [] [iv a, iv b] = false := by
    simp [badArgs, sound_arith h, validI ha.1 ha.2, validI hb.1 hb.2]
  rw [runB, runP, hbad, if_neg (by simp)]
  exact run_four rfl (st1 op _ _) (st2 op _ _) (st3 h a b) (st4 op _ _ _) rfl rfl rfl rfl rfl rfl rfl rfl rfl rfl rfl
theorem bin_arith {op : Int} (h : isArith op = true) {a b : Int} (ha : -1000 ≤ a ∧ a ≤ 1000) (hb : -1000 ≤ b ∧ b ≤ 1000) : binV op (iv a) (iv b) = (intV (arith op a b), true) := by
  simp only [binV, run_arith h ha hb, binOf]
  rfl
theorem q30 {op : Int} (h : isArith op = true) {a b : Int} (ha : -1000 ≤ a ∧ a ≤ 1000) (hb : -1000 ≤ b ∧ b ≤ 1000) : Pure Try.prog 30 [.int .i64 op, (iv a).av, (iv b).av] (.tup [(intV (arith op a b)).av, .bool true]) := by
  have := p30 op (iv a) (iv b)
  rw [bin_arith h ha hb] at this
  exact this
theorem mx1 : max (-1000000) (min 1000000 (1 : Int)) = 1 := by decide
theorem mx0 : max (-1000000) (min 1000000 (0 : Int)) = 0 := by decide
abbrev tv (s : List UInt8) : Val := ⟨2, 0, s⟩
theorem runF_trap {p : Prog} {ps : List Val} {M : Mach} {k u : Nat} (hd : M.dn = false) (hpc : M.pc < p.code.length) (hs : (stepM p ps M).tr = true) : runF p ps (k + 1) M u = ⟨[], [], 0, 25⟩ := by
  rw [runF.eq_def]
  simp only [hd]
  rw [if_neg (by simp), if_neg (by omega), if_pos hs]
theorem not_bad {op : Int} {A B : Val} (h : soundP (prg (codeB op)) [] = true) (hA : validV A = true) (hB : validV B = true) : badArgs (prg (codeB op)) 0 [] [A, B] = false := by simp [badArgs, h, hA, hB]
theorem run_ok {op : Int} {A B : Val} {s : List Val} (h : soundP (prg (codeB op)) [] = true) (hA : validV A = true) (hB : validV B = true) (h3 : stepM (prg (codeB op)) [A, B] ⟨[A, B], [], [], 2, false, false⟩ = ⟨s, [], [], 3, false, false⟩) : runB op A B = ⟨s, [], 4, 0⟩ := by
  rw [runB, runP, not_bad h hA hB, if_neg (by simp)]
  exact run_four rfl (st1 op _ _) (st2 op _ _) h3 (st4 op _ _ _) rfl rfl rfl rfl rfl rfl rfl rfl rfl rfl rfl
theorem run_bad {op : Int} {A B : Val} (h : soundP (prg (codeB op)) [] = true) (hA : validV A = true) (hB : validV B = true) (h3 : (stepM (prg (codeB op)) [A, B] ⟨[A, B], [], [], 2, false, false⟩).tr = true) : runB op A B = ⟨[], [], 0, 25⟩ := by
  rw [runB, runP, not_bad h hA hB, if_neg (by simp)]
  show runF _ _ 9 _ _ = _
  rw [runF_go (k := 8) rfl (by simp [mach0]) (by rw [st1]), st1, runF_go (k := 7) rfl (by simp) (by rw [st2]), st2, runF_trap (k := 6) rfl (by simp) h3]
theorem runF_steps {p : Prog} {ps : List Val} : ∀ (k : Nat) (M : Mach) (u : Nat), (runF p ps k M u).err = 0 → ∃ j : Nat, j ≤ k ∧ (runF p ps k M u).used = ((u + j : Nat) : Int) ∧ (∀ k', j ≤ k' → runF p ps k' M u = runF p ps k M u) ∧ (∀ k', k' < j → runF p ps k' M u = ⟨[], [], 0, 26⟩) ∧ (M.dn = false → 1 ≤ j)
  | k, M, u, h => by
    by_cases hd : M.dn = true
    · refine ⟨0, Nat.zero_le _, ?_, fun k' _ => ?_, fun k' hk => by omega, fun e => by rw [hd] at e; cases e⟩
      · rw [runF_done hd]; rfl
      · rw [runF_done hd, runF_done hd]
    · have hd' : M.dn = false := by simpa using hd
      by_cases hpc : (p.code.length : Int) ≤ M.pc
      · rw [runF.eq_def] at h
        simp only [hd'] at h
        rw [if_neg (by simp), if_pos hpc] at h
        simp at h
      · cases k with
        | zero =>
          rw [runF.eq_def] at h
          simp only [hd'] at h
          rw [if_neg (by simp), if_neg hpc] at h
          simp at h
        | succ k =>
          by_cases ht : (stepM p ps M).tr = true
          · rw [runF_trap hd' (by omega) ht] at h
            simp at h
          · have ht' : (stepM p ps M).tr = false := by simpa using ht
            have e : ∀ k', runF p ps (k' + 1) M u = runF p ps k' (stepM p ps M) (u + 1) := fun k' => runF_go hd' (by omega) ht'
            rw [e] at h
            obtain ⟨j, h1, h2, h3, h4, _⟩ := runF_steps k (stepM p ps M) (u + 1) h
            refine ⟨j + 1, by omega, ?_, fun k' hk => ?_, fun k' hk => ?_, fun _ => by omega⟩
            · rw [e, h2]; omega
            · obtain ⟨q, rfl⟩ : ∃ q, k' = q + 1 := ⟨k' - 1, by omega⟩
              rw [e, e, h3 q (by omega)]
            · cases k' with
              | zero =>
                rw [runF.eq_def]
                simp only [hd']
                rw [if_neg (by simp), if_neg hpc]
              | succ q => rw [e, h4 q (by omega)]
theorem runP_steps {p : Prog} {e : Int} {vars ps : List Val} {s : Int} (h : (runP p e vars ps s).err = 0) : 1 ≤ (runP p e vars ps s).used ∧ (runP p e vars ps s).used ≤ s ∧ (∀ t, (runP p e vars ps s).used ≤ t → runP p e vars ps t = runP p e vars ps s) ∧ (∀ t, t < (runP p e vars ps s).used → runP p e vars ps t = ⟨[], [], 0, 26⟩) := by
  cases hb : badArgs p e vars ps with
  | true => rw [runP, hb] at h; simp at h
  | false =>
    have hr : ∀ t, runP p e vars ps t = runF p ps t.toNat (mach0 vars e) 0 := fun t => by rw [runP, hb]; rfl
    rw [hr] at h ⊢
    obtain ⟨j, h1, h2, h3, h4, h5⟩ := runF_steps _ _ _ h
    have := h5 rfl
    refine ⟨by omega, by omega, fun t ht => ?_, fun t ht => ?_⟩
    · rw [hr]; exact h3 _ (by omega)
    · rw [hr]; exact h4 _ (by omega)
theorem runP_err {p : Prog} {e : Int} {vars ps : List Val} {s : Int} (h : (runP p e vars ps s).err ≠ 0) : (runP p e vars ps s).stack = [] ∧ (runP p e vars ps s).vars = [] ∧ (runP p e vars ps s).used = 0 := by
  have key : ∀ (k : Nat) (M : Mach) (u : Nat), (runF p ps k M u).err = 0 ∨ ((runF p ps k M u).stack = [] ∧ (runF p ps k M u).vars = [] ∧ (runF p ps k M u).used = 0) := by
    intro k
    induction k with
    | zero =>
      intro M u
      rw [runF.eq_def]
      by_cases h1 : M.dn = true
      · left; simp [h1]
      · by_cases h2 : (p.code.length : Int) ≤ M.pc
        · right; simp [h1, h2]
        · right; simp [h1, h2]
    | succ k ih =>
      intro M u
      by_cases h1 : M.dn = true
      · left; rw [runF_done h1]
      · by_cases h2 : (p.code.length : Int) ≤ M.pc
        · right; rw [runF.eq_def]; simp [h1, h2]
        · by_cases h3 : (stepM p ps M).tr = true
          · right; rw [runF.eq_def]; simp [h1, h2, h3]
          · rw [runF_go (by simpa using h1) (by omega) (by simpa using h3)]
            exact ih _ _
  unfold runP at h ⊢
  split at h
  · rename_i hb
    rw [if_pos hb]; simp
  · rename_i hb
    rw [if_neg hb]
    exact (key _ _ _).resolve_left h
def fewL (xs : List Val) : Bool := xs.all (fun v => decide (v.s.length ≤ 100)) && decide (xs.length ≤ 40)
theorem p53 (xs : List Val) : Pure Try.prog 53 [.vs 3 (xs.map Val.row)] (.bool (fewL xs)) := by
  refine pure_assume (G := xs.length ≤ maxLen) (fun m vs h => by simp only [RvL] at h; obtain ⟨_, _, _, h, _⟩ := h; simpa using vs_len h) fun hlen => ?_
  refine pure_intro mo Try.func53 c53 fun H => ?_
  unfold e53 r53
  simp only [initEnv, initFrom]
  repeat' first|(apply Sp.go;·constructor<;>first|exact ss|(change _=_;first|(simp only[go_sem,Nat.reduceBEq,Nat.reduceAdd,Nat.reduceLeDiff,reduceIte]<;>rfl)|rfl)|exact Nat.le_of_ble_eq_true rfl|decide|(repeat' first|(apply Lk.go;constructor)|assumption|exact nb ‹_› ‹_›|exact nt ‹_› ‹_›))|(intro b hb;repeat first|(refine fe hb ?_;intro _ _ hb)|(refine fT hb ?_;intro hb))|refine rt ?_|refine gA rfl ?_|refine gB rfl ?_|apply cT rfl|apply cF rfl|(apply DM.gbT;rfl)|(apply DM.gbF;rfl)|intro h
  refine AM.loopX (X := Nat) 0 (fun i => [(0, .vs 3 (xs.map Val.row)), (3, .int .i64 (i : Int))]) (fun i H' => H' = H ∧ i ≤ xs.length ∧ xs.all (fun v => decide (v.s.length ≤ 100)) = (xs.drop i).all (fun v => decide (v.s.length ≤ 100))) (fun i => xs.length - i) ⟨rfl, by omega, by simp⟩ ?_ ?_
  · (repeat first | exact envle_nil _ | (refine envle_cons ?_ ?_; · (simp only [go_sem, Nat.reduceBEq, Nat.reduceAdd]; exact AVLe.refl _)))
  · rintro i H' ⟨rfl, hi, he⟩
    repeat' first|(apply Sp.go;·constructor<;>first|exact ss|(change _=_;first|(simp only[go_sem,Nat.reduceBEq,Nat.reduceAdd,Nat.reduceLeDiff,reduceIte]<;>rfl)|rfl)|exact Nat.le_of_ble_eq_true rfl|decide|(repeat' first|(apply Lk.go;constructor)|assumption|exact nb ‹_› ‹_›|exact nt ‹_› ‹_›))|(intro b hb;repeat first|(refine fe hb ?_;intro _ _ hb)|(refine fT hb ?_;intro hb))|refine rt ?_|refine gA rfl ?_|refine gB rfl ?_|apply cT rfl|apply cF rfl|(apply DM.gbT;rfl)|(apply DM.gbF;rfl)|intro h
    (apply AM.cond; (· rfl))
    · intro h3
      simp at h3
      obtain ⟨v, hv⟩ := some_of h3
      rw [drop_of hv] at he
      simp only [List.all_cons] at he
      repeat' first|(apply Sp.go;·constructor<;>first|exact ss|(change _=_;first|(simp only[go_sem,Nat.reduceBEq,Nat.reduceAdd,Nat.reduceLeDiff,reduceIte]<;>rfl)|rfl)|exact Nat.le_of_ble_eq_true rfl|decide|(repeat' first|(apply Lk.go;constructor)|assumption|exact nb ‹_› ‹_›|exact nt ‹_› ‹_›))|(intro b hb;repeat first|(refine fe hb ?_;intro _ _ hb)|(refine fT hb ?_;intro hb))|refine rt ?_|refine gA rfl ?_|refine gB rfl ?_|apply cT rfl|apply cF rfl|(apply DM.gbT;rfl)|(apply DM.gbF;rfl)|(apply DM.ixV (row := v.row) (z := (i : Int)) (by omega) (row_get Val.row hv); (· rfl); (· rfl))|intro h
      (apply AM.cond; (· rfl))
      · intro h4
        repeat' first|(apply Sp.go;·constructor<;>first|exact ss|(change _=_;first|(simp only[go_sem,Nat.reduceBEq,Nat.reduceAdd,Nat.reduceLeDiff,reduceIte]<;>rfl)|rfl)|exact Nat.le_of_ble_eq_true rfl|decide|(repeat' first|(apply Lk.go;constructor)|assumption|exact nb ‹_› ‹_›|exact nt ‹_› ‹_›))|(intro b hb;repeat first|(refine fe hb ?_;intro _ _ hb)|(refine fT hb ?_;intro hb))|refine rt ?_|refine gA rfl ?_|refine gB rfl ?_|apply cT rfl|apply cF rfl|(apply DM.gbT;rfl)|(apply DM.gbF;rfl)|intro h
        (apply Sr.go;·constructor<;>first|(apply Lk.go;constructor<;>first|exact ss|(change _=_;first|(simp only[go_sem,Nat.reduceBEq,Nat.reduceAdd,Nat.reduceLeDiff,reduceIte]<;>rfl)|rfl)|exact Nat.le_of_ble_eq_true rfl|decide|(repeat' first|(apply Lk.go;constructor)|assumption|exact nb ‹_› ‹_›|exact nt ‹_› ‹_›))|assumption)
        refine avle_eq ?_; rw [AV.bool.injEq, fewL, he]
        simp at h4
        rw [show decide (v.s.length ≤ 100) = false by simp; omega]; simp
      · intro h4
        simp at h4
        rw [show decide (v.s.length ≤ 100) = true by simp; omega, Bool.true_and] at he
        repeat' first|(apply Sp.go;·constructor<;>first|exact ss|(change _=_;first|(simp only[go_sem,Nat.reduceBEq,Nat.reduceAdd,Nat.reduceLeDiff,reduceIte]<;>rfl)|rfl)|exact Nat.le_of_ble_eq_true rfl|decide|(repeat' first|(apply Lk.go;constructor)|assumption|exact nb ‹_› ‹_›|exact nt ‹_› ‹_›))|(intro b hb;repeat first|(refine fe hb ?_;intro _ _ hb)|(refine fT hb ?_;intro hb))|refine rt ?_|refine gA rfl ?_|refine gB rfl ?_|apply cT rfl|apply cF rfl|(apply DM.gbT;rfl)|(apply DM.gbF;rfl)|intro h
        refine AM.roundX (i + 1) ⟨rfl, by omega, he⟩ ?_ (show xs.length - (i + 1) < xs.length - i by omega)
        (repeat first | exact envle_nil _ | (refine envle_cons ?_ ?_; · (simp only [go_sem, Nat.reduceBEq, Nat.reduceAdd]; exact AVLe.refl _)))
        refine envle_cons ?_ ?_
        · simp only [go_sem, Nat.reduceBEq, Nat.reduceAdd]
          refine avle_int ?_
          rw [inc64 h3 hlen]
        exact envle_nil _
    · intro h3
      simp at h3
      repeat' first|(apply Sp.go;·constructor<;>first|exact ss|(change _=_;first|(simp only[go_sem,Nat.reduceBEq,Nat.reduceAdd,Nat.reduceLeDiff,reduceIte]<;>rfl)|rfl)|exact Nat.le_of_ble_eq_true rfl|decide|(repeat' first|(apply Lk.go;constructor)|assumption|exact nb ‹_› ‹_›|exact nt ‹_› ‹_›))|(intro b hb;repeat first|(refine fe hb ?_;intro _ _ hb)|(refine fT hb ?_;intro hb))|refine rt ?_|refine gA rfl ?_|refine gB rfl ?_|apply cT rfl|apply cF rfl|(apply DM.gbT;rfl)|(apply DM.gbF;rfl)|intro h
      (apply Sr.go;·constructor<;>first|(apply Lk.go;constructor<;>first|exact ss|(change _=_;first|(simp only[go_sem,Nat.reduceBEq,Nat.reduceAdd,Nat.reduceLeDiff,reduceIte]<;>rfl)|rfl)|exact Nat.le_of_ble_eq_true rfl|decide|(repeat' first|(apply Lk.go;constructor)|assumption|exact nb ‹_› ‹_›|exact nt ‹_› ‹_›))|assumption)
      refine avle_eq ?_; rw [AV.bool.injEq, fewL, he, List.drop_eq_nil_of_le (by omega), Bool.eq_iff_iff]
      simp
      omega
def sameL (xs ys : List Val) : Bool := eqF valEq xs ys
theorem p36 (xs ys : List Val) : Pure Try.prog 36 [.vs 3 (xs.map Val.row), .vs 3 (ys.map Val.row)] (.bool (sameL xs ys)) := by
  refine pure_assume (G := xs.length ≤ maxLen) (fun m vs h => by simp only [RvL] at h; obtain ⟨_, _, _, h, _⟩ := h; simpa using vs_len h) fun hlen => ?_
  refine pure_intro mo Try.func36 c36 fun H => ?_
  unfold e36 r36
  simp only [initEnv, initFrom]
  repeat' first|(apply Sp.go;·constructor<;>first|exact ss|(change _=_;first|(simp only[go_sem,Nat.reduceBEq,Nat.reduceAdd,Nat.reduceLeDiff,reduceIte]<;>rfl)|rfl)|exact Nat.le_of_ble_eq_true rfl|decide|(repeat' first|(apply Lk.go;constructor)|assumption|exact nb ‹_› ‹_›|exact nt ‹_› ‹_›))|(intro b hb;repeat first|(refine fe hb ?_;intro _ _ hb)|(refine fT hb ?_;intro hb))|refine rt ?_|refine gA rfl ?_|refine gB rfl ?_|apply cT rfl|apply cF rfl|(apply DM.gbT;rfl)|(apply DM.gbF;rfl)|intro h
  (apply AM.cond; (· rfl))
  · intro h
    repeat' first|(apply Sp.go;·constructor<;>first|exact ss|(change _=_;first|(simp only[go_sem,Nat.reduceBEq,Nat.reduceAdd,Nat.reduceLeDiff,reduceIte]<;>rfl)|rfl)|exact Nat.le_of_ble_eq_true rfl|decide|(repeat' first|(apply Lk.go;constructor)|assumption|exact nb ‹_› ‹_›|exact nt ‹_› ‹_›))|(intro b hb;repeat first|(refine fe hb ?_;intro _ _ hb)|(refine fT hb ?_;intro hb))|refine rt ?_|refine gA rfl ?_|refine gB rfl ?_|apply cT rfl|apply cF rfl|(apply DM.gbT;rfl)|(apply DM.gbF;rfl)|intro h
    (apply Sr.go;·constructor<;>first|(apply Lk.go;constructor<;>first|exact ss|(change _=_;first|(simp only[go_sem,Nat.reduceBEq,Nat.reduceAdd,Nat.reduceLeDiff,reduceIte]<;>rfl)|rfl)|exact Nat.le_of_ble_eq_true rfl|decide|(repeat' first|(apply Lk.go;constructor)|assumption|exact nb ‹_› ‹_›|exact nt ‹_› ‹_›))|assumption)
    refine avle_eq ?_; rw [AV.bool.injEq, sameL, eqF_len (by simp at h; omega)]
  · intro h
    have hl : xs.length = ys.length := by simp at h; omega
    repeat' first|(apply Sp.go;·constructor<;>first|exact ss|(change _=_;first|(simp only[go_sem,Nat.reduceBEq,Nat.reduceAdd,Nat.reduceLeDiff,reduceIte]<;>rfl)|rfl)|exact Nat.le_of_ble_eq_true rfl|decide|(repeat' first|(apply Lk.go;constructor)|assumption|exact nb ‹_› ‹_›|exact nt ‹_› ‹_›))|(intro b hb;repeat first|(refine fe hb ?_;intro _ _ hb)|(refine fT hb ?_;intro hb))|refine rt ?_|refine gA rfl ?_|refine gB rfl ?_|apply cT rfl|apply cF rfl|(apply DM.gbT;rfl)|(apply DM.gbF;rfl)|intro h
    refine AM.loopX (X := Nat) 0 (fun i => [(0, .vs 3 (xs.map Val.row)), (1, .vs 3 (ys.map Val.row)), (5, .int .i64 (i : Int))]) (fun i H' => H' = H ∧ i ≤ xs.length ∧ eqF valEq xs ys = eqF valEq (xs.drop i) (ys.drop i)) (fun i => xs.length - i) ⟨rfl, by omega, by simp⟩ ?_ ?_
    · (repeat first | exact envle_nil _ | (refine envle_cons ?_ ?_; · (simp only [go_sem, Nat.reduceBEq, Nat.reduceAdd]; exact AVLe.refl _)))
    · rintro i H' ⟨rfl, hi, he⟩
      repeat' first|(apply Sp.go;·constructor<;>first|exact ss|(change _=_;first|(simp only[go_sem,Nat.reduceBEq,Nat.reduceAdd,Nat.reduceLeDiff,reduceIte]<;>rfl)|rfl)|exact Nat.le_of_ble_eq_true rfl|decide|(repeat' first|(apply Lk.go;constructor)|assumption|exact nb ‹_› ‹_›|exact nt ‹_› ‹_›))|(intro b hb;repeat first|(refine fe hb ?_;intro _ _ hb)|(refine fT hb ?_;intro hb))|refine rt ?_|refine gA rfl ?_|refine gB rfl ?_|apply cT rfl|apply cF rfl|(apply DM.gbT;rfl)|(apply DM.gbF;rfl)|intro h
      (apply AM.cond; (· rfl))
      · intro h3
        simp at h3
        obtain ⟨v, hv⟩ := some_of h3
        obtain ⟨w, hw⟩ := some_of (hl ▸ h3 : i < ys.length)
        rw [drop_of hv, drop_of hw] at he
        simp only [eqF] at he
        repeat' first|(apply Sp.go;·constructor<;>first|exact ss|(change _=_;first|(simp only[go_sem,Nat.reduceBEq,Nat.reduceAdd,Nat.reduceLeDiff,reduceIte]<;>rfl)|rfl)|exact Nat.le_of_ble_eq_true rfl|decide|(repeat' first|(apply Lk.go;constructor)|assumption|exact nb ‹_› ‹_›|exact nt ‹_› ‹_›))|(intro b hb;repeat first|(refine fe hb ?_;intro _ _ hb)|(refine fT hb ?_;intro hb))|refine rt ?_|refine gA rfl ?_|refine gB rfl ?_|apply cT rfl|apply cF rfl|(apply DM.gbT;rfl)|(apply DM.gbF;rfl)|(apply DM.ixV (row := v.row) (z := (i : Int)) (by omega) (row_get Val.row hv); (· rfl); (· rfl))|(apply DM.ixV (row := w.row) (z := (i : Int)) (by omega) (row_get Val.row hw); (· rfl); (· rfl))|intro h
        (apply AM.cond; (· rfl))
        · intro h4
          have h5 : valEq v w = false := by
            simp [valEq] at *
            intro a b
            rcases h4 with h | h | h
            · exact absurd a h
            · exact absurd b h
            · exact h
          repeat' first|(apply Sp.go;·constructor<;>first|exact ss|(change _=_;first|(simp only[go_sem,Nat.reduceBEq,Nat.reduceAdd,Nat.reduceLeDiff,reduceIte]<;>rfl)|rfl)|exact Nat.le_of_ble_eq_true rfl|decide|(repeat' first|(apply Lk.go;constructor)|assumption|exact nb ‹_› ‹_›|exact nt ‹_› ‹_›))|(intro b hb;repeat first|(refine fe hb ?_;intro _ _ hb)|(refine fT hb ?_;intro hb))|refine rt ?_|refine gA rfl ?_|refine gB rfl ?_|apply cT rfl|apply cF rfl|(apply DM.gbT;rfl)|(apply DM.gbF;rfl)|intro h
          (apply Sr.go;·constructor<;>first|(apply Lk.go;constructor<;>first|exact ss|(change _=_;first|(simp only[go_sem,Nat.reduceBEq,Nat.reduceAdd,Nat.reduceLeDiff,reduceIte]<;>rfl)|rfl)|exact Nat.le_of_ble_eq_true rfl|decide|(repeat' first|(apply Lk.go;constructor)|assumption|exact nb ‹_› ‹_›|exact nt ‹_› ‹_›))|assumption)
          refine avle_eq ?_; rw [AV.bool.injEq, sameL, he, h5, Bool.false_and]
        · intro h4
          have h5 : valEq v w = true := by simp [valEq] at *; exact h4
          rw [h5, Bool.true_and] at he
          repeat' first|(apply Sp.go;·constructor<;>first|exact ss|(change _=_;first|(simp only[go_sem,Nat.reduceBEq,Nat.reduceAdd,Nat.reduceLeDiff,reduceIte]<;>rfl)|rfl)|exact Nat.le_of_ble_eq_true rfl|decide|(repeat' first|(apply Lk.go;constructor)|assumption|exact nb ‹_› ‹_›|exact nt ‹_› ‹_›))|(intro b hb;repeat first|(refine fe hb ?_;intro _ _ hb)|(refine fT hb ?_;intro hb))|refine rt ?_|refine gA rfl ?_|refine gB rfl ?_|apply cT rfl|apply cF rfl|(apply DM.gbT;rfl)|(apply DM.gbF;rfl)|intro h
          refine AM.roundX (i + 1) ⟨rfl, by omega, he⟩ ?_ (show xs.length - (i + 1) < xs.length - i by omega)
          (repeat first | exact envle_nil _ | (refine envle_cons ?_ ?_; · (simp only [go_sem, Nat.reduceBEq, Nat.reduceAdd]; exact AVLe.refl _)))
          refine envle_cons ?_ ?_
          · simp only [go_sem, Nat.reduceBEq, Nat.reduceAdd]
            refine avle_int ?_
            rw [inc64 h3 hlen]
          exact envle_nil _
      · intro h3
        simp at h3
        repeat' first|(apply Sp.go;·constructor<;>first|exact ss|(change _=_;first|(simp only[go_sem,Nat.reduceBEq,Nat.reduceAdd,Nat.reduceLeDiff,reduceIte]<;>rfl)|rfl)|exact Nat.le_of_ble_eq_true rfl|decide|(repeat' first|(apply Lk.go;constructor)|assumption|exact nb ‹_› ‹_›|exact nt ‹_› ‹_›))|(intro b hb;repeat first|(refine fe hb ?_;intro _ _ hb)|(refine fT hb ?_;intro hb))|refine rt ?_|refine gA rfl ?_|refine gB rfl ?_|apply cT rfl|apply cF rfl|(apply DM.gbT;rfl)|(apply DM.gbF;rfl)|intro h
        (apply Sr.go;·constructor<;>first|(apply Lk.go;constructor<;>first|exact ss|(change _=_;first|(simp only[go_sem,Nat.reduceBEq,Nat.reduceAdd,Nat.reduceLeDiff,reduceIte]<;>rfl)|rfl)|exact Nat.le_of_ble_eq_true rfl|decide|(repeat' first|(apply Lk.go;constructor)|assumption|exact nb ‹_› ‹_›|exact nt ‹_› ‹_›))|assumption)
        refine avle_eq ?_; rw [AV.bool.injEq, sameL, he, List.drop_eq_nil_of_le (by omega), List.drop_eq_nil_of_le (by omega)]; rfl
abbrev callAv (e : Int) (vars ps : List Val) (s : Int) : AV := .agg [.int .i64 e, .vs 3 (vars.map Val.row), .vs 3 (ps.map Val.row), .int .i64 s]
theorem p25 (e : Int) (vars ps : List Val) (s : Int) : Pure Try.prog 25 [callAv e vars ps s] (.bool (fewL vars && fewL ps && decide (s ≤ 3000))) := by
  refine pure_intro mo Try.func25 c25 fun H => ?_
  unfold e25 r25
  simp only [initEnv, initFrom]
  repeat' first|(apply Sp.go;·constructor<;>first|exact ss|(change _=_;first|(simp only[go_sem,Nat.reduceBEq,Nat.reduceAdd,Nat.reduceLeDiff,reduceIte]<;>rfl)|rfl)|exact Nat.le_of_ble_eq_true rfl|decide|(repeat' first|(apply Lk.go;constructor)|assumption|exact nb ‹_› ‹_›|exact nt ‹_› ‹_›))|(intro b hb;repeat first|(refine fe hb ?_;intro _ _ hb)|(refine fT hb ?_;intro hb))|refine rt ?_|refine gA rfl ?_|refine gB rfl ?_|apply cT rfl|apply cF rfl|(apply DM.gbT;rfl)|(apply DM.gbF;rfl)|intro h
  (apply DM.pcs (p53 vars); (· simp only [go_sem, Nat.reduceBEq, Nat.reduceAdd] <;> rfl); (· exact AVLes.refl _))
  repeat' first|(apply Sp.go;·constructor<;>first|exact ss|(change _=_;first|(simp only[go_sem,Nat.reduceBEq,Nat.reduceAdd,Nat.reduceLeDiff,reduceIte]<;>rfl)|rfl)|exact Nat.le_of_ble_eq_true rfl|decide|(repeat' first|(apply Lk.go;constructor)|assumption|exact nb ‹_› ‹_›|exact nt ‹_› ‹_›))|(intro b hb;repeat first|(refine fe hb ?_;intro _ _ hb)|(refine fT hb ?_;intro hb))|refine rt ?_|refine gA rfl ?_|refine gB rfl ?_|apply cT rfl|apply cF rfl|(apply DM.gbT;rfl)|(apply DM.gbF;rfl)|intro h
  · (apply DM.pcs (p53 ps); (· simp only [go_sem, Nat.reduceBEq, Nat.reduceAdd] <;> rfl); (· exact AVLes.refl _))
    repeat' first|(apply Sp.go;·constructor<;>first|exact ss|(change _=_;first|(simp only[go_sem,Nat.reduceBEq,Nat.reduceAdd,Nat.reduceLeDiff,reduceIte]<;>rfl)|rfl)|exact Nat.le_of_ble_eq_true rfl|decide|(repeat' first|(apply Lk.go;constructor)|assumption|exact nb ‹_› ‹_›|exact nt ‹_› ‹_›))|(intro b hb;repeat first|(refine fe hb ?_;intro _ _ hb)|(refine fT hb ?_;intro hb))|refine rt ?_|refine gA rfl ?_|refine gB rfl ?_|apply cT rfl|apply cF rfl|(apply DM.gbT;rfl)|(apply DM.gbF;rfl)|intro h
    all_goals ((apply Sr.go;·constructor<;>first|(apply Lk.go;constructor<;>first|exact ss|(change _=_;first|(simp only[go_sem,Nat.reduceBEq,Nat.reduceAdd,Nat.reduceLeDiff,reduceIte]<;>rfl)|rfl)|exact Nat.le_of_ble_eq_true rfl|decide|(repeat' first|(apply Lk.go;constructor)|assumption|exact nb ‹_› ‹_›|exact nt ‹_› ‹_›))|assumption))
    all_goals (refine avle_eq ?_; rw [AV.bool.injEq]; simp [*])
  · (apply Sr.go;·constructor<;>first|(apply Lk.go;constructor<;>first|exact ss|(change _=_;first|(simp only[go_sem,Nat.reduceBEq,Nat.reduceAdd,Nat.reduceLeDiff,reduceIte]<;>rfl)|rfl)|exact Nat.le_of_ble_eq_true rfl|decide|(repeat' first|(apply Lk.go;constructor)|assumption|exact nb ‹_› ‹_›|exact nt ‹_› ‹_›))|assumption)
    refine avle_eq ?_; rw [AV.bool.injEq]; simp [*]
abbrev resAv (s v : List Val) (u : Int) : AV := .agg [.vs 3 (s.map Val.row), .vs 3 (v.map Val.row), .int .i64 u]
theorem p27 (s v s' v' : List Val) (u u' : Int) : Pure Try.prog 27 [resAv s v u, resAv s' v' u'] (.bool (sameL s s' && sameL v v' && decide (u = u'))) := by
  refine pure_intro mo Try.func27 c27 fun H => ?_
  unfold e27 r27
  simp only [initEnv, initFrom]
  repeat' first|(apply Sp.go;·constructor<;>first|exact ss|(change _=_;first|(simp only[go_sem,Nat.reduceBEq,Nat.reduceAdd,Nat.reduceLeDiff,reduceIte]<;>rfl)|rfl)|exact Nat.le_of_ble_eq_true rfl|decide|(repeat' first|(apply Lk.go;constructor)|assumption|exact nb ‹_› ‹_›|exact nt ‹_› ‹_›))|(intro b hb;repeat first|(refine fe hb ?_;intro _ _ hb)|(refine fT hb ?_;intro hb))|refine rt ?_|refine gA rfl ?_|refine gB rfl ?_|apply cT rfl|apply cF rfl|(apply DM.gbT;rfl)|(apply DM.gbF;rfl)|intro h
  (apply DM.pcs (p36 s s'); (· simp only [go_sem, Nat.reduceBEq, Nat.reduceAdd] <;> rfl); (· exact AVLes.refl _))
  repeat' first|(apply Sp.go;·constructor<;>first|exact ss|(change _=_;first|(simp only[go_sem,Nat.reduceBEq,Nat.reduceAdd,Nat.reduceLeDiff,reduceIte]<;>rfl)|rfl)|exact Nat.le_of_ble_eq_true rfl|decide|(repeat' first|(apply Lk.go;constructor)|assumption|exact nb ‹_› ‹_›|exact nt ‹_› ‹_›))|(intro b hb;repeat first|(refine fe hb ?_;intro _ _ hb)|(refine fT hb ?_;intro hb))|refine rt ?_|refine gA rfl ?_|refine gB rfl ?_|apply cT rfl|apply cF rfl|(apply DM.gbT;rfl)|(apply DM.gbF;rfl)|intro h
  · (apply DM.pcs (p36 v v'); (· simp only [go_sem, Nat.reduceBEq, Nat.reduceAdd] <;> rfl); (· exact AVLes.refl _))
    repeat' first|(apply Sp.go;·constructor<;>first|exact ss|(change _=_;first|(simp only[go_sem,Nat.reduceBEq,Nat.reduceAdd,Nat.reduceLeDiff,reduceIte]<;>rfl)|rfl)|exact Nat.le_of_ble_eq_true rfl|decide|(repeat' first|(apply Lk.go;constructor)|assumption|exact nb ‹_› ‹_›|exact nt ‹_› ‹_›))|(intro b hb;repeat first|(refine fe hb ?_;intro _ _ hb)|(refine fT hb ?_;intro hb))|refine rt ?_|refine gA rfl ?_|refine gB rfl ?_|apply cT rfl|apply cF rfl|(apply DM.gbT;rfl)|(apply DM.gbF;rfl)|intro h
    all_goals ((apply Sr.go;·constructor<;>first|(apply Lk.go;constructor<;>first|exact ss|(change _=_;first|(simp only[go_sem,Nat.reduceBEq,Nat.reduceAdd,Nat.reduceLeDiff,reduceIte]<;>rfl)|rfl)|exact Nat.le_of_ble_eq_true rfl|decide|(repeat' first|(apply Lk.go;constructor)|assumption|exact nb ‹_› ‹_›|exact nt ‹_› ‹_›))|assumption))
    all_goals (refine avle_eq ?_; rw [AV.bool.injEq]; simp [*])
  · (apply Sr.go;·constructor<;>first|(apply Lk.go;constructor<;>first|exact ss|(change _=_;first|(simp only[go_sem,Nat.reduceBEq,Nat.reduceAdd,Nat.reduceLeDiff,reduceIte]<;>rfl)|rfl)|exact Nat.le_of_ble_eq_true rfl|decide|(repeat' first|(apply Lk.go;constructor)|assumption|exact nb ‹_› ‹_›|exact nt ‹_› ‹_›))|assumption)
    refine avle_eq ?_; rw [AV.bool.injEq]; simp [*]
def fewP (p : Prog) : Bool := p.code.all (fun x => decide (x.s.length ≤ 100)) && p.vars.all (fun v => decide (v.name.length ≤ 100) && decide (v.init.s.length ≤ 100)) && decide (p.name.length ≤ 100) && decide (p.vars.length ≤ 20) && decide (p.hs.length ≤ 60) && decide (p.os.length ≤ 60) && decide (p.code.length ≤ 300)
theorem p16 (p : Prog) : Pure Try.prog 16 [p.av] (.bool (fewP p)) := by
  refine ok_args fun ok => ?_
  refine pure_intro mo Try.func16 c16 fun H => ?_
  unfold e16 r16
  simp only [initEnv, initFrom]
  repeat' first|(apply Sp.go;·constructor<;>first|exact ss|(change _=_;first|(simp only[go_sem,Nat.reduceBEq,Nat.reduceAdd,Nat.reduceLeDiff,reduceIte]<;>rfl)|rfl)|exact Nat.le_of_ble_eq_true rfl|decide|(repeat' first|(apply Lk.go;constructor)|assumption|exact nb ‹_› ‹_›|exact nt ‹_› ‹_›))|(intro b hb;repeat first|(refine fe hb ?_;intro _ _ hb)|(refine fT hb ?_;intro hb))|refine rt ?_|refine gA rfl ?_|refine gB rfl ?_|apply cT rfl|apply cF rfl|(apply DM.gbT;rfl)|(apply DM.gbF;rfl)|intro h
  rename Nat => b1
  refine AM.loopX (X := Nat) 0 (fun i => [(1, .ptr b1 0), (3, .int .i64 (i : Int))]) (fun i H' => H' = H.setB b1 27 p.cells ∧ i ≤ p.code.length ∧ p.code.all (fun x => decide (x.s.length ≤ 100)) = (p.code.drop i).all (fun x => decide (x.s.length ≤ 100))) (fun i => p.code.length - i) ⟨rfl, by omega, by simp⟩ ?_ ?_
  · (repeat first | exact envle_nil _ | (refine envle_cons ?_ ?_; · (simp only [go_sem, Nat.reduceBEq, Nat.reduceAdd]; exact AVLe.refl _)))
  rintro i H' ⟨rfl, hi, he⟩
  repeat' first|(apply Sp.go;·constructor<;>first|exact ss|(change _=_;first|(simp only[go_sem,Nat.reduceBEq,Nat.reduceAdd,Nat.reduceLeDiff,reduceIte]<;>rfl)|rfl)|exact Nat.le_of_ble_eq_true rfl|decide|(repeat' first|(apply Lk.go;constructor)|assumption|exact nb ‹_› ‹_›|exact nt ‹_› ‹_›))|(intro b hb;repeat first|(refine fe hb ?_;intro _ _ hb)|(refine fT hb ?_;intro hb))|refine rt ?_|refine gA rfl ?_|refine gB rfl ?_|apply cT rfl|apply cF rfl|(apply DM.gbT;rfl)|(apply DM.gbF;rfl)|intro h
  (apply AM.cond; (· rfl))
  · intro h3
    simp at h3
    obtain ⟨v, hv⟩ := some_of h3
    rw [drop_of hv] at he
    simp only [List.all_cons] at he
    repeat' first|(apply Sp.go;·constructor<;>first|exact ss|(change _=_;first|(simp only[go_sem,Nat.reduceBEq,Nat.reduceAdd,Nat.reduceLeDiff,reduceIte]<;>rfl)|rfl)|exact Nat.le_of_ble_eq_true rfl|decide|(repeat' first|(apply Lk.go;constructor)|assumption|exact nb ‹_› ‹_›|exact nt ‹_› ‹_›))|(intro b hb;repeat first|(refine fe hb ?_;intro _ _ hb)|(refine fT hb ?_;intro hb))|refine rt ?_|refine gA rfl ?_|refine gB rfl ?_|apply cT rfl|apply cF rfl|(apply DM.gbT;rfl)|(apply DM.gbF;rfl)|intro h
    (apply DM.ixV (row := v.row) (z := (i : Int)) (by omega) (row_get Ins_.row hv); (· rfl); (· rfl))
    repeat' first|(apply Sp.go;·constructor<;>first|exact ss|(change _=_;first|(simp only[go_sem,Nat.reduceBEq,Nat.reduceAdd,Nat.reduceLeDiff,reduceIte]<;>rfl)|rfl)|exact Nat.le_of_ble_eq_true rfl|decide|(repeat' first|(apply Lk.go;constructor)|assumption|exact nb ‹_› ‹_›|exact nt ‹_› ‹_›))|(intro b hb;repeat first|(refine fe hb ?_;intro _ _ hb)|(refine fT hb ?_;intro hb))|refine rt ?_|refine gA rfl ?_|refine gB rfl ?_|apply cT rfl|apply cF rfl|(apply DM.gbT;rfl)|(apply DM.gbF;rfl)|intro h
    (apply AM.cond; (· rfl))
    · intro h4
      simp at h4
      repeat' first|(apply Sp.go;·constructor<;>first|exact ss|(change _=_;first|(simp only[go_sem,Nat.reduceBEq,Nat.reduceAdd,Nat.reduceLeDiff,reduceIte]<;>rfl)|rfl)|exact Nat.le_of_ble_eq_true rfl|decide|(repeat' first|(apply Lk.go;constructor)|assumption|exact nb ‹_› ‹_›|exact nt ‹_› ‹_›))|(intro b hb;repeat first|(refine fe hb ?_;intro _ _ hb)|(refine fT hb ?_;intro hb))|refine rt ?_|refine gA rfl ?_|refine gB rfl ?_|apply cT rfl|apply cF rfl|(apply DM.gbT;rfl)|(apply DM.gbF;rfl)|intro h
      (apply Sr.go;·constructor<;>first|(apply Lk.go;constructor<;>first|exact ss|(change _=_;first|(simp only[go_sem,Nat.reduceBEq,Nat.reduceAdd,Nat.reduceLeDiff,reduceIte]<;>rfl)|rfl)|exact Nat.le_of_ble_eq_true rfl|decide|(repeat' first|(apply Lk.go;constructor)|assumption|exact nb ‹_› ‹_›|exact nt ‹_› ‹_›))|assumption)
      refine avle_eq ?_; rw [AV.bool.injEq, fewP, he]
      rw [show decide (v.s.length ≤ 100) = false by simp; omega]; simp
    · intro h4
      simp at h4
      rw [show decide (v.s.length ≤ 100) = true by simp; omega, Bool.true_and] at he
      repeat' first|(apply Sp.go;·constructor<;>first|exact ss|(change _=_;first|(simp only[go_sem,Nat.reduceBEq,Nat.reduceAdd,Nat.reduceLeDiff,reduceIte]<;>rfl)|rfl)|exact Nat.le_of_ble_eq_true rfl|decide|(repeat' first|(apply Lk.go;constructor)|assumption|exact nb ‹_› ‹_›|exact nt ‹_› ‹_›))|(intro b hb;repeat first|(refine fe hb ?_;intro _ _ hb)|(refine fT hb ?_;intro hb))|refine rt ?_|refine gA rfl ?_|refine gB rfl ?_|apply cT rfl|apply cF rfl|(apply DM.gbT;rfl)|(apply DM.gbF;rfl)|intro h
      refine AM.roundX (i + 1) ⟨rfl, by omega, he⟩ ?_ (show p.code.length - (i + 1) < p.code.length - i by omega)
      (repeat first | exact envle_nil _ | (refine envle_cons ?_ ?_; · (simp only [go_sem, Nat.reduceBEq, Nat.reduceAdd]; exact AVLe.refl _)))
      refine envle_cons ?_ ?_
      · simp only [go_sem, Nat.reduceBEq, Nat.reduceAdd]
        refine avle_int ?_
        rw [inc64 h3 ok.code]
      exact envle_nil _
  · intro h3
    simp at h3
    rw [List.drop_eq_nil_of_le (by omega)] at he
    have hc : p.code.all (fun x => decide (x.s.length ≤ 100)) = true := he
    clear he hi h3
    repeat' first|(apply Sp.go;·constructor<;>first|exact ss|(change _=_;first|(simp only[go_sem,Nat.reduceBEq,Nat.reduceAdd,Nat.reduceLeDiff,reduceIte]<;>rfl)|rfl)|exact Nat.le_of_ble_eq_true rfl|decide|(repeat' first|(apply Lk.go;constructor)|assumption|exact nb ‹_› ‹_›|exact nt ‹_› ‹_›))|(intro b hb;repeat first|(refine fe hb ?_;intro _ _ hb)|(refine fT hb ?_;intro hb))|refine rt ?_|refine gA rfl ?_|refine gB rfl ?_|apply cT rfl|apply cF rfl|(apply DM.gbT;rfl)|(apply DM.gbF;rfl)|intro h
    refine AM.loopX (X := Nat) 0 (fun i => [(1, .ptr b1 0), (4, .int .i64 (i : Int))]) (fun i H' => H' = H.setB b1 27 p.cells ∧ i ≤ p.vars.length ∧ p.vars.all (fun v => decide (v.name.length ≤ 100) && decide (v.init.s.length ≤ 100)) = (p.vars.drop i).all (fun v => decide (v.name.length ≤ 100) && decide (v.init.s.length ≤ 100))) (fun i => p.vars.length - i) ⟨rfl, by omega, by simp⟩ ?_ ?_
    · (repeat first | exact envle_nil _ | (refine envle_cons ?_ ?_; · (simp only [go_sem, Nat.reduceBEq, Nat.reduceAdd]; exact AVLe.refl _)))
    rintro i H' ⟨rfl, hi, he⟩
    repeat' first|(apply Sp.go;·constructor<;>first|exact ss|(change _=_;first|(simp only[go_sem,Nat.reduceBEq,Nat.reduceAdd,Nat.reduceLeDiff,reduceIte]<;>rfl)|rfl)|exact Nat.le_of_ble_eq_true rfl|decide|(repeat' first|(apply Lk.go;constructor)|assumption|exact nb ‹_› ‹_›|exact nt ‹_› ‹_›))|(intro b hb;repeat first|(refine fe hb ?_;intro _ _ hb)|(refine fT hb ?_;intro hb))|refine rt ?_|refine gA rfl ?_|refine gB rfl ?_|apply cT rfl|apply cF rfl|(apply DM.gbT;rfl)|(apply DM.gbF;rfl)|intro h
    (apply AM.cond; (· rfl))
    · intro h3
      simp at h3
      obtain ⟨v, hv⟩ := some_of h3
      rw [drop_of hv] at he
      simp only [List.all_cons] at he
      repeat' first|(apply Sp.go;·constructor<;>first|exact ss|(change _=_;first|(simp only[go_sem,Nat.reduceBEq,Nat.reduceAdd,Nat.reduceLeDiff,reduceIte]<;>rfl)|rfl)|exact Nat.le_of_ble_eq_true rfl|decide|(repeat' first|(apply Lk.go;constructor)|assumption|exact nb ‹_› ‹_›|exact nt ‹_› ‹_›))|(intro b hb;repeat first|(refine fe hb ?_;intro _ _ hb)|(refine fT hb ?_;intro hb))|refine rt ?_|refine gA rfl ?_|refine gB rfl ?_|apply cT rfl|apply cF rfl|(apply DM.gbT;rfl)|(apply DM.gbF;rfl)|intro h
      (apply DM.ixV (row := v.row) (z := (i : Int)) (by omega) (row_get Var_.row hv); (· rfl); (· rfl))
      repeat' first|(apply Sp.go;·constructor<;>first|exact ss|(change _=_;first|(simp only[go_sem,Nat.reduceBEq,Nat.reduceAdd,Nat.reduceLeDiff,reduceIte]<;>rfl)|rfl)|exact Nat.le_of_ble_eq_true rfl|decide|(repeat' first|(apply Lk.go;constructor)|assumption|exact nb ‹_› ‹_›|exact nt ‹_› ‹_›))|(intro b hb;repeat first|(refine fe hb ?_;intro _ _ hb)|(refine fT hb ?_;intro hb))|refine rt ?_|refine gA rfl ?_|refine gB rfl ?_|apply cT rfl|apply cF rfl|(apply DM.gbT;rfl)|(apply DM.gbF;rfl)|intro h
      · (apply DM.ixV (row := v.row) (z := (i : Int)) (by omega) (row_get Var_.row hv); (· rfl); (· rfl))
        repeat' first|(apply Sp.go;·constructor<;>first|exact ss|(change _=_;first|(simp only[go_sem,Nat.reduceBEq,Nat.reduceAdd,Nat.reduceLeDiff,reduceIte]<;>rfl)|rfl)|exact Nat.le_of_ble_eq_true rfl|decide|(repeat' first|(apply Lk.go;constructor)|assumption|exact nb ‹_› ‹_›|exact nt ‹_› ‹_›))|(intro b hb;repeat first|(refine fe hb ?_;intro _ _ hb)|(refine fT hb ?_;intro hb))|refine rt ?_|refine gA rfl ?_|refine gB rfl ?_|apply cT rfl|apply cF rfl|(apply DM.gbT;rfl)|(apply DM.gbF;rfl)|intro h
        (apply AM.cond; (· rfl))
        · intro h4
          repeat' first|(apply Sp.go;·constructor<;>first|exact ss|(change _=_;first|(simp only[go_sem,Nat.reduceBEq,Nat.reduceAdd,Nat.reduceLeDiff,reduceIte]<;>rfl)|rfl)|exact Nat.le_of_ble_eq_true rfl|decide|(repeat' first|(apply Lk.go;constructor)|assumption|exact nb ‹_› ‹_›|exact nt ‹_› ‹_›))|(intro b hb;repeat first|(refine fe hb ?_;intro _ _ hb)|(refine fT hb ?_;intro hb))|refine rt ?_|refine gA rfl ?_|refine gB rfl ?_|apply cT rfl|apply cF rfl|(apply DM.gbT;rfl)|(apply DM.gbF;rfl)|intro h
          (apply Sr.go;·constructor<;>first|(apply Lk.go;constructor<;>first|exact ss|(change _=_;first|(simp only[go_sem,Nat.reduceBEq,Nat.reduceAdd,Nat.reduceLeDiff,reduceIte]<;>rfl)|rfl)|exact Nat.le_of_ble_eq_true rfl|decide|(repeat' first|(apply Lk.go;constructor)|assumption|exact nb ‹_› ‹_›|exact nt ‹_› ‹_›))|assumption)
          refine avle_eq ?_; rw [AV.bool.injEq, fewP, he]
          simp at h h4
          rw [show decide (v.init.s.length ≤ 100) = false by simp; omega]; simp
        · intro h4
          simp at h h4
          rw [show decide (v.init.s.length ≤ 100) = true by simp; omega, show decide (v.name.length ≤ 100) = true by simp; omega, Bool.true_and, Bool.true_and] at he
          repeat' first|(apply Sp.go;·constructor<;>first|exact ss|(change _=_;first|(simp only[go_sem,Nat.reduceBEq,Nat.reduceAdd,Nat.reduceLeDiff,reduceIte]<;>rfl)|rfl)|exact Nat.le_of_ble_eq_true rfl|decide|(repeat' first|(apply Lk.go;constructor)|assumption|exact nb ‹_› ‹_›|exact nt ‹_› ‹_›))|(intro b hb;repeat first|(refine fe hb ?_;intro _ _ hb)|(refine fT hb ?_;intro hb))|refine rt ?_|refine gA rfl ?_|refine gB rfl ?_|apply cT rfl|apply cF rfl|(apply DM.gbT;rfl)|(apply DM.gbF;rfl)|intro h
          refine AM.roundX (i + 1) ⟨rfl, by omega, he⟩ ?_ (show p.vars.length - (i + 1) < p.vars.length - i by omega)
          (repeat first | exact envle_nil _ | (refine envle_cons ?_ ?_; · (simp only [go_sem, Nat.reduceBEq, Nat.reduceAdd]; exact AVLe.refl _)))
          refine envle_cons ?_ ?_
          · simp only [go_sem, Nat.reduceBEq, Nat.reduceAdd]
            refine avle_int ?_
            rw [inc64 h3 ok.vars]
          exact envle_nil _
      · (apply Sr.go;·constructor<;>first|(apply Lk.go;constructor<;>first|exact ss|(change _=_;first|(simp only[go_sem,Nat.reduceBEq,Nat.reduceAdd,Nat.reduceLeDiff,reduceIte]<;>rfl)|rfl)|exact Nat.le_of_ble_eq_true rfl|decide|(repeat' first|(apply Lk.go;constructor)|assumption|exact nb ‹_› ‹_›|exact nt ‹_› ‹_›))|assumption)
        refine avle_eq ?_; rw [AV.bool.injEq, fewP, he]
        simp at h
        rw [show decide (v.name.length ≤ 100) = false by simp; omega]; simp
    · intro h3
      simp at h3
      rw [List.drop_eq_nil_of_le (by omega)] at he
      have hv : p.vars.all (fun v => decide (v.name.length ≤ 100) && decide (v.init.s.length ≤ 100)) = true := he
      repeat' first|(apply Sp.go;·constructor<;>first|exact ss|(change _=_;first|(simp only[go_sem,Nat.reduceBEq,Nat.reduceAdd,Nat.reduceLeDiff,reduceIte]<;>rfl)|rfl)|exact Nat.le_of_ble_eq_true rfl|decide|(repeat' first|(apply Lk.go;constructor)|assumption|exact nb ‹_› ‹_›|exact nt ‹_› ‹_›))|(intro b hb;repeat first|(refine fe hb ?_;intro _ _ hb)|(refine fT hb ?_;intro hb))|refine rt ?_|refine gA rfl ?_|refine gB rfl ?_|apply cT rfl|apply cF rfl|(apply DM.gbT;rfl)|(apply DM.gbF;rfl)|intro h
      all_goals ((apply Sr.go;·constructor<;>first|(apply Lk.go;constructor<;>first|exact ss|(change _=_;first|(simp only[go_sem,Nat.reduceBEq,Nat.reduceAdd,Nat.reduceLeDiff,reduceIte]<;>rfl)|rfl)|exact Nat.le_of_ble_eq_true rfl|decide|(repeat' first|(apply Lk.go;constructor)|assumption|exact nb ‹_› ‹_›|exact nt ‹_› ‹_›))|assumption))
      all_goals (refine avle_eq ?_; rw [AV.bool.injEq, fewP, hc, hv, Bool.eq_iff_iff]; simp at *; omega)
-- @Y | refine ho_look ‹_› ?_ | exact ho_blk | exact ho_ta | exact ho_tb ‹_› | exact ho_tc ‹_› | exact ho_td ‹_›
structure Dst (ta tb tc td : Nat) : Prop where
  ba : tb ≠ ta
  ca : tc ≠ ta
  cb : tc ≠ tb
  da : td ≠ ta
  db : td ≠ tb
  dc : td ≠ tc
def HO (G : AHeap) (b ta tb tc td : Nat) (nm : List UInt8) (rl : Int) (A B C D : List (List AV)) (va vb vc vd : Nat) : AHeap :=
  ⟨fun q => if q = b then some (41, [.str nm, .int .i64 rl, .ms ta va, .ms tb vb, .ms tc vc, .ms td vd]) else G.blk q,
   fun q => if q = ta then some (.mu 87 7 va A) else if q = tb then some (.mu 128 3 vb B) else if q = tc then some (.mu 117 4 vc C) else if q = td then some (.mu 88 3 vd D) else G.tok q⟩
section
variable {G : AHeap} {b ta tb tc td : Nat} {nm : List UInt8} {rl : Int} {A B C D : List (List AV)} {va vb vc vd : Nat}
theorem ho_blk : (HO G b ta tb tc td nm rl A B C D va vb vc vd).blk b = some (41, [.str nm, .int .i64 rl, .ms ta va, .ms tb vb, .ms tc vc, .ms td vd]) := by simp [HO]
theorem ho_look {x : Nat} {y : Option (TypeId × List AV)} (hx : x ≠ b) (h : G.blk x = y) : (HO G b ta tb tc td nm rl A B C D va vb vc vd).blk x = y := by simp [HO, hx, h]
theorem ho_ta : (HO G b ta tb tc td nm rl A B C D va vb vc vd).tok ta = some (.mu 87 7 va A) := by simp [HO]
theorem ho_tb (d : Dst ta tb tc td) : (HO G b ta tb tc td nm rl A B C D va vb vc vd).tok tb = some (.mu 128 3 vb B) := by simp [HO, d.ba]
theorem ho_tc (d : Dst ta tb tc td) : (HO G b ta tb tc td nm rl A B C D va vb vc vd).tok tc = some (.mu 117 4 vc C) := by simp [HO, d.ca, d.cb]
theorem ho_td (d : Dst ta tb tc td) : (HO G b ta tb tc td nm rl A B C D va vb vc vd).tok td = some (.mu 88 3 vd D) := by simp [HO, d.da, d.db, d.dc]
theorem ho_sub {H : AHeap} (h : HSub H G) (hb : H.blk b = none) (ha : H.tok ta = none) (hb' : H.tok tb = none) (hc : H.tok tc = none) (hd : H.tok td = none) : HSub H (HO G b ta tb tc td nm rl A B C D va vb vc vd) where
  blk := fun x y hx => by
    have e : x ≠ b := fun e => by subst e; rw [hb] at hx; cases hx
    simp only [HO, if_neg e]; exact h.blk x y hx
  tok := fun x y hx => by
    have e1 : x ≠ ta := fun e => by subst e; rw [ha] at hx; cases hx
    have e2 : x ≠ tb := fun e => by subst e; rw [hb'] at hx; cases hx
    have e3 : x ≠ tc := fun e => by subst e; rw [hc] at hx; cases hx
    have e4 : x ≠ td := fun e => by subst e; rw [hd] at hx; cases hx
    simp only [HO, if_neg e1, if_neg e2, if_neg e3, if_neg e4]; exact h.tok x y hx
theorem ho_set_a (d : Dst ta tb tc td) {R : List (List AV)} : ((HO G b ta tb tc td nm rl A B C D va vb vc vd).setT ta (.mu 87 7 (va + 1) R)).setB b 41 [.str nm, .int .i64 rl, .ms ta (va + 1), .ms tb vb, .ms tc vc, .ms td vd] = HO G b ta tb tc td nm rl R B C D (va + 1) vb vc vd := by
  have h1 := d.ba; have h2 := d.ca; have h3 := d.cb; have h4 := d.da; have h5 := d.db; have h6 := d.dc
  simp only [HO, AHeap.setT, AHeap.setB, AHeap.mk.injEq]
  refine ⟨?_, ?_⟩
  · funext q
    by_cases e : q = b <;> simp [e]
  · funext q
    by_cases e : q = ta
    · subst e; simp [*]
    · simp [e]
theorem ho_set_b (d : Dst ta tb tc td) {R : List (List AV)} : ((HO G b ta tb tc td nm rl A B C D va vb vc vd).setT tb (.mu 128 3 (vb + 1) R)).setB b 41 [.str nm, .int .i64 rl, .ms ta va, .ms tb (vb + 1), .ms tc vc, .ms td vd] = HO G b ta tb tc td nm rl A R C D va (vb + 1) vc vd := by
  have h1 := d.ba; have h2 := d.ca; have h3 := d.cb; have h4 := d.da; have h5 := d.db; have h6 := d.dc
  simp only [HO, AHeap.setT, AHeap.setB, AHeap.mk.injEq]
  refine ⟨?_, ?_⟩
  · funext q
    by_cases e : q = b <;> simp [e]
  · funext q
    by_cases e : q = tb
    · subst e; simp [*]
    · simp [e]
theorem ho_set_c (d : Dst ta tb tc td) {R : List (List AV)} : ((HO G b ta tb tc td nm rl A B C D va vb vc vd).setT tc (.mu 117 4 (vc + 1) R)).setB b 41 [.str nm, .int .i64 rl, .ms ta va, .ms tb vb, .ms tc (vc + 1), .ms td vd] = HO G b ta tb tc td nm rl A B R D va vb (vc + 1) vd := by
  have h1 := d.ba; have h2 := d.ca; have h3 := d.cb; have h4 := d.da; have h5 := d.db; have h6 := d.dc
  simp only [HO, AHeap.setT, AHeap.setB, AHeap.mk.injEq]
  refine ⟨?_, ?_⟩
  · funext q
    by_cases e : q = b <;> simp [e]
  · funext q
    by_cases e : q = tc
    · subst e; simp [*]
    · simp [e]
theorem ho_set_d (d : Dst ta tb tc td) {R : List (List AV)} : ((HO G b ta tb tc td nm rl A B C D va vb vc vd).setT td (.mu 88 3 (vd + 1) R)).setB b 41 [.str nm, .int .i64 rl, .ms ta va, .ms tb vb, .ms tc vc, .ms td (vd + 1)] = HO G b ta tb tc td nm rl A B C R va vb vc (vd + 1) := by
  have h1 := d.ba; have h2 := d.ca; have h3 := d.cb; have h4 := d.da; have h5 := d.db; have h6 := d.dc
  simp only [HO, AHeap.setT, AHeap.setB, AHeap.mk.injEq]
  refine ⟨?_, ?_⟩
  · funext q
    by_cases e : q = b <;> simp [e]
  · funext q
    by_cases e : q = td
    · subst e; simp [*]
    · simp [e]
end
theorem take_succ_map {α β : Type} (f : α → β) {l : List α} {i : Nat} {v : α} (h : l[i]? = some v) : (l.take i).map f ++ [f v] = (l.take (i + 1)).map f := by
  rw [List.take_add_one, h]; simp
theorem p18 (p : Prog) (hl : p.vars.length ≤ 1000 ∧ p.hs.length ≤ 1000 ∧ p.os.length ≤ 1000 ∧ p.code.length ≤ 1000) : Pure Try.prog 18 [p.av] p.av := by
  refine pure_introF mo Try.func18 c18 fun H => ?_
  unfold e18 r18
  simp only [initEnv, initFrom]
  repeat' first|(apply Sp.go;·constructor<;>first|exact ss|(change _=_;first|(simp only[go_sem,Nat.reduceBEq,Nat.reduceAdd,Nat.reduceLeDiff,reduceIte]<;>rfl)|rfl)|exact Nat.le_of_ble_eq_true rfl|decide|(repeat' first|(apply Lk.go;constructor)|assumption|exact nb ‹_› ‹_›|exact nt ‹_› ‹_›))|(intro b hb;repeat first|(refine fe hb ?_;intro _ _ hb)|(refine fT hb ?_;intro hb))|refine rt ?_|refine gA rfl ?_|refine gB rfl ?_|apply cT rfl|apply cF rfl|(apply DM.gbT;rfl)|(apply DM.gbF;rfl)|intro h
  rename_i b1 h1 b2 h2 n1 n2 h3 h4 n3 n4 h5 n5 n6
  rename Nat => b
  have hG : ∃ G : AHeap, HSub H G ∧ G.blk b = none ∧ G.blk b1 = some (27, p.cells) ∧ (G.blk b2 = some (41, [.str [], .int .i64 0, .nilS, .nilS, .nilS, .nilS])) ∧ G = (H.setB b1 27 p.cells).setB b2 41 [.str [], .int .i64 0, .nilS, .nilS, .nilS, .nilS] := ⟨_, HSub.setB (HSub.setB (HSub.refl _) h1) h3, by assumption, g_ne n2 g_same, g_same, rfl⟩
  obtain ⟨G, hGs, hGb, hG1, hG2, hGe⟩ := hG
  have hHb : H.blk b = none := by assumption
  have e1 : b1 ≠ b := (ne_blk hGb hG1).2
  have e2 : b2 ≠ b := (ne_blk hGb hG2).2
  refine AM.eqH (H2 := G.setB b 41 [.str p.name, .int .i64 p.role, .nilS, .nilS, .nilS, .nilS]) (by rw [hGe]) ?_
  apply AM.ghostB b 2 87 7 (by decide) g_same rfl
  intro ta hta
  apply AM.ghostB b 3 128 3 (by decide) g_same rfl
  intro tb htb
  apply AM.ghostB b 4 117 4 (by decide) g_same rfl
  intro tc htc
  apply AM.ghostB b 5 88 3 (by decide) g_same rfl
  intro td htd
  have ha0 : G.tok ta = none := freshT_setB hta
  obtain ⟨nba, _, htb⟩ := freshT_setT (freshT_setB htb)
  have hb0 : G.tok tb = none := freshT_setB htb
  obtain ⟨ncb, _, htc⟩ := freshT_setT (freshT_setB htc)
  obtain ⟨nca, _, htc⟩ := freshT_setT (freshT_setB htc)
  have hc0 : G.tok tc = none := freshT_setB htc
  obtain ⟨ndc, _, htd⟩ := freshT_setT (freshT_setB htd)
  obtain ⟨ndb, _, htd⟩ := freshT_setT (freshT_setB htd)
  obtain ⟨nda, _, htd⟩ := freshT_setT (freshT_setB htd)
  have hd0 : G.tok td = none := freshT_setB htd
  have d : Dst ta tb tc td := ⟨nba, nca, ncb, nda, ndb, ndc⟩
  have fa := hGs.none_tok ha0; have fb := hGs.none_tok hb0; have fc := hGs.none_tok hc0; have fd := hGs.none_tok hd0
  have hsubO : ∀ A B C D va vb vc vd c, HSub H ((HO G b ta tb tc td p.name p.role A B C D va vb vc vd).setB b2 41 c) := fun A B C D va vb vc vd c => HSub.setB (ho_sub hGs hHb fa fb fc fd) h3
  refine AM.eqH (H2 := HO G b ta tb tc td p.name p.role [] [] [] [] 0 0 0 0) ?_ ?_
  · have q1 := d.ba; have q2 := d.ca; have q3 := d.cb; have q4 := d.da; have q5 := d.db; have q6 := d.dc
    simp only [HO, AHeap.setT, AHeap.setB, AHeap.mk.injEq]
    refine ⟨?_, ?_⟩
    · funext q
      by_cases e : q = b <;> simp [e]
    · funext q
      by_cases e3 : q = ta
      · subst e3; simp [*, Ne.symm q1, Ne.symm q2, Ne.symm q4]
      · by_cases e4 : q = tb
        · subst e4; simp [*, Ne.symm q3, Ne.symm q5]
        · by_cases e5 : q = tc
          · subst e5; simp [*, Ne.symm q6]
          · simp [*]
  clear hGe hta htb htc htd
  refine AM.loopX (X := Nat) 0 (fun i => [(1, .ptr b1 0), (2, .ptr b2 0), (3, .ptr b 0), (4, .int .i64 (i : Int))]) (fun i H' => H' = HO G b ta tb tc td p.name p.role ((p.vars.take i).map Var_.row) [] [] [] i 0 0 0 ∧ i ≤ p.vars.length) (fun i => p.vars.length - i) ⟨rfl, Nat.zero_le _⟩ ?_ ?_
  · (repeat first | exact envle_nil _ | (refine envle_cons ?_ ?_; · (simp only [go_sem, Nat.reduceBEq, Nat.reduceAdd]; exact AVLe.refl _)))
  rintro i H' ⟨rfl, hi⟩
  repeat' first|(apply Sp.go;·constructor<;>first|exact ss|(change _=_;first|(simp only[go_sem,Nat.reduceBEq,Nat.reduceAdd,Nat.reduceLeDiff,reduceIte]<;>rfl)|rfl)|exact Nat.le_of_ble_eq_true rfl|decide|(repeat' first|(apply Lk.go;constructor)|assumption|exact nb ‹_› ‹_›|exact nt ‹_› ‹_› | refine ho_look ‹_› ?_ | exact ho_blk | exact ho_ta | exact ho_tb ‹_› | exact ho_tc ‹_› | exact ho_td ‹_›))|(intro b hb;repeat first|(refine fe hb ?_;intro _ _ hb)|(refine fT hb ?_;intro hb))|refine rt ?_|refine gA rfl ?_|refine gB rfl ?_|apply cT rfl|apply cF rfl|(apply DM.gbT;rfl)|(apply DM.gbF;rfl)|intro h
  (apply AM.cond; (· rfl))
  · intro hlt
    simp at hlt
    obtain ⟨v, hv⟩ := some_of hlt
    repeat' first|(apply Sp.go;·constructor<;>first|exact ss|(change _=_;first|(simp only[go_sem,Nat.reduceBEq,Nat.reduceAdd,Nat.reduceLeDiff,reduceIte]<;>rfl)|rfl)|exact Nat.le_of_ble_eq_true rfl|decide|(repeat' first|(apply Lk.go;constructor)|assumption|exact nb ‹_› ‹_›|exact nt ‹_› ‹_› | refine ho_look ‹_› ?_ | exact ho_blk | exact ho_ta | exact ho_tb ‹_› | exact ho_tc ‹_› | exact ho_td ‹_›))|(intro b hb;repeat first|(refine fe hb ?_;intro _ _ hb)|(refine fT hb ?_;intro hb))|refine rt ?_|refine gA rfl ?_|refine gB rfl ?_|apply cT rfl|apply cF rfl|(apply DM.gbT;rfl)|(apply DM.gbF;rfl)|intro h
    (apply DM.ixV (row := v.row) (z := (i : Int)) (by omega) (row_get Var_.row hv); (· rfl); (· rfl))
    repeat' first|(apply Sp.go;·constructor<;>first|exact ss|(change _=_;first|(simp only[go_sem,Nat.reduceBEq,Nat.reduceAdd,Nat.reduceLeDiff,reduceIte]<;>rfl)|rfl)|exact Nat.le_of_ble_eq_true rfl|decide|(repeat' first|(apply Lk.go;constructor)|assumption|exact nb ‹_› ‹_›|exact nt ‹_› ‹_› | refine ho_look ‹_› ?_ | exact ho_blk | exact ho_ta | exact ho_tb ‹_› | exact ho_tc ‹_› | exact ho_td ‹_›))|(intro b hb;repeat first|(refine fe hb ?_;intro _ _ hb)|(refine fT hb ?_;intro hb))|refine rt ?_|refine gA rfl ?_|refine gB rfl ?_|apply cT rfl|apply cF rfl|(apply DM.gbT;rfl)|(apply DM.gbF;rfl)|intro h
    (apply DM.apM; (· rfl); (· repeat' first|(apply Lk.go;constructor)|assumption|exact nb ‹_› ‹_›|exact nt ‹_› ‹_› | refine ho_look ‹_› ?_ | exact ho_blk | exact ho_ta | exact ho_tb ‹_› | exact ho_tc ‹_› | exact ho_td ‹_›); (· simp only [rowsOf, if_true, eq_self, go_sem, Nat.reduceBEq, reduceIte] <;> rfl); (· (simp only [List.length_map, List.length_cons, List.length_nil, List.length_take, maxLen]; omega)); (· (simp only [List.length_map, List.length_cons, List.length_nil, List.length_take, maxLen]; omega)))
    rw [show (p.vars.take i).map Var_.row ++ [v.row] = (p.vars.take (i + 1)).map Var_.row from take_succ_map Var_.row hv]
    repeat' first|(apply Sp.go;·constructor<;>first|exact ss|(change _=_;first|(simp only[go_sem,Nat.reduceBEq,Nat.reduceAdd,Nat.reduceLeDiff,reduceIte]<;>rfl)|rfl)|exact Nat.le_of_ble_eq_true rfl|decide|(repeat' first|(apply Lk.go;constructor)|assumption|exact nb ‹_› ‹_›|exact nt ‹_› ‹_› | refine ho_look ‹_› ?_ | exact ho_blk | exact ho_ta | exact ho_tb ‹_› | exact ho_tc ‹_› | exact ho_td ‹_›))|(intro b hb;repeat first|(refine fe hb ?_;intro _ _ hb)|(refine fT hb ?_;intro hb))|refine rt ?_|refine gA rfl ?_|refine gB rfl ?_|apply cT rfl|apply cF rfl|(apply DM.gbT;rfl)|(apply DM.gbF;rfl)|intro h
    refine AM.eqH (ho_set_a d) ?_
    refine AM.roundX (i + 1) ⟨rfl, by omega⟩ ?_ (show p.vars.length - (i + 1) < p.vars.length - i by omega)
    (repeat first | exact envle_nil _ | (refine envle_cons ?_ ?_; · (simp only [go_sem, Nat.reduceBEq, Nat.reduceAdd]; exact AVLe.refl _)))
    refine envle_cons ?_ ?_
    · simp only [go_sem, Nat.reduceBEq, Nat.reduceAdd]
      refine avle_int ?_
      rw [inc64 hlt (show p.vars.length ≤ maxLen by unfold maxLen; omega)]
    exact envle_nil _
  intro hlt
  simp at hlt
  have hi0 : i = p.vars.length := by omega
  subst hi0
  rw [List.take_length]
  clear hi hlt
  repeat' first|(apply Sp.go;·constructor<;>first|exact ss|(change _=_;first|(simp only[go_sem,Nat.reduceBEq,Nat.reduceAdd,Nat.reduceLeDiff,reduceIte]<;>rfl)|rfl)|exact Nat.le_of_ble_eq_true rfl|decide|(repeat' first|(apply Lk.go;constructor)|assumption|exact nb ‹_› ‹_›|exact nt ‹_› ‹_› | refine ho_look ‹_› ?_ | exact ho_blk | exact ho_ta | exact ho_tb ‹_› | exact ho_tc ‹_› | exact ho_td ‹_›))|(intro b hb;repeat first|(refine fe hb ?_;intro _ _ hb)|(refine fT hb ?_;intro hb))|refine rt ?_|refine gA rfl ?_|refine gB rfl ?_|apply cT rfl|apply cF rfl|(apply DM.gbT;rfl)|(apply DM.gbF;rfl)|intro h
  refine AM.loopX (X := Nat) 0 (fun i => [(1, .ptr b1 0), (2, .ptr b2 0), (3, .ptr b 0), (5, .int .i64 (i : Int))]) (fun i H' => H' = HO G b ta tb tc td p.name p.role (p.vars.map Var_.row) ((p.hs.take i).map Hd.row) [] [] p.vars.length i 0 0 ∧ i ≤ p.hs.length) (fun i => p.hs.length - i) ⟨rfl, Nat.zero_le _⟩ ?_ ?_
  · (repeat first | exact envle_nil _ | (refine envle_cons ?_ ?_; · (simp only [go_sem, Nat.reduceBEq, Nat.reduceAdd]; exact AVLe.refl _)))
  rintro i H' ⟨rfl, hi⟩
  repeat' first|(apply Sp.go;·constructor<;>first|exact ss|(change _=_;first|(simp only[go_sem,Nat.reduceBEq,Nat.reduceAdd,Nat.reduceLeDiff,reduceIte]<;>rfl)|rfl)|exact Nat.le_of_ble_eq_true rfl|decide|(repeat' first|(apply Lk.go;constructor)|assumption|exact nb ‹_› ‹_›|exact nt ‹_› ‹_› | refine ho_look ‹_› ?_ | exact ho_blk | exact ho_ta | exact ho_tb ‹_› | exact ho_tc ‹_› | exact ho_td ‹_›))|(intro b hb;repeat first|(refine fe hb ?_;intro _ _ hb)|(refine fT hb ?_;intro hb))|refine rt ?_|refine gA rfl ?_|refine gB rfl ?_|apply cT rfl|apply cF rfl|(apply DM.gbT;rfl)|(apply DM.gbF;rfl)|intro h
  (apply AM.cond; (· rfl))
  · intro hlt
    simp at hlt
    obtain ⟨v, hv⟩ := some_of hlt
    repeat' first|(apply Sp.go;·constructor<;>first|exact ss|(change _=_;first|(simp only[go_sem,Nat.reduceBEq,Nat.reduceAdd,Nat.reduceLeDiff,reduceIte]<;>rfl)|rfl)|exact Nat.le_of_ble_eq_true rfl|decide|(repeat' first|(apply Lk.go;constructor)|assumption|exact nb ‹_› ‹_›|exact nt ‹_› ‹_› | refine ho_look ‹_› ?_ | exact ho_blk | exact ho_ta | exact ho_tb ‹_› | exact ho_tc ‹_› | exact ho_td ‹_›))|(intro b hb;repeat first|(refine fe hb ?_;intro _ _ hb)|(refine fT hb ?_;intro hb))|refine rt ?_|refine gA rfl ?_|refine gB rfl ?_|apply cT rfl|apply cF rfl|(apply DM.gbT;rfl)|(apply DM.gbF;rfl)|intro h
    (apply DM.ixV (row := v.row) (z := (i : Int)) (by omega) (row_get Hd.row hv); (· rfl); (· rfl))
    repeat' first|(apply Sp.go;·constructor<;>first|exact ss|(change _=_;first|(simp only[go_sem,Nat.reduceBEq,Nat.reduceAdd,Nat.reduceLeDiff,reduceIte]<;>rfl)|rfl)|exact Nat.le_of_ble_eq_true rfl|decide|(repeat' first|(apply Lk.go;constructor)|assumption|exact nb ‹_› ‹_›|exact nt ‹_› ‹_› | refine ho_look ‹_› ?_ | exact ho_blk | exact ho_ta | exact ho_tb ‹_› | exact ho_tc ‹_› | exact ho_td ‹_›))|(intro b hb;repeat first|(refine fe hb ?_;intro _ _ hb)|(refine fT hb ?_;intro hb))|refine rt ?_|refine gA rfl ?_|refine gB rfl ?_|apply cT rfl|apply cF rfl|(apply DM.gbT;rfl)|(apply DM.gbF;rfl)|intro h
    (apply DM.apM; (· rfl); (· repeat' first|(apply Lk.go;constructor)|assumption|exact nb ‹_› ‹_›|exact nt ‹_› ‹_› | refine ho_look ‹_› ?_ | exact ho_blk | exact ho_ta | exact ho_tb ‹_› | exact ho_tc ‹_› | exact ho_td ‹_›); (· simp only [rowsOf, if_true, eq_self, go_sem, Nat.reduceBEq, reduceIte] <;> rfl); (· (simp only [List.length_map, List.length_cons, List.length_nil, List.length_take, maxLen]; omega)); (· (simp only [List.length_map, List.length_cons, List.length_nil, List.length_take, maxLen]; omega)))
    rw [show (p.hs.take i).map Hd.row ++ [v.row] = (p.hs.take (i + 1)).map Hd.row from take_succ_map Hd.row hv]
    repeat' first|(apply Sp.go;·constructor<;>first|exact ss|(change _=_;first|(simp only[go_sem,Nat.reduceBEq,Nat.reduceAdd,Nat.reduceLeDiff,reduceIte]<;>rfl)|rfl)|exact Nat.le_of_ble_eq_true rfl|decide|(repeat' first|(apply Lk.go;constructor)|assumption|exact nb ‹_› ‹_›|exact nt ‹_› ‹_› | refine ho_look ‹_› ?_ | exact ho_blk | exact ho_ta | exact ho_tb ‹_› | exact ho_tc ‹_› | exact ho_td ‹_›))|(intro b hb;repeat first|(refine fe hb ?_;intro _ _ hb)|(refine fT hb ?_;intro hb))|refine rt ?_|refine gA rfl ?_|refine gB rfl ?_|apply cT rfl|apply cF rfl|(apply DM.gbT;rfl)|(apply DM.gbF;rfl)|intro h
    refine AM.eqH (ho_set_b d) ?_
    refine AM.roundX (i + 1) ⟨rfl, by omega⟩ ?_ (show p.hs.length - (i + 1) < p.hs.length - i by omega)
    (repeat first | exact envle_nil _ | (refine envle_cons ?_ ?_; · (simp only [go_sem, Nat.reduceBEq, Nat.reduceAdd]; exact AVLe.refl _)))
    refine envle_cons ?_ ?_
    · simp only [go_sem, Nat.reduceBEq, Nat.reduceAdd]
      refine avle_int ?_
      rw [inc64 hlt (show p.hs.length ≤ maxLen by unfold maxLen; omega)]
    exact envle_nil _
  intro hlt
  simp at hlt
  have hi1 : i = p.hs.length := by omega
  subst hi1
  rw [List.take_length]
  clear hi hlt
  repeat' first|(apply Sp.go;·constructor<;>first|exact ss|(change _=_;first|(simp only[go_sem,Nat.reduceBEq,Nat.reduceAdd,Nat.reduceLeDiff,reduceIte]<;>rfl)|rfl)|exact Nat.le_of_ble_eq_true rfl|decide|(repeat' first|(apply Lk.go;constructor)|assumption|exact nb ‹_› ‹_›|exact nt ‹_› ‹_› | refine ho_look ‹_› ?_ | exact ho_blk | exact ho_ta | exact ho_tb ‹_› | exact ho_tc ‹_› | exact ho_td ‹_›))|(intro b hb;repeat first|(refine fe hb ?_;intro _ _ hb)|(refine fT hb ?_;intro hb))|refine rt ?_|refine gA rfl ?_|refine gB rfl ?_|apply cT rfl|apply cF rfl|(apply DM.gbT;rfl)|(apply DM.gbF;rfl)|intro h
  refine AM.loopX (X := Nat) 0 (fun i => [(1, .ptr b1 0), (2, .ptr b2 0), (3, .ptr b 0), (6, .int .i64 (i : Int))]) (fun i H' => H' = HO G b ta tb tc td p.name p.role (p.vars.map Var_.row) (p.hs.map Hd.row) ((p.os.take i).map Of_.row) [] p.vars.length p.hs.length i 0 ∧ i ≤ p.os.length) (fun i => p.os.length - i) ⟨rfl, Nat.zero_le _⟩ ?_ ?_
  · (repeat first | exact envle_nil _ | (refine envle_cons ?_ ?_; · (simp only [go_sem, Nat.reduceBEq, Nat.reduceAdd]; exact AVLe.refl _)))
  rintro i H' ⟨rfl, hi⟩
  repeat' first|(apply Sp.go;·constructor<;>first|exact ss|(change _=_;first|(simp only[go_sem,Nat.reduceBEq,Nat.reduceAdd,Nat.reduceLeDiff,reduceIte]<;>rfl)|rfl)|exact Nat.le_of_ble_eq_true rfl|decide|(repeat' first|(apply Lk.go;constructor)|assumption|exact nb ‹_› ‹_›|exact nt ‹_› ‹_› | refine ho_look ‹_› ?_ | exact ho_blk | exact ho_ta | exact ho_tb ‹_› | exact ho_tc ‹_› | exact ho_td ‹_›))|(intro b hb;repeat first|(refine fe hb ?_;intro _ _ hb)|(refine fT hb ?_;intro hb))|refine rt ?_|refine gA rfl ?_|refine gB rfl ?_|apply cT rfl|apply cF rfl|(apply DM.gbT;rfl)|(apply DM.gbF;rfl)|intro h
  (apply AM.cond; (· rfl))
  · intro hlt
    simp at hlt
    obtain ⟨v, hv⟩ := some_of hlt
    repeat' first|(apply Sp.go;·constructor<;>first|exact ss|(change _=_;first|(simp only[go_sem,Nat.reduceBEq,Nat.reduceAdd,Nat.reduceLeDiff,reduceIte]<;>rfl)|rfl)|exact Nat.le_of_ble_eq_true rfl|decide|(repeat' first|(apply Lk.go;constructor)|assumption|exact nb ‹_› ‹_›|exact nt ‹_› ‹_› | refine ho_look ‹_› ?_ | exact ho_blk | exact ho_ta | exact ho_tb ‹_› | exact ho_tc ‹_› | exact ho_td ‹_›))|(intro b hb;repeat first|(refine fe hb ?_;intro _ _ hb)|(refine fT hb ?_;intro hb))|refine rt ?_|refine gA rfl ?_|refine gB rfl ?_|apply cT rfl|apply cF rfl|(apply DM.gbT;rfl)|(apply DM.gbF;rfl)|intro h
    (apply DM.ixV (row := v.row) (z := (i : Int)) (by omega) (row_get Of_.row hv); (· rfl); (· rfl))
    repeat' first|(apply Sp.go;·constructor<;>first|exact ss|(change _=_;first|(simp only[go_sem,Nat.reduceBEq,Nat.reduceAdd,Nat.reduceLeDiff,reduceIte]<;>rfl)|rfl)|exact Nat.le_of_ble_eq_true rfl|decide|(repeat' first|(apply Lk.go;constructor)|assumption|exact nb ‹_› ‹_›|exact nt ‹_› ‹_› | refine ho_look ‹_› ?_ | exact ho_blk | exact ho_ta | exact ho_tb ‹_› | exact ho_tc ‹_› | exact ho_td ‹_›))|(intro b hb;repeat first|(refine fe hb ?_;intro _ _ hb)|(refine fT hb ?_;intro hb))|refine rt ?_|refine gA rfl ?_|refine gB rfl ?_|apply cT rfl|apply cF rfl|(apply DM.gbT;rfl)|(apply DM.gbF;rfl)|intro h
    (apply DM.apM; (· rfl); (· repeat' first|(apply Lk.go;constructor)|assumption|exact nb ‹_› ‹_›|exact nt ‹_› ‹_› | refine ho_look ‹_› ?_ | exact ho_blk | exact ho_ta | exact ho_tb ‹_› | exact ho_tc ‹_› | exact ho_td ‹_›); (· simp only [rowsOf, if_true, eq_self, go_sem, Nat.reduceBEq, reduceIte] <;> rfl); (· (simp only [List.length_map, List.length_cons, List.length_nil, List.length_take, maxLen]; omega)); (· (simp only [List.length_map, List.length_cons, List.length_nil, List.length_take, maxLen]; omega)))
    rw [show (p.os.take i).map Of_.row ++ [v.row] = (p.os.take (i + 1)).map Of_.row from take_succ_map Of_.row hv]
    repeat' first|(apply Sp.go;·constructor<;>first|exact ss|(change _=_;first|(simp only[go_sem,Nat.reduceBEq,Nat.reduceAdd,Nat.reduceLeDiff,reduceIte]<;>rfl)|rfl)|exact Nat.le_of_ble_eq_true rfl|decide|(repeat' first|(apply Lk.go;constructor)|assumption|exact nb ‹_› ‹_›|exact nt ‹_› ‹_› | refine ho_look ‹_› ?_ | exact ho_blk | exact ho_ta | exact ho_tb ‹_› | exact ho_tc ‹_› | exact ho_td ‹_›))|(intro b hb;repeat first|(refine fe hb ?_;intro _ _ hb)|(refine fT hb ?_;intro hb))|refine rt ?_|refine gA rfl ?_|refine gB rfl ?_|apply cT rfl|apply cF rfl|(apply DM.gbT;rfl)|(apply DM.gbF;rfl)|intro h
    refine AM.eqH (ho_set_c d) ?_
    refine AM.roundX (i + 1) ⟨rfl, by omega⟩ ?_ (show p.os.length - (i + 1) < p.os.length - i by omega)
    (repeat first | exact envle_nil _ | (refine envle_cons ?_ ?_; · (simp only [go_sem, Nat.reduceBEq, Nat.reduceAdd]; exact AVLe.refl _)))
    refine envle_cons ?_ ?_
    · simp only [go_sem, Nat.reduceBEq, Nat.reduceAdd]
      refine avle_int ?_
      rw [inc64 hlt (show p.os.length ≤ maxLen by unfold maxLen; omega)]
    exact envle_nil _
  intro hlt
  simp at hlt
  have hi2 : i = p.os.length := by omega
  subst hi2
  rw [List.take_length]
  clear hi hlt
  repeat' first|(apply Sp.go;·constructor<;>first|exact ss|(change _=_;first|(simp only[go_sem,Nat.reduceBEq,Nat.reduceAdd,Nat.reduceLeDiff,reduceIte]<;>rfl)|rfl)|exact Nat.le_of_ble_eq_true rfl|decide|(repeat' first|(apply Lk.go;constructor)|assumption|exact nb ‹_› ‹_›|exact nt ‹_› ‹_› | refine ho_look ‹_› ?_ | exact ho_blk | exact ho_ta | exact ho_tb ‹_› | exact ho_tc ‹_› | exact ho_td ‹_›))|(intro b hb;repeat first|(refine fe hb ?_;intro _ _ hb)|(refine fT hb ?_;intro hb))|refine rt ?_|refine gA rfl ?_|refine gB rfl ?_|apply cT rfl|apply cF rfl|(apply DM.gbT;rfl)|(apply DM.gbF;rfl)|intro h
  refine AM.loopX (X := Nat) 0 (fun i => [(1, .ptr b1 0), (2, .ptr b2 0), (3, .ptr b 0), (7, .int .i64 (i : Int))]) (fun i H' => H' = HO G b ta tb tc td p.name p.role (p.vars.map Var_.row) (p.hs.map Hd.row) (p.os.map Of_.row) ((p.code.take i).map Ins_.row) p.vars.length p.hs.length p.os.length i ∧ i ≤ p.code.length) (fun i => p.code.length - i) ⟨rfl, Nat.zero_le _⟩ ?_ ?_
  · (repeat first | exact envle_nil _ | (refine envle_cons ?_ ?_; · (simp only [go_sem, Nat.reduceBEq, Nat.reduceAdd]; exact AVLe.refl _)))
  rintro i H' ⟨rfl, hi⟩
  repeat' first|(apply Sp.go;·constructor<;>first|exact ss|(change _=_;first|(simp only[go_sem,Nat.reduceBEq,Nat.reduceAdd,Nat.reduceLeDiff,reduceIte]<;>rfl)|rfl)|exact Nat.le_of_ble_eq_true rfl|decide|(repeat' first|(apply Lk.go;constructor)|assumption|exact nb ‹_› ‹_›|exact nt ‹_› ‹_› | refine ho_look ‹_› ?_ | exact ho_blk | exact ho_ta | exact ho_tb ‹_› | exact ho_tc ‹_› | exact ho_td ‹_›))|(intro b hb;repeat first|(refine fe hb ?_;intro _ _ hb)|(refine fT hb ?_;intro hb))|refine rt ?_|refine gA rfl ?_|refine gB rfl ?_|apply cT rfl|apply cF rfl|(apply DM.gbT;rfl)|(apply DM.gbF;rfl)|intro h
  (apply AM.cond; (· rfl))
  · intro hlt
    simp at hlt
    obtain ⟨v, hv⟩ := some_of hlt
    repeat' first|(apply Sp.go;·constructor<;>first|exact ss|(change _=_;first|(simp only[go_sem,Nat.reduceBEq,Nat.reduceAdd,Nat.reduceLeDiff,reduceIte]<;>rfl)|rfl)|exact Nat.le_of_ble_eq_true rfl|decide|(repeat' first|(apply Lk.go;constructor)|assumption|exact nb ‹_› ‹_›|exact nt ‹_› ‹_› | refine ho_look ‹_› ?_ | exact ho_blk | exact ho_ta | exact ho_tb ‹_› | exact ho_tc ‹_› | exact ho_td ‹_›))|(intro b hb;repeat first|(refine fe hb ?_;intro _ _ hb)|(refine fT hb ?_;intro hb))|refine rt ?_|refine gA rfl ?_|refine gB rfl ?_|apply cT rfl|apply cF rfl|(apply DM.gbT;rfl)|(apply DM.gbF;rfl)|intro h
    (apply DM.ixV (row := v.row) (z := (i : Int)) (by omega) (row_get Ins_.row hv); (· rfl); (· rfl))
    repeat' first|(apply Sp.go;·constructor<;>first|exact ss|(change _=_;first|(simp only[go_sem,Nat.reduceBEq,Nat.reduceAdd,Nat.reduceLeDiff,reduceIte]<;>rfl)|rfl)|exact Nat.le_of_ble_eq_true rfl|decide|(repeat' first|(apply Lk.go;constructor)|assumption|exact nb ‹_› ‹_›|exact nt ‹_› ‹_› | refine ho_look ‹_› ?_ | exact ho_blk | exact ho_ta | exact ho_tb ‹_› | exact ho_tc ‹_› | exact ho_td ‹_›))|(intro b hb;repeat first|(refine fe hb ?_;intro _ _ hb)|(refine fT hb ?_;intro hb))|refine rt ?_|refine gA rfl ?_|refine gB rfl ?_|apply cT rfl|apply cF rfl|(apply DM.gbT;rfl)|(apply DM.gbF;rfl)|intro h
    (apply DM.apM; (· rfl); (· repeat' first|(apply Lk.go;constructor)|assumption|exact nb ‹_› ‹_›|exact nt ‹_› ‹_› | refine ho_look ‹_› ?_ | exact ho_blk | exact ho_ta | exact ho_tb ‹_› | exact ho_tc ‹_› | exact ho_td ‹_›); (· simp only [rowsOf, if_true, eq_self, go_sem, Nat.reduceBEq, reduceIte] <;> rfl); (· (simp only [List.length_map, List.length_cons, List.length_nil, List.length_take, maxLen]; omega)); (· (simp only [List.length_map, List.length_cons, List.length_nil, List.length_take, maxLen]; omega)))
    rw [show (p.code.take i).map Ins_.row ++ [v.row] = (p.code.take (i + 1)).map Ins_.row from take_succ_map Ins_.row hv]
    repeat' first|(apply Sp.go;·constructor<;>first|exact ss|(change _=_;first|(simp only[go_sem,Nat.reduceBEq,Nat.reduceAdd,Nat.reduceLeDiff,reduceIte]<;>rfl)|rfl)|exact Nat.le_of_ble_eq_true rfl|decide|(repeat' first|(apply Lk.go;constructor)|assumption|exact nb ‹_› ‹_›|exact nt ‹_› ‹_› | refine ho_look ‹_› ?_ | exact ho_blk | exact ho_ta | exact ho_tb ‹_› | exact ho_tc ‹_› | exact ho_td ‹_›))|(intro b hb;repeat first|(refine fe hb ?_;intro _ _ hb)|(refine fT hb ?_;intro hb))|refine rt ?_|refine gA rfl ?_|refine gB rfl ?_|apply cT rfl|apply cF rfl|(apply DM.gbT;rfl)|(apply DM.gbF;rfl)|intro h
    refine AM.eqH (ho_set_d d) ?_
    refine AM.roundX (i + 1) ⟨rfl, by omega⟩ ?_ (show p.code.length - (i + 1) < p.code.length - i by omega)
    (repeat first | exact envle_nil _ | (refine envle_cons ?_ ?_; · (simp only [go_sem, Nat.reduceBEq, Nat.reduceAdd]; exact AVLe.refl _)))
    refine envle_cons ?_ ?_
    · simp only [go_sem, Nat.reduceBEq, Nat.reduceAdd]
      refine avle_int ?_
      rw [inc64 hlt (show p.code.length ≤ maxLen by unfold maxLen; omega)]
    exact envle_nil _
  intro hlt
  simp at hlt
  have hi3 : i = p.code.length := by omega
  subst hi3
  rw [List.take_length]
  clear hi hlt
  repeat' first|(apply Sp.go;·constructor<;>first|exact ss|(change _=_;first|(simp only[go_sem,Nat.reduceBEq,Nat.reduceAdd,Nat.reduceLeDiff,reduceIte]<;>rfl)|rfl)|exact Nat.le_of_ble_eq_true rfl|decide|(repeat' first|(apply Lk.go;constructor)|assumption|exact nb ‹_› ‹_›|exact nt ‹_› ‹_› | refine ho_look ‹_› ?_ | exact ho_blk | exact ho_ta | exact ho_tb ‹_› | exact ho_tc ‹_› | exact ho_td ‹_›))|(intro b hb;repeat first|(refine fe hb ?_;intro _ _ hb)|(refine fT hb ?_;intro hb))|refine rt ?_|refine gA rfl ?_|refine gB rfl ?_|apply cT rfl|apply cF rfl|(apply DM.gbT;rfl)|(apply DM.gbF;rfl)|intro h
  apply AM.retF
  · simp only [Aw.results, ERes.ev, peval, EOpd.ev, Env.get, Nat.reduceBEq, cond_true, cond_false]
    rw [g_same]
    rfl
  · exact hsubO _ _ _ _ _ _ _ _ _
  · exact Frz.agg (FrzL.cons (Frz.same (hsubO _ _ _ _ _ _ _ _ _)) (FrzL.cons (Frz.same (hsubO _ _ _ _ _ _ _ _ _)) (FrzL.cons (Frz.ms (hsubO _ _ _ _ _ _ _ _ _) (t_B ho_ta) fa) (FrzL.cons (Frz.ms (hsubO _ _ _ _ _ _ _ _ _) (t_B (ho_tb d)) fb) (FrzL.cons (Frz.ms (hsubO _ _ _ _ _ _ _ _ _) (t_B (ho_tc d)) fc) (FrzL.cons (Frz.ms (hsubO _ _ _ _ _ _ _ _ _) (t_B (ho_td d)) fd) FrzL.nil))))))
end Go.Aw.T
namespace Go.Proofs
open Go.Shelf
def Try.lays105_ren : Go.Shelf.Ren := ⟨fun | 105 => 127 | 212 => 129 | 99 => 130 | 165 => 131 | 166 => 132 | 170 => 133 | 169 => 134 | 263 => 135 | 264 => 136 | 206 => 137 | 240 => 138 | 241 => 139 | 276 => 140 | 277 => 141 | n => n, fun | 9 => 9 | 3 => 3 | 4 => 4 | 20 => 20 | 0 => 0 | 46 => 200 | 109 => 201 | 5 => 5 | 72 => 205 | 76 => 208 | 51 => 212 | 146 => 213 | 53 => 215 | 148 => 216 | 70 => 203 | 37 => 114 | 75 => 207 | 127 => 218 | 164 => 219 | 80 => 211 | n => n, fun | n => n⟩
theorem Try.lays105 : Go.Proofs.Lays.n105 Try.prog Try.lays105_ren := {
  mixed := by kernel_rfl
  f99 := Try.func130.trans (congrArg some (by kernel_rfl))
  f105 := Try.func127.trans (congrArg some (by kernel_rfl))
  f165 := Try.func131.trans (congrArg some (by kernel_rfl))
  f166 := Try.func132.trans (congrArg some (by kernel_rfl))
  f169 := Try.func134.trans (congrArg some (by kernel_rfl))
  f170 := Try.func133.trans (congrArg some (by kernel_rfl))
  f206 := Try.func137.trans (congrArg some (by kernel_rfl))
  f212 := Try.func129.trans (congrArg some (by kernel_rfl))
  f240 := Try.func138.trans (congrArg some (by kernel_rfl))
  f241 := Try.func139.trans (congrArg some (by kernel_rfl))
  f263 := Try.func135.trans (congrArg some (by kernel_rfl))
  f264 := Try.func136.trans (congrArg some (by kernel_rfl))
  f276 := Try.func140.trans (congrArg some (by kernel_rfl))
  f277 := Try.func141.trans (congrArg some (by kernel_rfl))
  t0 := Try.underlying0
  a0 := Try.isAgg0
  z0 := Try.sizeOf0
  v0 := Try.zeroValue0
  t3 := Try.underlying3
  a3 := Try.isAgg3
  z3 := Try.sizeOf3
  v3 := Try.zeroValue3
  t4 := Try.underlying4
  a4 := Try.isAgg4
  z4 := Try.sizeOf4
  v4 := Try.zeroValue4
  t5 := Try.underlying5
  a5 := Try.isAgg5
  z5 := Try.sizeOf5
  v5 := Try.zeroValue5
  t9 := Try.underlying9
  a9 := Try.isAgg9
  z9 := Try.sizeOf9
  v9 := Try.zeroValue9
  t20 := Try.underlying20
  a20 := Try.isAgg20
  z20 := Try.sizeOf20
  v20 := Try.zeroValue20
  t37 := Try.underlying114
  a37 := Try.isAgg114
  z37 := Try.sizeOf114
  v37 := Try.zeroValue114
  t46 := Try.underlying200
  a46 := Try.isAgg200
  z46 := Try.sizeOf200
  v46 := Try.zeroValue200
  t51 := Try.underlying212
  a51 := Try.isAgg212
  z51 := Try.sizeOf212
  v51 := Try.zeroValue212
  t53 := Try.underlying215
  a53 := Try.isAgg215
  z53 := Try.sizeOf215
  v53 := Try.zeroValue215
  t70 := Try.underlying203
  a70 := Try.isAgg203
  z70 := Try.sizeOf203
  v70 := Try.zeroValue203
  t72 := Try.underlying205
  a72 := Try.isAgg205
  z72 := Try.sizeOf205
  v72 := Try.zeroValue205
  t75 := Try.underlying207
  a75 := Try.isAgg207
  z75 := Try.sizeOf207
  v75 := Try.zeroValue207
  t76 := Try.underlying208
  a76 := Try.isAgg208
  z76 := Try.sizeOf208
  v76 := Try.zeroValue208
  t109 := Try.underlying201
  a109 := Try.isAgg201
  z109 := Try.sizeOf201
  v109 := Try.zeroValue201
  t127 := Try.underlying218
  a127 := Try.isAgg218
  z127 := Try.sizeOf218
  v127 := Try.zeroValue218
  t146 := Try.underlying213
  a146 := Try.isAgg213
  z146 := Try.sizeOf213
  v146 := Try.zeroValue213
  t148 := Try.underlying216
  a148 := Try.isAgg216
  z148 := Try.sizeOf216
  v148 := Try.zeroValue216
  t164 := Try.underlying219
  a164 := Try.isAgg219
  z164 := Try.sizeOf219
  v164 := Try.zeroValue219 }
open Go.RowKit
theorem Try.extra : Builder.Extra Try.prog Try.lays105_ren := {
  sizeBuilder := by kernel_rfl
  liesBuilder := by kernel_rfl
  t5 := Try.lays105.t5
  a5 := Try.lays105.a5
  z5 := Try.lays105.z5
  v5 := Try.lays105.v5
  infoByte := by kernel_rfl
  cellsByte := by kernel_rfl
  sizeByte := by kernel_rfl
  neB5 := by decide }
theorem Try.strings_Repeat (s : ByteArray) (c : Nat) (w : World) (hc : c ≤ 9223372036854775807) (hlen : s.size * c ≤ 140737488355328) :
    Calls Try.prog 127 #[.string s, .int .i64 c] w fun e w' => e = .returned (.string ⟨(Lib.repeatL s.data.toList c).toArray⟩) ∧ Below w.heap.size w w' :=
  Any.strings_Repeat Try.lays105 Try.extra s c w hc hlen
end Go.Proofs
namespace Go.Aw.T
open Go Go.Aw Go.Proofs Go.RowKit
theorem repeatOk : RepeatOk := fun n hn => by
  refine pure_of_plain fun m vs hv => ?_
  simp only [RvL, Rv] at hv
  obtain ⟨v1, t1, rfl, h1, v2, t2, rfl, h2, rfl⟩ := hv
  obtain ⟨h1, _⟩ := h1
  subst h1
  subst h2
  refine (Try.strings_Repeat ⟨⟨[97]⟩⟩ n m.w (by omega) (by simp [ByteArray.size]; omega)).mono ?_
  rintro e w' ⟨rfl, hb⟩
  refine ⟨_, rfl, fun m' => ?_, hb⟩
  have e := Go.Lib.repeatL_replicate 97 1 n
  rw [Nat.mul_one] at e
  simp only [Rv]
  refine ⟨?_, by simp [maxLen]; omega⟩
  change Value.string ⟨(Go.Lib.repeatL (List.replicate 1 97) n).toArray⟩ = _
  rw [e]
theorem sameL_refl (xs : List Val) : sameL xs xs = true := by
  unfold sameL
  induction xs with
  | nil => rfl
  | cons x xs ih => simp [eqF, ih, valEq]
theorem fewP_len {p : Prog} (h : fewP p = true) : p.vars.length ≤ 1000 ∧ p.hs.length ≤ 1000 ∧ p.os.length ≤ 1000 ∧ p.code.length ≤ 1000 := by
  simp [fewP] at h; omega
end Go.Aw.T
