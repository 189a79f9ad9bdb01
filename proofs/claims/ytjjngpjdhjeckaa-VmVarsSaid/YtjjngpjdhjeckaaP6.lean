/- Part of a proof; own work. -/
import Derived.Test.YtjjngpjdhjeckaaP1
import Derived.Test.YtjjngpjdhjeckaaP2
import Derived.Test.YtjjngpjdhjeckaaP3
import Derived.Test.YtjjngpjdhjeckaaP4
import Derived.Test.YtjjngpjdhjeckaaP5
import Derived.Test.YtjjngpjdhjeckaaK
import Derived.Test.YtjjngpjdhjeckaaC6
namespace Go.Aw.T
open Go Go.Aw Go.Proofs Go.RowKit
set_option maxRecDepth 100000
attribute [local irreducible] Go.Aw.DM Go.Aw.AHeap.setB Go.Aw.AHeap.setT
attribute [local go_sem] peval EOpd.ev Env.get binInt binStr binBool buildParts AV.cells AV.okc setRange minmaxAV AV.one AV.ofCells eqCells eqCell bslRows cond_true cond_false beq_self_eq_true Bool.not_true Bool.not_false beq_true beq_false eq_self if_true Option.some.injEq List.length_cons List.length_nil List.take_succ_cons List.take_zero List.drop_succ_cons List.drop_zero List.set_cons_succ List.set_cons_zero List.nil_append List.cons_append List.append_nil and_self Option.map_some List.map_cons List.map_nil Bool.false_eq_true if_false Nat.zero_add Nat.add_zero true_and and_true Bool.and_true Bool.true_and List.getElem?_cons_zero List.getElem?_cons_succ Nat.zero_le Nat.le_refl
set_option linter.unusedSimpArgs false
set_option linter.unusedVariables false
abbrev prg (code : List Ins_) : Prog := ⟨[115], 0, [], [], [], code⟩
theorem prgLe (code : List Ins_) {r : AV} (h : r = .vs 3 (code.map Ins_.row)) : AVLe (.agg [.str [115], .int .i64 0, .nilS, .nilS, .nilS, r]) (prg code).av :=
  avle_agg (avles_cons (AVLe.refl _) (avles_cons (AVLe.refl _) (avles_cons AVLe.nil (avles_cons AVLe.nil (avles_cons AVLe.nil (avles_cons (avle_eq h) avles_nil))))))
abbrev codeA : List Ins_ := [⟨1, 7, []⟩, ⟨1, -2, []⟩, ⟨9, 0, []⟩, ⟨24, 0, []⟩]
theorem run4 : runP (prg codeA) 0 [] [] 4 = ⟨[⟨1, -3, []⟩], [], 4, 0⟩ := by kernel_rfl
theorem run3 : runP (prg codeA) 0 [] [] 3 = ⟨[], [], 0, 26⟩ := by kernel_rfl
theorem soundA : soundP (prg codeA) [] = true := by kernel_rfl
theorem p24 : Pure Try.prog 24 [] (.bool true) := by
  have h4 := p26 (prg codeA) 0 [] [] 4 (.inr (by simp)) (by omega)
  rw [run4] at h4
  have h3 := p26 (prg codeA) 0 [] [] 3 (.inr (by simp)) (by omega)
  rw [run3] at h3
  have h28 := p28 (prg codeA) []
  rw [soundA] at h28
  refine pure_intro mo Try.func24 c24 fun H => ?_
  unfold e24 r24
  simp only [initEnv, initFrom]
  repeat' first | apply AM.seq | apply AM.block | apply AM.skip | apply AM.blkEnd | refine AM.exit rfl ?_ | (apply AM.reg (draw := false) []; simp only [annotate]) | apply DM.nil | refine DM.g1 rfl ?_ | refine DM.g0s (t' := true) rfl rfl ?_ | refine DM.g0s (t' := false) rfl rfl ?_ | refine DM.gus rfl ?_ | ((first | apply DM.ldm1 | apply DM.ldmA | apply DM.bxA | apply DM.al | apply DM.stE | apply DM.ixP | apply DM.lnM | apply DM.fdM | apply DM.bsl | apply DM.p); (repeat first | (change _ = _; first | exact setB_setB | (simp only [go_sem, Nat.reduceBEq, Nat.reduceAdd, Nat.reduceLeDiff, reduceIte] <;> rfl) | rfl | focus ((repeat' first | exact g_same | refine g_ne ‹_› ?_ | refine g_fresh ‹_› ?_ | refine g_T ?_ | exact t_same | refine t_ne ‹_› ?_ | refine t_fresh ‹_› ?_ | refine t_B ?_ | assumption); done)) | exact RD.r | apply RD.p | exact Nat.le_of_ble_eq_true rfl | decide); first | change DM _ _ _ _ _ _ | (intro b hb; repeat first | (refine fresh_elim hb ?_; intro _ _ hb) | (refine fresh_elimT hb ?_; intro hb))) | apply AM.condT rfl | apply AM.condF rfl | (apply DM.gbT; rfl) | (apply DM.gbF; rfl) | intro h
  apply DM.pcs h4
  · simp only [List.map_cons, List.map_nil, EOpd.ev, Env.get, Nat.reduceBEq, cond_true, cond_false, beq_self_eq_true] <;> rfl
  · exact avles_cons (prgLe codeA rfl) (avles_cons (AVLe.refl _) (avles_cons AVLe.nil (avles_cons AVLe.nil (avles_cons (AVLe.refl _) avles_nil))))
  repeat' first | apply AM.seq | apply AM.block | apply AM.skip | apply AM.blkEnd | refine AM.exit rfl ?_ | (apply AM.reg (draw := false) []; simp only [annotate]) | apply DM.nil | refine DM.g1 rfl ?_ | refine DM.g0s (t' := true) rfl rfl ?_ | refine DM.g0s (t' := false) rfl rfl ?_ | refine DM.gus rfl ?_ | ((first | apply DM.ldm1 | apply DM.ldmA | apply DM.bxA | apply DM.al | apply DM.stE | apply DM.ixP | apply DM.lnM | apply DM.fdM | apply DM.bsl | apply DM.p); (repeat first | (change _ = _; first | exact setB_setB | (simp only [go_sem, Nat.reduceBEq, Nat.reduceAdd, Nat.reduceLeDiff, reduceIte] <;> rfl) | rfl | focus ((repeat' first | exact g_same | refine g_ne ‹_› ?_ | refine g_fresh ‹_› ?_ | refine g_T ?_ | exact t_same | refine t_ne ‹_› ?_ | refine t_fresh ‹_› ?_ | refine t_B ?_ | assumption); done)) | exact RD.r | apply RD.p | exact Nat.le_of_ble_eq_true rfl | decide); first | change DM _ _ _ _ _ _ | (intro b hb; repeat first | (refine fresh_elim hb ?_; intro _ _ hb) | (refine fresh_elimT hb ?_; intro hb))) | apply AM.condT rfl | apply AM.condF rfl | (apply DM.gbT; rfl) | (apply DM.gbF; rfl) | intro h
  apply DM.pcs h3
  · simp only [List.map_cons, List.map_nil, EOpd.ev, Env.get, Nat.reduceBEq, cond_true, cond_false, beq_self_eq_true] <;> rfl
  · exact avles_cons (prgLe codeA rfl) (avles_cons (AVLe.refl _) (avles_cons AVLe.nil (avles_cons AVLe.nil (avles_cons (AVLe.refl _) avles_nil))))
  repeat' first | apply AM.seq | apply AM.block | apply AM.skip | apply AM.blkEnd | refine AM.exit rfl ?_ | (apply AM.reg (draw := false) []; simp only [annotate]) | apply DM.nil | refine DM.g1 rfl ?_ | refine DM.g0s (t' := true) rfl rfl ?_ | refine DM.g0s (t' := false) rfl rfl ?_ | refine DM.gus rfl ?_ | ((first | apply DM.ldm1 | apply DM.ldmA | apply DM.bxA | apply DM.al | apply DM.stE | apply DM.ixP | apply DM.lnM | apply DM.fdM | apply DM.bsl | apply DM.p); (repeat first | (change _ = _; first | exact setB_setB | (simp only [go_sem, Nat.reduceBEq, Nat.reduceAdd, Nat.reduceLeDiff, reduceIte] <;> rfl) | rfl | focus ((repeat' first | exact g_same | refine g_ne ‹_› ?_ | refine g_fresh ‹_› ?_ | refine g_T ?_ | exact t_same | refine t_ne ‹_› ?_ | refine t_fresh ‹_› ?_ | refine t_B ?_ | assumption); done)) | exact RD.r | apply RD.p | exact Nat.le_of_ble_eq_true rfl | decide); first | change DM _ _ _ _ _ _ | (intro b hb; repeat first | (refine fresh_elim hb ?_; intro _ _ hb) | (refine fresh_elimT hb ?_; intro hb))) | apply AM.condT rfl | apply AM.condF rfl | (apply DM.gbT; rfl) | (apply DM.gbF; rfl) | intro h
  (refine AM.reg [.agg [.int .i64 1, .int .i64 (-3), .str []], .bool true] ?_; simp only [annotate, AV.rows])
  repeat' first | apply AM.seq | apply AM.block | apply AM.skip | apply AM.blkEnd | refine AM.exit rfl ?_ | (apply AM.reg []; simp only [annotate]) | apply DM.nil | refine DM.g1 rfl ?_ | refine DM.g0s (t' := true) rfl rfl ?_ | refine DM.g0s (t' := false) rfl rfl ?_ | refine DM.gus rfl ?_ | ((first | apply DM.ldm1 | apply DM.ldmA | apply DM.bxA | apply DM.al | apply DM.stE | apply DM.ixP | apply DM.lnM | apply DM.fdM | apply DM.bsl | apply DM.p); (repeat first | (change _ = _; first | exact setB_setB | (simp only [go_sem, Nat.reduceBEq, Nat.reduceAdd, Nat.reduceLeDiff, reduceIte, decide_true, List.map_cons, List.map_nil, List.length_cons, List.length_nil] <;> rfl) | rfl | focus ((repeat' first | exact g_same | refine g_ne ‹_› ?_ | refine g_fresh ‹_› ?_ | refine g_T ?_ | exact t_same | refine t_ne ‹_› ?_ | refine t_fresh ‹_› ?_ | refine t_B ?_ | assumption); done)) | exact RD.r | apply RD.p | exact Nat.le_of_ble_eq_true rfl | decide); first | change DM _ _ _ _ _ _ | (intro b hb; repeat first | (refine fresh_elim hb ?_; intro _ _ hb) | (refine fresh_elimT hb ?_; intro hb))) | apply AM.condT rfl | apply AM.condF rfl | (apply DM.gbT; rfl) | (apply DM.gbF; rfl) | intro h
  all_goals try (exact absurd h (by decide))
  (apply DM.ixV (rows := [[.int .i64 1, .int .i64 (-3), .str []]]) (row := [.int .i64 1, .int .i64 (-3), .str []]) (z := 0) (by omega) rfl; (· rfl); (· rfl))
  repeat' first | apply AM.seq | apply AM.block | apply AM.skip | apply AM.blkEnd | refine AM.exit rfl ?_ | (apply AM.reg []; simp only [annotate]) | apply DM.nil | refine DM.g1 rfl ?_ | refine DM.g0s (t' := true) rfl rfl ?_ | refine DM.g0s (t' := false) rfl rfl ?_ | refine DM.gus rfl ?_ | ((first | apply DM.ldm1 | apply DM.ldmA | apply DM.bxA | apply DM.al | apply DM.stE | apply DM.ixP | apply DM.lnM | apply DM.fdM | apply DM.bsl | apply DM.p); (repeat first | (change _ = _; first | exact setB_setB | (simp only [go_sem, Nat.reduceBEq, Nat.reduceAdd, Nat.reduceLeDiff, reduceIte, decide_true] <;> rfl) | rfl | focus ((repeat' first | exact g_same | refine g_ne ‹_› ?_ | refine g_fresh ‹_› ?_ | refine g_T ?_ | exact t_same | refine t_ne ‹_› ?_ | refine t_fresh ‹_› ?_ | refine t_B ?_ | assumption); done)) | exact RD.r | apply RD.p | exact Nat.le_of_ble_eq_true rfl | decide); first | change DM _ _ _ _ _ _ | (intro b hb; repeat first | (refine fresh_elim hb ?_; intro _ _ hb) | (refine fresh_elimT hb ?_; intro hb))) | apply AM.condT rfl | apply AM.condF rfl | (apply DM.gbT; rfl) | (apply DM.gbF; rfl) | intro h
  all_goals try (exact absurd h (by decide))
  (apply DM.pcRs (p29 (-3)); (· simp only [go_sem, Nat.reduceBEq, Nat.reduceAdd] <;> rfl); (· exact AVLes.refl _))
  repeat' first | apply AM.seq | apply AM.block | apply AM.skip | apply AM.blkEnd | refine AM.exit rfl ?_ | (apply AM.reg []; simp only [annotate]) | apply DM.nil | refine DM.g1 rfl ?_ | refine DM.g0s (t' := true) rfl rfl ?_ | refine DM.g0s (t' := false) rfl rfl ?_ | refine DM.gus rfl ?_ | ((first | apply DM.ldm1 | apply DM.ldmA | apply DM.bxA | apply DM.al | apply DM.stE | apply DM.ixP | apply DM.lnM | apply DM.fdM | apply DM.bsl | apply DM.p); (repeat first | (change _ = _; first | exact setB_setB | (simp only [go_sem, Nat.reduceBEq, Nat.reduceAdd, Nat.reduceLeDiff, reduceIte, decide_true] <;> rfl) | rfl | focus ((repeat' first | exact g_same | refine g_ne ‹_› ?_ | refine g_fresh ‹_› ?_ | refine g_T ?_ | exact t_same | refine t_ne ‹_› ?_ | refine t_fresh ‹_› ?_ | refine t_B ?_ | assumption); done)) | exact RD.r | apply RD.p | exact Nat.le_of_ble_eq_true rfl | decide); first | change DM _ _ _ _ _ _ | (intro b hb; repeat first | (refine fresh_elim hb ?_; intro _ _ hb) | (refine fresh_elimT hb ?_; intro hb))) | apply AM.condT rfl | apply AM.condF rfl | (apply DM.gbT; rfl) | (apply DM.gbF; rfl) | intro h
  all_goals try (exact absurd h (by decide))
  apply DM.pcRs h28
  · simp only [List.map_cons, List.map_nil, EOpd.ev, Env.get, Nat.reduceBEq, cond_true, cond_false, beq_self_eq_true] <;> rfl
  · exact avles_cons (prgLe codeA rfl) (avles_cons AVLe.nil avles_nil)
  repeat' first | apply AM.seq | apply AM.block | apply AM.skip | apply AM.blkEnd | refine AM.exit rfl ?_ | (apply AM.reg []; simp only [annotate]) | apply DM.nil | refine DM.g1 rfl ?_ | refine DM.g0s (t' := true) rfl rfl ?_ | refine DM.g0s (t' := false) rfl rfl ?_ | refine DM.gus rfl ?_ | ((first | apply DM.ldm1 | apply DM.ldmA | apply DM.bxA | apply DM.al | apply DM.stE | apply DM.ixP | apply DM.lnM | apply DM.fdM | apply DM.bsl | apply DM.p); (repeat first | (change _ = _; first | exact setB_setB | (simp only [go_sem, Nat.reduceBEq, Nat.reduceAdd, Nat.reduceLeDiff, reduceIte, decide_true] <;> rfl) | rfl | focus ((repeat' first | exact g_same | refine g_ne ‹_› ?_ | refine g_fresh ‹_› ?_ | refine g_T ?_ | exact t_same | refine t_ne ‹_› ?_ | refine t_fresh ‹_› ?_ | refine t_B ?_ | assumption); done)) | exact RD.r | apply RD.p | exact Nat.le_of_ble_eq_true rfl | decide); first | change DM _ _ _ _ _ _ | (intro b hb; repeat first | (refine fresh_elim hb ?_; intro _ _ hb) | (refine fresh_elimT hb ?_; intro hb))) | apply AM.condT rfl | apply AM.condF rfl | (apply DM.gbT; rfl) | (apply DM.gbF; rfl) | intro h
  all_goals try (exact absurd h (by decide))
  ((first | apply AM.retA | apply AM.doneA); (· first | (apply results_t; (· simp only [go_sem, Nat.reduceBEq, Nat.reduceAdd, Nat.reduceLeDiff, reduceIte] <;> rfl)) | (apply results_c; (· rfl); (· repeat' first | exact g_same | refine g_ne ‹_› ?_ | refine g_fresh ‹_› ?_ | refine g_T ?_ | assumption); (· rfl)) | (apply results_ct; (· rfl); (· repeat' first | exact g_same | refine g_ne ‹_› ?_ | refine g_fresh ‹_› ?_ | refine g_T ?_ | assumption); (· rfl); (· simp only [go_sem, Nat.reduceBEq, Nat.reduceAdd, Nat.reduceLeDiff, reduceIte] <;> rfl)) | (apply results_tt; (· simp only [go_sem, Nat.reduceBEq, Nat.reduceAdd, Nat.reduceLeDiff, reduceIte] <;> rfl); (· simp only [go_sem, Nat.reduceBEq, Nat.reduceAdd, Nat.reduceLeDiff, reduceIte] <;> rfl)) | (apply results_ttt; (· simp only [go_sem, Nat.reduceBEq, Nat.reduceAdd, Nat.reduceLeDiff, reduceIte] <;> rfl); (· simp only [go_sem, Nat.reduceBEq, Nat.reduceAdd, Nat.reduceLeDiff, reduceIte] <;> rfl); (· simp only [go_sem, Nat.reduceBEq, Nat.reduceAdd, Nat.reduceLeDiff, reduceIte] <;> rfl)) | exact results_nil); rotate_left; (· (repeat' first | exact HSub.refl _ | assumption | refine HSub.setB ?_ ‹_› | refine HSub.setT ?_ ‹_›)))
  exact AVLe.refl _
abbrev codeB (op : Int) : List Ins_ := [⟨4, 0, []⟩, ⟨4, 1, []⟩, ⟨op, 0, []⟩, ⟨24, 0, []⟩]
abbrev runB (op : Int) (a b : Val) : Res := runP (prg (codeB op)) 0 [] [a, b] 9
def binOf (r : Res) : Val × Bool := if r.err = 0 then (match r.stack with | [v] => (v, true) | _ => (val0, false)) else (val0, false)
def binV (op : Int) (a b : Val) : Val × Bool := binOf (runB op a b)
theorem w30 (op : Int) (a c : Val) (r : Res) (h9 : Pure Try.prog 26 [(prg (codeB op)).av, .int .i64 0, .vs 3 [], .vs 3 [a.row, c.row], .int .i64 9] r.av) : Pure Try.prog 30 [.int .i64 op, a.av, c.av] (.tup [(binOf r).1.av, .bool (binOf r).2]) := by
  have key : ∀ {v : Val} {t : Bool}, binOf r = (v, t) → AVLe (.tup [v.av, .bool t]) (.tup [(binOf r).1.av, .bool (binOf r).2]) := by
    intro v t h
    rw [h]
    exact AVLe.refl _
  refine pure_intro mo Try.func30 c30 fun H => ?_
  unfold e30 r30
  simp only [initEnv, initFrom]
  repeat' first | apply AM.seq | apply AM.block | apply AM.skip | apply AM.blkEnd | refine AM.exit rfl ?_ | (apply AM.reg []; simp only [annotate]) | apply DM.nil | refine DM.g1 rfl ?_ | refine DM.g0s (t' := true) rfl rfl ?_ | refine DM.g0s (t' := false) rfl rfl ?_ | refine DM.gus rfl ?_ | ((first | apply DM.ldm1 | apply DM.ldmA | apply DM.bxA | apply DM.al | apply DM.stE | apply DM.ixP | apply DM.lnM | apply DM.fdM | apply DM.bsl | apply DM.p); (repeat first | (change _ = _; first | exact setB_setB | (simp only [go_sem, Nat.reduceBEq, Nat.reduceAdd, Nat.reduceLeDiff, reduceIte] <;> rfl) | rfl | focus ((repeat' first | exact g_same | refine g_ne ‹_› ?_ | refine g_fresh ‹_› ?_ | refine g_T ?_ | exact t_same | refine t_ne ‹_› ?_ | refine t_fresh ‹_› ?_ | refine t_B ?_ | assumption); done)) | exact RD.r | apply RD.p | exact Nat.le_of_ble_eq_true rfl | decide); first | change DM _ _ _ _ _ _ | (intro b hb; repeat first | (refine fresh_elim hb ?_; intro _ _ hb) | (refine fresh_elimT hb ?_; intro hb))) | apply AM.condT rfl | apply AM.condF rfl | (apply DM.gbT; rfl) | (apply DM.gbF; rfl) | intro h
  apply DM.pcs h9
  · simp only [List.map_cons, List.map_nil, EOpd.ev, Env.get, Nat.reduceBEq, cond_true, cond_false, beq_self_eq_true] <;> rfl
  · exact avles_cons (prgLe (codeB op) rfl) (avles_cons (AVLe.refl _) (avles_cons AVLe.nil (avles_cons (AVLe.refl _) (avles_cons (AVLe.refl _) avles_nil))))
  repeat' first | apply AM.seq | apply AM.block | apply AM.skip | apply AM.blkEnd | refine AM.exit rfl ?_ | (apply AM.reg []; simp only [annotate]) | apply DM.nil | refine DM.g1 rfl ?_ | refine DM.g0s (t' := true) rfl rfl ?_ | refine DM.g0s (t' := false) rfl rfl ?_ | refine DM.gus rfl ?_ | ((first | apply DM.ldm1 | apply DM.ldmA | apply DM.bxA | apply DM.al | apply DM.stE | apply DM.ixP | apply DM.lnM | apply DM.fdM | apply DM.bsl | apply DM.p); (repeat first | (change _ = _; first | exact setB_setB | (simp only [go_sem, Nat.reduceBEq, Nat.reduceAdd, Nat.reduceLeDiff, reduceIte] <;> rfl) | rfl | focus ((repeat' first | exact g_same | refine g_ne ‹_› ?_ | refine g_fresh ‹_› ?_ | refine g_T ?_ | exact t_same | refine t_ne ‹_› ?_ | refine t_fresh ‹_› ?_ | refine t_B ?_ | assumption); done)) | exact RD.r | apply RD.p | exact Nat.le_of_ble_eq_true rfl | decide); first | change DM _ _ _ _ _ _ | (intro b hb; repeat first | (refine fresh_elim hb ?_; intro _ _ hb) | (refine fresh_elimT hb ?_; intro hb))) | apply AM.condT rfl | apply AM.condF rfl | (apply DM.gbT; rfl) | (apply DM.gbF; rfl) | intro h
  · have he : r.err = 0 := by simp at h; exact h
    (apply AM.cond; (· rfl))
    · intro h
      repeat' first | apply AM.seq | apply AM.block | apply AM.skip | apply AM.blkEnd | refine AM.exit rfl ?_ | (apply AM.reg []; simp only [annotate]) | apply DM.nil | refine DM.g1 rfl ?_ | refine DM.g0s (t' := true) rfl rfl ?_ | refine DM.g0s (t' := false) rfl rfl ?_ | refine DM.gus rfl ?_ | ((first | apply DM.ldm1 | apply DM.ldmA | apply DM.bxA | apply DM.al | apply DM.stE | apply DM.ixP | apply DM.lnM | apply DM.fdM | apply DM.bsl | apply DM.p); (repeat first | (change _ = _; first | exact setB_setB | (simp only [go_sem, Nat.reduceBEq, Nat.reduceAdd, Nat.reduceLeDiff, reduceIte] <;> rfl) | rfl | focus ((repeat' first | exact g_same | refine g_ne ‹_› ?_ | refine g_fresh ‹_› ?_ | refine g_T ?_ | exact t_same | refine t_ne ‹_› ?_ | refine t_fresh ‹_› ?_ | refine t_B ?_ | assumption); done)) | exact RD.r | apply RD.p | exact Nat.le_of_ble_eq_true rfl | decide); first | change DM _ _ _ _ _ _ | (intro b hb; repeat first | (refine fresh_elim hb ?_; intro _ _ hb) | (refine fresh_elimT hb ?_; intro hb))) | apply AM.condT rfl | apply AM.condF rfl | (apply DM.gbT; rfl) | (apply DM.gbF; rfl) | intro h
      ((first | apply AM.retA | apply AM.doneA); (· first | (apply results_t; (· simp only [go_sem, Nat.reduceBEq, Nat.reduceAdd, Nat.reduceLeDiff, reduceIte] <;> rfl)) | (apply results_c; (· rfl); (· repeat' first | exact g_same | refine g_ne ‹_› ?_ | refine g_fresh ‹_› ?_ | refine g_T ?_ | assumption); (· rfl)) | (apply results_ct; (· rfl); (· repeat' first | exact g_same | refine g_ne ‹_› ?_ | refine g_fresh ‹_› ?_ | refine g_T ?_ | assumption); (· rfl); (· simp only [go_sem, Nat.reduceBEq, Nat.reduceAdd, Nat.reduceLeDiff, reduceIte] <;> rfl)) | (apply results_tt; (· simp only [go_sem, Nat.reduceBEq, Nat.reduceAdd, Nat.reduceLeDiff, reduceIte] <;> rfl); (· simp only [go_sem, Nat.reduceBEq, Nat.reduceAdd, Nat.reduceLeDiff, reduceIte] <;> rfl)) | (apply results_ttt; (· simp only [go_sem, Nat.reduceBEq, Nat.reduceAdd, Nat.reduceLeDiff, reduceIte] <;> rfl); (· simp only [go_sem, Nat.reduceBEq, Nat.reduceAdd, Nat.reduceLeDiff, reduceIte] <;> rfl); (· simp only [go_sem, Nat.reduceBEq, Nat.reduceAdd, Nat.reduceLeDiff, reduceIte] <;> rfl)) | exact results_nil); rotate_left; (· (repeat' first | exact HSub.refl _ | assumption | refine HSub.setB ?_ ‹_› | refine HSub.setT ?_ ‹_›)))
      refine key (v := val0) ?_
      rcases r with ⟨s, vs, u, e⟩
      rcases s with _ | ⟨v, _ | ⟨w, l⟩⟩
      · simp [binOf]
      · simp at h
      · simp [binOf]
    · intro h
      simp at h
      obtain ⟨v, hv⟩ : ∃ v, r.stack = [v] := by
        rcases hs : r.stack with _ | ⟨v, _ | ⟨w, l⟩⟩
        · rw [hs] at h; simp at h
        · exact ⟨v, rfl⟩
        · rw [hs] at h; simp at h; omega
      repeat' first | apply AM.seq | apply AM.block | apply AM.skip | apply AM.blkEnd | refine AM.exit rfl ?_ | (apply AM.reg []; simp only [annotate]) | apply DM.nil | refine DM.g1 rfl ?_ | refine DM.g0s (t' := true) rfl rfl ?_ | refine DM.g0s (t' := false) rfl rfl ?_ | refine DM.gus rfl ?_ | ((first | apply DM.ldm1 | apply DM.ldmA | apply DM.bxA | apply DM.al | apply DM.stE | apply DM.ixP | apply DM.lnM | apply DM.fdM | apply DM.bsl | apply DM.p); (repeat first | (change _ = _; first | exact setB_setB | (simp only [go_sem, Nat.reduceBEq, Nat.reduceAdd, Nat.reduceLeDiff, reduceIte] <;> rfl) | rfl | focus ((repeat' first | exact g_same | refine g_ne ‹_› ?_ | refine g_fresh ‹_› ?_ | refine g_T ?_ | exact t_same | refine t_ne ‹_› ?_ | refine t_fresh ‹_› ?_ | refine t_B ?_ | assumption); done)) | exact RD.r | apply RD.p | exact Nat.le_of_ble_eq_true rfl | decide); first | change DM _ _ _ _ _ _ | (intro b hb; repeat first | (refine fresh_elim hb ?_; intro _ _ hb) | (refine fresh_elimT hb ?_; intro hb))) | apply AM.condT rfl | apply AM.condF rfl | (apply DM.gbT; rfl) | (apply DM.gbF; rfl) | intro h
      (apply DM.ixV (rows := r.stack.map Val.row) (row := v.row) (z := 0) (by omega) (by rw [hv]; rfl); (· rfl); (· rfl))
      repeat' first | apply AM.seq | apply AM.block | apply AM.skip | apply AM.blkEnd | refine AM.exit rfl ?_ | (apply AM.reg []; simp only [annotate]) | apply DM.nil | refine DM.g1 rfl ?_ | refine DM.g0s (t' := true) rfl rfl ?_ | refine DM.g0s (t' := false) rfl rfl ?_ | refine DM.gus rfl ?_ | ((first | apply DM.ldm1 | apply DM.ldmA | apply DM.bxA | apply DM.al | apply DM.stE | apply DM.ixP | apply DM.lnM | apply DM.fdM | apply DM.bsl | apply DM.p); (repeat first | (change _ = _; first | exact setB_setB | (simp only [go_sem, Nat.reduceBEq, Nat.reduceAdd, Nat.reduceLeDiff, reduceIte] <;> rfl) | rfl | focus ((repeat' first | exact g_same | refine g_ne ‹_› ?_ | refine g_fresh ‹_› ?_ | refine g_T ?_ | exact t_same | refine t_ne ‹_› ?_ | refine t_fresh ‹_› ?_ | refine t_B ?_ | assumption); done)) | exact RD.r | apply RD.p | exact Nat.le_of_ble_eq_true rfl | decide); first | change DM _ _ _ _ _ _ | (intro b hb; repeat first | (refine fresh_elim hb ?_; intro _ _ hb) | (refine fresh_elimT hb ?_; intro hb))) | apply AM.condT rfl | apply AM.condF rfl | (apply DM.gbT; rfl) | (apply DM.gbF; rfl) | intro h
      ((first | apply AM.retA | apply AM.doneA); (· first | (apply results_t; (· simp only [go_sem, Nat.reduceBEq, Nat.reduceAdd, Nat.reduceLeDiff, reduceIte] <;> rfl)) | (apply results_c; (· rfl); (· repeat' first | exact g_same | refine g_ne ‹_› ?_ | refine g_fresh ‹_› ?_ | refine g_T ?_ | assumption); (· rfl)) | (apply results_ct; (· rfl); (· repeat' first | exact g_same | refine g_ne ‹_› ?_ | refine g_fresh ‹_› ?_ | refine g_T ?_ | assumption); (· rfl); (· simp only [go_sem, Nat.reduceBEq, Nat.reduceAdd, Nat.reduceLeDiff, reduceIte] <;> rfl)) | (apply results_tt; (· simp only [go_sem, Nat.reduceBEq, Nat.reduceAdd, Nat.reduceLeDiff, reduceIte] <;> rfl); (· simp only [go_sem, Nat.reduceBEq, Nat.reduceAdd, Nat.reduceLeDiff, reduceIte] <;> rfl)) | (apply results_ttt; (· simp only [go_sem, Nat.reduceBEq, Nat.reduceAdd, Nat.reduceLeDiff, reduceIte] <;> rfl); (· simp only [go_sem, Nat.reduceBEq, Nat.reduceAdd, Nat.reduceLeDiff, reduceIte] <;> rfl); (· simp only [go_sem, Nat.reduceBEq, Nat.reduceAdd, Nat.reduceLeDiff, reduceIte] <;> rfl)) | exact results_nil); rotate_left; (· (repeat' first | exact HSub.refl _ | assumption | refine HSub.setB ?_ ‹_› | refine HSub.setT ?_ ‹_›)))
      refine key ?_
      simp [binOf, he, hv]
  · ((first | apply AM.retA | apply AM.doneA); (· first | (apply results_t; (· simp only [go_sem, Nat.reduceBEq, Nat.reduceAdd, Nat.reduceLeDiff, reduceIte] <;> rfl)) | (apply results_c; (· rfl); (· repeat' first | exact g_same | refine g_ne ‹_› ?_ | refine g_fresh ‹_› ?_ | refine g_T ?_ | assumption); (· rfl)) | (apply results_ct; (· rfl); (· repeat' first | exact g_same | refine g_ne ‹_› ?_ | refine g_fresh ‹_› ?_ | refine g_T ?_ | assumption); (· rfl); (· simp only [go_sem, Nat.reduceBEq, Nat.reduceAdd, Nat.reduceLeDiff, reduceIte] <;> rfl)) | (apply results_tt; (· simp only [go_sem, Nat.reduceBEq, Nat.reduceAdd, Nat.reduceLeDiff, reduceIte] <;> rfl); (· simp only [go_sem, Nat.reduceBEq, Nat.reduceAdd, Nat.reduceLeDiff, reduceIte] <;> rfl)) | (apply results_ttt; (· simp only [go_sem, Nat.reduceBEq, Nat.reduceAdd, Nat.reduceLeDiff, reduceIte] <;> rfl); (· simp only [go_sem, Nat.reduceBEq, Nat.reduceAdd, Nat.reduceLeDiff, reduceIte] <;> rfl); (· simp only [go_sem, Nat.reduceBEq, Nat.reduceAdd, Nat.reduceLeDiff, reduceIte] <;> rfl)) | exact results_nil); rotate_left; (· (repeat' first | exact HSub.refl _ | assumption | refine HSub.setB ?_ ‹_› | refine HSub.setT ?_ ‹_›)))
    refine key (v := val0) ?_
    simp at h
    simp [binOf, h]
theorem p30 (op : Int) (a c : Val) : Pure Try.prog 30 [.int .i64 op, a.av, c.av] (.tup [(binV op a c).1.av, .bool (binV op a c).2]) :=
  w30 op a c (runB op a c) (p26 (prg (codeB op)) 0 [] [a, c] 9 (.inr (by simp)) (by omega))
end Go.Aw.T

namespace Go.Aw.T
open Go Go.Aw Go.Proofs Go.RowKit
set_option maxRecDepth 100000
attribute [local irreducible] Go.Aw.DM Go.Aw.AHeap.setB Go.Aw.AHeap.setT
attribute [local go_sem] peval EOpd.ev Env.get binInt binStr binBool buildParts AV.cells AV.okc setRange minmaxAV AV.one AV.ofCells eqCells eqCell bslRows cond_true cond_false beq_self_eq_true Bool.not_true Bool.not_false beq_true beq_false eq_self if_true Option.some.injEq List.length_cons List.length_nil List.take_succ_cons List.take_zero List.drop_succ_cons List.drop_zero List.set_cons_succ List.set_cons_zero List.nil_append List.cons_append List.append_nil and_self Option.map_some List.map_cons List.map_nil Bool.false_eq_true if_false Nat.zero_add Nat.add_zero true_and and_true Bool.and_true Bool.true_and List.getElem?_cons_zero List.getElem?_cons_succ Nat.zero_le Nat.le_refl
set_option linter.unusedSimpArgs false
set_option linter.unusedVariables false
abbrev iv (n : Int) : Val := ⟨1, n, []⟩
theorem isArith_or {op : Int} (h : isArith op = true) : op = 6 ∨ op = 7 ∨ op = 8 ∨ op = 9 ∨ op = 10 ∨ op = 13 ∨ op = 15 ∨ op = 16 := by
  simp [isArith] at h; omega
theorem sound_arith {op : Int} (h : isArith op = true) : soundP (prg (codeB op)) [] = true := by
  rcases isArith_or h with rfl | rfl | rfl | rfl | rfl | rfl | rfl | rfl <;> kernel_rfl
theorem validI {n : Int} (h1 : -1000 ≤ n) (h2 : n ≤ 1000) : validV (iv n) = true := by simp [validV, h1, h2]
theorem runF_go {p : Prog} {ps : List Val} {M : Mach} {k u : Nat} (hd : M.dn = false) (hpc : M.pc < p.code.length) (hs : (stepM p ps M).tr = false) : runF p ps (k + 1) M u = runF p ps k (stepM p ps M) (u + 1) := by
  rw [runF.eq_def]
  simp only [hd]
  rw [if_neg (by simp), if_neg (by omega), if_neg (by rw [hs]; simp)]
theorem runF_done {p : Prog} {ps : List Val} {M : Mach} {k u : Nat} (hd : M.dn = true) : runF p ps k M u = ⟨M.stack, M.vars, u, 0⟩ := by
  rw [runF.eq_def]
  simp only [hd, if_true]
theorem run_four {p : Prog} {ps : List Val} {M1 M2 M3 M4 : Mach} (hl : p.code.length = 4) (h1 : stepM p ps (mach0 [] 0) = M1) (h2 : stepM p ps M1 = M2) (h3 : stepM p ps M2 = M3) (h4 : stepM p ps M3 = M4)
    (t1 : M1.tr = false) (t2 : M2.tr = false) (t3 : M3.tr = false) (t4 : M4.tr = false) (d1 : M1.dn = false) (d2 : M2.dn = false) (d3 : M3.dn = false) (d4 : M4.dn = true) (p1 : M1.pc = 1) (p2 : M2.pc = 2) (p3 : M3.pc = 3) : runF p ps 9 (mach0 [] 0) 0 = ⟨M4.stack, M4.vars, 4, 0⟩ := by
  rw [runF_go (k := 8) rfl (by rw [hl]; simp [mach0]) (by rw [h1]; exact t1), h1, runF_go (k := 7) d1 (by rw [hl, p1]; omega) (by rw [h2]; exact t2), h2, runF_go (k := 6) d2 (by rw [hl, p2]; omega) (by rw [h3]; exact t3), h3, runF_go (k := 5) d3 (by rw [hl, p3]; omega) (by rw [h4]; exact t4), h4, runF_done d4]
  rfl
theorem W1_ : W 1 = 1 := by decide
theorem W2_ : W 2 = 2 := by decide
theorem W3_ : W 3 = 3 := by decide
theorem W4_ : W 4 = 4 := by decide
theorem st1 (op : Int) (A B : Val) : stepM (prg (codeB op)) [A, B] (mach0 [] 0) = ⟨[A], [], [], 1, false, false⟩ := by
  simp [stepM, mach0, stepX, push, W1_]
theorem st2 (op : Int) (A B : Val) : stepM (prg (codeB op)) [A, B] ⟨[A], [], [], 1, false, false⟩ = ⟨[A, B], [], [], 2, false, false⟩ := by
  simp [stepM, stepX, push, W2_]
theorem st4 (op : Int) (A B : Val) (s : List Val) : stepM (prg (codeB op)) [A, B] ⟨s, [], [], 3, false, false⟩ = ⟨s, [], [], 4, false, true⟩ := by
  simp [stepM, stepX, controlM, isArith, W4_]
theorem st3 {op : Int} (h : isArith op = true) (a b : Int) : stepM (prg (codeB op)) [iv a, iv b] ⟨[iv a, iv b], [], [], 2, false, false⟩ = ⟨[intV (arith op a b)], [], [], 3, false, false⟩ := by
  have h' := isArith_or h
  have e : stepM (prg (codeB op)) [iv a, iv b] ⟨[iv a, iv b], [], [], 2, false, false⟩ = stepX (prg (codeB op)) [iv a, iv b] ⟨op, 0, []⟩ ⟨[iv a, iv b], [], [], 3, false, false⟩ := by simp [stepM, W3_]
  rw [e]
  have e2 : stepX (prg (codeB op)) [iv a, iv b] ⟨op, 0, []⟩ ⟨[iv a, iv b], [], [], 3, false, false⟩ = arithM op ⟨[iv a, iv b], [], [], 3, false, false⟩ := by
    simp only [stepX]
    rw [if_neg (by omega), if_neg (by omega), if_neg (by omega), if_neg (by omega), if_neg (by omega), if_neg (by omega), if_neg (by omega), if_neg (by omega), if_pos h]
  rw [e2]
  simp [arithM, ints, pop, popTrap, result, push]
theorem run_arith {op : Int} (h : isArith op = true) {a b : Int} (ha : -1000 ≤ a ∧ a ≤ 1000) (hb : -1000 ≤ b ∧ b ≤ 1000) : runB op (iv a) (iv b) = ⟨[intV (arith op a b)], [], 4, 0⟩ := by
  have hbad : badArgs (prg (codeB op)) 0 [] [iv a, iv b] = false := by
    simp [badArgs, sound_arith h, validI ha.1 ha.2, validI hb.1 hb.2]
  rw [runB, runP, hbad, if_neg (by simp)]
  exact run_four rfl (st1 op _ _) (st2 op _ _) (st3 h a b) (st4 op _ _ _) rfl rfl rfl rfl rfl rfl rfl rfl rfl rfl rfl
theorem bin_arith {op : Int} (h : isArith op = true) {a b : Int} (ha : -1000 ≤ a ∧ a ≤ 1000) (hb : -1000 ≤ b ∧ b ≤ 1000) : binV op (iv a) (iv b) = (intV (arith op a b), true) := by
  simp only [binV, run_arith h ha hb, binOf]
  rfl
theorem q30 {op : Int} (h : isArith op = true) {a b : Int} (ha : -1000 ≤ a ∧ a ≤ 1000) (hb : -1000 ≤ b ∧ b ≤ 1000) : Pure Try.prog 30 [.int .i64 op, (iv a).av, (iv b).av] (.tup [(intV (arith op a b)).av, .bool true]) := by
  have := p30 op (iv a) (iv b)
  rw [bin_arith h ha hb] at this
  exact this
end Go.Aw.T

namespace Go.Aw.T
open Go Go.Aw Go.Proofs Go.RowKit
set_option maxRecDepth 100000
attribute [local irreducible] Go.Aw.DM Go.Aw.AHeap.setB Go.Aw.AHeap.setT
attribute [local go_sem] peval EOpd.ev Env.get binInt binStr binBool buildParts AV.cells AV.okc setRange minmaxAV AV.one AV.ofCells eqCells eqCell bslRows cond_true cond_false beq_self_eq_true Bool.not_true Bool.not_false beq_true beq_false eq_self if_true Option.some.injEq List.length_cons List.length_nil List.take_succ_cons List.take_zero List.drop_succ_cons List.drop_zero List.set_cons_succ List.set_cons_zero List.nil_append List.cons_append List.append_nil and_self Option.map_some List.map_cons List.map_nil Bool.false_eq_true if_false Nat.zero_add Nat.add_zero true_and and_true Bool.and_true Bool.true_and List.getElem?_cons_zero List.getElem?_cons_succ Nat.zero_le Nat.le_refl
set_option linter.unusedSimpArgs false
set_option linter.unusedVariables false
theorem mx1 : max (-1000000) (min 1000000 (1 : Int)) = 1 := by decide
theorem mx0 : max (-1000000) (min 1000000 (0 : Int)) = 0 := by decide
abbrev tv (s : List UInt8) : Val := ⟨2, 0, s⟩
theorem runF_trap {p : Prog} {ps : List Val} {M : Mach} {k u : Nat} (hd : M.dn = false) (hpc : M.pc < p.code.length) (hs : (stepM p ps M).tr = true) : runF p ps (k + 1) M u = ⟨[], [], 0, 25⟩ := by
  rw [runF.eq_def]
  simp only [hd]
  rw [if_neg (by simp), if_neg (by omega), if_pos hs]
theorem not_bad {op : Int} {A B : Val} (h : soundP (prg (codeB op)) [] = true) (hA : validV A = true) (hB : validV B = true) : badArgs (prg (codeB op)) 0 [] [A, B] = false := by simp [badArgs, h, hA, hB]
theorem run_ok {op : Int} {A B : Val} {s : List Val} (h : soundP (prg (codeB op)) [] = true) (hA : validV A = true) (hB : validV B = true) (h3 : stepM (prg (codeB op)) [A, B] ⟨[A, B], [], [], 2, false, false⟩ = ⟨s, [], [], 3, false, false⟩) : runB op A B = ⟨s, [], 4, 0⟩ := by
  rw [runB, runP, not_bad h hA hB, if_neg (by simp)]
  exact run_four rfl (st1 op _ _) (st2 op _ _) h3 (st4 op _ _ _) rfl rfl rfl rfl rfl rfl rfl rfl rfl rfl rfl
theorem run_bad {op : Int} {A B : Val} (h : soundP (prg (codeB op)) [] = true) (hA : validV A = true) (hB : validV B = true) (h3 : (stepM (prg (codeB op)) [A, B] ⟨[A, B], [], [], 2, false, false⟩).tr = true) : runB op A B = ⟨[], [], 0, 25⟩ := by
  rw [runB, runP, not_bad h hA hB, if_neg (by simp)]
  show runF _ _ 9 _ _ = _
  rw [runF_go (k := 8) rfl (by simp [mach0]) (by rw [st1]), st1, runF_go (k := 7) rfl (by simp) (by rw [st2]), st2, runF_trap (k := 6) rfl (by simp) h3]
end Go.Aw.T
