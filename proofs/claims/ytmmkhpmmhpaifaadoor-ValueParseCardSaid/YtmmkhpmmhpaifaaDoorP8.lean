/- Part of a proof; own work. -/
import Derived.Test.YtmmkhpmmhpaifaaDoorP1
import Derived.Test.YtmmkhpmmhpaifaaDoorP3
import Derived.Test.YtmmkhpmmhpaifaaDoorP2
import Derived.Test.YtmmkhpmmhpaifaaDoorP4
import Derived.Test.YtmmkhpmmhpaifaaDoorP5
import Derived.Test.YtmmkhpmmhpaifaaDoorP6
import Derived.Test.YtmmkhpmmhpaifaaDoorP7
import Derived.Test.YtmmkhpmmhpaifaaDoorK
import Derived.Test.YtmmkhpmmhpaifaaDoorC6
import Derived.Below
import Derived.Lib.SmallJoins
import Derived.Deep.LoopGhost
import Derived.BigCall
import Derived.Deep.Slices
import Derived.Deep.Fields
import Derived.ChangeSame
import Derived.WideShapes
import Derived.Test.YtmmkhpmmhpaifaaDoorRows
import Derived.ProofKit
import Derived.LaidMore
import Derived.OpenShut
import Derived.Stop.Joined
import Derived.LaidLaws
import Derived.Lib.LaidTab
import Derived.Stop.LaidErr
import Derived.MakeChecks
namespace Go.Aw.T
open Go Go.Aw Go.Proofs Go.RowKit
set_option maxRecDepth 100000
attribute [local irreducible] Go.Aw.DM Go.Aw.AHeap.setB Go.Aw.AHeap.setT
attribute [local go_sem] peval EOpd.ev Env.get binInt binStr binBool buildParts AV.cells AV.okc setRange minmaxAV AV.one AV.ofCells eqCells eqCell bslRows cond_true cond_false beq_self_eq_true Bool.not_true Bool.not_false beq_true beq_false eq_self if_true Option.some.injEq List.length_cons List.length_nil List.take_succ_cons List.take_zero List.drop_succ_cons List.drop_zero List.set_cons_succ List.set_cons_zero List.nil_append List.cons_append List.append_nil and_self Option.map_some List.map_cons List.map_nil Bool.false_eq_true if_false Nat.zero_add Nat.add_zero true_and and_true Bool.and_true Bool.true_and List.getElem?_cons_zero List.getElem?_cons_succ Nat.zero_le Nat.le_refl
set_option linter.unusedSimpArgs false
set_option linter.unusedVariables false
theorem p55 (s : List UInt8) : Pure Tryd.prog 55 [.str s] (.tup [(refFirst s).1.av, .int .i64 (refFirst s).2]) := by
  have key : ∀ {a : Val} {e : Nat}, refFirst s = (a, e) → AVLe (.tup [a.av, .int .i64 e]) (.tup [(refFirst s).1.av, .int .i64 (refFirst s).2]) := by
    intro a e h
    rw [h]
    exact AVLe.refl _
  cases s with
  | nil =>
    refine pure_intro mo Tryd.func55 c55 fun H => ?_
    unfold e55 r55
    simp only [initEnv, initFrom]
    repeat' first | apply AM.seq | apply AM.block | apply AM.skip | apply AM.blkEnd | refine AM.exit rfl ?_ | (apply AM.reg []; simp only [annotate]) | apply DM.nil | refine DM.g1 rfl ?_ | refine DM.g0s (t' := true) rfl rfl ?_ | refine DM.g0s (t' := false) rfl rfl ?_ | refine DM.gus rfl ?_ | ((first | apply DM.ldm1 | apply DM.ldmA | apply DM.bxA | apply DM.al | apply DM.stE | apply DM.ixP | apply DM.lnM | apply DM.fdM | apply DM.bsl | apply DM.p); (repeat first | (change _ = _; first | exact setB_setB | (simp only [go_sem, Nat.reduceBEq, Nat.reduceAdd, Nat.reduceLeDiff, reduceIte] <;> rfl) | rfl | focus ((repeat' first | exact g_same | refine g_ne ‹_› ?_ | refine g_fresh ‹_› ?_ | refine g_T ?_ | exact t_same | refine t_ne ‹_› ?_ | refine t_fresh ‹_› ?_ | refine t_B ?_ | assumption); done)) | exact RD.r | apply RD.p | exact Nat.le_of_ble_eq_true rfl | decide); first | change DM _ _ _ _ _ _ | (intro b hb; repeat first | (refine fresh_elim hb ?_; intro _ _ hb) | (refine fresh_elimT hb ?_; intro hb))) | apply AM.condT rfl | apply AM.condF rfl | (apply DM.gbT; rfl) | (apply DM.gbF; rfl) | intro h
    (apply DM.pcs (p77 []); (· simp only [go_sem, Nat.reduceBEq, Nat.reduceAdd] <;> rfl); (· exact AVLes.refl _))
    repeat' first | apply AM.seq | apply AM.block | apply AM.skip | apply AM.blkEnd | refine AM.exit rfl ?_ | (apply AM.reg []; simp only [annotate]) | apply DM.nil | refine DM.g1 rfl ?_ | refine DM.g0s (t' := true) rfl rfl ?_ | refine DM.g0s (t' := false) rfl rfl ?_ | refine DM.gus rfl ?_ | ((first | apply DM.ldm1 | apply DM.ldmA | apply DM.bxA | apply DM.al | apply DM.stE | apply DM.ixP | apply DM.lnM | apply DM.fdM | apply DM.bsl | apply DM.p); (repeat first | (change _ = _; first | exact setB_setB | (simp only [go_sem, Nat.reduceBEq, Nat.reduceAdd, Nat.reduceLeDiff, reduceIte] <;> rfl) | rfl | focus ((repeat' first | exact g_same | refine g_ne ‹_› ?_ | refine g_fresh ‹_› ?_ | refine g_T ?_ | exact t_same | refine t_ne ‹_› ?_ | refine t_fresh ‹_› ?_ | refine t_B ?_ | assumption); done)) | exact RD.r | apply RD.p | exact Nat.le_of_ble_eq_true rfl | decide); first | change DM _ _ _ _ _ _ | (intro b hb; repeat first | (refine fresh_elim hb ?_; intro _ _ hb) | (refine fresh_elimT hb ?_; intro hb))) | apply AM.condT rfl | apply AM.condF rfl | (apply DM.gbT; rfl) | (apply DM.gbF; rfl) | intro h
    (apply DM.pcs (p16 (refInt []).1); (· simp only [go_sem, Nat.reduceBEq, Nat.reduceAdd] <;> rfl); (· exact AVLes.refl _))
    repeat' first | apply AM.seq | apply AM.block | apply AM.skip | apply AM.blkEnd | refine AM.exit rfl ?_ | (apply AM.reg []; simp only [annotate]) | apply DM.nil | refine DM.g1 rfl ?_ | refine DM.g0s (t' := true) rfl rfl ?_ | refine DM.g0s (t' := false) rfl rfl ?_ | refine DM.gus rfl ?_ | ((first | apply DM.ldm1 | apply DM.ldmA | apply DM.bxA | apply DM.al | apply DM.stE | apply DM.ixP | apply DM.lnM | apply DM.fdM | apply DM.bsl | apply DM.p); (repeat first | (change _ = _; first | exact setB_setB | (simp only [go_sem, Nat.reduceBEq, Nat.reduceAdd, Nat.reduceLeDiff, reduceIte] <;> rfl) | rfl | focus ((repeat' first | exact g_same | refine g_ne ‹_› ?_ | refine g_fresh ‹_› ?_ | refine g_T ?_ | exact t_same | refine t_ne ‹_› ?_ | refine t_fresh ‹_› ?_ | refine t_B ?_ | assumption); done)) | exact RD.r | apply RD.p | exact Nat.le_of_ble_eq_true rfl | decide); first | change DM _ _ _ _ _ _ | (intro b hb; repeat first | (refine fresh_elim hb ?_; intro _ _ hb) | (refine fresh_elimT hb ?_; intro hb))) | apply AM.condT rfl | apply AM.condF rfl | (apply DM.gbT; rfl) | (apply DM.gbF; rfl) | intro h
    ((first | apply AM.retA | apply AM.doneA); (· first | (apply results_t; (· simp only [go_sem, Nat.reduceBEq, Nat.reduceAdd, Nat.reduceLeDiff, reduceIte] <;> rfl)) | (apply results_c; (· rfl); (· repeat' first | exact g_same | refine g_ne ‹_› ?_ | refine g_fresh ‹_› ?_ | refine g_T ?_ | assumption); (· rfl)) | (apply results_ct; (· rfl); (· repeat' first | exact g_same | refine g_ne ‹_› ?_ | refine g_fresh ‹_› ?_ | refine g_T ?_ | assumption); (· rfl); (· simp only [go_sem, Nat.reduceBEq, Nat.reduceAdd, Nat.reduceLeDiff, reduceIte] <;> rfl)) | (apply results_ctt; (· rfl); (· repeat' first | exact g_same | refine g_ne ‹_› ?_ | refine g_fresh ‹_› ?_ | refine g_T ?_ | assumption); (· rfl); (· simp only [go_sem, Nat.reduceBEq, Nat.reduceAdd, Nat.reduceLeDiff, reduceIte] <;> rfl); (· simp only [go_sem, Nat.reduceBEq, Nat.reduceAdd, Nat.reduceLeDiff, reduceIte] <;> rfl)) | (apply results_tt; (· simp only [go_sem, Nat.reduceBEq, Nat.reduceAdd, Nat.reduceLeDiff, reduceIte] <;> rfl); (· simp only [go_sem, Nat.reduceBEq, Nat.reduceAdd, Nat.reduceLeDiff, reduceIte] <;> rfl)) | (apply results_ttt; (· simp only [go_sem, Nat.reduceBEq, Nat.reduceAdd, Nat.reduceLeDiff, reduceIte] <;> rfl); (· simp only [go_sem, Nat.reduceBEq, Nat.reduceAdd, Nat.reduceLeDiff, reduceIte] <;> rfl); (· simp only [go_sem, Nat.reduceBEq, Nat.reduceAdd, Nat.reduceLeDiff, reduceIte] <;> rfl)) | exact results_nil); rotate_left; (· (repeat' first | exact HSub.refl _ | assumption | refine HSub.setB ?_ ‹_› | refine HSub.setT ?_ ‹_›)))
    exact key (a := iv (refInt []).1) (by unfold refFirst; rw [if_neg (by simp)])
  | cons c r =>
    have hs0 : ¬ (c :: r = []) := by simp
    refine pure_intro mo Tryd.func55 c55 fun H => ?_
    unfold e55 r55
    simp only [initEnv, initFrom]
    repeat' first | apply AM.seq | apply AM.block | apply AM.skip | apply AM.blkEnd | refine AM.exit rfl ?_ | (apply AM.reg []; simp only [annotate]) | apply DM.nil | refine DM.g1 rfl ?_ | refine DM.g0s (t' := true) rfl rfl ?_ | refine DM.g0s (t' := false) rfl rfl ?_ | refine DM.gus rfl ?_ | ((first | apply DM.ldm1 | apply DM.ldmA | apply DM.bxA | apply DM.al | apply DM.stE | apply DM.ixP | apply DM.lnM | apply DM.fdM | apply DM.bsl | apply DM.p); (repeat first | (change _ = _; first | exact setB_setB | (simp only [go_sem, Nat.reduceBEq, Nat.reduceAdd, Nat.reduceLeDiff, reduceIte] <;> rfl) | rfl | focus ((repeat' first | exact g_same | refine g_ne ‹_› ?_ | refine g_fresh ‹_› ?_ | refine g_T ?_ | exact t_same | refine t_ne ‹_› ?_ | refine t_fresh ‹_› ?_ | refine t_B ?_ | assumption); done)) | exact RD.r | apply RD.p | exact Nat.le_of_ble_eq_true rfl | decide); first | change DM _ _ _ _ _ _ | (intro b hb; repeat first | (refine fresh_elim hb ?_; intro _ _ hb) | (refine fresh_elimT hb ?_; intro hb))) | apply AM.condT rfl | apply AM.condF rfl | (apply DM.gbT; rfl) | (apply DM.gbF; rfl) | intro h
    (apply DM.idxSs (c :: r) .i64 0 c (by omega) rfl; (· rfl); (· rfl))
    repeat' first | apply AM.seq | apply AM.block | apply AM.skip | apply AM.blkEnd | refine AM.exit rfl ?_ | (apply AM.reg []; simp only [annotate]) | apply DM.nil | refine DM.g1 rfl ?_ | refine DM.g0s (t' := true) rfl rfl ?_ | refine DM.g0s (t' := false) rfl rfl ?_ | refine DM.gus rfl ?_ | ((first | apply DM.ldm1 | apply DM.ldmA | apply DM.bxA | apply DM.al | apply DM.stE | apply DM.ixP | apply DM.lnM | apply DM.fdM | apply DM.bsl | apply DM.p); (repeat first | (change _ = _; first | exact setB_setB | (simp only [go_sem, Nat.reduceBEq, Nat.reduceAdd, Nat.reduceLeDiff, reduceIte] <;> rfl) | rfl | focus ((repeat' first | exact g_same | refine g_ne ‹_› ?_ | refine g_fresh ‹_› ?_ | refine g_T ?_ | exact t_same | refine t_ne ‹_› ?_ | refine t_fresh ‹_› ?_ | refine t_B ?_ | assumption); done)) | exact RD.r | apply RD.p | exact Nat.le_of_ble_eq_true rfl | decide); first | change DM _ _ _ _ _ _ | (intro b hb; repeat first | (refine fresh_elim hb ?_; intro _ _ hb) | (refine fresh_elimT hb ?_; intro hb))) | apply AM.condT rfl | apply AM.condF rfl | (apply DM.gbT; rfl) | (apply DM.gbF; rfl) | intro h
    (apply AM.cond; (· rfl))
    · intro h
      have h34 := k34 h
      have e1 : textV (c :: r) = textR ((c :: r).drop 1) [] 1 := by simp [textV, h34]
      repeat' first | apply AM.seq | apply AM.block | apply AM.skip | apply AM.blkEnd | refine AM.exit rfl ?_ | (apply AM.reg []; simp only [annotate]) | apply DM.nil | refine DM.g1 rfl ?_ | refine DM.g0s (t' := true) rfl rfl ?_ | refine DM.g0s (t' := false) rfl rfl ?_ | refine DM.gus rfl ?_ | ((first | apply DM.ldm1 | apply DM.ldmA | apply DM.bxA | apply DM.al | apply DM.stE | apply DM.ixP | apply DM.lnM | apply DM.fdM | apply DM.bsl | apply DM.p); (repeat first | (change _ = _; first | exact setB_setB | (simp only [go_sem, Nat.reduceBEq, Nat.reduceAdd, Nat.reduceLeDiff, reduceIte] <;> rfl) | rfl | focus ((repeat' first | exact g_same | refine g_ne ‹_› ?_ | refine g_fresh ‹_› ?_ | refine g_T ?_ | exact t_same | refine t_ne ‹_› ?_ | refine t_fresh ‹_› ?_ | refine t_B ?_ | assumption); done)) | exact RD.r | apply RD.p | exact Nat.le_of_ble_eq_true rfl | decide); first | change DM _ _ _ _ _ _ | (intro b hb; repeat first | (refine fresh_elim hb ?_; intro _ _ hb) | (refine fresh_elimT hb ?_; intro hb))) | apply AM.condT rfl | apply AM.condF rfl | (apply DM.gbT; rfl) | (apply DM.gbF; rfl) | intro h
      (apply DM.pcs (p76 (c :: r)); (· simp only [go_sem, Nat.reduceBEq, Nat.reduceAdd] <;> rfl); (· exact AVLes.refl _))
      rw [← e1]
      repeat' first | apply AM.seq | apply AM.block | apply AM.skip | apply AM.blkEnd | refine AM.exit rfl ?_ | (apply AM.reg []; simp only [annotate]) | apply DM.nil | refine DM.g1 rfl ?_ | refine DM.g0s (t' := true) rfl rfl ?_ | refine DM.g0s (t' := false) rfl rfl ?_ | refine DM.gus rfl ?_ | ((first | apply DM.ldm1 | apply DM.ldmA | apply DM.bxA | apply DM.al | apply DM.stE | apply DM.ixP | apply DM.lnM | apply DM.fdM | apply DM.bsl | apply DM.p); (repeat first | (change _ = _; first | exact setB_setB | (simp only [go_sem, Nat.reduceBEq, Nat.reduceAdd, Nat.reduceLeDiff, reduceIte] <;> rfl) | rfl | focus ((repeat' first | exact g_same | refine g_ne ‹_› ?_ | refine g_fresh ‹_› ?_ | refine g_T ?_ | exact t_same | refine t_ne ‹_› ?_ | refine t_fresh ‹_› ?_ | refine t_B ?_ | assumption); done)) | exact RD.r | apply RD.p | exact Nat.le_of_ble_eq_true rfl | decide); first | change DM _ _ _ _ _ _ | (intro b hb; repeat first | (refine fresh_elim hb ?_; intro _ _ hb) | (refine fresh_elimT hb ?_; intro hb))) | apply AM.condT rfl | apply AM.condF rfl | (apply DM.gbT; rfl) | (apply DM.gbF; rfl) | intro h
      (apply DM.pcs (p43 (textV (c :: r)).1); (· simp only [go_sem, Nat.reduceBEq, Nat.reduceAdd] <;> rfl); (· exact AVLes.refl _))
      repeat' first | apply AM.seq | apply AM.block | apply AM.skip | apply AM.blkEnd | refine AM.exit rfl ?_ | (apply AM.reg []; simp only [annotate]) | apply DM.nil | refine DM.g1 rfl ?_ | refine DM.g0s (t' := true) rfl rfl ?_ | refine DM.g0s (t' := false) rfl rfl ?_ | refine DM.gus rfl ?_ | ((first | apply DM.ldm1 | apply DM.ldmA | apply DM.bxA | apply DM.al | apply DM.stE | apply DM.ixP | apply DM.lnM | apply DM.fdM | apply DM.bsl | apply DM.p); (repeat first | (change _ = _; first | exact setB_setB | (simp only [go_sem, Nat.reduceBEq, Nat.reduceAdd, Nat.reduceLeDiff, reduceIte] <;> rfl) | rfl | focus ((repeat' first | exact g_same | refine g_ne ‹_› ?_ | refine g_fresh ‹_› ?_ | refine g_T ?_ | exact t_same | refine t_ne ‹_› ?_ | refine t_fresh ‹_› ?_ | refine t_B ?_ | assumption); done)) | exact RD.r | apply RD.p | exact Nat.le_of_ble_eq_true rfl | decide); first | change DM _ _ _ _ _ _ | (intro b hb; repeat first | (refine fresh_elim hb ?_; intro _ _ hb) | (refine fresh_elimT hb ?_; intro hb))) | apply AM.condT rfl | apply AM.condF rfl | (apply DM.gbT; rfl) | (apply DM.gbF; rfl) | intro h
      ((first | apply AM.retA | apply AM.doneA); (· first | (apply results_t; (· simp only [go_sem, Nat.reduceBEq, Nat.reduceAdd, Nat.reduceLeDiff, reduceIte] <;> rfl)) | (apply results_c; (· rfl); (· repeat' first | exact g_same | refine g_ne ‹_› ?_ | refine g_fresh ‹_› ?_ | refine g_T ?_ | assumption); (· rfl)) | (apply results_ct; (· rfl); (· repeat' first | exact g_same | refine g_ne ‹_› ?_ | refine g_fresh ‹_› ?_ | refine g_T ?_ | assumption); (· rfl); (· simp only [go_sem, Nat.reduceBEq, Nat.reduceAdd, Nat.reduceLeDiff, reduceIte] <;> rfl)) | (apply results_ctt; (· rfl); (· repeat' first | exact g_same | refine g_ne ‹_› ?_ | refine g_fresh ‹_› ?_ | refine g_T ?_ | assumption); (· rfl); (· simp only [go_sem, Nat.reduceBEq, Nat.reduceAdd, Nat.reduceLeDiff, reduceIte] <;> rfl); (· simp only [go_sem, Nat.reduceBEq, Nat.reduceAdd, Nat.reduceLeDiff, reduceIte] <;> rfl)) | (apply results_tt; (· simp only [go_sem, Nat.reduceBEq, Nat.reduceAdd, Nat.reduceLeDiff, reduceIte] <;> rfl); (· simp only [go_sem, Nat.reduceBEq, Nat.reduceAdd, Nat.reduceLeDiff, reduceIte] <;> rfl)) | (apply results_ttt; (· simp only [go_sem, Nat.reduceBEq, Nat.reduceAdd, Nat.reduceLeDiff, reduceIte] <;> rfl); (· simp only [go_sem, Nat.reduceBEq, Nat.reduceAdd, Nat.reduceLeDiff, reduceIte] <;> rfl); (· simp only [go_sem, Nat.reduceBEq, Nat.reduceAdd, Nat.reduceLeDiff, reduceIte] <;> rfl)) | exact results_nil); rotate_left; (· (repeat' first | exact HSub.refl _ | assumption | refine HSub.setB ?_ ‹_› | refine HSub.setT ?_ ‹_›)))
      exact key (a := tx (textV (c :: r)).1) (by unfold refFirst; rw [if_pos (by simp [h34])])
    · intro h
      have h34 := n34 h
      repeat' first | apply AM.seq | apply AM.block | apply AM.skip | apply AM.blkEnd | refine AM.exit rfl ?_ | (apply AM.reg []; simp only [annotate]) | apply DM.nil | refine DM.g1 rfl ?_ | refine DM.g0s (t' := true) rfl rfl ?_ | refine DM.g0s (t' := false) rfl rfl ?_ | refine DM.gus rfl ?_ | ((first | apply DM.ldm1 | apply DM.ldmA | apply DM.bxA | apply DM.al | apply DM.stE | apply DM.ixP | apply DM.lnM | apply DM.fdM | apply DM.bsl | apply DM.p); (repeat first | (change _ = _; first | exact setB_setB | (simp only [go_sem, Nat.reduceBEq, Nat.reduceAdd, Nat.reduceLeDiff, reduceIte] <;> rfl) | rfl | focus ((repeat' first | exact g_same | refine g_ne ‹_› ?_ | refine g_fresh ‹_› ?_ | refine g_T ?_ | exact t_same | refine t_ne ‹_› ?_ | refine t_fresh ‹_› ?_ | refine t_B ?_ | assumption); done)) | exact RD.r | apply RD.p | exact Nat.le_of_ble_eq_true rfl | decide); first | change DM _ _ _ _ _ _ | (intro b hb; repeat first | (refine fresh_elim hb ?_; intro _ _ hb) | (refine fresh_elimT hb ?_; intro hb))) | apply AM.condT rfl | apply AM.condF rfl | (apply DM.gbT; rfl) | (apply DM.gbF; rfl) | intro h
      (apply DM.pcs (p77 (c :: r)); (· simp only [go_sem, Nat.reduceBEq, Nat.reduceAdd] <;> rfl); (· exact AVLes.refl _))
      repeat' first | apply AM.seq | apply AM.block | apply AM.skip | apply AM.blkEnd | refine AM.exit rfl ?_ | (apply AM.reg []; simp only [annotate]) | apply DM.nil | refine DM.g1 rfl ?_ | refine DM.g0s (t' := true) rfl rfl ?_ | refine DM.g0s (t' := false) rfl rfl ?_ | refine DM.gus rfl ?_ | ((first | apply DM.ldm1 | apply DM.ldmA | apply DM.bxA | apply DM.al | apply DM.stE | apply DM.ixP | apply DM.lnM | apply DM.fdM | apply DM.bsl | apply DM.p); (repeat first | (change _ = _; first | exact setB_setB | (simp only [go_sem, Nat.reduceBEq, Nat.reduceAdd, Nat.reduceLeDiff, reduceIte] <;> rfl) | rfl | focus ((repeat' first | exact g_same | refine g_ne ‹_› ?_ | refine g_fresh ‹_› ?_ | refine g_T ?_ | exact t_same | refine t_ne ‹_› ?_ | refine t_fresh ‹_› ?_ | refine t_B ?_ | assumption); done)) | exact RD.r | apply RD.p | exact Nat.le_of_ble_eq_true rfl | decide); first | change DM _ _ _ _ _ _ | (intro b hb; repeat first | (refine fresh_elim hb ?_; intro _ _ hb) | (refine fresh_elimT hb ?_; intro hb))) | apply AM.condT rfl | apply AM.condF rfl | (apply DM.gbT; rfl) | (apply DM.gbF; rfl) | intro h
      (apply DM.pcs (p16 (refInt (c :: r)).1); (· simp only [go_sem, Nat.reduceBEq, Nat.reduceAdd] <;> rfl); (· exact AVLes.refl _))
      repeat' first | apply AM.seq | apply AM.block | apply AM.skip | apply AM.blkEnd | refine AM.exit rfl ?_ | (apply AM.reg []; simp only [annotate]) | apply DM.nil | refine DM.g1 rfl ?_ | refine DM.g0s (t' := true) rfl rfl ?_ | refine DM.g0s (t' := false) rfl rfl ?_ | refine DM.gus rfl ?_ | ((first | apply DM.ldm1 | apply DM.ldmA | apply DM.bxA | apply DM.al | apply DM.stE | apply DM.ixP | apply DM.lnM | apply DM.fdM | apply DM.bsl | apply DM.p); (repeat first | (change _ = _; first | exact setB_setB | (simp only [go_sem, Nat.reduceBEq, Nat.reduceAdd, Nat.reduceLeDiff, reduceIte] <;> rfl) | rfl | focus ((repeat' first | exact g_same | refine g_ne ‹_› ?_ | refine g_fresh ‹_› ?_ | refine g_T ?_ | exact t_same | refine t_ne ‹_› ?_ | refine t_fresh ‹_› ?_ | refine t_B ?_ | assumption); done)) | exact RD.r | apply RD.p | exact Nat.le_of_ble_eq_true rfl | decide); first | change DM _ _ _ _ _ _ | (intro b hb; repeat first | (refine fresh_elim hb ?_; intro _ _ hb) | (refine fresh_elimT hb ?_; intro hb))) | apply AM.condT rfl | apply AM.condF rfl | (apply DM.gbT; rfl) | (apply DM.gbF; rfl) | intro h
      ((first | apply AM.retA | apply AM.doneA); (· first | (apply results_t; (· simp only [go_sem, Nat.reduceBEq, Nat.reduceAdd, Nat.reduceLeDiff, reduceIte] <;> rfl)) | (apply results_c; (· rfl); (· repeat' first | exact g_same | refine g_ne ‹_› ?_ | refine g_fresh ‹_› ?_ | refine g_T ?_ | assumption); (· rfl)) | (apply results_ct; (· rfl); (· repeat' first | exact g_same | refine g_ne ‹_› ?_ | refine g_fresh ‹_› ?_ | refine g_T ?_ | assumption); (· rfl); (· simp only [go_sem, Nat.reduceBEq, Nat.reduceAdd, Nat.reduceLeDiff, reduceIte] <;> rfl)) | (apply results_ctt; (· rfl); (· repeat' first | exact g_same | refine g_ne ‹_› ?_ | refine g_fresh ‹_› ?_ | refine g_T ?_ | assumption); (· rfl); (· simp only [go_sem, Nat.reduceBEq, Nat.reduceAdd, Nat.reduceLeDiff, reduceIte] <;> rfl); (· simp only [go_sem, Nat.reduceBEq, Nat.reduceAdd, Nat.reduceLeDiff, reduceIte] <;> rfl)) | (apply results_tt; (· simp only [go_sem, Nat.reduceBEq, Nat.reduceAdd, Nat.reduceLeDiff, reduceIte] <;> rfl); (· simp only [go_sem, Nat.reduceBEq, Nat.reduceAdd, Nat.reduceLeDiff, reduceIte] <;> rfl)) | (apply results_ttt; (· simp only [go_sem, Nat.reduceBEq, Nat.reduceAdd, Nat.reduceLeDiff, reduceIte] <;> rfl); (· simp only [go_sem, Nat.reduceBEq, Nat.reduceAdd, Nat.reduceLeDiff, reduceIte] <;> rfl); (· simp only [go_sem, Nat.reduceBEq, Nat.reduceAdd, Nat.reduceLeDiff, reduceIte] <;> rfl)) | exact results_nil); rotate_left; (· (repeat' first | exact HSub.refl _ | assumption | refine HSub.setB ?_ ‹_› | refine HSub.setT ?_ ‹_›)))
      exact key (a := iv (refInt (c :: r)).1) (by unfold refFirst; rw [if_neg (by simp [h34])])
theorem p21 (s : List UInt8) : Pure Tryd.prog 21 [.str s] (.tup [(refParse s).1.av, .int .i64 (refParse s).2]) := by
  have key : ∀ {a : Val} {e : Int}, refParse s = (a, e) → AVLe (.tup [a.av, .int .i64 e]) (.tup [(refParse s).1.av, .int .i64 (refParse s).2]) := by
    intro a e h
    rw [h]
    exact AVLe.refl _
  refine pure_intro mo Tryd.func21 c21 fun H => ?_
  unfold e21 r21
  simp only [initEnv, initFrom]
  repeat' first | apply AM.seq | apply AM.block | apply AM.skip | apply AM.blkEnd | refine AM.exit rfl ?_ | (apply AM.reg []; simp only [annotate]) | apply DM.nil | refine DM.g1 rfl ?_ | refine DM.g0s (t' := true) rfl rfl ?_ | refine DM.g0s (t' := false) rfl rfl ?_ | refine DM.gus rfl ?_ | ((first | apply DM.ldm1 | apply DM.ldmA | apply DM.bxA | apply DM.al | apply DM.stE | apply DM.ixP | apply DM.lnM | apply DM.fdM | apply DM.bsl | apply DM.p); (repeat first | (change _ = _; first | exact setB_setB | (simp only [go_sem, Nat.reduceBEq, Nat.reduceAdd, Nat.reduceLeDiff, reduceIte] <;> rfl) | rfl | focus ((repeat' first | exact g_same | refine g_ne ‹_› ?_ | refine g_fresh ‹_› ?_ | refine g_T ?_ | exact t_same | refine t_ne ‹_› ?_ | refine t_fresh ‹_› ?_ | refine t_B ?_ | assumption); done)) | exact RD.r | apply RD.p | exact Nat.le_of_ble_eq_true rfl | decide); first | change DM _ _ _ _ _ _ | (intro b hb; repeat first | (refine fresh_elim hb ?_; intro _ _ hb) | (refine fresh_elimT hb ?_; intro hb))) | apply AM.condT rfl | apply AM.condF rfl | (apply DM.gbT; rfl) | (apply DM.gbF; rfl) | intro h
  (apply DM.pcs (p55 s); (· simp only [go_sem, Nat.reduceBEq, Nat.reduceAdd] <;> rfl); (· exact AVLes.refl _))
  repeat' first | apply AM.seq | apply AM.block | apply AM.skip | apply AM.blkEnd | refine AM.exit rfl ?_ | (apply AM.reg []; simp only [annotate]) | apply DM.nil | refine DM.g1 rfl ?_ | refine DM.g0s (t' := true) rfl rfl ?_ | refine DM.g0s (t' := false) rfl rfl ?_ | refine DM.gus rfl ?_ | ((first | apply DM.ldm1 | apply DM.ldmA | apply DM.bxA | apply DM.al | apply DM.stE | apply DM.ixP | apply DM.lnM | apply DM.fdM | apply DM.bsl | apply DM.p); (repeat first | (change _ = _; first | exact setB_setB | (simp only [go_sem, Nat.reduceBEq, Nat.reduceAdd, Nat.reduceLeDiff, reduceIte] <;> rfl) | rfl | focus ((repeat' first | exact g_same | refine g_ne ‹_› ?_ | refine g_fresh ‹_› ?_ | refine g_T ?_ | exact t_same | refine t_ne ‹_› ?_ | refine t_fresh ‹_› ?_ | refine t_B ?_ | assumption); done)) | exact RD.r | apply RD.p | exact Nat.le_of_ble_eq_true rfl | decide); first | change DM _ _ _ _ _ _ | (intro b hb; repeat first | (refine fresh_elim hb ?_; intro _ _ hb) | (refine fresh_elimT hb ?_; intro hb))) | apply AM.condT rfl | apply AM.condF rfl | (apply DM.gbT; rfl) | (apply DM.gbF; rfl) | intro h
  · skip
    (apply AM.cond; (· rfl))
    · intro h1
      simp at h h1
      repeat' first | apply AM.seq | apply AM.block | apply AM.skip | apply AM.blkEnd | refine AM.exit rfl ?_ | (apply AM.reg []; simp only [annotate]) | apply DM.nil | refine DM.g1 rfl ?_ | refine DM.g0s (t' := true) rfl rfl ?_ | refine DM.g0s (t' := false) rfl rfl ?_ | refine DM.gus rfl ?_ | ((first | apply DM.ldm1 | apply DM.ldmA | apply DM.bxA | apply DM.al | apply DM.stE | apply DM.ixP | apply DM.lnM | apply DM.fdM | apply DM.bsl | apply DM.p); (repeat first | (change _ = _; first | exact setB_setB | (simp only [go_sem, Nat.reduceBEq, Nat.reduceAdd, Nat.reduceLeDiff, reduceIte] <;> rfl) | rfl | focus ((repeat' first | exact g_same | refine g_ne ‹_› ?_ | refine g_fresh ‹_› ?_ | refine g_T ?_ | exact t_same | refine t_ne ‹_› ?_ | refine t_fresh ‹_› ?_ | refine t_B ?_ | assumption); done)) | exact RD.r | apply RD.p | exact Nat.le_of_ble_eq_true rfl | decide); first | change DM _ _ _ _ _ _ | (intro b hb; repeat first | (refine fresh_elim hb ?_; intro _ _ hb) | (refine fresh_elimT hb ?_; intro hb))) | apply AM.condT rfl | apply AM.condF rfl | (apply DM.gbT; rfl) | (apply DM.gbF; rfl) | intro h
      ((first | apply AM.retA | apply AM.doneA); (· first | (apply results_t; (· simp only [go_sem, Nat.reduceBEq, Nat.reduceAdd, Nat.reduceLeDiff, reduceIte] <;> rfl)) | (apply results_c; (· rfl); (· repeat' first | exact g_same | refine g_ne ‹_› ?_ | refine g_fresh ‹_› ?_ | refine g_T ?_ | assumption); (· rfl)) | (apply results_ct; (· rfl); (· repeat' first | exact g_same | refine g_ne ‹_› ?_ | refine g_fresh ‹_› ?_ | refine g_T ?_ | assumption); (· rfl); (· simp only [go_sem, Nat.reduceBEq, Nat.reduceAdd, Nat.reduceLeDiff, reduceIte] <;> rfl)) | (apply results_ctt; (· rfl); (· repeat' first | exact g_same | refine g_ne ‹_› ?_ | refine g_fresh ‹_› ?_ | refine g_T ?_ | assumption); (· rfl); (· simp only [go_sem, Nat.reduceBEq, Nat.reduceAdd, Nat.reduceLeDiff, reduceIte] <;> rfl); (· simp only [go_sem, Nat.reduceBEq, Nat.reduceAdd, Nat.reduceLeDiff, reduceIte] <;> rfl)) | (apply results_tt; (· simp only [go_sem, Nat.reduceBEq, Nat.reduceAdd, Nat.reduceLeDiff, reduceIte] <;> rfl); (· simp only [go_sem, Nat.reduceBEq, Nat.reduceAdd, Nat.reduceLeDiff, reduceIte] <;> rfl)) | (apply results_ttt; (· simp only [go_sem, Nat.reduceBEq, Nat.reduceAdd, Nat.reduceLeDiff, reduceIte] <;> rfl); (· simp only [go_sem, Nat.reduceBEq, Nat.reduceAdd, Nat.reduceLeDiff, reduceIte] <;> rfl); (· simp only [go_sem, Nat.reduceBEq, Nat.reduceAdd, Nat.reduceLeDiff, reduceIte] <;> rfl)) | exact results_nil); rotate_left; (· (repeat' first | exact HSub.refl _ | assumption | refine HSub.setB ?_ ‹_› | refine HSub.setT ?_ ‹_›)))
      exact key (a := val0) (by unfold refParse; rw [if_pos (.inr (by omega))])
    · intro h1
      simp at h h1
      repeat' first | apply AM.seq | apply AM.block | apply AM.skip | apply AM.blkEnd | refine AM.exit rfl ?_ | (apply AM.reg []; simp only [annotate]) | apply DM.nil | refine DM.g1 rfl ?_ | refine DM.g0s (t' := true) rfl rfl ?_ | refine DM.g0s (t' := false) rfl rfl ?_ | refine DM.gus rfl ?_ | ((first | apply DM.ldm1 | apply DM.ldmA | apply DM.bxA | apply DM.al | apply DM.stE | apply DM.ixP | apply DM.lnM | apply DM.fdM | apply DM.bsl | apply DM.p); (repeat first | (change _ = _; first | exact setB_setB | (simp only [go_sem, Nat.reduceBEq, Nat.reduceAdd, Nat.reduceLeDiff, reduceIte] <;> rfl) | rfl | focus ((repeat' first | exact g_same | refine g_ne ‹_› ?_ | refine g_fresh ‹_› ?_ | refine g_T ?_ | exact t_same | refine t_ne ‹_› ?_ | refine t_fresh ‹_› ?_ | refine t_B ?_ | assumption); done)) | exact RD.r | apply RD.p | exact Nat.le_of_ble_eq_true rfl | decide); first | change DM _ _ _ _ _ _ | (intro b hb; repeat first | (refine fresh_elim hb ?_; intro _ _ hb) | (refine fresh_elimT hb ?_; intro hb))) | apply AM.condT rfl | apply AM.condF rfl | (apply DM.gbT; rfl) | (apply DM.gbF; rfl) | intro h
      (apply DM.pcs (p20 (refFirst s).1); (· simp only [go_sem, Nat.reduceBEq, Nat.reduceAdd] <;> rfl); (· exact AVLes.refl _))
      repeat' first | apply AM.seq | apply AM.block | apply AM.skip | apply AM.blkEnd | refine AM.exit rfl ?_ | (apply AM.reg []; simp only [annotate]) | apply DM.nil | refine DM.g1 rfl ?_ | refine DM.g0s (t' := true) rfl rfl ?_ | refine DM.g0s (t' := false) rfl rfl ?_ | refine DM.gus rfl ?_ | ((first | apply DM.ldm1 | apply DM.ldmA | apply DM.bxA | apply DM.al | apply DM.stE | apply DM.ixP | apply DM.lnM | apply DM.fdM | apply DM.bsl | apply DM.p); (repeat first | (change _ = _; first | exact setB_setB | (simp only [go_sem, Nat.reduceBEq, Nat.reduceAdd, Nat.reduceLeDiff, reduceIte] <;> rfl) | rfl | focus ((repeat' first | exact g_same | refine g_ne ‹_› ?_ | refine g_fresh ‹_› ?_ | refine g_T ?_ | exact t_same | refine t_ne ‹_› ?_ | refine t_fresh ‹_› ?_ | refine t_B ?_ | assumption); done)) | exact RD.r | apply RD.p | exact Nat.le_of_ble_eq_true rfl | decide); first | change DM _ _ _ _ _ _ | (intro b hb; repeat first | (refine fresh_elim hb ?_; intro _ _ hb) | (refine fresh_elimT hb ?_; intro hb))) | apply AM.condT rfl | apply AM.condF rfl | (apply DM.gbT; rfl) | (apply DM.gbF; rfl) | intro h
      (apply AM.cond; (· rfl))
      · intro h2
        simp at h2
        repeat' first | apply AM.seq | apply AM.block | apply AM.skip | apply AM.blkEnd | refine AM.exit rfl ?_ | (apply AM.reg []; simp only [annotate]) | apply DM.nil | refine DM.g1 rfl ?_ | refine DM.g0s (t' := true) rfl rfl ?_ | refine DM.g0s (t' := false) rfl rfl ?_ | refine DM.gus rfl ?_ | ((first | apply DM.ldm1 | apply DM.ldmA | apply DM.bxA | apply DM.al | apply DM.stE | apply DM.ixP | apply DM.lnM | apply DM.fdM | apply DM.bsl | apply DM.p); (repeat first | (change _ = _; first | exact setB_setB | (simp only [go_sem, Nat.reduceBEq, Nat.reduceAdd, Nat.reduceLeDiff, reduceIte] <;> rfl) | rfl | focus ((repeat' first | exact g_same | refine g_ne ‹_› ?_ | refine g_fresh ‹_› ?_ | refine g_T ?_ | exact t_same | refine t_ne ‹_› ?_ | refine t_fresh ‹_› ?_ | refine t_B ?_ | assumption); done)) | exact RD.r | apply RD.p | exact Nat.le_of_ble_eq_true rfl | decide); first | change DM _ _ _ _ _ _ | (intro b hb; repeat first | (refine fresh_elim hb ?_; intro _ _ hb) | (refine fresh_elimT hb ?_; intro hb))) | apply AM.condT rfl | apply AM.condF rfl | (apply DM.gbT; rfl) | (apply DM.gbF; rfl) | intro h
        ((first | apply AM.retA | apply AM.doneA); (· first | (apply results_t; (· simp only [go_sem, Nat.reduceBEq, Nat.reduceAdd, Nat.reduceLeDiff, reduceIte] <;> rfl)) | (apply results_c; (· rfl); (· repeat' first | exact g_same | refine g_ne ‹_› ?_ | refine g_fresh ‹_› ?_ | refine g_T ?_ | assumption); (· rfl)) | (apply results_ct; (· rfl); (· repeat' first | exact g_same | refine g_ne ‹_› ?_ | refine g_fresh ‹_› ?_ | refine g_T ?_ | assumption); (· rfl); (· simp only [go_sem, Nat.reduceBEq, Nat.reduceAdd, Nat.reduceLeDiff, reduceIte] <;> rfl)) | (apply results_ctt; (· rfl); (· repeat' first | exact g_same | refine g_ne ‹_› ?_ | refine g_fresh ‹_› ?_ | refine g_T ?_ | assumption); (· rfl); (· simp only [go_sem, Nat.reduceBEq, Nat.reduceAdd, Nat.reduceLeDiff, reduceIte] <;> rfl); (· simp only [go_sem, Nat.reduceBEq, Nat.reduceAdd, Nat.reduceLeDiff, reduceIte] <;> rfl)) | (apply results_tt; (· simp only [go_sem, Nat.reduceBEq, Nat.reduceAdd, Nat.reduceLeDiff, reduceIte] <;> rfl); (· simp only [go_sem, Nat.reduceBEq, Nat.reduceAdd, Nat.reduceLeDiff, reduceIte] <;> rfl)) | (apply results_ttt; (· simp only [go_sem, Nat.reduceBEq, Nat.reduceAdd, Nat.reduceLeDiff, reduceIte] <;> rfl); (· simp only [go_sem, Nat.reduceBEq, Nat.reduceAdd, Nat.reduceLeDiff, reduceIte] <;> rfl); (· simp only [go_sem, Nat.reduceBEq, Nat.reduceAdd, Nat.reduceLeDiff, reduceIte] <;> rfl)) | exact results_nil); rotate_left; (· (repeat' first | exact HSub.refl _ | assumption | refine HSub.setB ?_ ‹_› | refine HSub.setT ?_ ‹_›)))
        exact key (a := val0) (by unfold refParse; rw [if_neg (by omega), if_pos h2])
      · intro h2
        simp at h2
        repeat' first | apply AM.seq | apply AM.block | apply AM.skip | apply AM.blkEnd | refine AM.exit rfl ?_ | (apply AM.reg []; simp only [annotate]) | apply DM.nil | refine DM.g1 rfl ?_ | refine DM.g0s (t' := true) rfl rfl ?_ | refine DM.g0s (t' := false) rfl rfl ?_ | refine DM.gus rfl ?_ | ((first | apply DM.ldm1 | apply DM.ldmA | apply DM.bxA | apply DM.al | apply DM.stE | apply DM.ixP | apply DM.lnM | apply DM.fdM | apply DM.bsl | apply DM.p); (repeat first | (change _ = _; first | exact setB_setB | (simp only [go_sem, Nat.reduceBEq, Nat.reduceAdd, Nat.reduceLeDiff, reduceIte] <;> rfl) | rfl | focus ((repeat' first | exact g_same | refine g_ne ‹_› ?_ | refine g_fresh ‹_› ?_ | refine g_T ?_ | exact t_same | refine t_ne ‹_› ?_ | refine t_fresh ‹_› ?_ | refine t_B ?_ | assumption); done)) | exact RD.r | apply RD.p | exact Nat.le_of_ble_eq_true rfl | decide); first | change DM _ _ _ _ _ _ | (intro b hb; repeat first | (refine fresh_elim hb ?_; intro _ _ hb) | (refine fresh_elimT hb ?_; intro hb))) | apply AM.condT rfl | apply AM.condF rfl | (apply DM.gbT; rfl) | (apply DM.gbF; rfl) | intro h
        ((first | apply AM.retA | apply AM.doneA); (· first | (apply results_t; (· simp only [go_sem, Nat.reduceBEq, Nat.reduceAdd, Nat.reduceLeDiff, reduceIte] <;> rfl)) | (apply results_c; (· rfl); (· repeat' first | exact g_same | refine g_ne ‹_› ?_ | refine g_fresh ‹_› ?_ | refine g_T ?_ | assumption); (· rfl)) | (apply results_ct; (· rfl); (· repeat' first | exact g_same | refine g_ne ‹_› ?_ | refine g_fresh ‹_› ?_ | refine g_T ?_ | assumption); (· rfl); (· simp only [go_sem, Nat.reduceBEq, Nat.reduceAdd, Nat.reduceLeDiff, reduceIte] <;> rfl)) | (apply results_ctt; (· rfl); (· repeat' first | exact g_same | refine g_ne ‹_› ?_ | refine g_fresh ‹_› ?_ | refine g_T ?_ | assumption); (· rfl); (· simp only [go_sem, Nat.reduceBEq, Nat.reduceAdd, Nat.reduceLeDiff, reduceIte] <;> rfl); (· simp only [go_sem, Nat.reduceBEq, Nat.reduceAdd, Nat.reduceLeDiff, reduceIte] <;> rfl)) | (apply results_tt; (· simp only [go_sem, Nat.reduceBEq, Nat.reduceAdd, Nat.reduceLeDiff, reduceIte] <;> rfl); (· simp only [go_sem, Nat.reduceBEq, Nat.reduceAdd, Nat.reduceLeDiff, reduceIte] <;> rfl)) | (apply results_ttt; (· simp only [go_sem, Nat.reduceBEq, Nat.reduceAdd, Nat.reduceLeDiff, reduceIte] <;> rfl); (· simp only [go_sem, Nat.reduceBEq, Nat.reduceAdd, Nat.reduceLeDiff, reduceIte] <;> rfl); (· simp only [go_sem, Nat.reduceBEq, Nat.reduceAdd, Nat.reduceLeDiff, reduceIte] <;> rfl)) | exact results_nil); rotate_left; (· (repeat' first | exact HSub.refl _ | assumption | refine HSub.setB ?_ ‹_› | refine HSub.setT ?_ ‹_›)))
        exact key (a := (refFirst s).1) (by unfold refParse; rw [if_neg (by omega), if_neg (by simp [h2])])
  · ((first | apply AM.retA | apply AM.doneA); (· first | (apply results_t; (· simp only [go_sem, Nat.reduceBEq, Nat.reduceAdd, Nat.reduceLeDiff, reduceIte] <;> rfl)) | (apply results_c; (· rfl); (· repeat' first | exact g_same | refine g_ne ‹_› ?_ | refine g_fresh ‹_› ?_ | refine g_T ?_ | assumption); (· rfl)) | (apply results_ct; (· rfl); (· repeat' first | exact g_same | refine g_ne ‹_› ?_ | refine g_fresh ‹_› ?_ | refine g_T ?_ | assumption); (· rfl); (· simp only [go_sem, Nat.reduceBEq, Nat.reduceAdd, Nat.reduceLeDiff, reduceIte] <;> rfl)) | (apply results_ctt; (· rfl); (· repeat' first | exact g_same | refine g_ne ‹_› ?_ | refine g_fresh ‹_› ?_ | refine g_T ?_ | assumption); (· rfl); (· simp only [go_sem, Nat.reduceBEq, Nat.reduceAdd, Nat.reduceLeDiff, reduceIte] <;> rfl); (· simp only [go_sem, Nat.reduceBEq, Nat.reduceAdd, Nat.reduceLeDiff, reduceIte] <;> rfl)) | (apply results_tt; (· simp only [go_sem, Nat.reduceBEq, Nat.reduceAdd, Nat.reduceLeDiff, reduceIte] <;> rfl); (· simp only [go_sem, Nat.reduceBEq, Nat.reduceAdd, Nat.reduceLeDiff, reduceIte] <;> rfl)) | (apply results_ttt; (· simp only [go_sem, Nat.reduceBEq, Nat.reduceAdd, Nat.reduceLeDiff, reduceIte] <;> rfl); (· simp only [go_sem, Nat.reduceBEq, Nat.reduceAdd, Nat.reduceLeDiff, reduceIte] <;> rfl); (· simp only [go_sem, Nat.reduceBEq, Nat.reduceAdd, Nat.reduceLeDiff, reduceIte] <;> rfl)) | exact results_nil); rotate_left; (· (repeat' first | exact HSub.refl _ | assumption | refine HSub.setB ?_ ‹_› | refine HSub.setT ?_ ‹_›)))
    simp at h
    exact key (a := val0) (by unfold refParse; rw [if_pos (.inl (by omega))])
end Go.Aw.T

namespace Go.Aw.T
open Go Go.Aw Go.Proofs Go.RowKit
set_option maxRecDepth 100000
attribute [local irreducible] Go.Aw.DM Go.Aw.AHeap.setB Go.Aw.AHeap.setT
attribute [local go_sem] peval EOpd.ev Env.get binInt binStr binBool buildParts AV.cells AV.okc setRange minmaxAV AV.one AV.ofCells eqCells eqCell bslRows cond_true cond_false beq_self_eq_true Bool.not_true Bool.not_false beq_true beq_false eq_self if_true Option.some.injEq List.length_cons List.length_nil List.take_succ_cons List.take_zero List.drop_succ_cons List.drop_zero List.set_cons_succ List.set_cons_zero List.nil_append List.cons_append List.append_nil and_self Option.map_some List.map_cons List.map_nil Bool.false_eq_true if_false Nat.zero_add Nat.add_zero true_and and_true Bool.and_true Bool.true_and List.getElem?_cons_zero List.getElem?_cons_succ Nat.zero_le Nat.le_refl
set_option linter.unusedSimpArgs false
set_option linter.unusedVariables false
theorem showV_len (v : Val) : (showV v).length ≤ 1002 := by
  unfold showV
  split
  · decide
  · rename_i h
    have h' : validV v = true := by simpa using h
    simp only [validV, Bool.or_eq_true, Bool.and_eq_true, decide_eq_true_eq] at h'
    split
    · rename_i hk
      exact itoa_len (by rcases h' with h' | h' <;> omega) (by rcases h' with h' | h' <;> omega)
    · rename_i hk
      have := showT_len v.s
      rcases h' with h' | h' <;> omega
theorem awake_call (w : World) : Calls Tryd.prog 12 #[] w fun e w' => e = .returned (.bool true) ∧ Below w.heap.size w w' := by
  refine (calls_plain p12 w [] (fun m => by simp only [RvL])).mono ?_
  rintro e w' ⟨⟨v, rfl, m, hv⟩, hb⟩
  simp only [Rv] at hv
  subst hv
  exact ⟨rfl, hb⟩
theorem show_ref (k n : Int) (s : List UInt8) (hs : s.length ≤ maxLen) (w : World) : Calls Tryd.prog 19 #[.agg #[.int .i64 k, .int .i64 n, .string ⟨⟨s⟩⟩]] w fun e w' => e = .returned (.string ⟨⟨showV ⟨k, n, s⟩⟩⟩) ∧ Below w.heap.size w w' := by
  refine (calls_plain (p19 ⟨k, n, s⟩) w [.agg ⟨[.int .i64 k, .int .i64 n, .string ⟨⟨s⟩⟩]⟩] (fun m => by simp only [RvL, Rv]; exact ⟨_, _, rfl, ⟨_, rfl, _, _, rfl, rfl, _, _, rfl, rfl, _, _, rfl, ⟨rfl, hs⟩, rfl⟩, rfl⟩)).mono ?_
  rintro e w' ⟨⟨v, rfl, m, hv⟩, hb⟩
  simp only [Rv] at hv
  obtain ⟨rfl, _⟩ := hv
  exact ⟨rfl, hb⟩
theorem valid_ref (k n : Int) (s : List UInt8) (hs : s.length ≤ maxLen) (w : World) : Calls Tryd.prog 20 #[.agg #[.int .i64 k, .int .i64 n, .string ⟨⟨s⟩⟩]] w fun e w' => e = .returned (.bool (validV ⟨k, n, s⟩)) ∧ Below w.heap.size w w' := by
  refine (calls_plain (p20 ⟨k, n, s⟩) w [.agg ⟨[.int .i64 k, .int .i64 n, .string ⟨⟨s⟩⟩]⟩] (fun m => by simp only [RvL, Rv]; exact ⟨_, _, rfl, ⟨_, rfl, _, _, rfl, rfl, _, _, rfl, rfl, _, _, rfl, ⟨rfl, hs⟩, rfl⟩, rfl⟩)).mono ?_
  rintro e w' ⟨⟨v, rfl, m, hv⟩, hb⟩
  simp only [Rv] at hv
  subst hv
  exact ⟨rfl, hb⟩
theorem parse_ref_call (s : List UInt8) (hs : s.length ≤ maxLen) (w : World) : Calls Tryd.prog 21 #[.string ⟨⟨s⟩⟩] w fun e w' => e = .returned (.tuple #[.agg #[.int .i64 (refParse s).1.k, .int .i64 (refParse s).1.n, .string ⟨⟨(refParse s).1.s⟩⟩], .int .i64 (refParse s).2]) ∧ Below w.heap.size w w' := by
  refine (calls_plain (p21 s) w [.string ⟨⟨s⟩⟩] (fun m => by simp only [RvL, Rv]; exact ⟨_, _, rfl, ⟨rfl, hs⟩, rfl⟩)).mono ?_
  rintro e w' ⟨⟨v, rfl, m, hv⟩, hb⟩
  simp only [Rv, RvL] at hv
  obtain ⟨_, rfl, _, _, rfl, ⟨_, rfl, _, _, rfl, rfl, _, _, rfl, rfl, _, _, rfl, ⟨rfl, _⟩, rfl⟩, _, _, rfl, rfl, rfl⟩ := hv
  exact ⟨rfl, hb⟩
open Go.Lib in
set_option maxHeartbeats 4000000 in
theorem w5 (k n : Int) (s : List UInt8) (hs : s.length ≤ maxLen) (w : World) (hL : LaidW w) : Calls Tryd.prog 5 #[.agg #[.int .i64 k, .int .i64 n, .string ⟨⟨s⟩⟩]] w fun e w' => e = .returned (.bool true) ∧ Below w.heap.size w w' := by
  go_enter Tryd.func5, Tryd.ntmps5
  go_wp2_with (go_at_call 12; refine (awake_call _).mono ?_)
  rintro e w1 ⟨rfl, hb1⟩
  obtain ⟨O, hO⟩ : ∃ O, O = Obj.cells #[Value.int .i64 k, Value.int .i64 n, Value.string ⟨⟨s⟩⟩] 23 := ⟨_, rfl⟩
  rw [← hO] at hb1
  have box1 : w1.heap[w.heap.size]? = some O := (hb1.block _ (by simp)).trans (alloc_new w O)
  have hw1 : Below w.heap.size w w1 := ((Below.refl _ w).alloc (Nat.le_refl _) O).trans (hb1.mono (by simp))
  have hsz1 : w.heap.size < w1.heap.size := (Array.getElem?_eq_some_iff.1 box1).1
  have hL1 := hL.below hw1
  have cl : ∀ W : World, W.heap[w.heap.size]? = some O → W.cell? ⟨w.heap.size, 0, none⟩ = some (.int .i64 k) ∧ W.cell? ⟨w.heap.size, 1, none⟩ = some (.int .i64 n) ∧ W.cell? ⟨w.heap.size, 2, none⟩ = some (.string ⟨⟨s⟩⟩) := fun W h => by
    rw [hO] at h
    exact ⟨by rw [Lib.cell_of_heap h]; rfl, by rw [Lib.cell_of_heap h]; rfl, by rw [Lib.cell_of_heap h]; rfl⟩
  clear hO hb1
  obtain ⟨a0, a1, a2⟩ := cl w1 box1
  have ssz : (⟨⟨s⟩⟩ : ByteArray).size = s.length := rfl
  by_cases hbig : (1000 : Int) < (s.length : Int)
  · clear cl
    go_wp2
    go_ret
    exact ⟨rfl, hw1⟩
  · go_wp2_with (go_at_call 17; refine (w17v ⟨k, n, s⟩ hs w1 hL1).mono ?_)
    rintro e w2 ⟨rfl, hb2⟩
    have hL2 := hL1.below hb2
    have box2 := (hb2.block _ hsz1).trans box1
    have hsz2 : w.heap.size < w2.heap.size := (Array.getElem?_eq_some_iff.1 box2).1
    have hlen := showV_len ⟨k, n, s⟩
    have hps := parse_show (v := ⟨k, n, s⟩)
    obtain ⟨Z, hZ⟩ : ∃ Z, showV ⟨k, n, s⟩ = Z := ⟨_, rfl⟩
    have sref := show_ref k n s hs
    rw [hZ] at hlen hps sref ⊢
    go_wp2_with (go_at_call 18; refine (w18v Z (by omega) w2 hL2).mono ?_)
    rintro e w3 ⟨rfl, hb3⟩
    have box3 := (hb3.block _ hsz2).trans box2
    have hsz3 : w.heap.size < w3.heap.size := (Array.getElem?_eq_some_iff.1 box3).1
    obtain ⟨b0, b1, b2⟩ := cl w3 box3
    obtain ⟨⟨⟨pk, pn, ps⟩, pe⟩, hP⟩ : ∃ P, parseV Z = P := ⟨_, rfl⟩
    rw [hP] at hps ⊢
    simp only
    have hw3 : Below w.heap.size w w3 := hw1.trans ((hb2.mono hw1.size).trans (hb3.mono (Nat.le_trans hw1.size hb2.size)))
    go_wp2_with (go_at_call 19; refine (sref _).mono ?_)
    rintro e w4 ⟨rfl, hb4⟩
    obtain ⟨O4, hO4⟩ : ∃ O4, O4 = Obj.cells #[Value.int .i64 pk, Value.int .i64 pn, Value.string ⟨⟨ps⟩⟩] 23 := ⟨_, rfl⟩
    rw [← hO4] at hb4
    have box4 : w4.heap[w.heap.size]? = some O := (hb4.block _ (by simp; omega)).trans ((Below.heap_alloc _ _ _ hsz3).trans box3)
    have bx4 : w4.heap[w3.heap.size]? = some O4 := (hb4.block _ (by simp)).trans (alloc_new w3 O4)
    have hs4 : w3.heap.size < w4.heap.size := (Array.getElem?_eq_some_iff.1 bx4).1
    have cl4 : ∀ W : World, W.heap[w3.heap.size]? = some O4 → W.cell? ⟨w3.heap.size, 0, none⟩ = some (.int .i64 pk) ∧ W.cell? ⟨w3.heap.size, 1, none⟩ = some (.int .i64 pn) ∧ W.cell? ⟨w3.heap.size, 2, none⟩ = some (.string ⟨⟨ps⟩⟩) := fun W h => by
      rw [hO4] at h
      exact ⟨by rw [Lib.cell_of_heap h]; rfl, by rw [Lib.cell_of_heap h]; rfl, by rw [Lib.cell_of_heap h]; rfl⟩
    have hw4 : Below w.heap.size w w4 := hw3.trans (((Below.refl _ w3).alloc hw3.size O4).trans (hb4.mono (by simp; omega)))
    clear hO4 hb4
    obtain ⟨d0, d1, d2⟩ := cl w4 box4
    go_wp2_with (go_at_call 20; refine (valid_ref k n s hs _).mono ?_)
    rintro e w5 ⟨rfl, hb5⟩
    have box5 := (hb5.block _ (by omega : w.heap.size < w4.heap.size)).trans box4
    have bx5 := (hb5.block _ hs4).trans bx4
    obtain ⟨e0, e1, e2⟩ := cl w5 box5
    obtain ⟨g0, g1, g2⟩ := cl4 w5 bx5
    have hw5 : Below w.heap.size w w5 := hw4.trans (hb5.mono hw4.size)
    clear cl cl4
    cases hv : validV ⟨k, n, s⟩ with
    | false =>
      simp only [hv]
      go_wp2
      go_ret
      exact ⟨rfl, hw5⟩
    | true =>
      have hq := hps hv
      simp only [Prod.mk.injEq, Val.mk.injEq] at hq
      obtain ⟨⟨rfl, rfl, rfl⟩, rfl⟩ := hq
      simp only [hv]
      go_wp2
      go_ret
      exact ⟨rfl, hw5⟩
theorem parse_len (s : List UInt8) : (parseV s).1.s.length ≤ 40 := by
  have h : (scanV s).1.s.length ≤ 40 := by
    unfold scanV scanT
    repeat' split
    all_goals first | (simp; done) | (simp only; omega)
  unfold parseV
  split
  · simp
  · exact h
open Go.Lib in
set_option maxHeartbeats 4000000 in
theorem w6 (s : List UInt8) (hs : s.length ≤ maxLen) (w : World) (hL : LaidW w) : Calls Tryd.prog 6 #[.string ⟨⟨s⟩⟩] w fun e w' => e = .returned (.bool true) ∧ Below w.heap.size w w' := by
  have ssz : (⟨⟨s⟩⟩ : ByteArray).size = s.length := rfl
  have hpl := parse_len s
  have hsp := show_parse (s := s)
  have hpr := parse_ref_call s hs
  rw [← parse_ref s] at hpr
  have hpv := w18v s
  obtain ⟨⟨⟨pk, pn, ps⟩, pe⟩, hP⟩ : ∃ P, parseV s = P := ⟨_, rfl⟩
  rw [hP] at hpl hsp hpr hpv
  simp only at hpl hsp hpr hpv
  go_enter Tryd.func6, Tryd.ntmps6
  go_wp2_with (go_at_call 12; refine (awake_call _).mono ?_)
  rintro e w1 ⟨rfl, hb1⟩
  have hL1 := hL.below hb1
  by_cases hbig : (300 : Int) < (s.length : Int)
  · clear hpr hpv hsp
    go_wp2
    go_ret
    exact ⟨rfl, hb1⟩
  · go_wp2_with (go_at_call 18; refine (hpv (by omega) w1 hL1).mono ?_)
    rintro e w2 ⟨rfl, hb2⟩
    have hw2 : Below w.heap.size w w2 := hb1.trans (hb2.mono hb1.size)
    go_wp2_with (go_at_call 21; refine (hpr _).mono ?_)
    rintro e w3 ⟨rfl, hb3⟩
    obtain ⟨O, hO⟩ : ∃ O, O = Obj.cells #[Value.int .i64 pk, Value.int .i64 pn, Value.string ⟨⟨ps⟩⟩] 23 := ⟨_, rfl⟩
    rw [← hO] at hb3
    have box3 : w3.heap[w2.heap.size]? = some O := (hb3.block _ (by simp)).trans (alloc_new w2 O)
    have hs3 : w2.heap.size < w3.heap.size := (Array.getElem?_eq_some_iff.1 box3).1
    have cl : ∀ W : World, W.heap[w2.heap.size]? = some O → W.cell? ⟨w2.heap.size, 0, none⟩ = some (.int .i64 pk) ∧ W.cell? ⟨w2.heap.size, 1, none⟩ = some (.int .i64 pn) ∧ W.cell? ⟨w2.heap.size, 2, none⟩ = some (.string ⟨⟨ps⟩⟩) := fun W h => by
      rw [hO] at h
      exact ⟨by rw [Lib.cell_of_heap h]; rfl, by rw [Lib.cell_of_heap h]; rfl, by rw [Lib.cell_of_heap h]; rfl⟩
    have hw3 : Below w.heap.size w w3 := hw2.trans (((Below.refl _ w2).alloc hw2.size O).trans (hb3.mono (by have := hw2.size; simp; omega)))
    obtain ⟨b0, b1, b2⟩ := cl w3 box3
    have hL3 := hL.below hw3
    clear hO hb3 cl hpr hpv
    by_cases he : pe = 0
    · subst he
      have hz := hsp rfl
      have hL4 : LaidW (w3.alloc (.cells #[.int .i64 pk, .int .i64 pn, .string ⟨⟨ps⟩⟩] 23)) := hL3.below ((Below.refl _ w3).alloc (Nat.le_refl _) _)
      have hsh := w17v ⟨pk, pn, ps⟩ (show ps.length ≤ maxLen by unfold maxLen; omega) _ hL4
      rw [hz] at hsh
      clear hsp
      go_wp2_with (go_at_call 17; refine hsh.mono ?_)
      rintro e w4 ⟨rfl, hb4⟩
      go_wp2
      go_ret
      exact ⟨rfl, hw3.trans (((Below.refl _ w3).alloc hw3.size _).trans (hb4.mono (by have := hw3.size; simp; omega)))⟩
    · clear hsp
      go_wp2
      go_ret
      exact ⟨rfl, hw3.trans ((Below.refl _ w3).alloc hw3.size _)⟩
end Go.Aw.T

/- Arguments that are structs of flat fields and of slices of flat structs, opened to what is known of values (own work). -/
namespace Go.Aw
open Go Go.ChangeShapes Go.WideShapes Go.Deep Go.RowKit
set_option linter.unusedVariables false

/-- A pure function, called in a world. -/
theorem calls_at {P : Program} {f : FuncId} {args : List AV} {r : AV} (h : Pure P f args r) (w : World) (vs : List Value) (ha : ∀ m : Mem, m.w = w → m.H = AHeap.none → RvL m args vs) :
    Calls P f ⟨vs⟩ w fun e w' => (∃ v, e = .returned v ∧ ∃ m : Mem, Rv m r v) ∧ Below w.heap.size w w' := by
  have := h AHeap.none ⟨w, AHeap.none, fun _ => .nilFunc, 0⟩ vs rfl ⟨fun b T cs hb => by simp [AHeap.none] at hb, fun t i hi => by simp [AHeap.none] at hi⟩ (ha _ rfl rfl)
  refine this.mono fun e w' ⟨o, H', L', T', g1, g2, g3, g4, g5⟩ => ?_
  subst g4
  simp only [RvOut] at g3
  obtain ⟨v, e1, e2⟩ := g3
  exact ⟨⟨v, e1, _, e2⟩, ⟨g2.os, g2.tape, g2.output, g2.size, fun b hb => (g2.block b hb rfl (fun t i hi => by simp [AHeap.none] at hi)).1⟩⟩

def LKs : List LK → List AV → Prop
  | [], l => l = []
  | .b :: ks, l => False
  | .i k :: ks, l => ∃ n l', l = .int k n :: l' ∧ (Lit.int k n).wf = true ∧ LKs ks l'
  | .s :: ks, l => ∃ s l', l = .str s :: l' ∧ LKs ks l'
theorem LKs_app : ∀ {a b : List LK} {x y : List AV}, LKs a x → LKs b y → LKs (a ++ b) (x ++ y)
  | [], _, _, _, h, k => by simp only [LKs] at h; subst h; exact k
  | .b :: _, _, _, _, h, _ => by simp only [LKs] at h
  | .i _ :: az, _, _, _, h, k => by
    simp only [LKs] at h
    obtain ⟨n, l, rfl, hw, h⟩ := h
    exact ⟨n, _, rfl, hw, LKs_app h k⟩
  | .s :: az, _, _, _, h, k => by
    simp only [LKs] at h
    obtain ⟨n, l, rfl, h⟩ := h
    exact ⟨n, _, rfl, LKs_app h k⟩
theorem LKs_len : ∀ {a : List LK} {x : List AV}, LKs a x → x.length = a.length
  | [], _, h => by simp only [LKs] at h; subst h; rfl
  | .b :: _, _, h => by simp only [LKs] at h
  | .i _ :: az, _, h => by
    simp only [LKs] at h
    obtain ⟨n, l, rfl, hw, h⟩ := h
    simp [LKs_len h]
  | .s :: az, _, h => by
    simp only [LKs] at h
    obtain ⟨n, l, rfl, h⟩ := h
    simp [LKs_len h]
theorem rvL_app {m : Mem} : ∀ {x y : List AV} {u v : List Value}, RvL m x u → RvL m y v → RvL m (x ++ y) (u ++ v)
  | [], _, _, _, h, k => by simp only [RvL] at h; subst h; exact k
  | a :: az, _, _, _, h, k => by
    simp only [RvL] at h
    obtain ⟨v, vs, rfl, h1, h2⟩ := h
    simp only [List.cons_append, RvL]
    exact ⟨v, _, rfl, h1, rvL_app h2 k⟩

def flatWs (P : Program) (g : TypeId → Option (List LK)) : Nat → List Field → Option (List LK)
  | _, [] => some []
  | off, f :: fs => match g f.type with
    | some ks => if f.offset = off ∧ P.cellsOf f.type = ks.length then (flatWs P g (off + ks.length) fs).map (ks ++ ·) else none
    | none => none
def flatW (P : Program) : Nat → TypeId → Option (List LK)
  | 0, _ => none
  | d + 1, t => match P.underlying t with
    | some (.int k) => some [.i k]
    | some .string => some [.s]
    | some (.struct fs) => match flatWs P (flatW P d) 0 fs.toList with
      | some ks => if P.cellsOf t = ks.length then some ks else none
      | none => none
    | _ => none

section
variable {H : Type} {enc : TypeId × Value → H} {P : Program} {w : World} {base : Nat} {spare : Nat → Bool} {held : Bool}
theorem rv_string {m : Mem} {s : ByteArray} (h : s.size ≤ maxLen) : Rv m (.str s.data.toList) (.string s) := by
  simp only [Rv]
  exact ⟨trivial, by simpa using h⟩
theorem flat_open : ∀ {d : Nat} {t : TypeId} {ks : List LK} {fuel : Nat} {cs : List Value} {x : DataW H × List MemPlace}, flatW P d t = some ks → DataW.trod enc P w base spare held fuel t cs = some x → ∃ avs, LKs ks avs ∧ cs.length = ks.length ∧ ∀ m : Mem, RvL m avs cs
  | 0, _, _, _, _, _, h, _ => by simp [flatW] at h
  | d + 1, t, ks, fuel, cs, x, h, ht => by
    simp only [flatW] at h
    split at h
    · rename_i k hu
      simp at h
      subst h
      obtain ⟨n, rfl, _, hw⟩ := DataW.trod_int hu ht
      exact ⟨[.int k n], ⟨n, [], rfl, hw, rfl⟩, rfl, fun m => by simp only [RvL, Rv]; exact ⟨_, _, rfl, rfl, rfl⟩⟩
    · rename_i hu
      simp at h
      subst h
      obtain ⟨s, rfl, _, hl⟩ := DataW.trod_string hu ht
      exact ⟨[.str s.data.toList], ⟨_, [], rfl, rfl⟩, rfl, fun m => by simp only [RvL]; exact ⟨_, _, rfl, rv_string hl, rfl⟩⟩
    · rename_i fs hu
      obtain ⟨xs, n, _, _, hlen, hxs, hf⟩ := DataW.trod_struct hu ht
      split at h
      · rename_i ks' hk
        split at h
        · rename_i hc
          simp at h
          subst h
          have key : ∀ (l : List Field) (off i : Nat) (ks : List LK), flatWs P (flatW P d) off l = some ks → (∀ j, l[j]? = fs.toList[i + j]?) → ∃ avs, LKs ks avs ∧ ((cs.drop off).take ks.length).length = ks.length ∧ ∀ m : Mem, RvL m avs ((cs.drop off).take ks.length) := by
            intro l
            induction l with
            | nil =>
              intro off i ks h _
              simp [flatWs] at h
              subst h
              exact ⟨[], rfl, by simp, fun m => by simp [RvL]⟩
            | cons f l ih =>
              intro off i ks h hj
              simp only [flatWs] at h
              split at h
              · rename_i k1 h1
                split at h
                · rename_i h2
                  obtain ⟨h2, h3⟩ := h2
                  simp only [Option.map_eq_some_iff] at h
                  obtain ⟨k2, h4, rfl⟩ := h
                  obtain ⟨a2, b2, b2l, c2⟩ := ih (off + k1.length) (i + 1) k2 h4 (fun j => by have := hj (j + 1); simpa [Nat.add_assoc, Nat.add_comm 1 j] using this)
                  have hfi : fs[i]? = some f := by have := hj 0; simpa using this.symm
                  have hi : i < fs.size := (Array.getElem?_eq_some_iff.1 hfi).1
                  have e1 := hf i f hfi
                  rw [List.getElem?_eq_getElem (by omega : i < xs.length), h2, h3] at e1
                  obtain ⟨a1, b1, b1l, c1⟩ := flat_open h1 e1
                  have es : (cs.drop off).take (k1 ++ k2).length = (cs.drop off).take k1.length ++ (cs.drop (off + k1.length)).take k2.length := by
                    rw [List.length_append, List.take_add, List.drop_drop]
                  refine ⟨a1 ++ a2, LKs_app b1 b2, ?_, fun m => ?_⟩
                  · rw [es, List.length_append, b1l, b2l, List.length_append]
                  · rw [es]; exact rvL_app (c1 m) (c2 m)
                · cases h
              · cases h
          obtain ⟨avs, a1, a2, a3⟩ := key fs.toList 0 0 ks' hk (fun j => by simp)
          have e : (cs.drop 0).take ks'.length = cs := by rw [List.drop_zero]; exact List.take_of_length_le (by omega)
          rw [e] at a2 a3
          exact ⟨avs, a1, a2, a3⟩
        · cases h
      · cases h
    · cases h
theorem st_none {m : Mem} {b o : Nat} {v : Value} (hH : m.H = AHeap.none) (hc : m.w.cell? ⟨b, o, none⟩ = some v) : St m b o where
  lt := World.block_lt_of_cell? m.w _ (by rw [hc])
  blk := by rw [hH]; rfl
  tok := fun t i hi => by rw [hH] at hi; simp [AHeap.none] at hi
theorem rvC_flat {m : Mem} (hH : m.H = AHeap.none) : ∀ {ks : List LK} {avs : List AV} {cs : List Value} {b o : Nat}, LKs ks avs → RvL m avs cs → (∀ j v, cs[j]? = some v → m.w.cell? ⟨b, o + j, none⟩ = some v) → RvC m avs b o
  | [], _, _, _, _, h, _, _ => by simp only [LKs] at h; subst h; simp only [RvC]
  | .b :: _, _, _, _, _, h, _, _ => by simp only [LKs] at h
  | .i k :: ks, avs, cs, b, o, h, hv, hc => by
    simp only [LKs] at h
    obtain ⟨n, l, rfl, hw, h⟩ := h
    simp only [RvL] at hv
    obtain ⟨v, vs, rfl, h1, h2⟩ := hv
    simp only [RvC]
    have h0 := hc 0 v rfl
    refine ⟨⟨v, h0, ?_, st_none hH h0, h1⟩, rvC_flat hH h h2 fun j u hu => ?_⟩
    · simp only [Rv] at h1; subst h1; rfl
    · have := hc (j + 1) u (by simpa using hu)
      rw [show o + 1 + j = o + (j + 1) by omega]
      exact this
  | .s :: ks, avs, cs, b, o, h, hv, hc => by
    simp only [LKs] at h
    obtain ⟨n, l, rfl, h⟩ := h
    simp only [RvL] at hv
    obtain ⟨v, vs, rfl, h1, h2⟩ := hv
    simp only [RvC]
    have h0 := hc 0 v rfl
    refine ⟨⟨v, h0, ?_, st_none hH h0, h1⟩, rvC_flat hH h h2 fun j u hu => ?_⟩
    · simp only [Rv] at h1; obtain ⟨h1, _⟩ := h1; subst h1; rfl
    · have := hc (j + 1) u (by simpa using hu)
      rw [show o + 1 + j = o + (j + 1) by omega]
      exact this
theorem rvR_of {m : Mem} {size b o : Nat} {R : Nat → List AV} : ∀ (n i : Nat), (∀ j, i ≤ j → j < i + n → (R j).length = size ∧ RvC m (R j) b (o + j * size)) → RvR m size ((List.range' i n).map R) b (o + i * size)
  | 0, _, _ => by simp [RvR]
  | n + 1, i, h => by
    obtain ⟨h1, h2⟩ := h i (Nat.le_refl _) (by omega)
    simp only [List.range'_succ, List.map_cons, RvR]
    refine ⟨h1, h2, ?_⟩
    have := rvR_of n (i + 1) fun j h1 h2 => h j (by omega) (by omega)
    rw [show o + i * size + size = o + (i + 1) * size by rw [Nat.add_mul]; omega]
    exact this
theorem slice_open {t e : TypeId} {ks : List LK} {fuel : Nat} {v : Value} {x : DataW H × List MemPlace} (ht : P.underlying t = some (.slice e)) (hk : flatW P 8 e = some ks) (hc : P.cellsOf e = ks.length) (h0 : 0 < ks.length)
    (h : DataW.trod enc P w base spare held fuel t [v] = some x) : ∃ rows, (∀ r ∈ rows, LKs ks r) ∧ ∀ m : Mem, m.w = w → m.H = AHeap.none → Rv m (.vs ks.length rows) v := by
  rcases open_slice ht h with ⟨h1, _⟩ | ⟨a, len, cap, mm, n, D, Pl, hcs, hb, hl, hm, hmm, _, hi⟩
  · simp at h1
    subst h1
    refine ⟨[], fun r hr => by simp at hr, fun m _ _ => ?_⟩
    simp only [Rv]
    exact ⟨none, 0, 0, rfl, rfl, ⟨Nat.le_refl _, Nat.zero_le _⟩, .inl rfl⟩
  · simp at hcs
    subst hcs
    have hlm : len ≤ mm := by rw [hmm]; split <;> omega
    have key : ∀ i, ∃ r cs, i < len → LKs ks r ∧ (∀ m : Mem, RvL m r cs) ∧ cs.length = ks.length ∧ ∀ j, j < ks.length → w.cell? ((a.add (i * ks.length)).add j) = cs[j]? := by
      intro i
      by_cases hil : i < len
      · obtain ⟨cs', h1, h2⟩ := hi i (by omega)
        rw [hc] at h1
        obtain ⟨_, h3, h4⟩ := World.cells?_some h1
        obtain ⟨avs, g1, g2, g3⟩ := flat_open hk h2
        exact ⟨avs, cs', fun _ => ⟨g1, g3, h3, h4⟩⟩
      · exact ⟨[], [], fun h => absurd h hil⟩
    obtain ⟨R, hR⟩ := Classical.skolem.1 key
    refine ⟨(List.range' 0 len).map R, fun r hr => ?_, fun m hw hH => ?_⟩
    · obtain ⟨i, h1, rfl⟩ := List.mem_map.1 hr
      obtain ⟨cs, h2⟩ := hR i
      exact (h2 (by have := List.mem_range'_1.1 h1; omega)).1
    · simp only [Rv]
      refine ⟨_, _, _, rfl, by simp, ⟨hl, hm⟩, ?_⟩
      by_cases hz : len = 0
      · left; simp [hz]
      · right
        have hspot : ∃ b o, a = ⟨b, o, none⟩ := by
          obtain ⟨cs, h2⟩ := hR 0
          obtain ⟨_, _, h3, h4⟩ := h2 (by omega)
          have h5 := h4 0 h0
          rw [List.getElem?_eq_getElem (by omega)] at h5
          simp only [Nat.zero_mul, Addr.add, if_true] at h5
          obtain ⟨ab, ao, az⟩ := a
          cases az with
          | none => exact ⟨_, _, rfl⟩
          | some _ =>
            exfalso
            unfold World.cell? at h5
            split at h5
            · simp at h5
            · cases h5
        obtain ⟨b, o, rfl⟩ := hspot
        refine ⟨b, o, rfl, ?_⟩
        have := rvR_of (m := m) (size := ks.length) (b := b) (o := o) (R := R) len 0 fun j _ hj => ?_
        · simpa using this
        · obtain ⟨cs, h2⟩ := hR j
          obtain ⟨g1, g2, g3, g4⟩ := h2 (by omega)
          refine ⟨LKs_len g1, rvC_flat hH g1 (g2 m) fun i v hv => ?_⟩
          have hi' : i < ks.length := by rw [← g3]; exact (List.getElem?_eq_some_iff.1 hv).1
          have h6 := g4 i hi'
          rw [hv] at h6
          rw [hw, ← h6]
          congr 1
          unfold Addr.add
          by_cases e1 : j * ks.length = 0
          · by_cases e2 : i = 0
            · simp [e1, e2]
            · simp [e1, e2]
          · by_cases e2 : i = 0
            · simp [e1, e2]
            · simp [e1, e2]
inductive FK where
  | lk (k : LK)
  | sl (ks : List LK)
  deriving DecidableEq
def FKs : List FK → List AV → Prop
  | [], l => l = []
  | .lk .b :: ks, l => False
  | .lk (.i k) :: ks, l => ∃ n l', l = .int k n :: l' ∧ (Lit.int k n).wf = true ∧ FKs ks l'
  | .lk .s :: ks, l => ∃ s l', l = .str s :: l' ∧ FKs ks l'
  | .sl k :: ks, l => ∃ rows l', l = .vs k.length rows :: l' ∧ (∀ r ∈ rows, LKs k r) ∧ FKs ks l'
def fieldW (P : Program) (t : TypeId) : Option FK := match P.underlying t with
  | some (.int k) => some (.lk (.i k))
  | some .string => some (.lk .s)
  | some (.slice e) => match flatW P 8 e with
    | some ks => if P.cellsOf e = ks.length ∧ 0 < ks.length then some (.sl ks) else none
    | none => none
  | _ => none
def fieldsW (P : Program) : List Field → Option (List FK)
  | [] => some []
  | f :: fs => match fieldW P f.type with
    | some k => (fieldsW P fs).map (k :: ·)
    | none => none
def structW (P : Program) (t : TypeId) : Option (List FK) := match P.underlying t with
  | some (.struct fs) => if oneCellFields P fs = true ∧ P.cellsOf t = fs.size then fieldsW P fs.toList else none
  | _ => none
theorem field_open {t : TypeId} {k : FK} {fuel : Nat} {v : Value} {x : DataW H × List MemPlace} (hk : fieldW P t = some k) (h : DataW.trod enc P w base spare held fuel t [v] = some x) :
    ∃ a, (∀ ks az, FKs ks az → FKs (k :: ks) (a :: az)) ∧ ∀ m : Mem, m.w = w → m.H = AHeap.none → Rv m a v := by
  simp only [fieldW] at hk
  split at hk
  · rename_i hu
    simp at hk
    subst hk
    obtain ⟨n, h1, _, hw⟩ := DataW.trod_int hu h
    simp at h1
    subst h1
    exact ⟨.int _ n, fun ks az h => ⟨n, az, rfl, hw, h⟩, fun m _ _ => by simp only [Rv]⟩
  · rename_i hu
    simp at hk
    subst hk
    obtain ⟨s, h1, _, hl⟩ := DataW.trod_string hu h
    simp at h1
    subst h1
    exact ⟨.str s.data.toList, fun ks az h => ⟨_, az, rfl, h⟩, fun m _ _ => rv_string hl⟩
  · rename_i e hu
    split at hk
    · rename_i ks h1
      split at hk
      · rename_i h2
        simp at hk
        subst hk
        obtain ⟨rows, h3, h4⟩ := slice_open hu h1 h2.1 h2.2 h
        exact ⟨.vs ks.length rows, fun ks' az h => ⟨rows, az, rfl, h3, h⟩, h4⟩
      · cases hk
    · cases hk
  · cases hk
theorem struct_open {r : Reach} {b0 : Nat} {t : TypeId} {ks : List FK} {v : Value} {d : DataW H} {p : List MemPlace} (hk : structW P t = some ks) (hv : Value.okWide P w r b0 t v) (h : DataW.Trod enc P w base spare held t v d p) :
    ∃ avs, FKs ks avs ∧ ∀ m : Mem, m.w = w → m.H = AHeap.none → Rv m (.agg avs) v := by
  simp only [structW] at hk
  split at hk
  · rename_i fs hu
    split at hk
    · rename_i hc
      obtain ⟨hone, hC⟩ := hc
      obtain ⟨cs, rfl, hsz⟩ := okWide_struct hu hv
      obtain ⟨l⟩ := cs
      obtain ⟨fuel, hf⟩ := h
      obtain ⟨xs, n, _, _, hlen, hxs, hg⟩ := DataW.trod_struct hu hf
      simp only [Value.cells] at hlen hg
      have hll : l.length = fs.size := by rw [← hC]; simpa using hsz
      have key : ∀ (fl : List Field) (i : Nat) (ks : List FK), fieldsW P fl = some ks → (∀ j, fl[j]? = fs.toList[i + j]?) → fl.length = fs.size - i → i ≤ fs.size → ∃ avs, FKs ks avs ∧ ∀ m : Mem, m.w = w → m.H = AHeap.none → RvL m avs (l.drop i) := by
        intro fl
        induction fl with
        | nil =>
          intro i ks h1 _ h2 h3
          simp [fieldsW] at h1
          subst h1
          refine ⟨[], rfl, fun m _ _ => ?_⟩
          simp at h2
          rw [List.drop_eq_nil_of_le (by omega)]
          simp only [RvL]
        | cons f fl ih =>
          intro i ks h1 hj h2 h3
          simp only [fieldsW] at h1
          split at h1
          · rename_i k e1
            simp only [Option.map_eq_some_iff] at h1
            obtain ⟨k2, h4, rfl⟩ := h1
            simp at h2
            have hfi : fs[i]? = some f := by have := hj 0; simpa using this.symm
            have hi : i < fs.size := (Array.getElem?_eq_some_iff.1 hfi).1
            obtain ⟨a2, b2, c2⟩ := ih (i + 1) k2 h4 (fun j => by have := hj (j + 1); simpa [Nat.add_assoc, Nat.add_comm 1 j] using this) (by omega) (by omega)
            obtain ⟨ho, h1c⟩ := hone_of hone i f hfi
            have e2 := hg i f hfi
            rw [List.getElem?_eq_getElem (by omega : i < xs.length), ho, h1c] at e2
            have hd : l.drop i = l[i]'(by omega) :: l.drop (i + 1) := List.drop_eq_getElem_cons (by omega)
            have et : (l.drop i).take 1 = [l[i]'(by omega)] := by rw [hd]; rfl
            rw [et] at e2
            obtain ⟨a1, b1, c1⟩ := field_open e1 e2
            refine ⟨a1 :: a2, b1 _ _ b2, fun m hw hH => ?_⟩
            rw [hd]
            simp only [RvL]
            exact ⟨_, _, rfl, c1 m hw hH, c2 m hw hH⟩
          · cases h1
      obtain ⟨avs, a1, a2⟩ := key fs.toList 0 ks hk (fun j => by simp) (by simp) (Nat.zero_le _)
      refine ⟨avs, a1, fun m hw hH => ?_⟩
      simp only [Rv]
      exact ⟨l, rfl, by simpa using a2 m hw hH⟩
    · cases hk
  · cases hk
end
theorem rows_map {α : Type} {f : α → List AV} : ∀ {rows : List (List AV)}, (∀ r ∈ rows, ∃ v, r = f v) → ∃ xs : List α, rows = xs.map f
  | [], _ => ⟨[], rfl⟩
  | r :: rs, h => by
    obtain ⟨v, hv⟩ := h r (by simp)
    obtain ⟨xs, hx⟩ := rows_map (rows := rs) fun r hr => h r (by simp [hr])
    exact ⟨v :: xs, by rw [hv, hx]; rfl⟩
end Go.Aw

namespace Go.Aw.T
open Go Go.Aw Go.Proofs Go.RowKit
set_option maxRecDepth 100000
attribute [local irreducible] Go.Aw.DM Go.Aw.AHeap.setB Go.Aw.AHeap.setT
attribute [local go_sem] peval EOpd.ev Env.get binInt binStr binBool buildParts AV.cells AV.okc setRange minmaxAV AV.one AV.ofCells eqCells eqCell bslRows cond_true cond_false beq_self_eq_true Bool.not_true Bool.not_false beq_true beq_false eq_self if_true Option.some.injEq List.length_cons List.length_nil List.take_succ_cons List.take_zero List.drop_succ_cons List.drop_zero List.set_cons_succ List.set_cons_zero List.nil_append List.cons_append List.append_nil and_self Option.map_some List.map_cons List.map_nil Bool.false_eq_true if_false Nat.zero_add Nat.add_zero true_and and_true Bool.and_true Bool.true_and List.getElem?_cons_zero List.getElem?_cons_succ Nat.zero_le Nat.le_refl
set_option linter.unusedSimpArgs false
set_option linter.unusedVariables false
open Go.Aw Go.WideShapes
theorem sw28 : structW Tryd.prog 28 = some [.lk (.i .i64), .lk (.i .i64), .lk (.i .i64)] := by kernel_rfl
theorem sw23 : structW Tryd.prog 23 = some [.lk (.i .i64), .lk (.i .i64), .lk .s] := by kernel_rfl
theorem rows_val {rows : List (List AV)} (h : ∀ r ∈ rows, LKs [.i .i64, .i .i64, .s] r) : ∃ xs : List Val, rows = xs.map Val.row :=
  rows_map fun r hr => by
    have := h r hr
    simp only [LKs] at this
    obtain ⟨a, _, rfl, _, b, _, rfl, _, c, _, rfl, rfl⟩ := this
    exact ⟨⟨a, b, c⟩, rfl⟩
theorem rows_fld {rows : List (List AV)} (h : ∀ r ∈ rows, LKs [.s, .i .i64, .i .i64, .i .i64] r) : ∃ xs : List Fld, rows = xs.map Fld.row :=
  rows_map fun r hr => by
    have := h r hr
    simp only [LKs] at this
    obtain ⟨n, _, rfl, a, _, rfl, _, b, _, rfl, _, c, _, rfl, _, rfl⟩ := this
    exact ⟨⟨n, ⟨a, b, c⟩⟩, rfl⟩
section
variable {H : Type} {enc : TypeId × Value → H} {w : World} {base : Nat} {spare : Nat → Bool} {held : Bool} {r : Reach} {b0 : Nat} {v : Value} {d : DataW H} {p : List MemPlace}
theorem open28 (hv : Value.okWide Tryd.prog w r b0 28 v) (h : DataW.Trod enc Tryd.prog w base spare held 28 v d p) : ∃ s : Sort_, ∀ m : Mem, m.w = w → m.H = AHeap.none → Rv m s.av v := by
  obtain ⟨avs, h1, h2⟩ := struct_open sw28 hv h
  simp only [FKs] at h1
  obtain ⟨a, _, rfl, _, b, _, rfl, _, c, _, rfl, _, rfl⟩ := h1
  exact ⟨⟨a, b, c⟩, h2⟩
theorem open23 (hv : Value.okWide Tryd.prog w r b0 23 v) (h : DataW.Trod enc Tryd.prog w base spare held 23 v d p) : ∃ s : Val, ∀ m : Mem, m.w = w → m.H = AHeap.none → Rv m s.av v := by
  obtain ⟨avs, h1, h2⟩ := struct_open sw23 hv h
  simp only [FKs] at h1
  obtain ⟨a, _, rfl, _, b, _, rfl, _, c, _, rfl, rfl⟩ := h1
  exact ⟨⟨a, b, c⟩, h2⟩
theorem open43 (hv : Value.okWide Tryd.prog w r b0 43 v) (h : DataW.Trod enc Tryd.prog w base spare held 43 v d p) : ∃ xs : List Val, ∀ m : Mem, m.w = w → m.H = AHeap.none → Rv m (.vs 3 (xs.map Val.row)) v := by
  obtain ⟨a, len, cap, rfl⟩ := okWide_slice Tryd.underlying43 hv
  obtain ⟨fuel, hf⟩ := h
  obtain ⟨rows, h3, h4⟩ := slice_open (ks := [.i .i64, .i .i64, .s]) Tryd.underlying43 (by kernel_rfl) (by kernel_rfl) (by decide) hf
  obtain ⟨xs, rfl⟩ := rows_val h3
  exact ⟨xs, h4⟩
theorem open42 (hv : Value.okWide Tryd.prog w r b0 42 v) (h : DataW.Trod enc Tryd.prog w base spare held 42 v d p) : ∃ xs : List Fld, ∀ m : Mem, m.w = w → m.H = AHeap.none → Rv m (.vs 4 (xs.map Fld.row)) v := by
  obtain ⟨a, len, cap, rfl⟩ := okWide_slice Tryd.underlying42 hv
  obtain ⟨fuel, hf⟩ := h
  obtain ⟨rows, h3, h4⟩ := slice_open (ks := [.s, .i .i64, .i .i64, .i .i64]) Tryd.underlying42 (by kernel_rfl) (by kernel_rfl) (by decide) hf
  obtain ⟨xs, rfl⟩ := rows_fld h3
  exact ⟨xs, h4⟩
end
end Go.Aw.T

/- What the rows of this seat list holds as its initialisers lay it: a start that fits. -/
namespace Go.Proofs.YtmmkhpmmhpaifaaDoor
open Go.ChangeShapes Go.WideShapes Go.ChangeAt Go.RowKit
def laidL := Rows.valueOrderRow.laid
theorem door_met (os : Os) (args : Array Value) : laidMetH Tryd.prog laidL ((World.doorLaid Tryd.prog 4000 os).forCall (fun _ _ => 0) ⟨#[], args, []⟩).memory :=
  laidMetH_of_parts3 (fuel := 8) (laidMet_of_run' 8 (by kernel_rfl) (by kernel_rfl)) (by kernel_rfl) (by kernel_rfl)
end Go.Proofs.YtmmkhpmmhpaifaaDoor

/- What the listed variables give the walks: the table of powers of ten, and the error that stands for a range. -/
namespace Go.Proofs.YtmmkhpmmhpaifaaDoor
open Go.ChangeShapes Go.WideShapes Go.ChangeAt Go.RowKit
theorem gTabT : (Tryd.prog.globals[1]?).map (·.type) = some 126 := by kernel_rfl
theorem gRanT : (Tryd.prog.globals[3]?).map (·.type) = some 65 := by kernel_rfl
theorem cells126 : Tryd.prog.cellsOf 126 = 20 := by kernel_rfl
theorem cells103 : Tryd.prog.cellsOf 103 = 1 := by kernel_rfl
theorem cells139 : Tryd.prog.cellsOf 139 = 1 := by kernel_rfl
theorem cells9' : Tryd.prog.cellsOf 9 = 1 := by kernel_rfl
theorem starE : "*" ++ "errors.errorString" = "*errors.errorString" := by decide
theorem row137 (u : TypeId) (h : Tryd.prog.typeName? 3 u = some "*errors.errorString") : u = 137 :=
  typeName_ptr_named (nm := "errors.errorString") (by rw [starE]; kernel_rfl) (by kernel_rfl) (by decide) u (by rw [starE]; exact h)
theorem laidW_of {W : World} (h : laidMetH Tryd.prog laidL W) : Go.Aw.T.LaidW W := by
  rw [MakeChecks.laidMetH_plain _ _ _ (by kernel_rfl)] at h
  have h2 : laidMet Tryd.prog (("internal/strconv.uint64pow10", Lib.tabData .u64 Lib.pow10Tab) :: [("strconv.ErrRange", Rows.laid_strconv_ErrRange), ("strconv.ErrSyntax", Rows.laid_strconv_ErrSyntax)]) W := h.tail.tail
  refine ⟨Lib.tabIs_of_head Go.Aw.T.gTab gTabT Tryd.underlying126 Tryd.underlying103 cells103 cells126 h2, ?_⟩
  have h3 : laidMet Tryd.prog (("strconv.ErrRange", .iface "*errors.errorString" (.ptr (.agg [.lit (.string [118, 97, 108, 117, 101, 32, 111, 117, 116, 32, 111, 102, 32, 114, 97, 110, 103, 101])]))) :: [("strconv.ErrSyntax", Rows.laid_strconv_ErrSyntax)]) W := h2.tail
  obtain ⟨a, s, hv, _⟩ := laid_sentinel h3 Go.Aw.T.gRan gRanT Tryd.underlying65 row137 Tryd.underlying137 Tryd.underlying139 rfl rfl Tryd.underlying9 cells139 cells9'
  exact ⟨_, _, hv⟩
end Go.Proofs.YtmmkhpmmhpaifaaDoor
