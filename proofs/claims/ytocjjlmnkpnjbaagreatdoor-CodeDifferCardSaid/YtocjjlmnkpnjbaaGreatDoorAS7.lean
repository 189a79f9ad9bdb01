/- Part of a proof; own work. -/
import Derived.Test.YtocjjlmnkpnjbaaGreatDoorAS6
namespace Go.Aw.T
open Go Go.Aw Go.Proofs Go.RowKit
set_option maxRecDepth 100000
attribute [local irreducible] Go.Aw.DM Go.Aw.AHeap.setB Go.Aw.AHeap.setT
attribute [local go_sem] peval EOpd.ev Env.get binInt binStr binBool buildParts AV.cells AV.okc setRange minmaxAV AV.one AV.ofCells eqCells eqCell bslRows cond_true cond_false beq_self_eq_true Bool.not_true Bool.not_false beq_true beq_false eq_self if_true Option.some.injEq List.length_cons List.length_nil List.take_succ_cons List.take_zero List.drop_succ_cons List.drop_zero List.set_cons_succ List.set_cons_zero List.nil_append List.cons_append List.append_nil and_self Option.map_some List.map_cons List.map_nil Bool.false_eq_true if_false Nat.zero_add Nat.add_zero true_and and_true Bool.and_true Bool.true_and List.getElem?_cons_zero List.getElem?_cons_succ Nat.zero_le Nat.le_refl
set_option linter.unusedSimpArgs false
set_option linter.unusedVariables false
def encQ (p : Prog) : List Nat := if validP p then encP p else []
set_option maxHeartbeats 4000000 in
theorem p20 (p : Prog) : Pure Tryz.prog 20 [p.av] (.vs 1 ((encQ p).map brow)) := by
 refine ok_args fun ok => ?_
 refine pure_intro mo Tryz.func20 c20 fun H => ?_
 unfold e20 r20
 simp only [initEnv, initFrom]
 repeat' first|(apply Sp.go;·constructor<;>first|exact ss|(change _=_;first|(simp only[go_sem,Nat.reduceBEq,Nat.reduceAdd,Nat.reduceLeDiff,reduceIte]<;>rfl)|rfl)|exact Nat.le_of_ble_eq_true rfl|decide|(repeat' first|(apply Lk.go;constructor)|assumption|exact nb ‹_› ‹_›|exact nt ‹_› ‹_›))|(intro b hb;repeat first|(refine fe hb ?_;intro _ _ hb)|(refine fT hb ?_;intro hb))|refine rt ?_|refine gA rfl ?_|refine gB rfl ?_|apply cT rfl|apply cF rfl|(apply DM.gbT;rfl)|(apply DM.gbF;rfl)|intro h
 (apply DM.pcs (p11 p); (· simp only [go_sem, Nat.reduceBEq, Nat.reduceAdd] <;> rfl); (· exact AVLes.refl _))
 repeat' first|(apply Sp.go;·constructor<;>first|exact ss|(change _=_;first|(simp only[go_sem,Nat.reduceBEq,Nat.reduceAdd,Nat.reduceLeDiff,reduceIte]<;>rfl)|rfl)|exact Nat.le_of_ble_eq_true rfl|decide|(repeat' first|(apply Lk.go;constructor)|assumption|exact nb ‹_› ‹_›|exact nt ‹_› ‹_›))|(intro b hb;repeat first|(refine fe hb ?_;intro _ _ hb)|(refine fT hb ?_;intro hb))|refine rt ?_|refine gA rfl ?_|refine gB rfl ?_|apply cT rfl|apply cF rfl|(apply DM.gbT;rfl)|(apply DM.gbF;rfl)|intro h
 (apply AM.cond; (· rfl))
 ·intro hv
  have hv' : validP p = false := by simpa using hv
  repeat' first|(apply Sp.go;·constructor<;>first|exact ss|(change _=_;first|(simp only[go_sem,Nat.reduceBEq,Nat.reduceAdd,Nat.reduceLeDiff,reduceIte]<;>rfl)|rfl)|exact Nat.le_of_ble_eq_true rfl|decide|(repeat' first|(apply Lk.go;constructor)|assumption|exact nb ‹_› ‹_›|exact nt ‹_› ‹_›))|(intro b hb;repeat first|(refine fe hb ?_;intro _ _ hb)|(refine fT hb ?_;intro hb))|refine rt ?_|refine gA rfl ?_|refine gB rfl ?_|apply cT rfl|apply cF rfl|(apply DM.gbT;rfl)|(apply DM.gbF;rfl)|intro h
  (apply Sr.go;·constructor<;>first|(apply Lk.go;constructor<;>first|exact ss|(change _=_;first|(simp only[go_sem,Nat.reduceBEq,Nat.reduceAdd,Nat.reduceLeDiff,reduceIte]<;>rfl)|rfl)|exact Nat.le_of_ble_eq_true rfl|decide|(repeat' first|(apply Lk.go;constructor)|assumption|exact nb ‹_› ‹_›|exact nt ‹_› ‹_›))|assumption)
  unfold encQ
  rw [hv']
  exact AVLe.nil
 intro hv
 have hv' : validP p = true := by simpa using hv
 have vp := VP.of hv'
 have hq : encQ p = encP p := if_pos hv'
 rw [hq]
 clear hv hq
 rename Nat => b1
 have hb1 : H.blk b1 = none := by assumption
 have hnm := vp.name
 have hrole := vp.role
 have nv := vp.nv; have nh := vp.nh; have no := vp.no; have c0 := vp.code0
 repeat' first|(apply Sp.go;·constructor<;>first|exact ss|(change _=_;first|(simp only[go_sem,Nat.reduceBEq,Nat.reduceAdd,Nat.reduceLeDiff,reduceIte]<;>rfl)|rfl)|exact Nat.le_of_ble_eq_true rfl|decide|(repeat' first|(apply Lk.go;constructor)|assumption|exact nb ‹_› ‹_›|exact nt ‹_› ‹_›))|(intro b hb;repeat first|(refine fe hb ?_;intro _ _ hb)|(refine fT hb ?_;intro hb))|refine gA rfl ?_|refine gB rfl ?_|apply cT rfl|apply cF rfl|(apply DM.gbT;rfl)|(apply DM.gbF;rfl)|intro h
 (refine AM.reg [] ?_; simp only [annotate, AV.rows])
 repeat' first|(apply Sp.go;·constructor<;>first|exact ss|(change _=_;first|(simp only[go_sem,Nat.reduceBEq,Nat.reduceAdd,Nat.reduceLeDiff,reduceIte]<;>rfl)|rfl)|exact Nat.le_of_ble_eq_true rfl|decide|(repeat' first|(apply Lk.go;constructor)|assumption|exact nb ‹_› ‹_›|exact nt ‹_› ‹_›))|(intro b hb;repeat first|(refine fe hb ?_;intro _ _ hb)|(refine fT hb ?_;intro hb))|refine rt ?_|refine gA rfl ?_|refine gB rfl ?_|apply cT rfl|apply cF rfl|(apply DM.gbT;rfl)|(apply DM.gbF;rfl)|intro h|(apply DM.ldD1;(· rfl);(· rfl);(· repeat' first|(apply Lk.go;constructor)|assumption|exact nb ‹_› ‹_›|exact nt ‹_› ‹_›);(· rfl))|(apply DM.ldDA;(· rfl);(· rfl);(· repeat' first|(apply Lk.go;constructor)|assumption|exact nb ‹_› ‹_›|exact nt ‹_› ‹_›);(· exact Nat.le_of_ble_eq_true rfl))
 (apply DM.calD (p58n p.name _ (by omega)); (· intro s hs; simp only [List.mem_singleton] at hs; subst hs; exact ⟨_, rfl, fun r H' h => by (obtain ⟨t, _, _, h⟩ := h; rw [h]; exact setT_blk)⟩); (· rintro ⟨N, hN⟩; exact ⟨_, _, ⟨N, (hN N (Nat.le_refl _)).2, rfl, rfl⟩, fin_setT ⟨N, hN⟩⟩); (· simp only [go_sem, Nat.reduceBEq, Nat.reduceAdd] <;> rfl); (· exact AVLes.refl _))
 rintro r H1 ⟨tk, htk, rfl, rfl⟩
 simp only [put_some]
 have htk0 : H.tok tk = none := by rw [← htk]; exact (t_B rfl).symm
 repeat' first|(apply Sp.go;·constructor<;>first|exact ss|(change _=_;first|(simp only[go_sem,Nat.reduceBEq,Nat.reduceAdd,Nat.reduceLeDiff,reduceIte]<;>rfl)|rfl)|exact Nat.le_of_ble_eq_true rfl|decide|(repeat' first|(apply Lk.go;constructor)|assumption|exact nb ‹_› ‹_›|exact nt ‹_› ‹_›))|(intro b hb;repeat first|(refine fe hb ?_;intro _ _ hb)|(refine fT hb ?_;intro hb))|refine rt ?_|refine gA rfl ?_|refine gB rfl ?_|apply cT rfl|apply cF rfl|(apply DM.gbT;rfl)|(apply DM.gbF;rfl)|intro h|(apply DM.ldD1;(· rfl);(· rfl);(· repeat' first|(apply Lk.go;constructor)|assumption|exact nb ‹_› ‹_›|exact nt ‹_› ‹_›);(· rfl))|(apply DM.ldDA;(· rfl);(· rfl);(· repeat' first|(apply Lk.go;constructor)|assumption|exact nb ‹_› ‹_›|exact nt ‹_› ‹_›);(· exact Nat.le_of_ble_eq_true rfl))
 have hl0 := (vp.lens 0).1
 (apply DM.cal (p57 tk ((encT p.name).map brow) [p.role, ((p.vars.map Var_.row).length : Int)] _ t_same (by have := encT_len p.name; simp only [List.length_map, List.length_cons, List.length_nil]; omega) (by intro n hn; simp at hn; rcases hn with rfl | rfl <;> omega)); (· simp only [go_sem, Nat.reduceBEq, Nat.reduceAdd] <;> rfl); (· exact AVLes.refl _))
 rintro r H1 ⟨rfl, rfl⟩
 rw [setT_setT, show (p.vars.map Var_.row).length = p.vars.length from List.length_map .., show (encT p.name).map brow ++ ([p.role, (p.vars.length : Int)].flatMap enc).map brow = (encHd p).map brow from by rw [← List.map_append]; rfl]
 simp only [put_some]
 repeat' first|(apply Sp.go;·constructor<;>first|exact ss|(change _=_;first|(simp only[go_sem,Nat.reduceBEq,Nat.reduceAdd,Nat.reduceLeDiff,reduceIte]<;>rfl)|rfl)|exact Nat.le_of_ble_eq_true rfl|decide|(repeat' first|(apply Lk.go;constructor)|assumption|exact nb ‹_› ‹_›|exact nt ‹_› ‹_›))|(intro b hb;repeat first|(refine fe hb ?_;intro _ _ hb)|(refine fT hb ?_;intro hb))|refine rt ?_|refine gA rfl ?_|refine gB rfl ?_|apply cT rfl|apply cF rfl|(apply DM.gbT;rfl)|(apply DM.gbF;rfl)|intro h
 refine AM.loopX (X := Nat) 0 (fun i => [(1, .ptr b1 0), (26, .vs 7 (p.vars.map Var_.row)), (27, .int .i64 p.vars.length), (28, .int .i64 i), (3, .own tk 1 ((encHd p ++ (p.vars.take i).flatMap encVar).map brow))]) (fun i H' => H' = (H.setB b1 36 p.cells).setT tk (.frz 5 1 ((encHd p ++ (p.vars.take i).flatMap encVar).map brow).length) ∧ i ≤ p.vars.length) (fun i => p.vars.length - i) ?_ ?_ ?_
 ·refine ⟨?_, by omega⟩
  simp
 ·(repeat first | exact envle_nil _ | (refine envle_cons ?_ ?_; · (simp only [go_sem, Nat.reduceBEq, Nat.reduceAdd]; exact AVLe.refl _)))
  refine envle_cons ?_ (envle_cons ?_ (envle_cons ?_ (envle_nil _)))
  ·simp only [Env.get, Nat.reduceBEq, cond_true, cond_false, beq_self_eq_true]
   exact avle_int (by simp)
  ·simp only [Env.get, Nat.reduceBEq, cond_true, cond_false, beq_self_eq_true]
   exact AVLe.refl _
  ·simp only [Env.get, Nat.reduceBEq, cond_true, cond_false, beq_self_eq_true]
   refine avle_eq ?_
   simp
 rintro i H' ⟨rfl, hi⟩
 repeat' first|(apply Sp.go;·constructor<;>first|exact ss|(change _=_;first|(simp only[go_sem,Nat.reduceBEq,Nat.reduceAdd,Nat.reduceLeDiff,reduceIte]<;>rfl)|rfl)|exact Nat.le_of_ble_eq_true rfl|decide|(repeat' first|(apply Lk.go;constructor)|assumption|exact nb ‹_› ‹_›|exact nt ‹_› ‹_›))|(intro b hb;repeat first|(refine fe hb ?_;intro _ _ hb)|(refine fT hb ?_;intro hb))|refine rt ?_|refine gA rfl ?_|refine gB rfl ?_|apply cT rfl|apply cF rfl|(apply DM.gbT;rfl)|(apply DM.gbF;rfl)|intro h
 (apply AM.cond; (· rfl))
 ·intro h3
  simp at h3
  obtain ⟨v, hvx⟩ := some_of h3
  have hmem := List.mem_of_getElem? hvx
  have hlen : ((encHd p ++ (p.vars.take i).flatMap encVar).map brow).length ≤ 60000 := by have l1 := vp.lens i; have l2 := vp.lens 1000; have e1 := encs_len [(p.hs.length : Int)]; have e2 := encs_len [(p.os.length : Int)]; have e3 := encs_len [(p.code.length : Int)]; rw [List.take_of_length_le (show p.vars.length ≤ 1000 by omega), List.take_of_length_le (show p.hs.length ≤ 1000 by omega), List.take_of_length_le (show p.os.length ≤ 1000 by omega)] at l2; simp only [List.length_append, List.length_map, List.length_cons, List.length_nil] at *; omega
  generalize hC : (encHd p ++ (p.vars.take i).flatMap encVar).map brow = C at hlen
  have hD : ((encHd p ++ (p.vars.take (i + 1)).flatMap encVar).map brow) = C ++ (encVar v).map brow := by
   rw [← hC, ← List.map_append, List.append_assoc, List.take_add_one, hvx, List.flatMap_append]
   simp
  repeat' first|(apply Sp.go;·constructor<;>first|exact ss|(change _=_;first|(simp only[go_sem,Nat.reduceBEq,Nat.reduceAdd,Nat.reduceLeDiff,reduceIte]<;>rfl)|rfl)|exact Nat.le_of_ble_eq_true rfl|decide|(repeat' first|(apply Lk.go;constructor)|assumption|exact nb ‹_› ‹_›|exact nt ‹_› ‹_›))|(intro b hb;repeat first|(refine fe hb ?_;intro _ _ hb)|(refine fT hb ?_;intro hb))|refine rt ?_|refine gA rfl ?_|refine gB rfl ?_|apply cT rfl|apply cF rfl|(apply DM.gbT;rfl)|(apply DM.gbF;rfl)|intro h
  (apply DM.ixV (row := v.row) (z := (i : Int)) (by omega) (row_get Var_.row hvx); (· rfl); (· rfl))
  have hv1 := vp.vars v hmem
  have hv2 := val_facts hv1.2.2.2.2.2.2.2
  have la := encT_len v.name
  have lb := encs_len [v.sort.k, v.sort.lo, v.sort.hi]
  simp only [List.length_cons, List.length_nil] at lb
  repeat' first|(apply Sp.go;·constructor<;>first|exact ss|(change _=_;first|(simp only[go_sem,Nat.reduceBEq,Nat.reduceAdd,Nat.reduceLeDiff,reduceIte]<;>rfl)|rfl)|exact Nat.le_of_ble_eq_true rfl|decide|(repeat' first|(apply Lk.go;constructor)|assumption|exact nb ‹_› ‹_›|exact nt ‹_› ‹_›))|(intro b hb;repeat first|(refine fe hb ?_;intro _ _ hb)|(refine fT hb ?_;intro hb))|refine gA rfl ?_|refine gB rfl ?_|apply cT rfl|apply cF rfl|(apply DM.gbT;rfl)|(apply DM.gbF;rfl)|intro h
  (refine AM.reg [] ?_; simp only [annotate, AV.rows])
  repeat' first|(apply Sp.go;·constructor<;>first|exact ss|(change _=_;first|(simp only[go_sem,Nat.reduceBEq,Nat.reduceAdd,Nat.reduceLeDiff,reduceIte]<;>rfl)|rfl)|exact Nat.le_of_ble_eq_true rfl|decide|(repeat' first|(apply Lk.go;constructor)|assumption|exact nb ‹_› ‹_›|exact nt ‹_› ‹_›))|(intro b hb;repeat first|(refine fe hb ?_;intro _ _ hb)|(refine fT hb ?_;intro hb))|refine rt ?_|refine gA rfl ?_|refine gB rfl ?_|apply cT rfl|apply cF rfl|(apply DM.gbT;rfl)|(apply DM.gbF;rfl)|intro h|(apply DM.ldD1;(· rfl);(· rfl);(· repeat' first|(apply Lk.go;constructor)|assumption|exact nb ‹_› ‹_›|exact nt ‹_› ‹_›);(· rfl))|(apply DM.ldDA;(· rfl);(· rfl);(· repeat' first|(apply Lk.go;constructor)|assumption|exact nb ‹_› ‹_›|exact nt ‹_› ‹_›);(· exact Nat.le_of_ble_eq_true rfl))
  (apply DM.calD (p58 tk C v.name _ (t_B t_same) (by omega) (by omega)); (· intro s hs; simp only [List.mem_singleton] at hs; subst hs; exact ⟨_, rfl, fun r H' h => by rw [h.2]; exact setT_blk⟩); (· exact fun hF => ⟨_, _, ⟨rfl, rfl⟩, fin_setT hF⟩); (· simp only [go_sem, Nat.reduceBEq, Nat.reduceAdd] <;> rfl); (· exact AVLes.refl _))
  rintro r H1 ⟨rfl, rfl⟩
  simp only [put_some]
  repeat' first|(apply Sp.go;·constructor<;>first|exact ss|(change _=_;first|(simp only[go_sem,Nat.reduceBEq,Nat.reduceAdd,Nat.reduceLeDiff,reduceIte]<;>rfl)|rfl)|exact Nat.le_of_ble_eq_true rfl|decide|(repeat' first|(apply Lk.go;constructor)|assumption|exact nb ‹_› ‹_›|exact nt ‹_› ‹_›))|(intro b hb;repeat first|(refine fe hb ?_;intro _ _ hb)|(refine fT hb ?_;intro hb))|refine rt ?_|refine gA rfl ?_|refine gB rfl ?_|apply cT rfl|apply cF rfl|(apply DM.gbT;rfl)|(apply DM.gbF;rfl)|intro h|(apply DM.ldD1;(· rfl);(· rfl);(· repeat' first|(apply Lk.go;constructor)|assumption|exact nb ‹_› ‹_›|exact nt ‹_› ‹_›);(· rfl))|(apply DM.ldDA;(· rfl);(· rfl);(· repeat' first|(apply Lk.go;constructor)|assumption|exact nb ‹_› ‹_›|exact nt ‹_› ‹_›);(· exact Nat.le_of_ble_eq_true rfl))
  (apply DM.calD (p57 tk (C ++ (encT v.name).map brow) [v.sort.k, v.sort.lo, v.sort.hi] _ t_same (by simp only [List.length_append, List.length_map, List.length_cons, List.length_nil]; omega) (by intro n hn; simp at hn; rcases hn with rfl | rfl | rfl <;> omega)); (· intro s hs; simp only [List.mem_singleton] at hs; subst hs; exact ⟨_, rfl, fun r H' h => by rw [h.2]; exact setT_blk⟩); (· exact fun hF => ⟨_, _, ⟨rfl, rfl⟩, fin_setT hF⟩); (· simp only [go_sem, Nat.reduceBEq, Nat.reduceAdd] <;> rfl); (· exact AVLes.refl _))
  rintro r H1 ⟨rfl, rfl⟩
  simp only [put_some]
  rw [setT_setT]
  repeat' first|(apply Sp.go;·constructor<;>first|exact ss|(change _=_;first|(simp only[go_sem,Nat.reduceBEq,Nat.reduceAdd,Nat.reduceLeDiff,reduceIte]<;>rfl)|rfl)|exact Nat.le_of_ble_eq_true rfl|decide|(repeat' first|(apply Lk.go;constructor)|assumption|exact nb ‹_› ‹_›|exact nt ‹_› ‹_›))|(intro b hb;repeat first|(refine fe hb ?_;intro _ _ hb)|(refine fT hb ?_;intro hb))|refine rt ?_|refine gA rfl ?_|refine gB rfl ?_|apply cT rfl|apply cF rfl|(apply DM.gbT;rfl)|(apply DM.gbF;rfl)|intro h|(apply DM.ldD1;(· rfl);(· rfl);(· repeat' first|(apply Lk.go;constructor)|assumption|exact nb ‹_› ‹_›|exact nt ‹_› ‹_›);(· rfl))|(apply DM.ldDA;(· rfl);(· rfl);(· repeat' first|(apply Lk.go;constructor)|assumption|exact nb ‹_› ‹_›|exact nt ‹_› ‹_›);(· exact Nat.le_of_ble_eq_true rfl))
  (apply DM.cal (p59 tk ((C ++ (encT v.name).map brow) ++ ([v.sort.k, v.sort.lo, v.sort.hi].flatMap enc).map brow) v.init _ t_same (by simp only [List.length_append, List.length_map]; omega) hv2.1 hv2.2.1 (by omega)); (· simp only [go_sem, Nat.reduceBEq, Nat.reduceAdd] <;> rfl); (· exact AVLes.refl _))
  rintro r H1 ⟨rfl, rfl⟩
  rw [setT_setT, show (((C ++ (encT v.name).map brow) ++ ([v.sort.k, v.sort.lo, v.sort.hi].flatMap enc).map brow) ++ (encV v.init).map brow) = C ++ (encVar v).map brow from by unfold encVar; simp only [List.map_append, List.append_assoc]]
  simp only [put_some]
  repeat' first|(apply Sp.go;·constructor<;>first|exact ss|(change _=_;first|(simp only[go_sem,Nat.reduceBEq,Nat.reduceAdd,Nat.reduceLeDiff,reduceIte]<;>rfl)|rfl)|exact Nat.le_of_ble_eq_true rfl|decide|(repeat' first|(apply Lk.go;constructor)|assumption|exact nb ‹_› ‹_›|exact nt ‹_› ‹_›))|(intro b hb;repeat first|(refine fe hb ?_;intro _ _ hb)|(refine fT hb ?_;intro hb))|refine rt ?_|refine gA rfl ?_|refine gB rfl ?_|apply cT rfl|apply cF rfl|(apply DM.gbT;rfl)|(apply DM.gbF;rfl)|intro h
  refine AM.forget ((H.setB b1 36 p.cells).setT tk (.frz 5 1 (C ++ (encVar v).map brow).length)) (hsub_own' ?_ rfl) ?_
  ·exact g_ne (by assumption) (by assumption)
  refine AM.roundX (i + 1) ⟨by rw [hD], by omega⟩ ?_ (show p.vars.length - (i + 1) < p.vars.length - i by omega)
  rw [hD]
  (repeat first | exact envle_nil _ | (refine envle_cons ?_ ?_; · (simp only [go_sem, Nat.reduceBEq, Nat.reduceAdd]; exact AVLe.refl _)))
  refine envle_cons ?_ ?_
  ·simp only [go_sem, Nat.reduceBEq, Nat.reduceAdd]
   refine avle_int ?_
   rw [inc64 h3 ok.vars]
  exact envle_cons (AVLe.refl _) (envle_nil _)
 intro h3
 simp at h3
 rw [show i = p.vars.length by omega, List.take_length]
 clear h3 hi
 repeat' first|(apply Sp.go;·constructor<;>first|exact ss|(change _=_;first|(simp only[go_sem,Nat.reduceBEq,Nat.reduceAdd,Nat.reduceLeDiff,reduceIte]<;>rfl)|rfl)|exact Nat.le_of_ble_eq_true rfl|decide|(repeat' first|(apply Lk.go;constructor)|assumption|exact nb ‹_› ‹_›|exact nt ‹_› ‹_›))|(intro b hb;repeat first|(refine fe hb ?_;intro _ _ hb)|(refine fT hb ?_;intro hb))|refine rt ?_|refine gA rfl ?_|refine gB rfl ?_|apply cT rfl|apply cF rfl|(apply DM.gbT;rfl)|(apply DM.gbF;rfl)|intro h
 (apply DM.cal (p57 tk ((encHd p ++ p.vars.flatMap encVar).map brow) [((p.hs.map Hd.row).length : Int)] _ t_same (by have l1 := vp.lens 0; have l2 := vp.lens 1000; have e1 := encs_len [(p.hs.length : Int)]; have e2 := encs_len [(p.os.length : Int)]; have e3 := encs_len [(p.code.length : Int)]; rw [List.take_of_length_le (show p.vars.length ≤ 1000 by omega), List.take_of_length_le (show p.hs.length ≤ 1000 by omega), List.take_of_length_le (show p.os.length ≤ 1000 by omega)] at l2; simp only [List.length_append, List.length_map, List.length_cons, List.length_nil] at *; omega) (by intro n hn; simp at hn; subst hn; omega)); (· simp only [go_sem, Nat.reduceBEq, Nat.reduceAdd] <;> rfl); (· exact AVLes.refl _))
 rintro r H1 ⟨rfl, rfl⟩
 rw [setT_setT, show (p.hs.map Hd.row).length = p.hs.length from List.length_map .., ← List.map_append]
 simp only [put_some]
 repeat' first|(apply Sp.go;·constructor<;>first|exact ss|(change _=_;first|(simp only[go_sem,Nat.reduceBEq,Nat.reduceAdd,Nat.reduceLeDiff,reduceIte]<;>rfl)|rfl)|exact Nat.le_of_ble_eq_true rfl|decide|(repeat' first|(apply Lk.go;constructor)|assumption|exact nb ‹_› ‹_›|exact nt ‹_› ‹_›))|(intro b hb;repeat first|(refine fe hb ?_;intro _ _ hb)|(refine fT hb ?_;intro hb))|refine rt ?_|refine gA rfl ?_|refine gB rfl ?_|apply cT rfl|apply cF rfl|(apply DM.gbT;rfl)|(apply DM.gbF;rfl)|intro h
 refine AM.loopX (X := Nat) 0 (fun i => [(1, .ptr b1 0), (58, .vs 3 (p.hs.map Hd.row)), (59, .int .i64 p.hs.length), (60, .int .i64 i), (3, .own tk 1 ((encHd p ++ p.vars.flatMap encVar ++ [(p.hs.length : Int)].flatMap enc ++ (p.hs.take i).flatMap encH).map brow))]) (fun i H' => H' = (H.setB b1 36 p.cells).setT tk (.frz 5 1 ((encHd p ++ p.vars.flatMap encVar ++ [(p.hs.length : Int)].flatMap enc ++ (p.hs.take i).flatMap encH).map brow).length) ∧ i ≤ p.hs.length) (fun i => p.hs.length - i) ?_ ?_ ?_
 ·refine ⟨?_, by omega⟩
  simp
 ·(repeat first | exact envle_nil _ | (refine envle_cons ?_ ?_; · (simp only [go_sem, Nat.reduceBEq, Nat.reduceAdd]; exact AVLe.refl _)))
  refine envle_cons ?_ (envle_cons ?_ (envle_cons ?_ (envle_nil _)))
  ·simp only [Env.get, Nat.reduceBEq, cond_true, cond_false, beq_self_eq_true]
   exact avle_int (by simp)
  ·simp only [Env.get, Nat.reduceBEq, cond_true, cond_false, beq_self_eq_true]
   exact AVLe.refl _
  ·simp only [Env.get, Nat.reduceBEq, cond_true, cond_false, beq_self_eq_true]
   refine avle_eq ?_
   simp
 rintro i H' ⟨rfl, hi⟩
 repeat' first|(apply Sp.go;·constructor<;>first|exact ss|(change _=_;first|(simp only[go_sem,Nat.reduceBEq,Nat.reduceAdd,Nat.reduceLeDiff,reduceIte]<;>rfl)|rfl)|exact Nat.le_of_ble_eq_true rfl|decide|(repeat' first|(apply Lk.go;constructor)|assumption|exact nb ‹_› ‹_›|exact nt ‹_› ‹_›))|(intro b hb;repeat first|(refine fe hb ?_;intro _ _ hb)|(refine fT hb ?_;intro hb))|refine rt ?_|refine gA rfl ?_|refine gB rfl ?_|apply cT rfl|apply cF rfl|(apply DM.gbT;rfl)|(apply DM.gbF;rfl)|intro h
 (apply AM.cond; (· rfl))
 ·intro h3
  simp at h3
  obtain ⟨v, hvx⟩ := some_of h3
  have hmem := List.mem_of_getElem? hvx
  have hlen : ((encHd p ++ p.vars.flatMap encVar ++ [(p.hs.length : Int)].flatMap enc ++ (p.hs.take i).flatMap encH).map brow).length ≤ 60000 := by have l1 := vp.lens i; have l2 := vp.lens 1000; have e1 := encs_len [(p.hs.length : Int)]; have e2 := encs_len [(p.os.length : Int)]; have e3 := encs_len [(p.code.length : Int)]; rw [List.take_of_length_le (show p.vars.length ≤ 1000 by omega), List.take_of_length_le (show p.hs.length ≤ 1000 by omega), List.take_of_length_le (show p.os.length ≤ 1000 by omega)] at l2; simp only [List.length_append, List.length_map, List.length_cons, List.length_nil] at *; omega
  generalize hC : (encHd p ++ p.vars.flatMap encVar ++ [(p.hs.length : Int)].flatMap enc ++ (p.hs.take i).flatMap encH).map brow = C at hlen
  have hD : ((encHd p ++ p.vars.flatMap encVar ++ [(p.hs.length : Int)].flatMap enc ++ (p.hs.take (i + 1)).flatMap encH).map brow) = C ++ (encH v).map brow := by
   rw [← hC, ← List.map_append, List.append_assoc, List.take_add_one, hvx, List.flatMap_append]
   simp
  repeat' first|(apply Sp.go;·constructor<;>first|exact ss|(change _=_;first|(simp only[go_sem,Nat.reduceBEq,Nat.reduceAdd,Nat.reduceLeDiff,reduceIte]<;>rfl)|rfl)|exact Nat.le_of_ble_eq_true rfl|decide|(repeat' first|(apply Lk.go;constructor)|assumption|exact nb ‹_› ‹_›|exact nt ‹_› ‹_›))|(intro b hb;repeat first|(refine fe hb ?_;intro _ _ hb)|(refine fT hb ?_;intro hb))|refine rt ?_|refine gA rfl ?_|refine gB rfl ?_|apply cT rfl|apply cF rfl|(apply DM.gbT;rfl)|(apply DM.gbF;rfl)|intro h
  (apply DM.ixV (row := v.row) (z := (i : Int)) (by omega) (row_get Hd.row hvx); (· rfl); (· rfl))
  have hv1 := vp.hs v hmem
  repeat' first|(apply Sp.go;·constructor<;>first|exact ss|(change _=_;first|(simp only[go_sem,Nat.reduceBEq,Nat.reduceAdd,Nat.reduceLeDiff,reduceIte]<;>rfl)|rfl)|exact Nat.le_of_ble_eq_true rfl|decide|(repeat' first|(apply Lk.go;constructor)|assumption|exact nb ‹_› ‹_›|exact nt ‹_› ‹_›))|(intro b hb;repeat first|(refine fe hb ?_;intro _ _ hb)|(refine fT hb ?_;intro hb))|refine rt ?_|refine gA rfl ?_|refine gB rfl ?_|apply cT rfl|apply cF rfl|(apply DM.gbT;rfl)|(apply DM.gbF;rfl)|intro h
  (apply DM.cal (p57 tk C [v.peer, v.label, v.entry] _ (t_B t_same) (by simp only [List.length_cons, List.length_nil]; omega) (by intro n hn; simp at hn; rcases hn with rfl | rfl | rfl <;> omega)); (· simp only [go_sem, Nat.reduceBEq, Nat.reduceAdd] <;> rfl); (· exact AVLes.refl _))
  rintro r H1 ⟨rfl, rfl⟩
  rw [show C ++ ([v.peer, v.label, v.entry].flatMap enc).map brow = C ++ (encH v).map brow from rfl]
  simp only [put_some]
  repeat' first|(apply Sp.go;·constructor<;>first|exact ss|(change _=_;first|(simp only[go_sem,Nat.reduceBEq,Nat.reduceAdd,Nat.reduceLeDiff,reduceIte]<;>rfl)|rfl)|exact Nat.le_of_ble_eq_true rfl|decide|(repeat' first|(apply Lk.go;constructor)|assumption|exact nb ‹_› ‹_›|exact nt ‹_› ‹_›))|(intro b hb;repeat first|(refine fe hb ?_;intro _ _ hb)|(refine fT hb ?_;intro hb))|refine rt ?_|refine gA rfl ?_|refine gB rfl ?_|apply cT rfl|apply cF rfl|(apply DM.gbT;rfl)|(apply DM.gbF;rfl)|intro h
  refine AM.forget ((H.setB b1 36 p.cells).setT tk (.frz 5 1 (C ++ (encH v).map brow).length)) (hsub_own' ?_ rfl) ?_
  ·exact g_ne (by assumption) (by assumption)
  refine AM.roundX (i + 1) ⟨by rw [hD], by omega⟩ ?_ (show p.hs.length - (i + 1) < p.hs.length - i by omega)
  rw [hD]
  (repeat first | exact envle_nil _ | (refine envle_cons ?_ ?_; · (simp only [go_sem, Nat.reduceBEq, Nat.reduceAdd]; exact AVLe.refl _)))
  refine envle_cons ?_ ?_
  ·simp only [go_sem, Nat.reduceBEq, Nat.reduceAdd]
   refine avle_int ?_
   rw [inc64 h3 ok.hs]
  exact envle_cons (AVLe.refl _) (envle_nil _)
 intro h3
 simp at h3
 rw [show i = p.hs.length by omega, List.take_length]
 clear h3 hi
 repeat' first|(apply Sp.go;·constructor<;>first|exact ss|(change _=_;first|(simp only[go_sem,Nat.reduceBEq,Nat.reduceAdd,Nat.reduceLeDiff,reduceIte]<;>rfl)|rfl)|exact Nat.le_of_ble_eq_true rfl|decide|(repeat' first|(apply Lk.go;constructor)|assumption|exact nb ‹_› ‹_›|exact nt ‹_› ‹_›))|(intro b hb;repeat first|(refine fe hb ?_;intro _ _ hb)|(refine fT hb ?_;intro hb))|refine rt ?_|refine gA rfl ?_|refine gB rfl ?_|apply cT rfl|apply cF rfl|(apply DM.gbT;rfl)|(apply DM.gbF;rfl)|intro h
 (apply DM.cal (p57 tk ((encHd p ++ p.vars.flatMap encVar ++ [(p.hs.length : Int)].flatMap enc ++ p.hs.flatMap encH).map brow) [((p.os.map Of_.row).length : Int)] _ t_same (by have l1 := vp.lens 0; have l2 := vp.lens 1000; have e1 := encs_len [(p.hs.length : Int)]; have e2 := encs_len [(p.os.length : Int)]; have e3 := encs_len [(p.code.length : Int)]; rw [List.take_of_length_le (show p.vars.length ≤ 1000 by omega), List.take_of_length_le (show p.hs.length ≤ 1000 by omega), List.take_of_length_le (show p.os.length ≤ 1000 by omega)] at l2; simp only [List.length_append, List.length_map, List.length_cons, List.length_nil] at *; omega) (by intro n hn; simp at hn; subst hn; omega)); (· simp only [go_sem, Nat.reduceBEq, Nat.reduceAdd] <;> rfl); (· exact AVLes.refl _))
 rintro r H1 ⟨rfl, rfl⟩
 rw [setT_setT, show (p.os.map Of_.row).length = p.os.length from List.length_map .., ← List.map_append]
 simp only [put_some]
 repeat' first|(apply Sp.go;·constructor<;>first|exact ss|(change _=_;first|(simp only[go_sem,Nat.reduceBEq,Nat.reduceAdd,Nat.reduceLeDiff,reduceIte]<;>rfl)|rfl)|exact Nat.le_of_ble_eq_true rfl|decide|(repeat' first|(apply Lk.go;constructor)|assumption|exact nb ‹_› ‹_›|exact nt ‹_› ‹_›))|(intro b hb;repeat first|(refine fe hb ?_;intro _ _ hb)|(refine fT hb ?_;intro hb))|refine rt ?_|refine gA rfl ?_|refine gB rfl ?_|apply cT rfl|apply cF rfl|(apply DM.gbT;rfl)|(apply DM.gbF;rfl)|intro h
 refine AM.loopX (X := Nat) 0 (fun i => [(1, .ptr b1 0), (81, .vs 4 (p.os.map Of_.row)), (82, .int .i64 p.os.length), (83, .int .i64 i), (3, .own tk 1 ((encHd p ++ p.vars.flatMap encVar ++ [(p.hs.length : Int)].flatMap enc ++ p.hs.flatMap encH ++ [(p.os.length : Int)].flatMap enc ++ (p.os.take i).flatMap encO).map brow))]) (fun i H' => H' = (H.setB b1 36 p.cells).setT tk (.frz 5 1 ((encHd p ++ p.vars.flatMap encVar ++ [(p.hs.length : Int)].flatMap enc ++ p.hs.flatMap encH ++ [(p.os.length : Int)].flatMap enc ++ (p.os.take i).flatMap encO).map brow).length) ∧ i ≤ p.os.length) (fun i => p.os.length - i) ?_ ?_ ?_
 ·refine ⟨?_, by omega⟩
  simp
 ·(repeat first | exact envle_nil _ | (refine envle_cons ?_ ?_; · (simp only [go_sem, Nat.reduceBEq, Nat.reduceAdd]; exact AVLe.refl _)))
  refine envle_cons ?_ (envle_cons ?_ (envle_cons ?_ (envle_nil _)))
  ·simp only [Env.get, Nat.reduceBEq, cond_true, cond_false, beq_self_eq_true]
   exact avle_int (by simp)
  ·simp only [Env.get, Nat.reduceBEq, cond_true, cond_false, beq_self_eq_true]
   exact AVLe.refl _
  ·simp only [Env.get, Nat.reduceBEq, cond_true, cond_false, beq_self_eq_true]
   refine avle_eq ?_
   simp
 rintro i H' ⟨rfl, hi⟩
 repeat' first|(apply Sp.go;·constructor<;>first|exact ss|(change _=_;first|(simp only[go_sem,Nat.reduceBEq,Nat.reduceAdd,Nat.reduceLeDiff,reduceIte]<;>rfl)|rfl)|exact Nat.le_of_ble_eq_true rfl|decide|(repeat' first|(apply Lk.go;constructor)|assumption|exact nb ‹_› ‹_›|exact nt ‹_› ‹_›))|(intro b hb;repeat first|(refine fe hb ?_;intro _ _ hb)|(refine fT hb ?_;intro hb))|refine rt ?_|refine gA rfl ?_|refine gB rfl ?_|apply cT rfl|apply cF rfl|(apply DM.gbT;rfl)|(apply DM.gbF;rfl)|intro h
 (apply AM.cond; (· rfl))
 ·intro h3
  simp at h3
  obtain ⟨v, hvx⟩ := some_of h3
  have hmem := List.mem_of_getElem? hvx
  have hlen : ((encHd p ++ p.vars.flatMap encVar ++ [(p.hs.length : Int)].flatMap enc ++ p.hs.flatMap encH ++ [(p.os.length : Int)].flatMap enc ++ (p.os.take i).flatMap encO).map brow).length ≤ 60000 := by have l1 := vp.lens i; have l2 := vp.lens 1000; have e1 := encs_len [(p.hs.length : Int)]; have e2 := encs_len [(p.os.length : Int)]; have e3 := encs_len [(p.code.length : Int)]; rw [List.take_of_length_le (show p.vars.length ≤ 1000 by omega), List.take_of_length_le (show p.hs.length ≤ 1000 by omega), List.take_of_length_le (show p.os.length ≤ 1000 by omega)] at l2; simp only [List.length_append, List.length_map, List.length_cons, List.length_nil] at *; omega
  generalize hC : (encHd p ++ p.vars.flatMap encVar ++ [(p.hs.length : Int)].flatMap enc ++ p.hs.flatMap encH ++ [(p.os.length : Int)].flatMap enc ++ (p.os.take i).flatMap encO).map brow = C at hlen
  have hD : ((encHd p ++ p.vars.flatMap encVar ++ [(p.hs.length : Int)].flatMap enc ++ p.hs.flatMap encH ++ [(p.os.length : Int)].flatMap enc ++ (p.os.take (i + 1)).flatMap encO).map brow) = C ++ (encO v).map brow := by
   rw [← hC, ← List.map_append, List.append_assoc, List.take_add_one, hvx, List.flatMap_append]
   simp
  repeat' first|(apply Sp.go;·constructor<;>first|exact ss|(change _=_;first|(simp only[go_sem,Nat.reduceBEq,Nat.reduceAdd,Nat.reduceLeDiff,reduceIte]<;>rfl)|rfl)|exact Nat.le_of_ble_eq_true rfl|decide|(repeat' first|(apply Lk.go;constructor)|assumption|exact nb ‹_› ‹_›|exact nt ‹_› ‹_›))|(intro b hb;repeat first|(refine fe hb ?_;intro _ _ hb)|(refine fT hb ?_;intro hb))|refine rt ?_|refine gA rfl ?_|refine gB rfl ?_|apply cT rfl|apply cF rfl|(apply DM.gbT;rfl)|(apply DM.gbF;rfl)|intro h
  (apply DM.ixV (row := v.row) (z := (i : Int)) (by omega) (row_get Of_.row hvx); (· rfl); (· rfl))
  have hv1 := vp.os v hmem
  repeat' first|(apply Sp.go;·constructor<;>first|exact ss|(change _=_;first|(simp only[go_sem,Nat.reduceBEq,Nat.reduceAdd,Nat.reduceLeDiff,reduceIte]<;>rfl)|rfl)|exact Nat.le_of_ble_eq_true rfl|decide|(repeat' first|(apply Lk.go;constructor)|assumption|exact nb ‹_› ‹_›|exact nt ‹_› ‹_›))|(intro b hb;repeat first|(refine fe hb ?_;intro _ _ hb)|(refine fT hb ?_;intro hb))|refine rt ?_|refine gA rfl ?_|refine gB rfl ?_|apply cT rfl|apply cF rfl|(apply DM.gbT;rfl)|(apply DM.gbF;rfl)|intro h
  (apply DM.cal (p57 tk C [v.peer, v.label, v.cond, v.args] _ (t_B t_same) (by simp only [List.length_cons, List.length_nil]; omega) (by intro n hn; simp at hn; rcases hn with rfl | rfl | rfl | rfl <;> omega)); (· simp only [go_sem, Nat.reduceBEq, Nat.reduceAdd] <;> rfl); (· exact AVLes.refl _))
  rintro r H1 ⟨rfl, rfl⟩
  rw [show C ++ ([v.peer, v.label, v.cond, v.args].flatMap enc).map brow = C ++ (encO v).map brow from rfl]
  simp only [put_some]
  repeat' first|(apply Sp.go;·constructor<;>first|exact ss|(change _=_;first|(simp only[go_sem,Nat.reduceBEq,Nat.reduceAdd,Nat.reduceLeDiff,reduceIte]<;>rfl)|rfl)|exact Nat.le_of_ble_eq_true rfl|decide|(repeat' first|(apply Lk.go;constructor)|assumption|exact nb ‹_› ‹_›|exact nt ‹_› ‹_›))|(intro b hb;repeat first|(refine fe hb ?_;intro _ _ hb)|(refine fT hb ?_;intro hb))|refine rt ?_|refine gA rfl ?_|refine gB rfl ?_|apply cT rfl|apply cF rfl|(apply DM.gbT;rfl)|(apply DM.gbF;rfl)|intro h
  refine AM.forget ((H.setB b1 36 p.cells).setT tk (.frz 5 1 (C ++ (encO v).map brow).length)) (hsub_own' ?_ rfl) ?_
  ·exact g_ne (by assumption) (by assumption)
  refine AM.roundX (i + 1) ⟨by rw [hD], by omega⟩ ?_ (show p.os.length - (i + 1) < p.os.length - i by omega)
  rw [hD]
  (repeat first | exact envle_nil _ | (refine envle_cons ?_ ?_; · (simp only [go_sem, Nat.reduceBEq, Nat.reduceAdd]; exact AVLe.refl _)))
  refine envle_cons ?_ ?_
  ·simp only [go_sem, Nat.reduceBEq, Nat.reduceAdd]
   refine avle_int ?_
   rw [inc64 h3 ok.os]
  exact envle_cons (AVLe.refl _) (envle_nil _)
 intro h3
 simp at h3
 rw [show i = p.os.length by omega, List.take_length]
 clear h3 hi
 repeat' first|(apply Sp.go;·constructor<;>first|exact ss|(change _=_;first|(simp only[go_sem,Nat.reduceBEq,Nat.reduceAdd,Nat.reduceLeDiff,reduceIte]<;>rfl)|rfl)|exact Nat.le_of_ble_eq_true rfl|decide|(repeat' first|(apply Lk.go;constructor)|assumption|exact nb ‹_› ‹_›|exact nt ‹_› ‹_›))|(intro b hb;repeat first|(refine fe hb ?_;intro _ _ hb)|(refine fT hb ?_;intro hb))|refine rt ?_|refine gA rfl ?_|refine gB rfl ?_|apply cT rfl|apply cF rfl|(apply DM.gbT;rfl)|(apply DM.gbF;rfl)|intro h
 (apply DM.cal (p57 tk ((encHd p ++ p.vars.flatMap encVar ++ [(p.hs.length : Int)].flatMap enc ++ p.hs.flatMap encH ++ [(p.os.length : Int)].flatMap enc ++ p.os.flatMap encO).map brow) [((p.code.map Ins_.row).length : Int)] _ t_same (by have l1 := vp.lens 0; have l2 := vp.lens 1000; have e1 := encs_len [(p.hs.length : Int)]; have e2 := encs_len [(p.os.length : Int)]; have e3 := encs_len [(p.code.length : Int)]; rw [List.take_of_length_le (show p.vars.length ≤ 1000 by omega), List.take_of_length_le (show p.hs.length ≤ 1000 by omega), List.take_of_length_le (show p.os.length ≤ 1000 by omega)] at l2; simp only [List.length_append, List.length_map, List.length_cons, List.length_nil] at *; omega) (by intro n hn; simp at hn; subst hn; omega)); (· simp only [go_sem, Nat.reduceBEq, Nat.reduceAdd] <;> rfl); (· exact AVLes.refl _))
 rintro r H1 ⟨rfl, rfl⟩
 rw [setT_setT, show (p.code.map Ins_.row).length = p.code.length from List.length_map .., ← List.map_append]
 simp only [put_some]
 repeat' first|(apply Sp.go;·constructor<;>first|exact ss|(change _=_;first|(simp only[go_sem,Nat.reduceBEq,Nat.reduceAdd,Nat.reduceLeDiff,reduceIte]<;>rfl)|rfl)|exact Nat.le_of_ble_eq_true rfl|decide|(repeat' first|(apply Lk.go;constructor)|assumption|exact nb ‹_› ‹_›|exact nt ‹_› ‹_›))|(intro b hb;repeat first|(refine fe hb ?_;intro _ _ hb)|(refine fT hb ?_;intro hb))|refine rt ?_|refine gA rfl ?_|refine gB rfl ?_|apply cT rfl|apply cF rfl|(apply DM.gbT;rfl)|(apply DM.gbF;rfl)|intro h
 refine AM.loopX (X := Nat) 0 (fun i => [(1, .ptr b1 0), (106, .vs 3 (p.code.map Ins_.row)), (107, .int .i64 p.code.length), (108, .int .i64 i), (3, .own tk 1 ((encHd p ++ p.vars.flatMap encVar ++ [(p.hs.length : Int)].flatMap enc ++ p.hs.flatMap encH ++ [(p.os.length : Int)].flatMap enc ++ p.os.flatMap encO ++ [(p.code.length : Int)].flatMap enc ++ (p.code.take i).flatMap encI).map brow))]) (fun i H' => H' = (H.setB b1 36 p.cells).setT tk (.frz 5 1 ((encHd p ++ p.vars.flatMap encVar ++ [(p.hs.length : Int)].flatMap enc ++ p.hs.flatMap encH ++ [(p.os.length : Int)].flatMap enc ++ p.os.flatMap encO ++ [(p.code.length : Int)].flatMap enc ++ (p.code.take i).flatMap encI).map brow).length) ∧ i ≤ p.code.length) (fun i => p.code.length - i) ?_ ?_ ?_
 ·refine ⟨?_, by omega⟩
  simp
 ·(repeat first | exact envle_nil _ | (refine envle_cons ?_ ?_; · (simp only [go_sem, Nat.reduceBEq, Nat.reduceAdd]; exact AVLe.refl _)))
  refine envle_cons ?_ (envle_cons ?_ (envle_cons ?_ (envle_nil _)))
  ·simp only [Env.get, Nat.reduceBEq, cond_true, cond_false, beq_self_eq_true]
   exact avle_int (by simp)
  ·simp only [Env.get, Nat.reduceBEq, cond_true, cond_false, beq_self_eq_true]
   exact AVLe.refl _
  ·simp only [Env.get, Nat.reduceBEq, cond_true, cond_false, beq_self_eq_true]
   refine avle_eq ?_
   simp
 rintro i H' ⟨rfl, hi⟩
 repeat' first|(apply Sp.go;·constructor<;>first|exact ss|(change _=_;first|(simp only[go_sem,Nat.reduceBEq,Nat.reduceAdd,Nat.reduceLeDiff,reduceIte]<;>rfl)|rfl)|exact Nat.le_of_ble_eq_true rfl|decide|(repeat' first|(apply Lk.go;constructor)|assumption|exact nb ‹_› ‹_›|exact nt ‹_› ‹_›))|(intro b hb;repeat first|(refine fe hb ?_;intro _ _ hb)|(refine fT hb ?_;intro hb))|refine rt ?_|refine gA rfl ?_|refine gB rfl ?_|apply cT rfl|apply cF rfl|(apply DM.gbT;rfl)|(apply DM.gbF;rfl)|intro h
 (apply AM.cond; (· rfl))
 ·intro h3
  simp at h3
  obtain ⟨v, hvx⟩ := some_of h3
  have hmem := List.mem_of_getElem? hvx
  have hlen : ((encHd p ++ p.vars.flatMap encVar ++ [(p.hs.length : Int)].flatMap enc ++ p.hs.flatMap encH ++ [(p.os.length : Int)].flatMap enc ++ p.os.flatMap encO ++ [(p.code.length : Int)].flatMap enc ++ (p.code.take i).flatMap encI).map brow).length ≤ 60000 := by have l1 := vp.lens i; have l2 := vp.lens 1000; have e1 := encs_len [(p.hs.length : Int)]; have e2 := encs_len [(p.os.length : Int)]; have e3 := encs_len [(p.code.length : Int)]; rw [List.take_of_length_le (show p.vars.length ≤ 1000 by omega), List.take_of_length_le (show p.hs.length ≤ 1000 by omega), List.take_of_length_le (show p.os.length ≤ 1000 by omega)] at l2; simp only [List.length_append, List.length_map, List.length_cons, List.length_nil] at *; omega
  generalize hC : (encHd p ++ p.vars.flatMap encVar ++ [(p.hs.length : Int)].flatMap enc ++ p.hs.flatMap encH ++ [(p.os.length : Int)].flatMap enc ++ p.os.flatMap encO ++ [(p.code.length : Int)].flatMap enc ++ (p.code.take i).flatMap encI).map brow = C at hlen
  have hD : ((encHd p ++ p.vars.flatMap encVar ++ [(p.hs.length : Int)].flatMap enc ++ p.hs.flatMap encH ++ [(p.os.length : Int)].flatMap enc ++ p.os.flatMap encO ++ [(p.code.length : Int)].flatMap enc ++ (p.code.take (i + 1)).flatMap encI).map brow) = C ++ (encI v).map brow := by
   rw [← hC, ← List.map_append, List.append_assoc, List.take_add_one, hvx, List.flatMap_append]
   simp
  repeat' first|(apply Sp.go;·constructor<;>first|exact ss|(change _=_;first|(simp only[go_sem,Nat.reduceBEq,Nat.reduceAdd,Nat.reduceLeDiff,reduceIte]<;>rfl)|rfl)|exact Nat.le_of_ble_eq_true rfl|decide|(repeat' first|(apply Lk.go;constructor)|assumption|exact nb ‹_› ‹_›|exact nt ‹_› ‹_›))|(intro b hb;repeat first|(refine fe hb ?_;intro _ _ hb)|(refine fT hb ?_;intro hb))|refine rt ?_|refine gA rfl ?_|refine gB rfl ?_|apply cT rfl|apply cF rfl|(apply DM.gbT;rfl)|(apply DM.gbF;rfl)|intro h
  (apply DM.ixV (row := v.row) (z := (i : Int)) (by omega) (row_get Ins_.row hvx); (· rfl); (· rfl))
  have hv1 := formed_facts (vp.code v hmem)
  have lb := encs_len [v.op, v.n]
  simp only [List.length_cons, List.length_nil] at lb
  repeat' first|(apply Sp.go;·constructor<;>first|exact ss|(change _=_;first|(simp only[go_sem,Nat.reduceBEq,Nat.reduceAdd,Nat.reduceLeDiff,reduceIte]<;>rfl)|rfl)|exact Nat.le_of_ble_eq_true rfl|decide|(repeat' first|(apply Lk.go;constructor)|assumption|exact nb ‹_› ‹_›|exact nt ‹_› ‹_›))|(intro b hb;repeat first|(refine fe hb ?_;intro _ _ hb)|(refine fT hb ?_;intro hb))|refine gA rfl ?_|refine gB rfl ?_|apply cT rfl|apply cF rfl|(apply DM.gbT;rfl)|(apply DM.gbF;rfl)|intro h
  (refine AM.reg [] ?_; simp only [annotate, AV.rows])
  repeat' first|(apply Sp.go;·constructor<;>first|exact ss|(change _=_;first|(simp only[go_sem,Nat.reduceBEq,Nat.reduceAdd,Nat.reduceLeDiff,reduceIte]<;>rfl)|rfl)|exact Nat.le_of_ble_eq_true rfl|decide|(repeat' first|(apply Lk.go;constructor)|assumption|exact nb ‹_› ‹_›|exact nt ‹_› ‹_›))|(intro b hb;repeat first|(refine fe hb ?_;intro _ _ hb)|(refine fT hb ?_;intro hb))|refine rt ?_|refine gA rfl ?_|refine gB rfl ?_|apply cT rfl|apply cF rfl|(apply DM.gbT;rfl)|(apply DM.gbF;rfl)|intro h|(apply DM.ldD1;(· rfl);(· rfl);(· repeat' first|(apply Lk.go;constructor)|assumption|exact nb ‹_› ‹_›|exact nt ‹_› ‹_›);(· rfl))|(apply DM.ldDA;(· rfl);(· rfl);(· repeat' first|(apply Lk.go;constructor)|assumption|exact nb ‹_› ‹_›|exact nt ‹_› ‹_›);(· exact Nat.le_of_ble_eq_true rfl))
  (apply DM.calD (p57 tk C [v.op, v.n] _ (t_B t_same) (by simp only [List.length_cons, List.length_nil]; omega) (by intro n hn; simp at hn; rcases hn with rfl | rfl <;> omega)); (· intro s hs; simp only [List.mem_singleton] at hs; subst hs; exact ⟨_, rfl, fun r H' h => by rw [h.2]; exact setT_blk⟩); (· exact fun hF => ⟨_, _, ⟨rfl, rfl⟩, fin_setT hF⟩); (· simp only [go_sem, Nat.reduceBEq, Nat.reduceAdd] <;> rfl); (· exact AVLes.refl _))
  rintro r H1 ⟨rfl, rfl⟩
  simp only [put_some]
  repeat' first|(apply Sp.go;·constructor<;>first|exact ss|(change _=_;first|(simp only[go_sem,Nat.reduceBEq,Nat.reduceAdd,Nat.reduceLeDiff,reduceIte]<;>rfl)|rfl)|exact Nat.le_of_ble_eq_true rfl|decide|(repeat' first|(apply Lk.go;constructor)|assumption|exact nb ‹_› ‹_›|exact nt ‹_› ‹_›))|(intro b hb;repeat first|(refine fe hb ?_;intro _ _ hb)|(refine fT hb ?_;intro hb))|refine rt ?_|refine gA rfl ?_|refine gB rfl ?_|apply cT rfl|apply cF rfl|(apply DM.gbT;rfl)|(apply DM.gbF;rfl)|intro h|(apply DM.ldD1;(· rfl);(· rfl);(· repeat' first|(apply Lk.go;constructor)|assumption|exact nb ‹_› ‹_›|exact nt ‹_› ‹_›);(· rfl))|(apply DM.ldDA;(· rfl);(· rfl);(· repeat' first|(apply Lk.go;constructor)|assumption|exact nb ‹_› ‹_›|exact nt ‹_› ‹_›);(· exact Nat.le_of_ble_eq_true rfl))
  (apply DM.cal (p58 tk (C ++ ([v.op, v.n].flatMap enc).map brow) v.s _ t_same (by simp only [List.length_append, List.length_map]; omega) (by omega)); (· simp only [go_sem, Nat.reduceBEq, Nat.reduceAdd] <;> rfl); (· exact AVLes.refl _))
  rintro r H1 ⟨rfl, rfl⟩
  rw [setT_setT, show ((C ++ ([v.op, v.n].flatMap enc).map brow) ++ (encT v.s).map brow) = C ++ (encI v).map brow from by unfold encI; simp only [List.map_append, List.append_assoc]]
  simp only [put_some]
  repeat' first|(apply Sp.go;·constructor<;>first|exact ss|(change _=_;first|(simp only[go_sem,Nat.reduceBEq,Nat.reduceAdd,Nat.reduceLeDiff,reduceIte]<;>rfl)|rfl)|exact Nat.le_of_ble_eq_true rfl|decide|(repeat' first|(apply Lk.go;constructor)|assumption|exact nb ‹_› ‹_›|exact nt ‹_› ‹_›))|(intro b hb;repeat first|(refine fe hb ?_;intro _ _ hb)|(refine fT hb ?_;intro hb))|refine rt ?_|refine gA rfl ?_|refine gB rfl ?_|apply cT rfl|apply cF rfl|(apply DM.gbT;rfl)|(apply DM.gbF;rfl)|intro h
  refine AM.forget ((H.setB b1 36 p.cells).setT tk (.frz 5 1 (C ++ (encI v).map brow).length)) (hsub_own' ?_ rfl) ?_
  ·exact g_ne (by assumption) (by assumption)
  refine AM.roundX (i + 1) ⟨by rw [hD], by omega⟩ ?_ (show p.code.length - (i + 1) < p.code.length - i by omega)
  rw [hD]
  (repeat first | exact envle_nil _ | (refine envle_cons ?_ ?_; · (simp only [go_sem, Nat.reduceBEq, Nat.reduceAdd]; exact AVLe.refl _)))
  refine envle_cons ?_ ?_
  ·simp only [go_sem, Nat.reduceBEq, Nat.reduceAdd]
   refine avle_int ?_
   rw [inc64 h3 ok.code]
  exact envle_cons (AVLe.refl _) (envle_nil _)
 intro h3
 simp at h3
 rw [show i = p.code.length by omega, List.take_length]
 clear h3 hi
 repeat' first|(apply Sp.go;·constructor<;>first|exact ss|(change _=_;first|(simp only[go_sem,Nat.reduceBEq,Nat.reduceAdd,Nat.reduceLeDiff,reduceIte]<;>rfl)|rfl)|exact Nat.le_of_ble_eq_true rfl|decide|(repeat' first|(apply Lk.go;constructor)|assumption|exact nb ‹_› ‹_›|exact nt ‹_› ‹_›))|(intro b hb;repeat first|(refine fe hb ?_;intro _ _ hb)|(refine fT hb ?_;intro hb))|refine rt ?_|refine gA rfl ?_|refine gB rfl ?_|apply cT rfl|apply cF rfl|(apply DM.gbT;rfl)|(apply DM.gbF;rfl)|intro h
 (apply Sr.go;·constructor<;>first|(apply Lk.go;constructor<;>first|exact ss|(change _=_;first|(simp only[go_sem,Nat.reduceBEq,Nat.reduceAdd,Nat.reduceLeDiff,reduceIte]<;>rfl)|rfl)|exact Nat.le_of_ble_eq_true rfl|decide|(repeat' first|(apply Lk.go;constructor)|assumption|exact nb ‹_› ‹_›|exact nt ‹_› ‹_›))|assumption)
 exact AVLe.own
def pA : Prog := ⟨[115], 0, [], [], [], [⟨24, 0, []⟩]⟩
def bA : List (List AV) := [[.int .u8 2], [.int .u8 115], [.int .u8 0], [.int .u8 0], [.int .u8 0], [.int .u8 0], [.int .u8 2], [.int .u8 48], [.int .u8 0], [.int .u8 0]]
theorem encA : (encQ pA).map brow = bA := by
 rw [show encQ pA = [2, 115, 0, 0, 0, 0, 2, 48, 0, 0] by decide +kernel]
 rfl
theorem rvL_les {m : Mem} : ∀ {xs ys : List AV} {l : List Value}, AVLes xs ys → RvL m xs l → RvL m ys l
 | [], _, _, h, k => by simp only [AVLes] at h; subst h; exact k
 | a :: xs, _, _, h, k => by
  simp only [AVLes] at h
  obtain ⟨b, bs, rfl, h1, h2⟩ := h
  simp only [RvL] at k ⊢
  obtain ⟨v, vs, e1, e2, e3⟩ := k
  exact ⟨v, vs, e1, h1 m v e2, rvL_les h2 e3⟩
theorem pure_mono {P : Program} {f : FuncId} {xs ys : List AV} {r : AV} (h : Pure P f ys r) (ha : AVLes xs ys) : Pure P f xs r :=
 fun H m vs hH rh hv => h H m vs hH rh (rvL_les ha hv)
abbrev aN : AV := .agg [.str [115], .int .i64 0, .nilS, .nilS, .nilS, .vs 3 [[.int .i64 24, .int .i64 0, .str []]]]
theorem aN_le : AVLe aN pA.av := avle_agg (avles_cons (AVLe.refl _) (avles_cons (AVLe.refl _) (avles_cons AVLe.nil (avles_cons AVLe.nil (avles_cons AVLe.nil (avles_cons (AVLe.refl _) avles_nil))))))
set_option maxHeartbeats 4000000 in
theorem p9 (h21 : Pure Tryz.prog 21 [.vs 1 bA] (.tup [aN, .int .i64 0])) : Pure Tryz.prog 9 [] (.bool true) := by
 have h17 := p17 ⟨2, 0, [97, 34, 98]⟩ (by decide +kernel)
 have s17 : showI ⟨2, 0, [97, 34, 98]⟩ = [116, 101, 120, 116, 32, 34, 97, 92, 34, 98, 34] := by decide +kernel
 rw [s17] at h17
 have h16a := p16 ⟨1, -3, []⟩
 rw [show showI ⟨1, -3, []⟩ = [105, 110, 116, 32, 45, 51] by decide +kernel] at h16a
 have h16b := p16 ⟨24, 0, []⟩
 rw [show showI ⟨24, 0, []⟩ = [115, 116, 111, 112] by decide +kernel] at h16b
 have h20 : Pure Tryz.prog 20 [pA.av] (.vs 1 ((encQ pA).map brow)) := p20 pA
 rw [encA] at h20
 replace h20 := pure_mono h20 (avles_cons aN_le avles_nil)
 have h11 := p11 pA
 have hv : validP pA = true := by decide +kernel
 rw [hv] at h11
 replace h11 := pure_mono h11 (avles_cons aN_le avles_nil)
 have h14 := p14 pA pA
 rw [(sameP_iff pA pA).2 rfl] at h14
 replace h14 := pure_mono h14 (avles_cons aN_le (avles_cons aN_le avles_nil))
 have h27 := p27 pA
 rw [if_pos hv] at h27
 replace h27 := pure_mono h27 (avles_cons aN_le avles_nil)
 have hlen : ((linesP pA).map sr).length = 2 := by decide +kernel
 generalize (linesP pA).map sr = L at h27 hlen
 obtain ⟨r1, r2, rfl⟩ : ∃ r1 r2, L = [r1, r2] := by
  match L, hlen with
  | [r1, r2], _ => exact ⟨r1, r2, rfl⟩
 clear hlen
 refine pure_intro mo Tryz.func9 c9 fun H => ?_
 unfold e9 r9
 simp only [initEnv, initFrom]
 repeat' first|(apply Sp.go;·constructor<;>first|exact ss|(change _=_;first|(simp only[go_sem,Nat.reduceBEq,Nat.reduceAdd,Nat.reduceLeDiff,reduceIte]<;>rfl)|rfl)|exact Nat.le_of_ble_eq_true rfl|decide|(repeat' first|(apply Lk.go;constructor)|assumption|exact nb ‹_› ‹_›|exact nt ‹_› ‹_›))|(intro b hb;repeat first|(refine fe hb ?_;intro _ _ hb)|(refine fT hb ?_;intro hb))|refine rt ?_|refine gA rfl ?_|refine gB rfl ?_|apply cT rfl|apply cF rfl|(apply DM.gbT;rfl)|(apply DM.gbF;rfl)|intro h
 (apply DM.pcs (h17); (· simp only [go_sem, Nat.reduceBEq, Nat.reduceAdd] <;> rfl); (· exact AVLes.refl _))
 repeat' first|(apply Sp.go;·constructor<;>first|exact ss|(change _=_;first|(simp only[go_sem,Nat.reduceBEq,Nat.reduceAdd,Nat.reduceLeDiff,reduceIte]<;>rfl)|rfl)|exact Nat.le_of_ble_eq_true rfl|decide|(repeat' first|(apply Lk.go;constructor)|assumption|exact nb ‹_› ‹_›|exact nt ‹_› ‹_›))|(intro b hb;repeat first|(refine fe hb ?_;intro _ _ hb)|(refine fT hb ?_;intro hb))|refine rt ?_|refine gA rfl ?_|refine gB rfl ?_|apply cT rfl|apply cF rfl|(apply DM.gbT;rfl)|(apply DM.gbF;rfl)|intro h
 (apply DM.pcs (h20); (· simp only [go_sem, Nat.reduceBEq, Nat.reduceAdd] <;> rfl); (· exact AVLes.refl _))
 repeat' first|(apply Sp.go;·constructor<;>first|exact ss|(change _=_;first|(simp only[go_sem,Nat.reduceBEq,Nat.reduceAdd,Nat.reduceLeDiff,reduceIte]<;>rfl)|rfl)|exact Nat.le_of_ble_eq_true rfl|decide|(repeat' first|(apply Lk.go;constructor)|assumption|exact nb ‹_› ‹_›|exact nt ‹_› ‹_›))|(intro b hb;repeat first|(refine fe hb ?_;intro _ _ hb)|(refine fT hb ?_;intro hb))|refine rt ?_|refine gA rfl ?_|refine gB rfl ?_|apply cT rfl|apply cF rfl|(apply DM.gbT;rfl)|(apply DM.gbF;rfl)|intro h
 (apply DM.pcs (h21); (· simp only [go_sem, Nat.reduceBEq, Nat.reduceAdd] <;> rfl); (· exact AVLes.refl _))
 repeat' first|(apply Sp.go;·constructor<;>first|exact ss|(change _=_;first|(simp only[go_sem,Nat.reduceBEq,Nat.reduceAdd,Nat.reduceLeDiff,reduceIte]<;>rfl)|rfl)|exact Nat.le_of_ble_eq_true rfl|decide|(repeat' first|(apply Lk.go;constructor)|assumption|exact nb ‹_› ‹_›|exact nt ‹_› ‹_›))|(intro b hb;repeat first|(refine fe hb ?_;intro _ _ hb)|(refine fT hb ?_;intro hb))|refine rt ?_|refine gA rfl ?_|refine gB rfl ?_|apply cT rfl|apply cF rfl|(apply DM.gbT;rfl)|(apply DM.gbF;rfl)|intro h
 (apply DM.pcs (h16a); (· simp only [go_sem, Nat.reduceBEq, Nat.reduceAdd] <;> rfl); (· exact AVLes.refl _))
 repeat' first|(apply Sp.go;·constructor<;>first|exact ss|(change _=_;first|(simp only[go_sem,Nat.reduceBEq,Nat.reduceAdd,Nat.reduceLeDiff,reduceIte]<;>rfl)|rfl)|exact Nat.le_of_ble_eq_true rfl|decide|(repeat' first|(apply Lk.go;constructor)|assumption|exact nb ‹_› ‹_›|exact nt ‹_› ‹_›))|(intro b hb;repeat first|(refine fe hb ?_;intro _ _ hb)|(refine fT hb ?_;intro hb))|refine rt ?_|refine gA rfl ?_|refine gB rfl ?_|apply cT rfl|apply cF rfl|(apply DM.gbT;rfl)|(apply DM.gbF;rfl)|intro h
 (apply DM.pcs (h16b); (· simp only [go_sem, Nat.reduceBEq, Nat.reduceAdd] <;> rfl); (· exact AVLes.refl _))
 repeat' first|(apply Sp.go;·constructor<;>first|exact ss|(change _=_;first|(simp only[go_sem,Nat.reduceBEq,Nat.reduceAdd,Nat.reduceLeDiff,reduceIte]<;>rfl)|rfl)|exact Nat.le_of_ble_eq_true rfl|decide|(repeat' first|(apply Lk.go;constructor)|assumption|exact nb ‹_› ‹_›|exact nt ‹_› ‹_›))|(intro b hb;repeat first|(refine fe hb ?_;intro _ _ hb)|(refine fT hb ?_;intro hb))|refine rt ?_|refine gA rfl ?_|refine gB rfl ?_|apply cT rfl|apply cF rfl|(apply DM.gbT;rfl)|(apply DM.gbF;rfl)|intro h
 (apply DM.pcs (h11); (· simp only [go_sem, Nat.reduceBEq, Nat.reduceAdd] <;> rfl); (· exact AVLes.refl _))
 repeat' first|(apply Sp.go;·constructor<;>first|exact ss|(change _=_;first|(simp only[go_sem,Nat.reduceBEq,Nat.reduceAdd,Nat.reduceLeDiff,reduceIte]<;>rfl)|rfl)|exact Nat.le_of_ble_eq_true rfl|decide|(repeat' first|(apply Lk.go;constructor)|assumption|exact nb ‹_› ‹_›|exact nt ‹_› ‹_›))|(intro b hb;repeat first|(refine fe hb ?_;intro _ _ hb)|(refine fT hb ?_;intro hb))|refine rt ?_|refine gA rfl ?_|refine gB rfl ?_|apply cT rfl|apply cF rfl|(apply DM.gbT;rfl)|(apply DM.gbF;rfl)|intro h
 (apply DM.pcs (h14); (· simp only [go_sem, Nat.reduceBEq, Nat.reduceAdd] <;> rfl); (· exact AVLes.refl _))
 repeat' first|(apply Sp.go;·constructor<;>first|exact ss|(change _=_;first|(simp only[go_sem,Nat.reduceBEq,Nat.reduceAdd,Nat.reduceLeDiff,reduceIte]<;>rfl)|rfl)|exact Nat.le_of_ble_eq_true rfl|decide|(repeat' first|(apply Lk.go;constructor)|assumption|exact nb ‹_› ‹_›|exact nt ‹_› ‹_›))|(intro b hb;repeat first|(refine fe hb ?_;intro _ _ hb)|(refine fT hb ?_;intro hb))|refine rt ?_|refine gA rfl ?_|refine gB rfl ?_|apply cT rfl|apply cF rfl|(apply DM.gbT;rfl)|(apply DM.gbF;rfl)|intro h
 (apply DM.pcs (h27); (· simp only [go_sem, Nat.reduceBEq, Nat.reduceAdd] <;> rfl); (· exact AVLes.refl _))
 repeat' first|(apply Sp.go;·constructor<;>first|exact ss|(change _=_;first|(simp only[go_sem,Nat.reduceBEq,Nat.reduceAdd,Nat.reduceLeDiff,reduceIte]<;>rfl)|rfl)|exact Nat.le_of_ble_eq_true rfl|decide|(repeat' first|(apply Lk.go;constructor)|assumption|exact nb ‹_› ‹_›|exact nt ‹_› ‹_›))|(intro b hb;repeat first|(refine fe hb ?_;intro _ _ hb)|(refine fT hb ?_;intro hb))|refine rt ?_|refine gA rfl ?_|refine gB rfl ?_|apply cT rfl|apply cF rfl|(apply DM.gbT;rfl)|(apply DM.gbF;rfl)|intro h
 (apply Sr.go;·constructor<;>first|(apply Lk.go;constructor<;>first|exact ss|(change _=_;first|(simp only[go_sem,Nat.reduceBEq,Nat.reduceAdd,Nat.reduceLeDiff,reduceIte]<;>rfl)|rfl)|exact Nat.le_of_ble_eq_true rfl|decide|(repeat' first|(apply Lk.go;constructor)|assumption|exact nb ‹_› ‹_›|exact nt ‹_› ‹_›))|assumption)
 exact AVLe.refl _
end Go.Aw.T
namespace Go.Aw.T
open Go Go.Aw Go.Proofs Go.RowKit
set_option maxRecDepth 100000
attribute [local irreducible] Go.Aw.DM Go.Aw.AHeap.setB Go.Aw.AHeap.setT
attribute [local go_sem] peval EOpd.ev Env.get binInt binStr binBool buildParts AV.cells AV.okc setRange minmaxAV AV.one AV.ofCells eqCells eqCell bslRows cond_true cond_false beq_self_eq_true Bool.not_true Bool.not_false beq_true beq_false eq_self if_true Option.some.injEq List.length_cons List.length_nil List.take_succ_cons List.take_zero List.drop_succ_cons List.drop_zero List.set_cons_succ List.set_cons_zero List.nil_append List.cons_append List.append_nil and_self Option.map_some List.map_cons List.map_nil Bool.false_eq_true if_false Nat.zero_add Nat.add_zero true_and and_true Bool.and_true Bool.true_and List.getElem?_cons_zero List.getElem?_cons_succ Nat.zero_le Nat.le_refl
set_option linter.unusedSimpArgs false
set_option linter.unusedVariables false
set_option maxHeartbeats 4000000 in
theorem p3 (h9 : Pure Tryz.prog 9 [] (.bool true)) (p q : Prog) : Pure Tryz.prog 3 [p.av, q.av] (.bool true) := by
 have h10 := p10 p
 have g10 := p10 q
 rcases hp : fewP p with _ | _ <;> rw [hp] at h10
 ·refine pure_intro mo Tryz.func3 c3 fun H => ?_
  unfold e3 r3
  simp only [initEnv, initFrom]
  repeat' first|(apply Sp.go;·constructor<;>first|exact ss|(change _=_;first|(simp only[go_sem,Nat.reduceBEq,Nat.reduceAdd,Nat.reduceLeDiff,reduceIte]<;>rfl)|rfl)|exact Nat.le_of_ble_eq_true rfl|decide|(repeat' first|(apply Lk.go;constructor)|assumption|exact nb ‹_› ‹_›|exact nt ‹_› ‹_›))|(intro b hb;repeat first|(refine fe hb ?_;intro _ _ hb)|(refine fT hb ?_;intro hb))|refine rt ?_|refine gA rfl ?_|refine gB rfl ?_|apply cT rfl|apply cF rfl|(apply DM.gbT;rfl)|(apply DM.gbF;rfl)|intro h
  (apply DM.pcs (h9); (· simp only [go_sem, Nat.reduceBEq, Nat.reduceAdd] <;> rfl); (· exact AVLes.refl _))
  repeat' first|(apply Sp.go;·constructor<;>first|exact ss|(change _=_;first|(simp only[go_sem,Nat.reduceBEq,Nat.reduceAdd,Nat.reduceLeDiff,reduceIte]<;>rfl)|rfl)|exact Nat.le_of_ble_eq_true rfl|decide|(repeat' first|(apply Lk.go;constructor)|assumption|exact nb ‹_› ‹_›|exact nt ‹_› ‹_›))|(intro b hb;repeat first|(refine fe hb ?_;intro _ _ hb)|(refine fT hb ?_;intro hb))|refine rt ?_|refine gA rfl ?_|refine gB rfl ?_|apply cT rfl|apply cF rfl|(apply DM.gbT;rfl)|(apply DM.gbF;rfl)|intro h
  (apply DM.pcs (h10); (· simp only [go_sem, Nat.reduceBEq, Nat.reduceAdd] <;> rfl); (· exact AVLes.refl _))
  repeat' first|(apply Sp.go;·constructor<;>first|exact ss|(change _=_;first|(simp only[go_sem,Nat.reduceBEq,Nat.reduceAdd,Nat.reduceLeDiff,reduceIte]<;>rfl)|rfl)|exact Nat.le_of_ble_eq_true rfl|decide|(repeat' first|(apply Lk.go;constructor)|assumption|exact nb ‹_› ‹_›|exact nt ‹_› ‹_›))|(intro b hb;repeat first|(refine fe hb ?_;intro _ _ hb)|(refine fT hb ?_;intro hb))|refine rt ?_|refine gA rfl ?_|refine gB rfl ?_|apply cT rfl|apply cF rfl|(apply DM.gbT;rfl)|(apply DM.gbF;rfl)|intro h
  (apply Sr.go;·constructor<;>first|(apply Lk.go;constructor<;>first|exact ss|(change _=_;first|(simp only[go_sem,Nat.reduceBEq,Nat.reduceAdd,Nat.reduceLeDiff,reduceIte]<;>rfl)|rfl)|exact Nat.le_of_ble_eq_true rfl|decide|(repeat' first|(apply Lk.go;constructor)|assumption|exact nb ‹_› ‹_›|exact nt ‹_› ‹_›))|assumption)
  exact AVLe.refl _
 rcases hq : fewP q with _ | _ <;> rw [hq] at g10
 ·refine pure_intro mo Tryz.func3 c3 fun H => ?_
  unfold e3 r3
  simp only [initEnv, initFrom]
  repeat' first|(apply Sp.go;·constructor<;>first|exact ss|(change _=_;first|(simp only[go_sem,Nat.reduceBEq,Nat.reduceAdd,Nat.reduceLeDiff,reduceIte]<;>rfl)|rfl)|exact Nat.le_of_ble_eq_true rfl|decide|(repeat' first|(apply Lk.go;constructor)|assumption|exact nb ‹_› ‹_›|exact nt ‹_› ‹_›))|(intro b hb;repeat first|(refine fe hb ?_;intro _ _ hb)|(refine fT hb ?_;intro hb))|refine rt ?_|refine gA rfl ?_|refine gB rfl ?_|apply cT rfl|apply cF rfl|(apply DM.gbT;rfl)|(apply DM.gbF;rfl)|intro h
  (apply DM.pcs (h9); (· simp only [go_sem, Nat.reduceBEq, Nat.reduceAdd] <;> rfl); (· exact AVLes.refl _))
  repeat' first|(apply Sp.go;·constructor<;>first|exact ss|(change _=_;first|(simp only[go_sem,Nat.reduceBEq,Nat.reduceAdd,Nat.reduceLeDiff,reduceIte]<;>rfl)|rfl)|exact Nat.le_of_ble_eq_true rfl|decide|(repeat' first|(apply Lk.go;constructor)|assumption|exact nb ‹_› ‹_›|exact nt ‹_› ‹_›))|(intro b hb;repeat first|(refine fe hb ?_;intro _ _ hb)|(refine fT hb ?_;intro hb))|refine rt ?_|refine gA rfl ?_|refine gB rfl ?_|apply cT rfl|apply cF rfl|(apply DM.gbT;rfl)|(apply DM.gbF;rfl)|intro h
  (apply DM.pcs (h10); (· simp only [go_sem, Nat.reduceBEq, Nat.reduceAdd] <;> rfl); (· exact AVLes.refl _))
  repeat' first|(apply Sp.go;·constructor<;>first|exact ss|(change _=_;first|(simp only[go_sem,Nat.reduceBEq,Nat.reduceAdd,Nat.reduceLeDiff,reduceIte]<;>rfl)|rfl)|exact Nat.le_of_ble_eq_true rfl|decide|(repeat' first|(apply Lk.go;constructor)|assumption|exact nb ‹_› ‹_›|exact nt ‹_› ‹_›))|(intro b hb;repeat first|(refine fe hb ?_;intro _ _ hb)|(refine fT hb ?_;intro hb))|refine rt ?_|refine gA rfl ?_|refine gB rfl ?_|apply cT rfl|apply cF rfl|(apply DM.gbT;rfl)|(apply DM.gbF;rfl)|intro h
  (apply DM.pcs (g10); (· simp only [go_sem, Nat.reduceBEq, Nat.reduceAdd] <;> rfl); (· exact AVLes.refl _))
  repeat' first|(apply Sp.go;·constructor<;>first|exact ss|(change _=_;first|(simp only[go_sem,Nat.reduceBEq,Nat.reduceAdd,Nat.reduceLeDiff,reduceIte]<;>rfl)|rfl)|exact Nat.le_of_ble_eq_true rfl|decide|(repeat' first|(apply Lk.go;constructor)|assumption|exact nb ‹_› ‹_›|exact nt ‹_› ‹_›))|(intro b hb;repeat first|(refine fe hb ?_;intro _ _ hb)|(refine fT hb ?_;intro hb))|refine rt ?_|refine gA rfl ?_|refine gB rfl ?_|apply cT rfl|apply cF rfl|(apply DM.gbT;rfl)|(apply DM.gbF;rfl)|intro h
  (apply Sr.go;·constructor<;>first|(apply Lk.go;constructor<;>first|exact ss|(change _=_;first|(simp only[go_sem,Nat.reduceBEq,Nat.reduceAdd,Nat.reduceLeDiff,reduceIte]<;>rfl)|rfl)|exact Nat.le_of_ble_eq_true rfl|decide|(repeat' first|(apply Lk.go;constructor)|assumption|exact nb ‹_› ‹_›|exact nt ‹_› ‹_›))|assumption)
  exact AVLe.refl _
 have lp : p.vars.length ≤ 1000 ∧ p.hs.length ≤ 1000 ∧ p.os.length ≤ 1000 ∧ p.code.length ≤ 1000 := by simp [fewP] at hp; omega
 have lq : q.vars.length ≤ 1000 ∧ q.hs.length ≤ 1000 ∧ q.os.length ≤ 1000 ∧ q.code.length ≤ 1000 := by simp [fewP] at hq; omega
 have h11 := p11 p
 have h13 := p13 p
 have h14 := p14 p q
 have h15 := p15 p q
 have g14 := p14 p p
 rw [(sameP_iff p p).2 rfl] at g14
 generalize validP p = v at h11 h13
 generalize sameP p q = s at h14 h15
 clear hp hq
 refine pure_intro mo Tryz.func3 c3 fun H => ?_
 unfold e3 r3
 simp only [initEnv, initFrom]
 repeat' first|(apply Sp.go;·constructor<;>first|exact ss|(change _=_;first|(simp only[go_sem,Nat.reduceBEq,Nat.reduceAdd,Nat.reduceLeDiff,reduceIte]<;>rfl)|rfl)|exact Nat.le_of_ble_eq_true rfl|decide|(repeat' first|(apply Lk.go;constructor)|assumption|exact nb ‹_› ‹_›|exact nt ‹_› ‹_›))|(intro b hb;repeat first|(refine fe hb ?_;intro _ _ hb)|(refine fT hb ?_;intro hb))|refine rt ?_|refine gA rfl ?_|refine gB rfl ?_|apply cT rfl|apply cF rfl|(apply DM.gbT;rfl)|(apply DM.gbF;rfl)|intro h
 (apply DM.pcs (h9); (· simp only [go_sem, Nat.reduceBEq, Nat.reduceAdd] <;> rfl); (· exact AVLes.refl _))
 repeat' first|(apply Sp.go;·constructor<;>first|exact ss|(change _=_;first|(simp only[go_sem,Nat.reduceBEq,Nat.reduceAdd,Nat.reduceLeDiff,reduceIte]<;>rfl)|rfl)|exact Nat.le_of_ble_eq_true rfl|decide|(repeat' first|(apply Lk.go;constructor)|assumption|exact nb ‹_› ‹_›|exact nt ‹_› ‹_›))|(intro b hb;repeat first|(refine fe hb ?_;intro _ _ hb)|(refine fT hb ?_;intro hb))|refine rt ?_|refine gA rfl ?_|refine gB rfl ?_|apply cT rfl|apply cF rfl|(apply DM.gbT;rfl)|(apply DM.gbF;rfl)|intro h
 (apply DM.pcs (h10); (· simp only [go_sem, Nat.reduceBEq, Nat.reduceAdd] <;> rfl); (· exact AVLes.refl _))
 repeat' first|(apply Sp.go;·constructor<;>first|exact ss|(change _=_;first|(simp only[go_sem,Nat.reduceBEq,Nat.reduceAdd,Nat.reduceLeDiff,reduceIte]<;>rfl)|rfl)|exact Nat.le_of_ble_eq_true rfl|decide|(repeat' first|(apply Lk.go;constructor)|assumption|exact nb ‹_› ‹_›|exact nt ‹_› ‹_›))|(intro b hb;repeat first|(refine fe hb ?_;intro _ _ hb)|(refine fT hb ?_;intro hb))|refine rt ?_|refine gA rfl ?_|refine gB rfl ?_|apply cT rfl|apply cF rfl|(apply DM.gbT;rfl)|(apply DM.gbF;rfl)|intro h
 (apply DM.pcs (g10); (· simp only [go_sem, Nat.reduceBEq, Nat.reduceAdd] <;> rfl); (· exact AVLes.refl _))
 repeat' first|(apply Sp.go;·constructor<;>first|exact ss|(change _=_;first|(simp only[go_sem,Nat.reduceBEq,Nat.reduceAdd,Nat.reduceLeDiff,reduceIte]<;>rfl)|rfl)|exact Nat.le_of_ble_eq_true rfl|decide|(repeat' first|(apply Lk.go;constructor)|assumption|exact nb ‹_› ‹_›|exact nt ‹_› ‹_›))|(intro b hb;repeat first|(refine fe hb ?_;intro _ _ hb)|(refine fT hb ?_;intro hb))|refine gA rfl ?_|refine gB rfl ?_|apply cT rfl|apply cF rfl|(apply DM.gbT;rfl)|(apply DM.gbF;rfl)|intro h
 (refine AM.reg [p.av, .bool v, .bool v, p.av, q.av, .bool s, .bool s, p.av, p.av, .bool true] ?_; simp only [annotate, AV.rows])
 repeat' first|(apply Sp.go;·constructor<;>first|exact ss|(change _=_;first|(simp only[go_sem,Nat.reduceBEq,Nat.reduceAdd,Nat.reduceLeDiff,reduceIte]<;>rfl)|rfl)|exact Nat.le_of_ble_eq_true rfl|decide|(repeat' first|(apply Lk.go;constructor)|assumption|exact nb ‹_› ‹_›|exact nt ‹_› ‹_›))|(intro b hb;repeat first|(refine fe hb ?_;intro _ _ hb)|(refine fT hb ?_;intro hb))|refine rt ?_|refine gA rfl ?_|refine gB rfl ?_|apply cT rfl|apply cF rfl|(apply DM.gbT;rfl)|(apply DM.gbF;rfl)|intro h
 (apply DM.pcRs (p12 p lp); (· simp only [go_sem, Nat.reduceBEq, Nat.reduceAdd] <;> rfl); (· exact AVLes.refl _))
 repeat' first|(apply Sp.go;·constructor<;>first|exact ss|(change _=_;first|(simp only[go_sem,Nat.reduceBEq,Nat.reduceAdd,Nat.reduceLeDiff,reduceIte]<;>rfl)|rfl)|exact Nat.le_of_ble_eq_true rfl|decide|(repeat' first|(apply Lk.go;constructor)|assumption|exact nb ‹_› ‹_›|exact nt ‹_› ‹_›))|(intro b hb;repeat first|(refine fe hb ?_;intro _ _ hb)|(refine fT hb ?_;intro hb))|refine rt ?_|refine gA rfl ?_|refine gB rfl ?_|apply cT rfl|apply cF rfl|(apply DM.gbT;rfl)|(apply DM.gbF;rfl)|intro h
 (apply DM.pcRs (h11); (· simp only [go_sem, Nat.reduceBEq, Nat.reduceAdd] <;> rfl); (· exact AVLes.refl _))
 repeat' first|(apply Sp.go;·constructor<;>first|exact ss|(change _=_;first|(simp only[go_sem,Nat.reduceBEq,Nat.reduceAdd,Nat.reduceLeDiff,reduceIte]<;>rfl)|rfl)|exact Nat.le_of_ble_eq_true rfl|decide|(repeat' first|(apply Lk.go;constructor)|assumption|exact nb ‹_› ‹_›|exact nt ‹_› ‹_›))|(intro b hb;repeat first|(refine fe hb ?_;intro _ _ hb)|(refine fT hb ?_;intro hb))|refine rt ?_|refine gA rfl ?_|refine gB rfl ?_|apply cT rfl|apply cF rfl|(apply DM.gbT;rfl)|(apply DM.gbF;rfl)|intro h
 (apply DM.pcRs (h13); (· simp only [go_sem, Nat.reduceBEq, Nat.reduceAdd] <;> rfl); (· exact AVLes.refl _))
 rcases v <;> rcases s
 all_goals (repeat' first|(apply Sp.go;·constructor<;>first|exact ss|(change _=_;first|(simp only[go_sem,Nat.reduceBEq,Nat.reduceAdd,Nat.reduceLeDiff,reduceIte]<;>rfl)|rfl)|exact Nat.le_of_ble_eq_true rfl|decide|(repeat' first|(apply Lk.go;constructor)|assumption|exact nb ‹_› ‹_›|exact nt ‹_› ‹_›))|(intro b hb;repeat first|(refine fe hb ?_;intro _ _ hb)|(refine fT hb ?_;intro hb))|refine rt ?_|refine gA rfl ?_|refine gB rfl ?_|apply cT rfl|apply cF rfl|(apply DM.gbT;rfl)|(apply DM.gbF;rfl)|intro h)
 all_goals ((apply DM.pcRs (p12 p lp); (· simp only [go_sem, Nat.reduceBEq, Nat.reduceAdd] <;> rfl); (· exact AVLes.refl _)))
 all_goals (repeat' first|(apply Sp.go;·constructor<;>first|exact ss|(change _=_;first|(simp only[go_sem,Nat.reduceBEq,Nat.reduceAdd,Nat.reduceLeDiff,reduceIte]<;>rfl)|rfl)|exact Nat.le_of_ble_eq_true rfl|decide|(repeat' first|(apply Lk.go;constructor)|assumption|exact nb ‹_› ‹_›|exact nt ‹_› ‹_›))|(intro b hb;repeat first|(refine fe hb ?_;intro _ _ hb)|(refine fT hb ?_;intro hb))|refine rt ?_|refine gA rfl ?_|refine gB rfl ?_|apply cT rfl|apply cF rfl|(apply DM.gbT;rfl)|(apply DM.gbF;rfl)|intro h)
 all_goals ((apply DM.pcRs (p12 q lq); (· simp only [go_sem, Nat.reduceBEq, Nat.reduceAdd] <;> rfl); (· exact AVLes.refl _)))
 all_goals (repeat' first|(apply Sp.go;·constructor<;>first|exact ss|(change _=_;first|(simp only[go_sem,Nat.reduceBEq,Nat.reduceAdd,Nat.reduceLeDiff,reduceIte]<;>rfl)|rfl)|exact Nat.le_of_ble_eq_true rfl|decide|(repeat' first|(apply Lk.go;constructor)|assumption|exact nb ‹_› ‹_›|exact nt ‹_› ‹_›))|(intro b hb;repeat first|(refine fe hb ?_;intro _ _ hb)|(refine fT hb ?_;intro hb))|refine rt ?_|refine gA rfl ?_|refine gB rfl ?_|apply cT rfl|apply cF rfl|(apply DM.gbT;rfl)|(apply DM.gbF;rfl)|intro h)
 all_goals ((apply DM.pcRs (h14); (· simp only [go_sem, Nat.reduceBEq, Nat.reduceAdd] <;> rfl); (· exact AVLes.refl _)))
 all_goals (repeat' first|(apply Sp.go;·constructor<;>first|exact ss|(change _=_;first|(simp only[go_sem,Nat.reduceBEq,Nat.reduceAdd,Nat.reduceLeDiff,reduceIte]<;>rfl)|rfl)|exact Nat.le_of_ble_eq_true rfl|decide|(repeat' first|(apply Lk.go;constructor)|assumption|exact nb ‹_› ‹_›|exact nt ‹_› ‹_›))|(intro b hb;repeat first|(refine fe hb ?_;intro _ _ hb)|(refine fT hb ?_;intro hb))|refine rt ?_|refine gA rfl ?_|refine gB rfl ?_|apply cT rfl|apply cF rfl|(apply DM.gbT;rfl)|(apply DM.gbF;rfl)|intro h)
 all_goals ((apply DM.pcRs (h15); (· simp only [go_sem, Nat.reduceBEq, Nat.reduceAdd] <;> rfl); (· exact AVLes.refl _)))
 all_goals (repeat' first|(apply Sp.go;·constructor<;>first|exact ss|(change _=_;first|(simp only[go_sem,Nat.reduceBEq,Nat.reduceAdd,Nat.reduceLeDiff,reduceIte]<;>rfl)|rfl)|exact Nat.le_of_ble_eq_true rfl|decide|(repeat' first|(apply Lk.go;constructor)|assumption|exact nb ‹_› ‹_›|exact nt ‹_› ‹_›))|(intro b hb;repeat first|(refine fe hb ?_;intro _ _ hb)|(refine fT hb ?_;intro hb))|refine rt ?_|refine gA rfl ?_|refine gB rfl ?_|apply cT rfl|apply cF rfl|(apply DM.gbT;rfl)|(apply DM.gbF;rfl)|intro h)
 all_goals ((apply DM.pcRs (p12 p lp); (· simp only [go_sem, Nat.reduceBEq, Nat.reduceAdd] <;> rfl); (· exact AVLes.refl _)))
 all_goals (repeat' first|(apply Sp.go;·constructor<;>first|exact ss|(change _=_;first|(simp only[go_sem,Nat.reduceBEq,Nat.reduceAdd,Nat.reduceLeDiff,reduceIte]<;>rfl)|rfl)|exact Nat.le_of_ble_eq_true rfl|decide|(repeat' first|(apply Lk.go;constructor)|assumption|exact nb ‹_› ‹_›|exact nt ‹_› ‹_›))|(intro b hb;repeat first|(refine fe hb ?_;intro _ _ hb)|(refine fT hb ?_;intro hb))|refine rt ?_|refine gA rfl ?_|refine gB rfl ?_|apply cT rfl|apply cF rfl|(apply DM.gbT;rfl)|(apply DM.gbF;rfl)|intro h)
 all_goals ((apply DM.pcRs (p12 p lp); (· simp only [go_sem, Nat.reduceBEq, Nat.reduceAdd] <;> rfl); (· exact AVLes.refl _)))
 all_goals (repeat' first|(apply Sp.go;·constructor<;>first|exact ss|(change _=_;first|(simp only[go_sem,Nat.reduceBEq,Nat.reduceAdd,Nat.reduceLeDiff,reduceIte]<;>rfl)|rfl)|exact Nat.le_of_ble_eq_true rfl|decide|(repeat' first|(apply Lk.go;constructor)|assumption|exact nb ‹_› ‹_›|exact nt ‹_› ‹_›))|(intro b hb;repeat first|(refine fe hb ?_;intro _ _ hb)|(refine fT hb ?_;intro hb))|refine rt ?_|refine gA rfl ?_|refine gB rfl ?_|apply cT rfl|apply cF rfl|(apply DM.gbT;rfl)|(apply DM.gbF;rfl)|intro h)
 all_goals ((apply DM.pcRs (g14); (· simp only [go_sem, Nat.reduceBEq, Nat.reduceAdd] <;> rfl); (· exact AVLes.refl _)))
 all_goals (repeat' first|(apply Sp.go;·constructor<;>first|exact ss|(change _=_;first|(simp only[go_sem,Nat.reduceBEq,Nat.reduceAdd,Nat.reduceLeDiff,reduceIte]<;>rfl)|rfl)|exact Nat.le_of_ble_eq_true rfl|decide|(repeat' first|(apply Lk.go;constructor)|assumption|exact nb ‹_› ‹_›|exact nt ‹_› ‹_›))|(intro b hb;repeat first|(refine fe hb ?_;intro _ _ hb)|(refine fT hb ?_;intro hb))|refine rt ?_|refine gA rfl ?_|refine gB rfl ?_|apply cT rfl|apply cF rfl|(apply DM.gbT;rfl)|(apply DM.gbF;rfl)|intro h)
 all_goals ((apply Sr.go;·constructor<;>first|(apply Lk.go;constructor<;>first|exact ss|(change _=_;first|(simp only[go_sem,Nat.reduceBEq,Nat.reduceAdd,Nat.reduceLeDiff,reduceIte]<;>rfl)|rfl)|exact Nat.le_of_ble_eq_true rfl|decide|(repeat' first|(apply Lk.go;constructor)|assumption|exact nb ‹_› ‹_›|exact nt ‹_› ‹_›))|assumption))
 all_goals exact AVLe.refl _
end Go.Aw.T
namespace Go.Aw.T
open Go Go.Aw Go.Proofs Go.RowKit
set_option maxRecDepth 100000
attribute [local irreducible] Go.Aw.DM Go.Aw.AHeap.setB Go.Aw.AHeap.setT
attribute [local go_sem] peval EOpd.ev Env.get binInt binStr binBool buildParts AV.cells AV.okc setRange minmaxAV AV.one AV.ofCells eqCells eqCell bslRows cond_true cond_false beq_self_eq_true Bool.not_true Bool.not_false beq_true beq_false eq_self if_true Option.some.injEq List.length_cons List.length_nil List.take_succ_cons List.take_zero List.drop_succ_cons List.drop_zero List.set_cons_succ List.set_cons_zero List.nil_append List.cons_append List.append_nil and_self Option.map_some List.map_cons List.map_nil Bool.false_eq_true if_false Nat.zero_add Nat.add_zero true_and and_true Bool.and_true Bool.true_and List.getElem?_cons_zero List.getElem?_cons_succ Nat.zero_le Nat.le_refl
set_option linter.unusedSimpArgs false
set_option linter.unusedVariables false
def tabL : List (Nat × EC × List ERes × Nat) := [(21, e21, r21, 1), (60, e60, r60, 1), (61, e61, r61, 2), (62, e62, r62, 1), (63, e63, r63, 3), (64, e64, r64, 1), (65, e65, r65, 1), (96, e96, r96, 2), (97, e97, r97, 2), (98, e98, r98, 2), (99, e99, r99, 1), (100, e100, r100, 3), (101, e101, r101, 3), (102, e102, r102, 2), (103, e103, r103, 1), (104, e104, r104, 1), (126, e126, r126, 2), (127, e127, r127, 2), (128, e128, r128, 2), (129, e129, r129, 2)]
def tab : Tab := fun f => tabL.lookup f
theorem tab_mem {f : Nat} {x : EC × List ERes × Nat} : ∀ {l : List (Nat × EC × List ERes × Nat)}, l.lookup f = some x → (f, x) ∈ l
 | [], h => by cases h
 | (g, y) :: l, h => by
  simp only [List.lookup] at h
  split at h
  ·rename_i e
   have : f = g := by simpa using e
   subst this
   simp only [Option.some.injEq] at h
   subst h
   exact List.mem_cons_self
  ·exact List.mem_cons_of_mem _ (tab_mem h)
theorem tab_all : ∀ x ∈ tabL, ∃ fn, Tryz.prog.funcs[x.1]? = some fn ∧ chkF Tryz.prog fn x.2.2.2 x.2.1 x.2.2.1 = true := by
 intro x hx
 simp only [tabL, List.mem_cons, List.not_mem_nil, or_false] at hx
 rcases hx with rfl | rfl | rfl | rfl | rfl | rfl | rfl | rfl | rfl | rfl | rfl | rfl | rfl | rfl | rfl | rfl | rfl | rfl | rfl | rfl
 ·exact ⟨_, Tryz.func21, c21⟩
 ·exact ⟨_, Tryz.func60, c60⟩
 ·exact ⟨_, Tryz.func61, c61⟩
 ·exact ⟨_, Tryz.func62, c62⟩
 ·exact ⟨_, Tryz.func63, c63⟩
 ·exact ⟨_, Tryz.func64, c64⟩
 ·exact ⟨_, Tryz.func65, c65⟩
 ·exact ⟨_, Tryz.func96, c96⟩
 ·exact ⟨_, Tryz.func97, c97⟩
 ·exact ⟨_, Tryz.func98, c98⟩
 ·exact ⟨_, Tryz.func99, c99⟩
 ·exact ⟨_, Tryz.func100, by kernel_rfl⟩
 ·exact ⟨_, Tryz.func101, c101⟩
 ·exact ⟨_, Tryz.func102, c102⟩
 ·exact ⟨_, Tryz.func103, c103⟩
 ·exact ⟨_, Tryz.func104, c104⟩
 ·exact ⟨_, Tryz.func126, c126⟩
 ·exact ⟨_, Tryz.func127, by kernel_rfl⟩
 ·exact ⟨_, Tryz.func128, c128⟩
 ·exact ⟨_, Tryz.func129, c129⟩
theorem tab_ok : TabOK Tryz.prog tab := fun f e rs m h => tab_all (f, e, rs, m) (tab_mem h)
def libA : Lib := fun f xs => if f = 11 then (match xs with
 | [.agg [.str s, .int .i64 r, .raw (.slice none 0 0), .raw (.slice none 0 0), .raw (.slice none 0 0), .vs 3 [[.int .i64 a, .int .i64 b, .str t]]]] => some (.bool (validP ⟨s, r, [], [], [], [⟨a, b, t⟩]⟩))
 | _ => none) else none
theorem nil_le (s : List UInt8) (r a b : Int) (t : List UInt8) : AVLe (.agg [.str s, .int .i64 r, .nilS, .nilS, .nilS, .vs 3 [[.int .i64 a, .int .i64 b, .str t]]]) (⟨s, r, [], [], [], [⟨a, b, t⟩]⟩ : Prog).av :=
 avle_agg (avles_cons (AVLe.refl _) (avles_cons (AVLe.refl _) (avles_cons AVLe.nil (avles_cons AVLe.nil (avles_cons AVLe.nil (avles_cons (AVLe.refl _) avles_nil))))))
theorem lib_ok : LibOK Tryz.prog libA := fun f xs r h _ => by
 unfold libA at h
 split at h
 ·rename_i e
  subst e
  split at h
  ·simp only [Option.some.injEq] at h
   subst h
   exact pure_mono (p11 _) (avles_cons (nil_le _ _ _ _ _) avles_nil)
  ·cases h
 ·cases h
def cvsA : List FuncId := [99, 103, 100, 127]
theorem cvs_ok : ∀ f ∈ cvsA, callable Tryz.prog f = true := by
 intro f hf
 simp only [cvsA, List.mem_cons, List.not_mem_nil, or_false] at hf
 rcases hf with rfl | rfl | rfl | rfl <;> kernel_rfl
theorem runA : (run tab libA cvsA 3000 r21 [.c e21] (initEnv [.vs 1 bA]) .new).map (fun x => x.1.wk) = some (.tup [aN, .int .i64 0]) := by kernel_rfl
theorem p21A : Pure Tryz.prog 21 [.vs 1 bA] (.tup [aN, .int .i64 0]) := by
 obtain ⟨x, hx, e⟩ := Option.map_eq_some_iff.1 runA
 exact pure_run mo tab_ok lib_ok cvs_ok Tryz.func21 c21 (by decide +kernel) hx e (by decide +kernel)
theorem p9' : Pure Tryz.prog 9 [] (.bool true) := p9 p21A
theorem p3' (p q : Prog) : Pure Tryz.prog 3 [p.av, q.av] (.bool true) := p3 p9' p q
#print axioms p3'
end Go.Aw.T
