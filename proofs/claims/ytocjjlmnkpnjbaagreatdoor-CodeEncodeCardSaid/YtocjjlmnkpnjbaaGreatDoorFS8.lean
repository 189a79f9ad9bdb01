/- Part of a proof; own work. -/
import Derived.Test.YtocjjlmnkpnjbaaGreatDoorFS7
namespace Go.Aw.T
open Go Go.Aw Go.Proofs Go.RowKit
set_option maxRecDepth 100000
attribute [local irreducible] Go.Aw.DM Go.Aw.AHeap.setB Go.Aw.AHeap.setT
attribute [local go_sem] peval EOpd.ev Env.get binInt binStr binBool buildParts AV.cells AV.okc setRange minmaxAV AV.one AV.ofCells eqCells eqCell bslRows cond_true cond_false beq_self_eq_true Bool.not_true Bool.not_false beq_true beq_false eq_self if_true Option.some.injEq List.length_cons List.length_nil List.take_succ_cons List.take_zero List.drop_succ_cons List.drop_zero List.set_cons_succ List.set_cons_zero List.nil_append List.cons_append List.append_nil and_self Option.map_some List.map_cons List.map_nil Bool.false_eq_true if_false Nat.zero_add Nat.add_zero true_and and_true Bool.and_true Bool.true_and List.getElem?_cons_zero List.getElem?_cons_succ Nat.zero_le Nat.le_refl
set_option linter.unusedSimpArgs false
set_option linter.unusedVariables false
theorem p17 : Pure Tryz.prog 17 [.str sT] (.tup [.agg [.int .i64 2, .int .i64 0, .str [97, 34, 98]], .int .i64 0]) := by
 refine pure_intro mo Tryz.func17 c17 fun H => ?_
 unfold e17 r17
 simp only [initEnv, initFrom]
 repeat' first|refine Sp.g ?_|(intro b hb;repeat first|(refine fe hb ?_;intro _ _ hb)|(refine fT hb ?_;intro hb))|refine rt ?_|refine gA rfl ?_|refine gB rfl ?_|apply cT rfl|apply cF rfl|(apply DM.gbT;rfl)|(apply DM.gbF;rfl)|intro h
 (apply DM.pcs (h47); (· simp only [go_sem, Nat.reduceBEq, Nat.reduceAdd] <;> rfl); (· exact AVLes.refl _))
 repeat' first|refine Sp.g ?_|(intro b hb;repeat first|(refine fe hb ?_;intro _ _ hb)|(refine fT hb ?_;intro hb))|refine rt ?_|refine gA rfl ?_|refine gB rfl ?_|apply cT rfl|apply cF rfl|(apply DM.gbT;rfl)|(apply DM.gbF;rfl)|intro h
 (apply DM.pcs (p43); (· simp only [go_sem, Nat.reduceBEq, Nat.reduceAdd] <;> rfl); (· exact AVLes.refl _))
 repeat' first|refine Sp.g ?_|(intro b hb;repeat first|(refine fe hb ?_;intro _ _ hb)|(refine fT hb ?_;intro hb))|refine rt ?_|refine gA rfl ?_|refine gB rfl ?_|apply cT rfl|apply cF rfl|(apply DM.gbT;rfl)|(apply DM.gbF;rfl)|intro h
 rename_i b2 _ hG7 _ _
 (apply DM.slF (rows := opNames.map fun s => [AV.str s]) names_rows (by intro r hr; obtain ⟨_, _, rfl⟩ := List.mem_map.1 hr; rfl) rfl (by decide) (by decide); (· rfl); (· exact g_same))
 repeat' first|refine Sp.g ?_|(intro b hb;repeat first|(refine fe hb ?_;intro _ _ hb)|(refine fT hb ?_;intro hb))|refine rt ?_|refine gA rfl ?_|refine gB rfl ?_|apply cT rfl|apply cF rfl|(apply DM.gbT;rfl)|(apply DM.gbF;rfl)|intro h
 (apply DM.pcs (h48); (· simp only [go_sem, Nat.reduceBEq, Nat.reduceAdd] <;> rfl); (· exact AVLes.refl _))
 refine DM.p (v := .agg [.int .i64 2, .int .i64 0, .str []]) rfl ?_
 refine Sp.go (.al (by decide)) ?_
 intro b hb
 refine Sp.go (.sE (new := [.int .i64 2, .int .i64 0, .str []]) (o := 0) rfl g_same rfl rfl (by decide) (by decide) rfl rfl) ?_
 refine Sp.go .nl ?_
 rw [setB_setB]
 have hG8 := drop_fresh hG7 hb
 refine AM.forget ((H.setB b2 43 [.int .i64 0, .int .i64 0, .str []]).setB b 43 [.int .i64 2, .int .i64 0, .str []]) (hsub_dropB hG7) ?_
 refine fe hG8 ?_
 intro n82 n28 hH8
 clear hb hG8
 repeat' first|refine Sp.g ?_|(intro b hb;repeat first|(refine fe hb ?_;intro _ _ hb)|(refine fT hb ?_;intro hb))|refine rt ?_|refine gA rfl ?_|refine gB rfl ?_|apply cT rfl|apply cF rfl|(apply DM.gbT;rfl)|(apply DM.gbF;rfl)|intro h
 (apply DM.pcs (h49); (· simp only [go_sem, Nat.reduceBEq, Nat.reduceAdd] <;> rfl); (· exact AVLes.refl _))
 repeat' first|refine Sp.g ?_|(intro b hb;repeat first|(refine fe hb ?_;intro _ _ hb)|(refine fT hb ?_;intro hb))|refine rt ?_|refine gA rfl ?_|refine gB rfl ?_|apply cT rfl|apply cF rfl|(apply DM.gbT;rfl)|(apply DM.gbF;rfl)|intro h
 (apply DM.pcs (h16t); (· simp only [go_sem, Nat.reduceBEq, Nat.reduceAdd] <;> rfl); (· exact AVLes.refl _))
 repeat' first|refine Sp.g ?_|(intro b hb;repeat first|(refine fe hb ?_;intro _ _ hb)|(refine fT hb ?_;intro hb))|refine rt ?_|refine gA rfl ?_|refine gB rfl ?_|apply cT rfl|apply cF rfl|(apply DM.gbT;rfl)|(apply DM.gbF;rfl)|intro h
 refine Sr.g ?_
 exact AVLe.refl _
set_option maxHeartbeats 4000000 in
theorem p9 : Pure Tryz.prog 9 [] (.bool true) := by
 have hv : validP pA = true := by decide +kernel
 have hq : encQ pA = [2, 115, 0, 0, 0, 0, 2, 48, 0, 0] := by decide +kernel
 have h20 : Pure Tryz.prog 20 [pA.av] (.vs 1 ((encQ pA).map brow)) := p20 pA
 rw [encA] at h20
 replace h20 := pure_mono h20 (avles_cons aN_le avles_nil)
 have h21 : Pure Tryz.prog 21 [.vs 1 ((encQ pA).map brow)] _ := N.q21 (encQ pA) (by rw [hq]; decide) (by rw [hq]; decide)
 have hd : N.decP (encQ pA) = (pA, 0) := by unfold encQ; rw [if_pos hv]; exact N.dec_enc hv
 rw [encA, hd] at h21
 have h11 := p11 pA
 rw [hv] at h11
 replace h11 := pure_mono h11 (avles_cons aN_le avles_nil)
 refine pure_intro mo Tryz.func9 c9 fun H => ?_
 unfold e9 r9
 simp only [initEnv, initFrom]
 repeat' first|refine Sp.g ?_|(intro b hb;repeat first|(refine fe hb ?_;intro _ _ hb)|(refine fT hb ?_;intro hb))|refine rt ?_|refine gA rfl ?_|refine gB rfl ?_|apply cT rfl|apply cF rfl|(apply DM.gbT;rfl)|(apply DM.gbF;rfl)|intro h
 (apply DM.pcs (p17); (· simp only [go_sem, Nat.reduceBEq, Nat.reduceAdd] <;> rfl); (· exact AVLes.refl _))
 repeat' first|refine Sp.g ?_|(intro b hb;repeat first|(refine fe hb ?_;intro _ _ hb)|(refine fT hb ?_;intro hb))|refine rt ?_|refine gA rfl ?_|refine gB rfl ?_|apply cT rfl|apply cF rfl|(apply DM.gbT;rfl)|(apply DM.gbF;rfl)|intro h
 (apply DM.pcs (h20); (· simp only [go_sem, Nat.reduceBEq, Nat.reduceAdd] <;> rfl); (· exact AVLes.refl _))
 repeat' first|refine Sp.g ?_|(intro b hb;repeat first|(refine fe hb ?_;intro _ _ hb)|(refine fT hb ?_;intro hb))|refine rt ?_|refine gA rfl ?_|refine gB rfl ?_|apply cT rfl|apply cF rfl|(apply DM.gbT;rfl)|(apply DM.gbF;rfl)|intro h
 (apply DM.pcs (h21); (· simp only [go_sem, Nat.reduceBEq, Nat.reduceAdd] <;> rfl); (· exact AVLes.refl _))
 repeat' first|refine Sp.g ?_|(intro b hb;repeat first|(refine fe hb ?_;intro _ _ hb)|(refine fT hb ?_;intro hb))|refine rt ?_|refine gA rfl ?_|refine gB rfl ?_|apply cT rfl|apply cF rfl|(apply DM.gbT;rfl)|(apply DM.gbF;rfl)|intro h
 (apply DM.pcs (h16a); (· simp only [go_sem, Nat.reduceBEq, Nat.reduceAdd] <;> rfl); (· exact AVLes.refl _))
 repeat' first|refine Sp.g ?_|(intro b hb;repeat first|(refine fe hb ?_;intro _ _ hb)|(refine fT hb ?_;intro hb))|refine rt ?_|refine gA rfl ?_|refine gB rfl ?_|apply cT rfl|apply cF rfl|(apply DM.gbT;rfl)|(apply DM.gbF;rfl)|intro h
 (apply DM.pcs (h16b); (· simp only [go_sem, Nat.reduceBEq, Nat.reduceAdd] <;> rfl); (· exact AVLes.refl _))
 repeat' first|refine Sp.g ?_|(intro b hb;repeat first|(refine fe hb ?_;intro _ _ hb)|(refine fT hb ?_;intro hb))|refine rt ?_|refine gA rfl ?_|refine gB rfl ?_|apply cT rfl|apply cF rfl|(apply DM.gbT;rfl)|(apply DM.gbF;rfl)|intro h
 (apply DM.pcs (h11); (· simp only [go_sem, Nat.reduceBEq, Nat.reduceAdd] <;> rfl); (· exact AVLes.refl _))
 repeat' first|refine Sp.g ?_|(intro b hb;repeat first|(refine fe hb ?_;intro _ _ hb)|(refine fT hb ?_;intro hb))|refine rt ?_|refine gA rfl ?_|refine gB rfl ?_|apply cT rfl|apply cF rfl|(apply DM.gbT;rfl)|(apply DM.gbF;rfl)|intro h
 (apply DM.pcs (h14); (· simp only [go_sem, Nat.reduceBEq, Nat.reduceAdd] <;> rfl); (· exact AVLes.refl _))
 repeat' first|refine Sp.g ?_|(intro b hb;repeat first|(refine fe hb ?_;intro _ _ hb)|(refine fT hb ?_;intro hb))|refine rt ?_|refine gA rfl ?_|refine gB rfl ?_|apply cT rfl|apply cF rfl|(apply DM.gbT;rfl)|(apply DM.gbF;rfl)|intro h
 (apply DM.pcs (h27); (· simp only [go_sem, Nat.reduceBEq, Nat.reduceAdd] <;> rfl); (· exact AVLes.refl _))
 repeat' first|refine Sp.g ?_|(intro b hb;repeat first|(refine fe hb ?_;intro _ _ hb)|(refine fT hb ?_;intro hb))|refine rt ?_|refine gA rfl ?_|refine gB rfl ?_|apply cT rfl|apply cF rfl|(apply DM.gbT;rfl)|(apply DM.gbF;rfl)|intro h
 refine Sr.g ?_
 exact AVLe.refl _
def bytesR (s : List UInt8) : List (List AV) := s.map fun c => [.int .u8 c.toNat]
theorem bytesR_eq (s : List UInt8) : bytesR s = (s.map UInt8.toNat).map N.brow := by
 unfold bytesR
 rw [List.map_map]
 rfl
theorem p6 (s : List UInt8) : Pure Tryz.prog 6 [.vs 1 (bytesR s)] (.bool true) := by
 rw [bytesR_eq]
 exact N.q6 p9 _ fun b hb => by
  obtain ⟨c, _, rfl⟩ := List.mem_map.1 hb
  exact c.toNat_lt
theorem p5 (p : Prog) : Pure Tryz.prog 5 [p.av] (.bool true) := N.q5 p9 p23 p
end Go.Aw.T
