/- Part of a proof; own work. -/
import Derived.Test.YtjjngpjdhjeckaaP1
import Derived.Test.YtjjngpjdhjeckaaP2
import Derived.Test.YtjjngpjdhjeckaaP3
import Derived.Test.YtjjngpjdhjeckaaP4
import Derived.Test.YtjjngpjdhjeckaaP5
import Derived.Test.YtjjngpjdhjeckaaP6
import Derived.Test.YtjjngpjdhjeckaaPX
import Derived.Test.YtjjngpjdhjeckaaK
import Derived.Test.YtjjngpjdhjeckaaC6
import Derived.Shelf.Strings.Repeat
import Derived.Ground.NamesProg
import Derived.Below
import Derived.KernelRfl
import Derived.Deep.Slices
import Derived.Deep.Fields
import Derived.ChangeSame
import Derived.WideShapes
namespace Go.Aw.T
open Go Go.Aw Go.Proofs Go.RowKit
set_option maxRecDepth 100000
attribute [local irreducible] Go.Aw.DM Go.Aw.AHeap.setB Go.Aw.AHeap.setT
attribute [local go_sem] peval EOpd.ev Env.get binInt binStr binBool buildParts AV.cells AV.okc setRange minmaxAV AV.one AV.ofCells eqCells eqCell bslRows cond_true cond_false beq_self_eq_true Bool.not_true Bool.not_false beq_true beq_false eq_self if_true Option.some.injEq List.length_cons List.length_nil List.take_succ_cons List.take_zero List.drop_succ_cons List.drop_zero List.set_cons_succ List.set_cons_zero List.nil_append List.cons_append List.append_nil and_self Option.map_some List.map_cons List.map_nil Bool.false_eq_true if_false Nat.zero_add Nat.add_zero true_and and_true Bool.and_true Bool.true_and List.getElem?_cons_zero List.getElem?_cons_succ Nat.zero_le Nat.le_refl
set_option linter.unusedSimpArgs false
set_option linter.unusedVariables false
-- @Y | refine ho_look ‹_› ?_ | exact ho_blk | exact ho_ta | exact ho_tb ‹_› | exact ho_tc ‹_› | exact ho_td ‹_›
structure Dst (ta tb tc td : Nat) : Prop where
  ba : tb ≠ ta
  ca : tc ≠ ta
  cb : tc ≠ tb
  da : td ≠ ta
  db : td ≠ tb
  dc : td ≠ tc
def HO (G : AHeap) (b ta tb tc td : Nat) (nm : List UInt8) (rl : Int) (A B C D : List (List AV)) (va vb vc vd : Nat) : AHeap :=
  ⟨fun q => if q = b then some (41, [.str nm, .int .i64 rl, .ms ta va, .ms tb vb, .ms tc vc, .ms td vd]) else G.blk q,
   fun q => if q = ta then some (.mu 87 7 va A) else if q = tb then some (.mu 128 3 vb B) else if q = tc then some (.mu 117 4 vc C) else if q = td then some (.mu 88 3 vd D) else G.tok q⟩
section
variable {G : AHeap} {b ta tb tc td : Nat} {nm : List UInt8} {rl : Int} {A B C D : List (List AV)} {va vb vc vd : Nat}
theorem ho_blk : (HO G b ta tb tc td nm rl A B C D va vb vc vd).blk b = some (41, [.str nm, .int .i64 rl, .ms ta va, .ms tb vb, .ms tc vc, .ms td vd]) := by simp [HO]
theorem ho_look {x : Nat} {y : Option (TypeId × List AV)} (hx : x ≠ b) (h : G.blk x = y) : (HO G b ta tb tc td nm rl A B C D va vb vc vd).blk x = y := by simp [HO, hx, h]
theorem ho_ta : (HO G b ta tb tc td nm rl A B C D va vb vc vd).tok ta = some (.mu 87 7 va A) := by simp [HO]
theorem ho_tb (d : Dst ta tb tc td) : (HO G b ta tb tc td nm rl A B C D va vb vc vd).tok tb = some (.mu 128 3 vb B) := by simp [HO, d.ba]
theorem ho_tc (d : Dst ta tb tc td) : (HO G b ta tb tc td nm rl A B C D va vb vc vd).tok tc = some (.mu 117 4 vc C) := by simp [HO, d.ca, d.cb]
theorem ho_td (d : Dst ta tb tc td) : (HO G b ta tb tc td nm rl A B C D va vb vc vd).tok td = some (.mu 88 3 vd D) := by simp [HO, d.da, d.db, d.dc]
theorem ho_sub {H : AHeap} (h : HSub H G) (hb : H.blk b = none) (ha : H.tok ta = none) (hb' : H.tok tb = none) (hc : H.tok tc = none) (hd : H.tok td = none) : HSub H (HO G b ta tb tc td nm rl A B C D va vb vc vd) where
  blk := fun x y hx => by
    have e : x ≠ b := fun e => by subst e; rw [hb] at hx; cases hx
    simp only [HO, if_neg e]; exact h.blk x y hx
  tok := fun x y hx => by
    have e1 : x ≠ ta := fun e => by subst e; rw [ha] at hx; cases hx
    have e2 : x ≠ tb := fun e => by subst e; rw [hb'] at hx; cases hx
    have e3 : x ≠ tc := fun e => by subst e; rw [hc] at hx; cases hx
    have e4 : x ≠ td := fun e => by subst e; rw [hd] at hx; cases hx
    simp only [HO, if_neg e1, if_neg e2, if_neg e3, if_neg e4]; exact h.tok x y hx
theorem ho_set_a (d : Dst ta tb tc td) {R : List (List AV)} : ((HO G b ta tb tc td nm rl A B C D va vb vc vd).setT ta (.mu 87 7 (va + 1) R)).setB b 41 [.str nm, .int .i64 rl, .ms ta (va + 1), .ms tb vb, .ms tc vc, .ms td vd] = HO G b ta tb tc td nm rl R B C D (va + 1) vb vc vd := by
  have h1 := d.ba; have h2 := d.ca; have h3 := d.cb; have h4 := d.da; have h5 := d.db; have h6 := d.dc
  simp only [HO, AHeap.setT, AHeap.setB, AHeap.mk.injEq]
  refine ⟨?_, ?_⟩
  · funext q
    by_cases e : q = b <;> simp [e]
  · funext q
    by_cases e : q = ta
    · subst e; simp [*]
    · simp [e]
theorem ho_set_b (d : Dst ta tb tc td) {R : List (List AV)} : ((HO G b ta tb tc td nm rl A B C D va vb vc vd).setT tb (.mu 128 3 (vb + 1) R)).setB b 41 [.str nm, .int .i64 rl, .ms ta va, .ms tb (vb + 1), .ms tc vc, .ms td vd] = HO G b ta tb tc td nm rl A R C D va (vb + 1) vc vd := by
  have h1 := d.ba; have h2 := d.ca; have h3 := d.cb; have h4 := d.da; have h5 := d.db; have h6 := d.dc
  simp only [HO, AHeap.setT, AHeap.setB, AHeap.mk.injEq]
  refine ⟨?_, ?_⟩
  · funext q
    by_cases e : q = b <;> simp [e]
  · funext q
    by_cases e : q = tb
    · subst e; simp [*]
    · simp [e]
theorem ho_set_c (d : Dst ta tb tc td) {R : List (List AV)} : ((HO G b ta tb tc td nm rl A B C D va vb vc vd).setT tc (.mu 117 4 (vc + 1) R)).setB b 41 [.str nm, .int .i64 rl, .ms ta va, .ms tb vb, .ms tc (vc + 1), .ms td vd] = HO G b ta tb tc td nm rl A B R D va vb (vc + 1) vd := by
  have h1 := d.ba; have h2 := d.ca; have h3 := d.cb; have h4 := d.da; have h5 := d.db; have h6 := d.dc
  simp only [HO, AHeap.setT, AHeap.setB, AHeap.mk.injEq]
  refine ⟨?_, ?_⟩
  · funext q
    by_cases e : q = b <;> simp [e]
  · funext q
    by_cases e : q = tc
    · subst e; simp [*]
    · simp [e]
theorem ho_set_d (d : Dst ta tb tc td) {R : List (List AV)} : ((HO G b ta tb tc td nm rl A B C D va vb vc vd).setT td (.mu 88 3 (vd + 1) R)).setB b 41 [.str nm, .int .i64 rl, .ms ta va, .ms tb vb, .ms tc vc, .ms td (vd + 1)] = HO G b ta tb tc td nm rl A B C R va vb vc (vd + 1) := by
  have h1 := d.ba; have h2 := d.ca; have h3 := d.cb; have h4 := d.da; have h5 := d.db; have h6 := d.dc
  simp only [HO, AHeap.setT, AHeap.setB, AHeap.mk.injEq]
  refine ⟨?_, ?_⟩
  · funext q
    by_cases e : q = b <;> simp [e]
  · funext q
    by_cases e : q = td
    · subst e; simp [*]
    · simp [e]
end
theorem take_succ_map {α β : Type} (f : α → β) {l : List α} {i : Nat} {v : α} (h : l[i]? = some v) : (l.take i).map f ++ [f v] = (l.take (i + 1)).map f := by
  rw [List.take_add_one, h]; simp
theorem p18 (p : Prog) (hl : p.vars.length ≤ 1000 ∧ p.hs.length ≤ 1000 ∧ p.os.length ≤ 1000 ∧ p.code.length ≤ 1000) : Pure Try.prog 18 [p.av] p.av := by
  refine pure_introF mo Try.func18 c18 fun H => ?_
  unfold e18 r18
  simp only [initEnv, initFrom]
  repeat' first | apply AM.seq | apply AM.block | apply AM.skip | apply AM.blkEnd | refine AM.exit rfl ?_ | (apply AM.reg []; simp only [annotate]) | apply DM.nil | refine DM.g1 rfl ?_ | refine DM.g0s (t' := true) rfl rfl ?_ | refine DM.g0s (t' := false) rfl rfl ?_ | refine DM.gus rfl ?_ | ((first | apply DM.ldm1 | apply DM.ldmA | apply DM.bxA | apply DM.al | apply DM.stE | apply DM.ixP | apply DM.lnM | apply DM.fdM | apply DM.bsl | apply DM.p); (repeat first | (change _ = _; first | exact setB_setB | (simp only [go_sem, Nat.reduceBEq, Nat.reduceAdd, Nat.reduceLeDiff, reduceIte] <;> rfl) | rfl | focus ((repeat' first | exact g_same | refine g_ne ‹_› ?_ | refine g_fresh ‹_› ?_ | refine g_T ?_ | exact t_same | refine t_ne ‹_› ?_ | refine t_fresh ‹_› ?_ | refine t_B ?_ | assumption); done)) | exact RD.r | apply RD.p | exact Nat.le_of_ble_eq_true rfl | decide); first | change DM _ _ _ _ _ _ | (intro b hb; repeat first | (refine fresh_elim hb ?_; intro _ _ hb) | (refine fresh_elimT hb ?_; intro hb))) | apply AM.condT rfl | apply AM.condF rfl | (apply DM.gbT; rfl) | (apply DM.gbF; rfl) | intro h
  rename_i b1 h1 b2 h2 n1 n2 h3 h4 n3 n4 h5 n5 n6
  rename Nat => b
  have hG : ∃ G : AHeap, HSub H G ∧ G.blk b = none ∧ G.blk b1 = some (27, p.cells) ∧ (G.blk b2 = some (41, [.str [], .int .i64 0, .nilS, .nilS, .nilS, .nilS])) ∧ G = (H.setB b1 27 p.cells).setB b2 41 [.str [], .int .i64 0, .nilS, .nilS, .nilS, .nilS] := ⟨_, HSub.setB (HSub.setB (HSub.refl _) h1) h3, by assumption, g_ne n2 g_same, g_same, rfl⟩
  obtain ⟨G, hGs, hGb, hG1, hG2, hGe⟩ := hG
  have hHb : H.blk b = none := by assumption
  have e1 : b1 ≠ b := (ne_blk hGb hG1).2
  have e2 : b2 ≠ b := (ne_blk hGb hG2).2
  refine AM.eqH (H2 := G.setB b 41 [.str p.name, .int .i64 p.role, .nilS, .nilS, .nilS, .nilS]) (by rw [hGe]) ?_
  apply AM.ghostB b 2 87 7 (by decide) g_same rfl
  intro ta hta
  apply AM.ghostB b 3 128 3 (by decide) g_same rfl
  intro tb htb
  apply AM.ghostB b 4 117 4 (by decide) g_same rfl
  intro tc htc
  apply AM.ghostB b 5 88 3 (by decide) g_same rfl
  intro td htd
  have ha0 : G.tok ta = none := freshT_setB hta
  obtain ⟨nba, _, htb⟩ := freshT_setT (freshT_setB htb)
  have hb0 : G.tok tb = none := freshT_setB htb
  obtain ⟨ncb, _, htc⟩ := freshT_setT (freshT_setB htc)
  obtain ⟨nca, _, htc⟩ := freshT_setT (freshT_setB htc)
  have hc0 : G.tok tc = none := freshT_setB htc
  obtain ⟨ndc, _, htd⟩ := freshT_setT (freshT_setB htd)
  obtain ⟨ndb, _, htd⟩ := freshT_setT (freshT_setB htd)
  obtain ⟨nda, _, htd⟩ := freshT_setT (freshT_setB htd)
  have hd0 : G.tok td = none := freshT_setB htd
  have d : Dst ta tb tc td := ⟨nba, nca, ncb, nda, ndb, ndc⟩
  have fa := hGs.none_tok ha0; have fb := hGs.none_tok hb0; have fc := hGs.none_tok hc0; have fd := hGs.none_tok hd0
  have hsubO : ∀ A B C D va vb vc vd c, HSub H ((HO G b ta tb tc td p.name p.role A B C D va vb vc vd).setB b2 41 c) := fun A B C D va vb vc vd c => HSub.setB (ho_sub hGs hHb fa fb fc fd) h3
  refine AM.eqH (H2 := HO G b ta tb tc td p.name p.role [] [] [] [] 0 0 0 0) ?_ ?_
  · have q1 := d.ba; have q2 := d.ca; have q3 := d.cb; have q4 := d.da; have q5 := d.db; have q6 := d.dc
    simp only [HO, AHeap.setT, AHeap.setB, AHeap.mk.injEq]
    refine ⟨?_, ?_⟩
    · funext q
      by_cases e : q = b <;> simp [e]
    · funext q
      by_cases e3 : q = ta
      · subst e3; simp [*, Ne.symm q1, Ne.symm q2, Ne.symm q4]
      · by_cases e4 : q = tb
        · subst e4; simp [*, Ne.symm q3, Ne.symm q5]
        · by_cases e5 : q = tc
          · subst e5; simp [*, Ne.symm q6]
          · simp [*]
  clear hGe hta htb htc htd
  refine AM.loopX (X := Nat) 0 (fun i => [(1, .ptr b1 0), (2, .ptr b2 0), (3, .ptr b 0), (4, .int .i64 (i : Int))]) (fun i H' => H' = HO G b ta tb tc td p.name p.role ((p.vars.take i).map Var_.row) [] [] [] i 0 0 0 ∧ i ≤ p.vars.length) (fun i => p.vars.length - i) ⟨rfl, Nat.zero_le _⟩ ?_ ?_
  · (repeat first | exact envle_nil _ | (refine envle_cons ?_ ?_; · (simp only [go_sem, Nat.reduceBEq, Nat.reduceAdd]; exact AVLe.refl _)))
  rintro i H' ⟨rfl, hi⟩
  repeat' first | apply AM.seq | apply AM.block | apply AM.skip | apply AM.blkEnd | refine AM.exit rfl ?_ | (apply AM.reg []; simp only [annotate]) | apply DM.nil | refine DM.g1 rfl ?_ | refine DM.g0s (t' := true) rfl rfl ?_ | refine DM.g0s (t' := false) rfl rfl ?_ | refine DM.gus rfl ?_ | ((first | apply DM.ldm1 | apply DM.ldmA | apply DM.bxA | apply DM.al | apply DM.stE | apply DM.ixP | apply DM.lnM | apply DM.fdM | apply DM.bsl | apply DM.p); (repeat first | (change _ = _; first | exact setB_setB | (simp only [go_sem, Nat.reduceBEq, Nat.reduceAdd, Nat.reduceLeDiff, reduceIte] <;> rfl) | rfl | focus ((repeat' first | exact g_same | refine g_ne ‹_› ?_ | refine g_fresh ‹_› ?_ | refine g_T ?_ | exact t_same | refine t_ne ‹_› ?_ | refine t_fresh ‹_› ?_ | refine t_B ?_ | refine ho_look ‹_› ?_ | exact ho_blk | exact ho_ta | exact ho_tb ‹_› | exact ho_tc ‹_› | exact ho_td ‹_› | assumption); done)) | exact RD.r | apply RD.p | exact Nat.le_of_ble_eq_true rfl | decide); first | change DM _ _ _ _ _ _ | (intro b hb; repeat first | (refine fresh_elim hb ?_; intro _ _ hb) | (refine fresh_elimT hb ?_; intro hb))) | apply AM.condT rfl | apply AM.condF rfl | (apply DM.gbT; rfl) | (apply DM.gbF; rfl) | intro h
  (apply AM.cond; (· rfl))
  · intro hlt
    simp at hlt
    obtain ⟨v, hv⟩ := some_of hlt
    repeat' first | apply AM.seq | apply AM.block | apply AM.skip | apply AM.blkEnd | refine AM.exit rfl ?_ | (apply AM.reg []; simp only [annotate]) | apply DM.nil | refine DM.g1 rfl ?_ | refine DM.g0s (t' := true) rfl rfl ?_ | refine DM.g0s (t' := false) rfl rfl ?_ | refine DM.gus rfl ?_ | ((first | apply DM.ldm1 | apply DM.ldmA | apply DM.bxA | apply DM.al | apply DM.stE | apply DM.ixP | apply DM.lnM | apply DM.fdM | apply DM.bsl | apply DM.p); (repeat first | (change _ = _; first | exact setB_setB | (simp only [go_sem, Nat.reduceBEq, Nat.reduceAdd, Nat.reduceLeDiff, reduceIte] <;> rfl) | rfl | focus ((repeat' first | exact g_same | refine g_ne ‹_› ?_ | refine g_fresh ‹_› ?_ | refine g_T ?_ | exact t_same | refine t_ne ‹_› ?_ | refine t_fresh ‹_› ?_ | refine t_B ?_ | refine ho_look ‹_› ?_ | exact ho_blk | exact ho_ta | exact ho_tb ‹_› | exact ho_tc ‹_› | exact ho_td ‹_› | assumption); done)) | exact RD.r | apply RD.p | exact Nat.le_of_ble_eq_true rfl | decide); first | change DM _ _ _ _ _ _ | (intro b hb; repeat first | (refine fresh_elim hb ?_; intro _ _ hb) | (refine fresh_elimT hb ?_; intro hb))) | apply AM.condT rfl | apply AM.condF rfl | (apply DM.gbT; rfl) | (apply DM.gbF; rfl) | intro h
    (apply DM.ixV (row := v.row) (z := (i : Int)) (by omega) (row_get Var_.row hv); (· rfl); (· rfl))
    repeat' first | apply AM.seq | apply AM.block | apply AM.skip | apply AM.blkEnd | refine AM.exit rfl ?_ | (apply AM.reg []; simp only [annotate]) | apply DM.nil | refine DM.g1 rfl ?_ | refine DM.g0s (t' := true) rfl rfl ?_ | refine DM.g0s (t' := false) rfl rfl ?_ | refine DM.gus rfl ?_ | ((first | apply DM.ldm1 | apply DM.ldmA | apply DM.bxA | apply DM.al | apply DM.stE | apply DM.ixP | apply DM.lnM | apply DM.fdM | apply DM.bsl | apply DM.p); (repeat first | (change _ = _; first | exact setB_setB | (simp only [go_sem, Nat.reduceBEq, Nat.reduceAdd, Nat.reduceLeDiff, reduceIte] <;> rfl) | rfl | focus ((repeat' first | exact g_same | refine g_ne ‹_› ?_ | refine g_fresh ‹_› ?_ | refine g_T ?_ | exact t_same | refine t_ne ‹_› ?_ | refine t_fresh ‹_› ?_ | refine t_B ?_ | refine ho_look ‹_› ?_ | exact ho_blk | exact ho_ta | exact ho_tb ‹_› | exact ho_tc ‹_› | exact ho_td ‹_› | assumption); done)) | exact RD.r | apply RD.p | exact Nat.le_of_ble_eq_true rfl | decide); first | change DM _ _ _ _ _ _ | (intro b hb; repeat first | (refine fresh_elim hb ?_; intro _ _ hb) | (refine fresh_elimT hb ?_; intro hb))) | apply AM.condT rfl | apply AM.condF rfl | (apply DM.gbT; rfl) | (apply DM.gbF; rfl) | intro h
    (apply DM.apM; (· rfl); (· repeat' first | exact t_same | refine t_ne ‹_› ?_ | refine t_fresh ‹_› ?_ | refine t_B ?_ | refine ho_look ‹_› ?_ | exact ho_blk | exact ho_ta | exact ho_tb ‹_› | exact ho_tc ‹_› | exact ho_td ‹_› | assumption); (· simp only [rowsOf, if_true, eq_self, go_sem, Nat.reduceBEq, reduceIte] <;> rfl); (· (simp only [List.length_map, List.length_cons, List.length_nil, List.length_take, maxLen]; omega)); (· (simp only [List.length_map, List.length_cons, List.length_nil, List.length_take, maxLen]; omega)))
    rw [show (p.vars.take i).map Var_.row ++ [v.row] = (p.vars.take (i + 1)).map Var_.row from take_succ_map Var_.row hv]
    repeat' first | apply AM.seq | apply AM.block | apply AM.skip | apply AM.blkEnd | refine AM.exit rfl ?_ | (apply AM.reg []; simp only [annotate]) | apply DM.nil | refine DM.g1 rfl ?_ | refine DM.g0s (t' := true) rfl rfl ?_ | refine DM.g0s (t' := false) rfl rfl ?_ | refine DM.gus rfl ?_ | ((first | apply DM.ldm1 | apply DM.ldmA | apply DM.bxA | apply DM.al | apply DM.stE | apply DM.ixP | apply DM.lnM | apply DM.fdM | apply DM.bsl | apply DM.p); (repeat first | (change _ = _; first | exact setB_setB | (simp only [go_sem, Nat.reduceBEq, Nat.reduceAdd, Nat.reduceLeDiff, reduceIte] <;> rfl) | rfl | focus ((repeat' first | exact g_same | refine g_ne ‹_› ?_ | refine g_fresh ‹_› ?_ | refine g_T ?_ | exact t_same | refine t_ne ‹_› ?_ | refine t_fresh ‹_› ?_ | refine t_B ?_ | refine ho_look ‹_› ?_ | exact ho_blk | exact ho_ta | exact ho_tb ‹_› | exact ho_tc ‹_› | exact ho_td ‹_› | assumption); done)) | exact RD.r | apply RD.p | exact Nat.le_of_ble_eq_true rfl | decide); first | change DM _ _ _ _ _ _ | (intro b hb; repeat first | (refine fresh_elim hb ?_; intro _ _ hb) | (refine fresh_elimT hb ?_; intro hb))) | apply AM.condT rfl | apply AM.condF rfl | (apply DM.gbT; rfl) | (apply DM.gbF; rfl) | intro h
    refine AM.eqH (ho_set_a d) ?_
    refine AM.roundX (i + 1) ⟨rfl, by omega⟩ ?_ (show p.vars.length - (i + 1) < p.vars.length - i by omega)
    (repeat first | exact envle_nil _ | (refine envle_cons ?_ ?_; · (simp only [go_sem, Nat.reduceBEq, Nat.reduceAdd]; exact AVLe.refl _)))
    refine envle_cons ?_ ?_
    · simp only [go_sem, Nat.reduceBEq, Nat.reduceAdd]
      refine avle_int ?_
      rw [inc64 hlt (show p.vars.length ≤ maxLen by unfold maxLen; omega)]
    exact envle_nil _
  intro hlt
  simp at hlt
  have hi0 : i = p.vars.length := by omega
  subst hi0
  rw [List.take_length]
  clear hi hlt
  repeat' first | apply AM.seq | apply AM.block | apply AM.skip | apply AM.blkEnd | refine AM.exit rfl ?_ | (apply AM.reg []; simp only [annotate]) | apply DM.nil | refine DM.g1 rfl ?_ | refine DM.g0s (t' := true) rfl rfl ?_ | refine DM.g0s (t' := false) rfl rfl ?_ | refine DM.gus rfl ?_ | ((first | apply DM.ldm1 | apply DM.ldmA | apply DM.bxA | apply DM.al | apply DM.stE | apply DM.ixP | apply DM.lnM | apply DM.fdM | apply DM.bsl | apply DM.p); (repeat first | (change _ = _; first | exact setB_setB | (simp only [go_sem, Nat.reduceBEq, Nat.reduceAdd, Nat.reduceLeDiff, reduceIte] <;> rfl) | rfl | focus ((repeat' first | exact g_same | refine g_ne ‹_› ?_ | refine g_fresh ‹_› ?_ | refine g_T ?_ | exact t_same | refine t_ne ‹_› ?_ | refine t_fresh ‹_› ?_ | refine t_B ?_ | refine ho_look ‹_› ?_ | exact ho_blk | exact ho_ta | exact ho_tb ‹_› | exact ho_tc ‹_› | exact ho_td ‹_› | assumption); done)) | exact RD.r | apply RD.p | exact Nat.le_of_ble_eq_true rfl | decide); first | change DM _ _ _ _ _ _ | (intro b hb; repeat first | (refine fresh_elim hb ?_; intro _ _ hb) | (refine fresh_elimT hb ?_; intro hb))) | apply AM.condT rfl | apply AM.condF rfl | (apply DM.gbT; rfl) | (apply DM.gbF; rfl) | intro h
  refine AM.loopX (X := Nat) 0 (fun i => [(1, .ptr b1 0), (2, .ptr b2 0), (3, .ptr b 0), (5, .int .i64 (i : Int))]) (fun i H' => H' = HO G b ta tb tc td p.name p.role (p.vars.map Var_.row) ((p.hs.take i).map Hd.row) [] [] p.vars.length i 0 0 ∧ i ≤ p.hs.length) (fun i => p.hs.length - i) ⟨rfl, Nat.zero_le _⟩ ?_ ?_
  · (repeat first | exact envle_nil _ | (refine envle_cons ?_ ?_; · (simp only [go_sem, Nat.reduceBEq, Nat.reduceAdd]; exact AVLe.refl _)))
  rintro i H' ⟨rfl, hi⟩
  repeat' first | apply AM.seq | apply AM.block | apply AM.skip | apply AM.blkEnd | refine AM.exit rfl ?_ | (apply AM.reg []; simp only [annotate]) | apply DM.nil | refine DM.g1 rfl ?_ | refine DM.g0s (t' := true) rfl rfl ?_ | refine DM.g0s (t' := false) rfl rfl ?_ | refine DM.gus rfl ?_ | ((first | apply DM.ldm1 | apply DM.ldmA | apply DM.bxA | apply DM.al | apply DM.stE | apply DM.ixP | apply DM.lnM | apply DM.fdM | apply DM.bsl | apply DM.p); (repeat first | (change _ = _; first | exact setB_setB | (simp only [go_sem, Nat.reduceBEq, Nat.reduceAdd, Nat.reduceLeDiff, reduceIte] <;> rfl) | rfl | focus ((repeat' first | exact g_same | refine g_ne ‹_› ?_ | refine g_fresh ‹_› ?_ | refine g_T ?_ | exact t_same | refine t_ne ‹_› ?_ | refine t_fresh ‹_› ?_ | refine t_B ?_ | refine ho_look ‹_› ?_ | exact ho_blk | exact ho_ta | exact ho_tb ‹_› | exact ho_tc ‹_› | exact ho_td ‹_› | assumption); done)) | exact RD.r | apply RD.p | exact Nat.le_of_ble_eq_true rfl | decide); first | change DM _ _ _ _ _ _ | (intro b hb; repeat first | (refine fresh_elim hb ?_; intro _ _ hb) | (refine fresh_elimT hb ?_; intro hb))) | apply AM.condT rfl | apply AM.condF rfl | (apply DM.gbT; rfl) | (apply DM.gbF; rfl) | intro h
  (apply AM.cond; (· rfl))
  · intro hlt
    simp at hlt
    obtain ⟨v, hv⟩ := some_of hlt
    repeat' first | apply AM.seq | apply AM.block | apply AM.skip | apply AM.blkEnd | refine AM.exit rfl ?_ | (apply AM.reg []; simp only [annotate]) | apply DM.nil | refine DM.g1 rfl ?_ | refine DM.g0s (t' := true) rfl rfl ?_ | refine DM.g0s (t' := false) rfl rfl ?_ | refine DM.gus rfl ?_ | ((first | apply DM.ldm1 | apply DM.ldmA | apply DM.bxA | apply DM.al | apply DM.stE | apply DM.ixP | apply DM.lnM | apply DM.fdM | apply DM.bsl | apply DM.p); (repeat first | (change _ = _; first | exact setB_setB | (simp only [go_sem, Nat.reduceBEq, Nat.reduceAdd, Nat.reduceLeDiff, reduceIte] <;> rfl) | rfl | focus ((repeat' first | exact g_same | refine g_ne ‹_› ?_ | refine g_fresh ‹_› ?_ | refine g_T ?_ | exact t_same | refine t_ne ‹_› ?_ | refine t_fresh ‹_› ?_ | refine t_B ?_ | refine ho_look ‹_› ?_ | exact ho_blk | exact ho_ta | exact ho_tb ‹_› | exact ho_tc ‹_› | exact ho_td ‹_› | assumption); done)) | exact RD.r | apply RD.p | exact Nat.le_of_ble_eq_true rfl | decide); first | change DM _ _ _ _ _ _ | (intro b hb; repeat first | (refine fresh_elim hb ?_; intro _ _ hb) | (refine fresh_elimT hb ?_; intro hb))) | apply AM.condT rfl | apply AM.condF rfl | (apply DM.gbT; rfl) | (apply DM.gbF; rfl) | intro h
    (apply DM.ixV (row := v.row) (z := (i : Int)) (by omega) (row_get Hd.row hv); (· rfl); (· rfl))
    repeat' first | apply AM.seq | apply AM.block | apply AM.skip | apply AM.blkEnd | refine AM.exit rfl ?_ | (apply AM.reg []; simp only [annotate]) | apply DM.nil | refine DM.g1 rfl ?_ | refine DM.g0s (t' := true) rfl rfl ?_ | refine DM.g0s (t' := false) rfl rfl ?_ | refine DM.gus rfl ?_ | ((first | apply DM.ldm1 | apply DM.ldmA | apply DM.bxA | apply DM.al | apply DM.stE | apply DM.ixP | apply DM.lnM | apply DM.fdM | apply DM.bsl | apply DM.p); (repeat first | (change _ = _; first | exact setB_setB | (simp only [go_sem, Nat.reduceBEq, Nat.reduceAdd, Nat.reduceLeDiff, reduceIte] <;> rfl) | rfl | focus ((repeat' first | exact g_same | refine g_ne ‹_› ?_ | refine g_fresh ‹_› ?_ | refine g_T ?_ | exact t_same | refine t_ne ‹_› ?_ | refine t_fresh ‹_› ?_ | refine t_B ?_ | refine ho_look ‹_› ?_ | exact ho_blk | exact ho_ta | exact ho_tb ‹_› | exact ho_tc ‹_› | exact ho_td ‹_› | assumption); done)) | exact RD.r | apply RD.p | exact Nat.le_of_ble_eq_true rfl | decide); first | change DM _ _ _ _ _ _ | (intro b hb; repeat first | (refine fresh_elim hb ?_; intro _ _ hb) | (refine fresh_elimT hb ?_; intro hb))) | apply AM.condT rfl | apply AM.condF rfl | (apply DM.gbT; rfl) | (apply DM.gbF; rfl) | intro h
    (apply DM.apM; (· rfl); (· repeat' first | exact t_same | refine t_ne ‹_› ?_ | refine t_fresh ‹_› ?_ | refine t_B ?_ | refine ho_look ‹_› ?_ | exact ho_blk | exact ho_ta | exact ho_tb ‹_› | exact ho_tc ‹_› | exact ho_td ‹_› | assumption); (· simp only [rowsOf, if_true, eq_self, go_sem, Nat.reduceBEq, reduceIte] <;> rfl); (· (simp only [List.length_map, List.length_cons, List.length_nil, List.length_take, maxLen]; omega)); (· (simp only [List.length_map, List.length_cons, List.length_nil, List.length_take, maxLen]; omega)))
    rw [show (p.hs.take i).map Hd.row ++ [v.row] = (p.hs.take (i + 1)).map Hd.row from take_succ_map Hd.row hv]
    repeat' first | apply AM.seq | apply AM.block | apply AM.skip | apply AM.blkEnd | refine AM.exit rfl ?_ | (apply AM.reg []; simp only [annotate]) | apply DM.nil | refine DM.g1 rfl ?_ | refine DM.g0s (t' := true) rfl rfl ?_ | refine DM.g0s (t' := false) rfl rfl ?_ | refine DM.gus rfl ?_ | ((first | apply DM.ldm1 | apply DM.ldmA | apply DM.bxA | apply DM.al | apply DM.stE | apply DM.ixP | apply DM.lnM | apply DM.fdM | apply DM.bsl | apply DM.p); (repeat first | (change _ = _; first | exact setB_setB | (simp only [go_sem, Nat.reduceBEq, Nat.reduceAdd, Nat.reduceLeDiff, reduceIte] <;> rfl) | rfl | focus ((repeat' first | exact g_same | refine g_ne ‹_› ?_ | refine g_fresh ‹_› ?_ | refine g_T ?_ | exact t_same | refine t_ne ‹_› ?_ | refine t_fresh ‹_› ?_ | refine t_B ?_ | refine ho_look ‹_› ?_ | exact ho_blk | exact ho_ta | exact ho_tb ‹_› | exact ho_tc ‹_› | exact ho_td ‹_› | assumption); done)) | exact RD.r | apply RD.p | exact Nat.le_of_ble_eq_true rfl | decide); first | change DM _ _ _ _ _ _ | (intro b hb; repeat first | (refine fresh_elim hb ?_; intro _ _ hb) | (refine fresh_elimT hb ?_; intro hb))) | apply AM.condT rfl | apply AM.condF rfl | (apply DM.gbT; rfl) | (apply DM.gbF; rfl) | intro h
    refine AM.eqH (ho_set_b d) ?_
    refine AM.roundX (i + 1) ⟨rfl, by omega⟩ ?_ (show p.hs.length - (i + 1) < p.hs.length - i by omega)
    (repeat first | exact envle_nil _ | (refine envle_cons ?_ ?_; · (simp only [go_sem, Nat.reduceBEq, Nat.reduceAdd]; exact AVLe.refl _)))
    refine envle_cons ?_ ?_
    · simp only [go_sem, Nat.reduceBEq, Nat.reduceAdd]
      refine avle_int ?_
      rw [inc64 hlt (show p.hs.length ≤ maxLen by unfold maxLen; omega)]
    exact envle_nil _
  intro hlt
  simp at hlt
  have hi1 : i = p.hs.length := by omega
  subst hi1
  rw [List.take_length]
  clear hi hlt
  repeat' first | apply AM.seq | apply AM.block | apply AM.skip | apply AM.blkEnd | refine AM.exit rfl ?_ | (apply AM.reg []; simp only [annotate]) | apply DM.nil | refine DM.g1 rfl ?_ | refine DM.g0s (t' := true) rfl rfl ?_ | refine DM.g0s (t' := false) rfl rfl ?_ | refine DM.gus rfl ?_ | ((first | apply DM.ldm1 | apply DM.ldmA | apply DM.bxA | apply DM.al | apply DM.stE | apply DM.ixP | apply DM.lnM | apply DM.fdM | apply DM.bsl | apply DM.p); (repeat first | (change _ = _; first | exact setB_setB | (simp only [go_sem, Nat.reduceBEq, Nat.reduceAdd, Nat.reduceLeDiff, reduceIte] <;> rfl) | rfl | focus ((repeat' first | exact g_same | refine g_ne ‹_› ?_ | refine g_fresh ‹_› ?_ | refine g_T ?_ | exact t_same | refine t_ne ‹_› ?_ | refine t_fresh ‹_› ?_ | refine t_B ?_ | refine ho_look ‹_› ?_ | exact ho_blk | exact ho_ta | exact ho_tb ‹_› | exact ho_tc ‹_› | exact ho_td ‹_› | assumption); done)) | exact RD.r | apply RD.p | exact Nat.le_of_ble_eq_true rfl | decide); first | change DM _ _ _ _ _ _ | (intro b hb; repeat first | (refine fresh_elim hb ?_; intro _ _ hb) | (refine fresh_elimT hb ?_; intro hb))) | apply AM.condT rfl | apply AM.condF rfl | (apply DM.gbT; rfl) | (apply DM.gbF; rfl) | intro h
  refine AM.loopX (X := Nat) 0 (fun i => [(1, .ptr b1 0), (2, .ptr b2 0), (3, .ptr b 0), (6, .int .i64 (i : Int))]) (fun i H' => H' = HO G b ta tb tc td p.name p.role (p.vars.map Var_.row) (p.hs.map Hd.row) ((p.os.take i).map Of_.row) [] p.vars.length p.hs.length i 0 ∧ i ≤ p.os.length) (fun i => p.os.length - i) ⟨rfl, Nat.zero_le _⟩ ?_ ?_
  · (repeat first | exact envle_nil _ | (refine envle_cons ?_ ?_; · (simp only [go_sem, Nat.reduceBEq, Nat.reduceAdd]; exact AVLe.refl _)))
  rintro i H' ⟨rfl, hi⟩
  repeat' first | apply AM.seq | apply AM.block | apply AM.skip | apply AM.blkEnd | refine AM.exit rfl ?_ | (apply AM.reg []; simp only [annotate]) | apply DM.nil | refine DM.g1 rfl ?_ | refine DM.g0s (t' := true) rfl rfl ?_ | refine DM.g0s (t' := false) rfl rfl ?_ | refine DM.gus rfl ?_ | ((first | apply DM.ldm1 | apply DM.ldmA | apply DM.bxA | apply DM.al | apply DM.stE | apply DM.ixP | apply DM.lnM | apply DM.fdM | apply DM.bsl | apply DM.p); (repeat first | (change _ = _; first | exact setB_setB | (simp only [go_sem, Nat.reduceBEq, Nat.reduceAdd, Nat.reduceLeDiff, reduceIte] <;> rfl) | rfl | focus ((repeat' first | exact g_same | refine g_ne ‹_› ?_ | refine g_fresh ‹_› ?_ | refine g_T ?_ | exact t_same | refine t_ne ‹_› ?_ | refine t_fresh ‹_› ?_ | refine t_B ?_ | refine ho_look ‹_› ?_ | exact ho_blk | exact ho_ta | exact ho_tb ‹_› | exact ho_tc ‹_› | exact ho_td ‹_› | assumption); done)) | exact RD.r | apply RD.p | exact Nat.le_of_ble_eq_true rfl | decide); first | change DM _ _ _ _ _ _ | (intro b hb; repeat first | (refine fresh_elim hb ?_; intro _ _ hb) | (refine fresh_elimT hb ?_; intro hb))) | apply AM.condT rfl | apply AM.condF rfl | (apply DM.gbT; rfl) | (apply DM.gbF; rfl) | intro h
  (apply AM.cond; (· rfl))
  · intro hlt
    simp at hlt
    obtain ⟨v, hv⟩ := some_of hlt
    repeat' first | apply AM.seq | apply AM.block | apply AM.skip | apply AM.blkEnd | refine AM.exit rfl ?_ | (apply AM.reg []; simp only [annotate]) | apply DM.nil | refine DM.g1 rfl ?_ | refine DM.g0s (t' := true) rfl rfl ?_ | refine DM.g0s (t' := false) rfl rfl ?_ | refine DM.gus rfl ?_ | ((first | apply DM.ldm1 | apply DM.ldmA | apply DM.bxA | apply DM.al | apply DM.stE | apply DM.ixP | apply DM.lnM | apply DM.fdM | apply DM.bsl | apply DM.p); (repeat first | (change _ = _; first | exact setB_setB | (simp only [go_sem, Nat.reduceBEq, Nat.reduceAdd, Nat.reduceLeDiff, reduceIte] <;> rfl) | rfl | focus ((repeat' first | exact g_same | refine g_ne ‹_› ?_ | refine g_fresh ‹_› ?_ | refine g_T ?_ | exact t_same | refine t_ne ‹_› ?_ | refine t_fresh ‹_› ?_ | refine t_B ?_ | refine ho_look ‹_› ?_ | exact ho_blk | exact ho_ta | exact ho_tb ‹_› | exact ho_tc ‹_› | exact ho_td ‹_› | assumption); done)) | exact RD.r | apply RD.p | exact Nat.le_of_ble_eq_true rfl | decide); first | change DM _ _ _ _ _ _ | (intro b hb; repeat first | (refine fresh_elim hb ?_; intro _ _ hb) | (refine fresh_elimT hb ?_; intro hb))) | apply AM.condT rfl | apply AM.condF rfl | (apply DM.gbT; rfl) | (apply DM.gbF; rfl) | intro h
    (apply DM.ixV (row := v.row) (z := (i : Int)) (by omega) (row_get Of_.row hv); (· rfl); (· rfl))
    repeat' first | apply AM.seq | apply AM.block | apply AM.skip | apply AM.blkEnd | refine AM.exit rfl ?_ | (apply AM.reg []; simp only [annotate]) | apply DM.nil | refine DM.g1 rfl ?_ | refine DM.g0s (t' := true) rfl rfl ?_ | refine DM.g0s (t' := false) rfl rfl ?_ | refine DM.gus rfl ?_ | ((first | apply DM.ldm1 | apply DM.ldmA | apply DM.bxA | apply DM.al | apply DM.stE | apply DM.ixP | apply DM.lnM | apply DM.fdM | apply DM.bsl | apply DM.p); (repeat first | (change _ = _; first | exact setB_setB | (simp only [go_sem, Nat.reduceBEq, Nat.reduceAdd, Nat.reduceLeDiff, reduceIte] <;> rfl) | rfl | focus ((repeat' first | exact g_same | refine g_ne ‹_› ?_ | refine g_fresh ‹_› ?_ | refine g_T ?_ | exact t_same | refine t_ne ‹_› ?_ | refine t_fresh ‹_› ?_ | refine t_B ?_ | refine ho_look ‹_› ?_ | exact ho_blk | exact ho_ta | exact ho_tb ‹_› | exact ho_tc ‹_› | exact ho_td ‹_› | assumption); done)) | exact RD.r | apply RD.p | exact Nat.le_of_ble_eq_true rfl | decide); first | change DM _ _ _ _ _ _ | (intro b hb; repeat first | (refine fresh_elim hb ?_; intro _ _ hb) | (refine fresh_elimT hb ?_; intro hb))) | apply AM.condT rfl | apply AM.condF rfl | (apply DM.gbT; rfl) | (apply DM.gbF; rfl) | intro h
    (apply DM.apM; (· rfl); (· repeat' first | exact t_same | refine t_ne ‹_› ?_ | refine t_fresh ‹_› ?_ | refine t_B ?_ | refine ho_look ‹_› ?_ | exact ho_blk | exact ho_ta | exact ho_tb ‹_› | exact ho_tc ‹_› | exact ho_td ‹_› | assumption); (· simp only [rowsOf, if_true, eq_self, go_sem, Nat.reduceBEq, reduceIte] <;> rfl); (· (simp only [List.length_map, List.length_cons, List.length_nil, List.length_take, maxLen]; omega)); (· (simp only [List.length_map, List.length_cons, List.length_nil, List.length_take, maxLen]; omega)))
    rw [show (p.os.take i).map Of_.row ++ [v.row] = (p.os.take (i + 1)).map Of_.row from take_succ_map Of_.row hv]
    repeat' first | apply AM.seq | apply AM.block | apply AM.skip | apply AM.blkEnd | refine AM.exit rfl ?_ | (apply AM.reg []; simp only [annotate]) | apply DM.nil | refine DM.g1 rfl ?_ | refine DM.g0s (t' := true) rfl rfl ?_ | refine DM.g0s (t' := false) rfl rfl ?_ | refine DM.gus rfl ?_ | ((first | apply DM.ldm1 | apply DM.ldmA | apply DM.bxA | apply DM.al | apply DM.stE | apply DM.ixP | apply DM.lnM | apply DM.fdM | apply DM.bsl | apply DM.p); (repeat first | (change _ = _; first | exact setB_setB | (simp only [go_sem, Nat.reduceBEq, Nat.reduceAdd, Nat.reduceLeDiff, reduceIte] <;> rfl) | rfl | focus ((repeat' first | exact g_same | refine g_ne ‹_› ?_ | refine g_fresh ‹_› ?_ | refine g_T ?_ | exact t_same | refine t_ne ‹_› ?_ | refine t_fresh ‹_› ?_ | refine t_B ?_ | refine ho_look ‹_› ?_ | exact ho_blk | exact ho_ta | exact ho_tb ‹_› | exact ho_tc ‹_› | exact ho_td ‹_› | assumption); done)) | exact RD.r | apply RD.p | exact Nat.le_of_ble_eq_true rfl | decide); first | change DM _ _ _ _ _ _ | (intro b hb; repeat first | (refine fresh_elim hb ?_; intro _ _ hb) | (refine fresh_elimT hb ?_; intro hb))) | apply AM.condT rfl | apply AM.condF rfl | (apply DM.gbT; rfl) | (apply DM.gbF; rfl) | intro h
    refine AM.eqH (ho_set_c d) ?_
    refine AM.roundX (i + 1) ⟨rfl, by omega⟩ ?_ (show p.os.length - (i + 1) < p.os.length - i by omega)
    (repeat first | exact envle_nil _ | (refine envle_cons ?_ ?_; · (simp only [go_sem, Nat.reduceBEq, Nat.reduceAdd]; exact AVLe.refl _)))
    refine envle_cons ?_ ?_
    · simp only [go_sem, Nat.reduceBEq, Nat.reduceAdd]
      refine avle_int ?_
      rw [inc64 hlt (show p.os.length ≤ maxLen by unfold maxLen; omega)]
    exact envle_nil _
  intro hlt
  simp at hlt
  have hi2 : i = p.os.length := by omega
  subst hi2
  rw [List.take_length]
  clear hi hlt
  repeat' first | apply AM.seq | apply AM.block | apply AM.skip | apply AM.blkEnd | refine AM.exit rfl ?_ | (apply AM.reg []; simp only [annotate]) | apply DM.nil | refine DM.g1 rfl ?_ | refine DM.g0s (t' := true) rfl rfl ?_ | refine DM.g0s (t' := false) rfl rfl ?_ | refine DM.gus rfl ?_ | ((first | apply DM.ldm1 | apply DM.ldmA | apply DM.bxA | apply DM.al | apply DM.stE | apply DM.ixP | apply DM.lnM | apply DM.fdM | apply DM.bsl | apply DM.p); (repeat first | (change _ = _; first | exact setB_setB | (simp only [go_sem, Nat.reduceBEq, Nat.reduceAdd, Nat.reduceLeDiff, reduceIte] <;> rfl) | rfl | focus ((repeat' first | exact g_same | refine g_ne ‹_› ?_ | refine g_fresh ‹_› ?_ | refine g_T ?_ | exact t_same | refine t_ne ‹_› ?_ | refine t_fresh ‹_› ?_ | refine t_B ?_ | refine ho_look ‹_› ?_ | exact ho_blk | exact ho_ta | exact ho_tb ‹_› | exact ho_tc ‹_› | exact ho_td ‹_› | assumption); done)) | exact RD.r | apply RD.p | exact Nat.le_of_ble_eq_true rfl | decide); first | change DM _ _ _ _ _ _ | (intro b hb; repeat first | (refine fresh_elim hb ?_; intro _ _ hb) | (refine fresh_elimT hb ?_; intro hb))) | apply AM.condT rfl | apply AM.condF rfl | (apply DM.gbT; rfl) | (apply DM.gbF; rfl) | intro h
  refine AM.loopX (X := Nat) 0 (fun i => [(1, .ptr b1 0), (2, .ptr b2 0), (3, .ptr b 0), (7, .int .i64 (i : Int))]) (fun i H' => H' = HO G b ta tb tc td p.name p.role (p.vars.map Var_.row) (p.hs.map Hd.row) (p.os.map Of_.row) ((p.code.take i).map Ins_.row) p.vars.length p.hs.length p.os.length i ∧ i ≤ p.code.length) (fun i => p.code.length - i) ⟨rfl, Nat.zero_le _⟩ ?_ ?_
  · (repeat first | exact envle_nil _ | (refine envle_cons ?_ ?_; · (simp only [go_sem, Nat.reduceBEq, Nat.reduceAdd]; exact AVLe.refl _)))
  rintro i H' ⟨rfl, hi⟩
  repeat' first | apply AM.seq | apply AM.block | apply AM.skip | apply AM.blkEnd | refine AM.exit rfl ?_ | (apply AM.reg []; simp only [annotate]) | apply DM.nil | refine DM.g1 rfl ?_ | refine DM.g0s (t' := true) rfl rfl ?_ | refine DM.g0s (t' := false) rfl rfl ?_ | refine DM.gus rfl ?_ | ((first | apply DM.ldm1 | apply DM.ldmA | apply DM.bxA | apply DM.al | apply DM.stE | apply DM.ixP | apply DM.lnM | apply DM.fdM | apply DM.bsl | apply DM.p); (repeat first | (change _ = _; first | exact setB_setB | (simp only [go_sem, Nat.reduceBEq, Nat.reduceAdd, Nat.reduceLeDiff, reduceIte] <;> rfl) | rfl | focus ((repeat' first | exact g_same | refine g_ne ‹_› ?_ | refine g_fresh ‹_› ?_ | refine g_T ?_ | exact t_same | refine t_ne ‹_› ?_ | refine t_fresh ‹_› ?_ | refine t_B ?_ | refine ho_look ‹_› ?_ | exact ho_blk | exact ho_ta | exact ho_tb ‹_› | exact ho_tc ‹_› | exact ho_td ‹_› | assumption); done)) | exact RD.r | apply RD.p | exact Nat.le_of_ble_eq_true rfl | decide); first | change DM _ _ _ _ _ _ | (intro b hb; repeat first | (refine fresh_elim hb ?_; intro _ _ hb) | (refine fresh_elimT hb ?_; intro hb))) | apply AM.condT rfl | apply AM.condF rfl | (apply DM.gbT; rfl) | (apply DM.gbF; rfl) | intro h
  (apply AM.cond; (· rfl))
  · intro hlt
    simp at hlt
    obtain ⟨v, hv⟩ := some_of hlt
    repeat' first | apply AM.seq | apply AM.block | apply AM.skip | apply AM.blkEnd | refine AM.exit rfl ?_ | (apply AM.reg []; simp only [annotate]) | apply DM.nil | refine DM.g1 rfl ?_ | refine DM.g0s (t' := true) rfl rfl ?_ | refine DM.g0s (t' := false) rfl rfl ?_ | refine DM.gus rfl ?_ | ((first | apply DM.ldm1 | apply DM.ldmA | apply DM.bxA | apply DM.al | apply DM.stE | apply DM.ixP | apply DM.lnM | apply DM.fdM | apply DM.bsl | apply DM.p); (repeat first | (change _ = _; first | exact setB_setB | (simp only [go_sem, Nat.reduceBEq, Nat.reduceAdd, Nat.reduceLeDiff, reduceIte] <;> rfl) | rfl | focus ((repeat' first | exact g_same | refine g_ne ‹_› ?_ | refine g_fresh ‹_› ?_ | refine g_T ?_ | exact t_same | refine t_ne ‹_› ?_ | refine t_fresh ‹_› ?_ | refine t_B ?_ | refine ho_look ‹_› ?_ | exact ho_blk | exact ho_ta | exact ho_tb ‹_› | exact ho_tc ‹_› | exact ho_td ‹_› | assumption); done)) | exact RD.r | apply RD.p | exact Nat.le_of_ble_eq_true rfl | decide); first | change DM _ _ _ _ _ _ | (intro b hb; repeat first | (refine fresh_elim hb ?_; intro _ _ hb) | (refine fresh_elimT hb ?_; intro hb))) | apply AM.condT rfl | apply AM.condF rfl | (apply DM.gbT; rfl) | (apply DM.gbF; rfl) | intro h
    (apply DM.ixV (row := v.row) (z := (i : Int)) (by omega) (row_get Ins_.row hv); (· rfl); (· rfl))
    repeat' first | apply AM.seq | apply AM.block | apply AM.skip | apply AM.blkEnd | refine AM.exit rfl ?_ | (apply AM.reg []; simp only [annotate]) | apply DM.nil | refine DM.g1 rfl ?_ | refine DM.g0s (t' := true) rfl rfl ?_ | refine DM.g0s (t' := false) rfl rfl ?_ | refine DM.gus rfl ?_ | ((first | apply DM.ldm1 | apply DM.ldmA | apply DM.bxA | apply DM.al | apply DM.stE | apply DM.ixP | apply DM.lnM | apply DM.fdM | apply DM.bsl | apply DM.p); (repeat first | (change _ = _; first | exact setB_setB | (simp only [go_sem, Nat.reduceBEq, Nat.reduceAdd, Nat.reduceLeDiff, reduceIte] <;> rfl) | rfl | focus ((repeat' first | exact g_same | refine g_ne ‹_› ?_ | refine g_fresh ‹_› ?_ | refine g_T ?_ | exact t_same | refine t_ne ‹_› ?_ | refine t_fresh ‹_› ?_ | refine t_B ?_ | refine ho_look ‹_› ?_ | exact ho_blk | exact ho_ta | exact ho_tb ‹_› | exact ho_tc ‹_› | exact ho_td ‹_› | assumption); done)) | exact RD.r | apply RD.p | exact Nat.le_of_ble_eq_true rfl | decide); first | change DM _ _ _ _ _ _ | (intro b hb; repeat first | (refine fresh_elim hb ?_; intro _ _ hb) | (refine fresh_elimT hb ?_; intro hb))) | apply AM.condT rfl | apply AM.condF rfl | (apply DM.gbT; rfl) | (apply DM.gbF; rfl) | intro h
    (apply DM.apM; (· rfl); (· repeat' first | exact t_same | refine t_ne ‹_› ?_ | refine t_fresh ‹_› ?_ | refine t_B ?_ | refine ho_look ‹_› ?_ | exact ho_blk | exact ho_ta | exact ho_tb ‹_› | exact ho_tc ‹_› | exact ho_td ‹_› | assumption); (· simp only [rowsOf, if_true, eq_self, go_sem, Nat.reduceBEq, reduceIte] <;> rfl); (· (simp only [List.length_map, List.length_cons, List.length_nil, List.length_take, maxLen]; omega)); (· (simp only [List.length_map, List.length_cons, List.length_nil, List.length_take, maxLen]; omega)))
    rw [show (p.code.take i).map Ins_.row ++ [v.row] = (p.code.take (i + 1)).map Ins_.row from take_succ_map Ins_.row hv]
    repeat' first | apply AM.seq | apply AM.block | apply AM.skip | apply AM.blkEnd | refine AM.exit rfl ?_ | (apply AM.reg []; simp only [annotate]) | apply DM.nil | refine DM.g1 rfl ?_ | refine DM.g0s (t' := true) rfl rfl ?_ | refine DM.g0s (t' := false) rfl rfl ?_ | refine DM.gus rfl ?_ | ((first | apply DM.ldm1 | apply DM.ldmA | apply DM.bxA | apply DM.al | apply DM.stE | apply DM.ixP | apply DM.lnM | apply DM.fdM | apply DM.bsl | apply DM.p); (repeat first | (change _ = _; first | exact setB_setB | (simp only [go_sem, Nat.reduceBEq, Nat.reduceAdd, Nat.reduceLeDiff, reduceIte] <;> rfl) | rfl | focus ((repeat' first | exact g_same | refine g_ne ‹_› ?_ | refine g_fresh ‹_› ?_ | refine g_T ?_ | exact t_same | refine t_ne ‹_› ?_ | refine t_fresh ‹_› ?_ | refine t_B ?_ | refine ho_look ‹_› ?_ | exact ho_blk | exact ho_ta | exact ho_tb ‹_› | exact ho_tc ‹_› | exact ho_td ‹_› | assumption); done)) | exact RD.r | apply RD.p | exact Nat.le_of_ble_eq_true rfl | decide); first | change DM _ _ _ _ _ _ | (intro b hb; repeat first | (refine fresh_elim hb ?_; intro _ _ hb) | (refine fresh_elimT hb ?_; intro hb))) | apply AM.condT rfl | apply AM.condF rfl | (apply DM.gbT; rfl) | (apply DM.gbF; rfl) | intro h
    refine AM.eqH (ho_set_d d) ?_
    refine AM.roundX (i + 1) ⟨rfl, by omega⟩ ?_ (show p.code.length - (i + 1) < p.code.length - i by omega)
    (repeat first | exact envle_nil _ | (refine envle_cons ?_ ?_; · (simp only [go_sem, Nat.reduceBEq, Nat.reduceAdd]; exact AVLe.refl _)))
    refine envle_cons ?_ ?_
    · simp only [go_sem, Nat.reduceBEq, Nat.reduceAdd]
      refine avle_int ?_
      rw [inc64 hlt (show p.code.length ≤ maxLen by unfold maxLen; omega)]
    exact envle_nil _
  intro hlt
  simp at hlt
  have hi3 : i = p.code.length := by omega
  subst hi3
  rw [List.take_length]
  clear hi hlt
  repeat' first | apply AM.seq | apply AM.block | apply AM.skip | apply AM.blkEnd | refine AM.exit rfl ?_ | (apply AM.reg []; simp only [annotate]) | apply DM.nil | refine DM.g1 rfl ?_ | refine DM.g0s (t' := true) rfl rfl ?_ | refine DM.g0s (t' := false) rfl rfl ?_ | refine DM.gus rfl ?_ | ((first | apply DM.ldm1 | apply DM.ldmA | apply DM.bxA | apply DM.al | apply DM.stE | apply DM.ixP | apply DM.lnM | apply DM.fdM | apply DM.bsl | apply DM.p); (repeat first | (change _ = _; first | exact setB_setB | (simp only [go_sem, Nat.reduceBEq, Nat.reduceAdd, Nat.reduceLeDiff, reduceIte] <;> rfl) | rfl | focus ((repeat' first | exact g_same | refine g_ne ‹_› ?_ | refine g_fresh ‹_› ?_ | refine g_T ?_ | exact t_same | refine t_ne ‹_› ?_ | refine t_fresh ‹_› ?_ | refine t_B ?_ | refine ho_look ‹_› ?_ | exact ho_blk | exact ho_ta | exact ho_tb ‹_› | exact ho_tc ‹_› | exact ho_td ‹_› | assumption); done)) | exact RD.r | apply RD.p | exact Nat.le_of_ble_eq_true rfl | decide); first | change DM _ _ _ _ _ _ | (intro b hb; repeat first | (refine fresh_elim hb ?_; intro _ _ hb) | (refine fresh_elimT hb ?_; intro hb))) | apply AM.condT rfl | apply AM.condF rfl | (apply DM.gbT; rfl) | (apply DM.gbF; rfl) | intro h
  apply AM.retF
  · simp only [Aw.results, ERes.ev, peval, EOpd.ev, Env.get, Nat.reduceBEq, cond_true, cond_false]
    rw [g_same]
    rfl
  · exact hsubO _ _ _ _ _ _ _ _ _
  · exact Frz.agg (FrzL.cons (Frz.same (hsubO _ _ _ _ _ _ _ _ _)) (FrzL.cons (Frz.same (hsubO _ _ _ _ _ _ _ _ _)) (FrzL.cons (Frz.ms (hsubO _ _ _ _ _ _ _ _ _) (t_B ho_ta) fa) (FrzL.cons (Frz.ms (hsubO _ _ _ _ _ _ _ _ _) (t_B (ho_tb d)) fb) (FrzL.cons (Frz.ms (hsubO _ _ _ _ _ _ _ _ _) (t_B (ho_tc d)) fc) (FrzL.cons (Frz.ms (hsubO _ _ _ _ _ _ _ _ _) (t_B (ho_td d)) fd) FrzL.nil))))))
end Go.Aw.T


namespace Go.Aw.T
open Go Go.Aw Go.Proofs Go.RowKit
set_option maxRecDepth 100000
attribute [local irreducible] Go.Aw.DM Go.Aw.AHeap.setB Go.Aw.AHeap.setT
attribute [local go_sem] peval EOpd.ev Env.get binInt binStr binBool buildParts AV.cells AV.okc setRange minmaxAV AV.one AV.ofCells eqCells eqCell bslRows cond_true cond_false beq_self_eq_true Bool.not_true Bool.not_false beq_true beq_false eq_self if_true Option.some.injEq List.length_cons List.length_nil List.take_succ_cons List.take_zero List.drop_succ_cons List.drop_zero List.set_cons_succ List.set_cons_zero List.nil_append List.cons_append List.append_nil and_self Option.map_some List.map_cons List.map_nil Bool.false_eq_true if_false Nat.zero_add Nat.add_zero true_and and_true Bool.and_true Bool.true_and List.getElem?_cons_zero List.getElem?_cons_succ Nat.zero_le Nat.le_refl
set_option linter.unusedSimpArgs false
set_option linter.unusedVariables false
end Go.Aw.T
namespace Go.Proofs
open Go.Shelf
def Try.lays105_ren : Go.Shelf.Ren := ⟨fun | 105 => 127 | 212 => 129 | 99 => 130 | 165 => 131 | 166 => 132 | 170 => 133 | 169 => 134 | 263 => 135 | 264 => 136 | 206 => 137 | 240 => 138 | 241 => 139 | 276 => 140 | 277 => 141 | n => n, fun | 9 => 9 | 3 => 3 | 4 => 4 | 20 => 20 | 0 => 0 | 46 => 200 | 109 => 201 | 5 => 5 | 72 => 205 | 76 => 208 | 51 => 212 | 146 => 213 | 53 => 215 | 148 => 216 | 70 => 203 | 37 => 114 | 75 => 207 | 127 => 218 | 164 => 219 | 80 => 211 | n => n, fun | n => n⟩
theorem Try.lays105 : Go.Proofs.Lays.n105 Try.prog Try.lays105_ren := {
  mixed := by kernel_rfl
  f99 := Try.func130.trans (congrArg some (by kernel_rfl))
  f105 := Try.func127.trans (congrArg some (by kernel_rfl))
  f165 := Try.func131.trans (congrArg some (by kernel_rfl))
  f166 := Try.func132.trans (congrArg some (by kernel_rfl))
  f169 := Try.func134.trans (congrArg some (by kernel_rfl))
  f170 := Try.func133.trans (congrArg some (by kernel_rfl))
  f206 := Try.func137.trans (congrArg some (by kernel_rfl))
  f212 := Try.func129.trans (congrArg some (by kernel_rfl))
  f240 := Try.func138.trans (congrArg some (by kernel_rfl))
  f241 := Try.func139.trans (congrArg some (by kernel_rfl))
  f263 := Try.func135.trans (congrArg some (by kernel_rfl))
  f264 := Try.func136.trans (congrArg some (by kernel_rfl))
  f276 := Try.func140.trans (congrArg some (by kernel_rfl))
  f277 := Try.func141.trans (congrArg some (by kernel_rfl))
  t0 := Try.underlying0
  a0 := Try.isAgg0
  z0 := Try.sizeOf0
  v0 := Try.zeroValue0
  t3 := Try.underlying3
  a3 := Try.isAgg3
  z3 := Try.sizeOf3
  v3 := Try.zeroValue3
  t4 := Try.underlying4
  a4 := Try.isAgg4
  z4 := Try.sizeOf4
  v4 := Try.zeroValue4
  t5 := Try.underlying5
  a5 := Try.isAgg5
  z5 := Try.sizeOf5
  v5 := Try.zeroValue5
  t9 := Try.underlying9
  a9 := Try.isAgg9
  z9 := Try.sizeOf9
  v9 := Try.zeroValue9
  t20 := Try.underlying20
  a20 := Try.isAgg20
  z20 := Try.sizeOf20
  v20 := Try.zeroValue20
  t37 := Try.underlying114
  a37 := Try.isAgg114
  z37 := Try.sizeOf114
  v37 := Try.zeroValue114
  t46 := Try.underlying200
  a46 := Try.isAgg200
  z46 := Try.sizeOf200
  v46 := Try.zeroValue200
  t51 := Try.underlying212
  a51 := Try.isAgg212
  z51 := Try.sizeOf212
  v51 := Try.zeroValue212
  t53 := Try.underlying215
  a53 := Try.isAgg215
  z53 := Try.sizeOf215
  v53 := Try.zeroValue215
  t70 := Try.underlying203
  a70 := Try.isAgg203
  z70 := Try.sizeOf203
  v70 := Try.zeroValue203
  t72 := Try.underlying205
  a72 := Try.isAgg205
  z72 := Try.sizeOf205
  v72 := Try.zeroValue205
  t75 := Try.underlying207
  a75 := Try.isAgg207
  z75 := Try.sizeOf207
  v75 := Try.zeroValue207
  t76 := Try.underlying208
  a76 := Try.isAgg208
  z76 := Try.sizeOf208
  v76 := Try.zeroValue208
  t109 := Try.underlying201
  a109 := Try.isAgg201
  z109 := Try.sizeOf201
  v109 := Try.zeroValue201
  t127 := Try.underlying218
  a127 := Try.isAgg218
  z127 := Try.sizeOf218
  v127 := Try.zeroValue218
  t146 := Try.underlying213
  a146 := Try.isAgg213
  z146 := Try.sizeOf213
  v146 := Try.zeroValue213
  t148 := Try.underlying216
  a148 := Try.isAgg216
  z148 := Try.sizeOf216
  v148 := Try.zeroValue216
  t164 := Try.underlying219
  a164 := Try.isAgg219
  z164 := Try.sizeOf219
  v164 := Try.zeroValue219 }
open Go.RowKit
theorem Try.extra : Builder.Extra Try.prog Try.lays105_ren := {
  sizeBuilder := by kernel_rfl
  liesBuilder := by kernel_rfl
  t5 := Try.lays105.t5
  a5 := Try.lays105.a5
  z5 := Try.lays105.z5
  v5 := Try.lays105.v5
  infoByte := by kernel_rfl
  cellsByte := by kernel_rfl
  sizeByte := by kernel_rfl
  neB5 := by decide }
theorem Try.strings_Repeat (s : ByteArray) (c : Nat) (w : World) (hc : c ≤ 9223372036854775807) (hlen : s.size * c ≤ 140737488355328) :
    Calls Try.prog 127 #[.string s, .int .i64 c] w fun e w' => e = .returned (.string ⟨(Lib.repeatL s.data.toList c).toArray⟩) ∧ Below w.heap.size w w' :=
  Any.strings_Repeat Try.lays105 Try.extra s c w hc hlen
end Go.Proofs
namespace Go.Aw.T
open Go Go.Aw Go.Proofs Go.RowKit
theorem repeatOk : RepeatOk := fun n hn => by
  refine pure_of_plain fun m vs hv => ?_
  simp only [RvL, Rv] at hv
  obtain ⟨v1, t1, rfl, h1, v2, t2, rfl, h2, rfl⟩ := hv
  obtain ⟨h1, _⟩ := h1
  subst h1
  subst h2
  refine (Try.strings_Repeat ⟨⟨[97]⟩⟩ n m.w (by omega) (by simp [ByteArray.size]; omega)).mono ?_
  rintro e w' ⟨rfl, hb⟩
  refine ⟨_, rfl, fun m' => ?_, hb⟩
  have e := Go.Lib.repeatL_replicate 97 1 n
  rw [Nat.mul_one] at e
  simp only [Rv]
  refine ⟨?_, by simp [maxLen]; omega⟩
  change Value.string ⟨(Go.Lib.repeatL (List.replicate 1 97) n).toArray⟩ = _
  rw [e]
end Go.Aw.T

namespace Go.Aw.T
open Go Go.Aw Go.Proofs Go.RowKit
set_option maxRecDepth 100000
attribute [local irreducible] Go.Aw.DM Go.Aw.AHeap.setB Go.Aw.AHeap.setT
attribute [local go_sem] peval EOpd.ev Env.get binInt binStr binBool buildParts AV.cells AV.okc setRange minmaxAV AV.one AV.ofCells eqCells eqCell bslRows cond_true cond_false beq_self_eq_true Bool.not_true Bool.not_false beq_true beq_false eq_self if_true Option.some.injEq List.length_cons List.length_nil List.take_succ_cons List.take_zero List.drop_succ_cons List.drop_zero List.set_cons_succ List.set_cons_zero List.nil_append List.cons_append List.append_nil and_self Option.map_some List.map_cons List.map_nil Bool.false_eq_true if_false Nat.zero_add Nat.add_zero true_and and_true Bool.and_true Bool.true_and List.getElem?_cons_zero List.getElem?_cons_succ Nat.zero_le Nat.le_refl
set_option linter.unusedSimpArgs false
set_option linter.unusedVariables false
theorem eqF_iff {α β : Type} {q : α → β → Bool} : ∀ {l : List α} {r : List β}, eqF q l r = true ↔ l.length = r.length ∧ ∀ (i : Nat) (a : α) (b : β), l[i]? = some a → r[i]? = some b → q a b = true
  | [], [] => by simp [eqF]
  | [], _ :: _ => by simp [eqF]
  | _ :: _, [] => by simp [eqF]
  | a :: l, b :: r => by
    simp only [eqF, Bool.and_eq_true, eqF_iff (l := l) (r := r), List.length_cons, Nat.add_right_cancel_iff]
    constructor
    · rintro ⟨h1, h2, h3⟩
      refine ⟨h2, fun i x y hx hy => ?_⟩
      cases i with
      | zero => simp at hx hy; subst hx hy; exact h1
      | succ i => exact h3 i x y (by simpa using hx) (by simpa using hy)
    · rintro ⟨h2, h3⟩
      exact ⟨h3 0 a b rfl rfl, h2, fun i x y hx hy => h3 (i + 1) x y (by simpa using hx) (by simpa using hy)⟩
theorem clamp_fits {s : Sort_} {v : Val} (h : (clampV s v).2 = 0) : fitsV s (clampV s v).1 = true := by
  unfold clampV at h ⊢
  split at h
  · simp at h
  · rename_i h1
    rw [if_neg h1]
    split at h
    · simp at h
    · rename_i h2
      rw [if_neg h2]
      simp only [Bool.not_eq_false, Bool.and_eq_true] at h1
      obtain ⟨hs, hv⟩ := h1
      have hk : s.k = v.k := by simpa using h2
      split at h
      · rename_i h3
        rw [if_pos h3]
        have hs' := hs
        simp [validS] at hs'
        simp [validV] at hv
        have hv3 : -1000 ≤ v.n ∧ v.n ≤ 1000 ∧ v.s = [] := by
          rcases hv with hv | hv
          · exact ⟨by omega, by omega, hv.2⟩
          · omega
        simp only [fitsV, Bool.and_eq_true, decide_eq_true_eq]
        refine ⟨⟨⟨⟨hs, ?_⟩, hk⟩, ?_⟩, ?_⟩
        · simp only [validV, Bool.or_eq_true, Bool.and_eq_true, decide_eq_true_eq]
          exact .inl ⟨⟨⟨h3, by omega⟩, by omega⟩, hv3.2.2⟩
        · simp only [numberV]; rw [if_pos h3]; omega
        · simp only [numberV]; rw [if_pos h3]; omega
      · rename_i h3
        rw [if_neg h3]
        have hs' := hs
        simp [validS] at hs'
        simp [validV] at hv
        have hk2 : v.k = 2 := by omega
        have hlo : 0 ≤ s.lo ∧ s.lo ≤ s.hi ∧ s.hi ≤ 40 := by omega
        have hv2 : v.n = 0 ∧ v.s.length ≤ 40 ∧ printable v.s = true := by
          rcases hv with hv | hv
          · omega
          · exact ⟨hv.1.1.2, hv.1.2, hv.2⟩
        have hl : ((clampText s.lo s.hi v.s).length : Int) = max s.lo (min s.hi v.s.length) := by
          simp only [clampText, List.length_append, List.length_take, List.length_replicate]
          omega
        have hp : printable (clampText s.lo s.hi v.s) = true := by
          have h5 := hv2.2.2
          simp only [printable, List.all_eq_true, clampText, List.mem_append] at h5 ⊢
          rintro x (hx | hx)
          · exact h5 x (List.mem_of_mem_take hx)
          · obtain ⟨_, rfl⟩ := List.mem_replicate.1 hx
            rfl
        simp only [fitsV, Bool.and_eq_true, decide_eq_true_eq]
        refine ⟨⟨⟨⟨hs, ?_⟩, hk⟩, ?_⟩, ?_⟩
        · simp only [validV, Bool.or_eq_true, Bool.and_eq_true, decide_eq_true_eq]
          exact .inr ⟨⟨⟨hk2, hv2.1⟩, by omega⟩, hp⟩
        · simp only [numberV]; rw [if_neg (by omega), if_pos hk2]; omega
        · simp only [numberV]; rw [if_neg (by omega), if_pos hk2]; omega
theorem push_vars {v : Val} {M : Mach} : (push v M).vars = M.vars := by unfold push; split <;> rfl
theorem result_vars {n : Int} {M : Mach} : (result n M).vars = M.vars := by unfold result; split; rfl; exact push_vars
theorem texts_vars {op : Int} {M : Mach} : (textsM op M).vars = M.vars := by
  unfold textsM
  repeat' split
  all_goals simp only [result_vars, push_vars, pop_vars]
theorem arith_vars {op : Int} {M : Mach} : (arithM op M).vars = M.vars := by unfold arithM ints; rw [result_vars, pop_vars, pop_vars]
theorem control_vars {x : Ins_} {M : Mach} : (controlM x M).vars = M.vars := by
  unfold controlM
  repeat' split
  all_goals simp only [pop_vars]
theorem store_vars {s : Sort_} {n : Nat} {M : Mach} : (storeM s n M).vars = M.vars ∨ ∃ c, fitsV s c = true ∧ (storeM s n M).vars = M.vars.set n c := by
  unfold storeM
  split
  · exact .inl (pop_vars _ _)
  · split
    · rename_i h
      exact .inr ⟨_, clamp_fits h, rfl⟩
    · exact .inl (pop_vars _ _)
theorem stepX_vars {p : Prog} {ps : List Val} {x : Ins_} {M : Mach} : (stepX p ps x M).vars = M.vars ∨ ∃ w c, x.op = 5 ∧ p.vars[x.n.toNat]? = some w ∧ fitsV w.sort c = true ∧ (stepX p ps x M).vars = M.vars.set x.n.toNat c := by
  unfold stepX
  split
  · exact .inl push_vars
  · split
    · exact .inl push_vars
    · split
      · exact .inl push_vars
      · split
        · split
          · exact .inl rfl
          · exact .inl push_vars
        · split
          · rename_i h5
            split
            · exact .inl rfl
            · rename_i w hw
              rcases store_vars (s := w.sort) (n := x.n.toNat) (M := M) with h | ⟨c, h1, h2⟩
              · exact .inl h
              · exact .inr ⟨w, c, h5, hw, h1, h2⟩
          · split
            · exact .inl (by rw [result_vars, pop_vars])
            · split
              · exact .inl (by rw [result_vars, pop_vars])
              · split
                · exact .inl texts_vars
                · split
                  · exact .inl arith_vars
                  · exact .inl control_vars
def named (p : Prog) (i : Nat) : Bool := p.code.any fun x => decide (x.op = 5) && decide (x.n = (i : Int))
structure VI (p : Prog) (v0 : List Val) (M : Mach) : Prop where
  inv : Inv p M
  fit : eqF (fun (v : Var_) (x : Val) => fitsV v.sort x) p.vars M.vars = true
  same : ∀ i, named p i = false → M.vars[i]? = v0[i]?
theorem step_VI {p : Prog} {ps v0 : List Val} {M : Mach} (hv : validP p = true) (hp : ∀ v ∈ ps, v.s.length ≤ 1000) (h : VI p v0 M) (hpc : M.pc < p.code.length) : VI p v0 (stepM p ps M) := by
  have h0 := h.inv.p0
  obtain ⟨i, hi⟩ : ∃ i : Nat, M.pc = (i : Int) := ⟨M.pc.toNat, by omega⟩
  obtain ⟨x, hx⟩ : ∃ x, p.code[i]? = some x := ⟨_, List.getElem?_eq_getElem (by omega)⟩
  have hm := List.mem_of_getElem? hx
  refine ⟨step_inv hv hp h.inv hi hx, ?_, ?_⟩
  all_goals
    have e0 : stepM p ps M = stepX p ps x { M with pc := W (M.pc + 1) } := by simp [stepM, hi, hx]
    rw [e0]
    rcases stepX_vars (p := p) (ps := ps) (x := x) (M := { M with pc := W (M.pc + 1) }) with h1 | ⟨w, c, h5, hw, hc, h1⟩
  · rw [h1]; exact h.fit
  · rw [h1]
    have hf := eqF_iff.1 h.fit
    refine eqF_iff.2 ⟨by simpa using hf.1, fun j a b ha hb => ?_⟩
    by_cases e : j = x.n.toNat
    · subst e
      rw [hw] at ha
      obtain rfl : w = a := by simpa using ha
      have := List.mem_or_eq_of_mem_set (List.mem_of_getElem? hb)
      rw [List.getElem?_set_self (by have := (List.getElem?_eq_some_iff.1 hw).1; have := hf.1; show x.n.toNat < M.vars.length; omega)] at hb
      obtain rfl : c = b := by simpa using hb
      exact hc
    · rw [List.getElem?_set_ne (Ne.symm e)] at hb
      exact hf.2 j a b ha hb
  · rw [h1]; exact h.same
  · rw [h1]
    intro j hj
    have hn := (insOk hv hm).var (.inr h5)
    have e : x.n.toNat ≠ j := by
      intro e
      have : named p j = true := by
        simp only [named, List.any_eq_true]
        exact ⟨x, hm, by simp [h5]; omega⟩
      rw [this] at hj
      cases hj
    rw [List.getElem?_set_ne e]
    exact h.same j hj
theorem runF_vars {p : Prog} {ps v0 : List Val} (hv : validP p = true) (hp : ∀ v ∈ ps, v.s.length ≤ 1000) : ∀ (k : Nat) (M : Mach) (u : Nat), VI p v0 M → (runF p ps k M u).err = 0 → ∃ M', VI p v0 M' ∧ (runF p ps k M u).vars = M'.vars ∧ (runF p ps k M u).stack = M'.stack := by
  intro k
  induction k with
  | zero =>
    intro M u hI h
    by_cases hd : M.dn = true
    · rw [runF_done hd]; exact ⟨M, hI, rfl, rfl⟩
    · rw [runF.eq_def] at h
      by_cases h2 : (p.code.length : Int) ≤ M.pc <;> simp [hd, h2] at h
  | succ k ih =>
    intro M u hI h
    by_cases hd : M.dn = true
    · rw [runF_done hd]; exact ⟨M, hI, rfl, rfl⟩
    · by_cases h2 : (p.code.length : Int) ≤ M.pc
      · rw [runF.eq_def] at h; simp [hd, h2] at h
      · by_cases h3 : (stepM p ps M).tr = true
        · rw [runF.eq_def] at h; simp [hd, h2, h3] at h
        · rw [runF_go (by simpa using hd) (by omega) (by simpa using h3)] at h ⊢
          exact ih _ _ (step_VI hv hp hI (by omega)) h
theorem runP_vars {p : Prog} {e : Int} {vars ps : List Val} {s : Int} (h : (runP p e vars ps s).err = 0) : soundP p (runP p e vars ps s).vars = true ∧ (runP p e vars ps s).vars.length = vars.length ∧ (runP p e vars ps s).stack.length ≤ 16 ∧ ∀ i, named p i = false → (runP p e vars ps s).vars[i]? = vars[i]? := by
  unfold runP at h ⊢
  split at h
  · simp at h
  · rename_i hgood
    rw [if_neg hgood]
    simp [badArgs] at hgood
    obtain ⟨⟨⟨⟨hsd, h1⟩, h2⟩, h3⟩, h4⟩ := hgood
    obtain ⟨hvp, hvl, hvs, hv12⟩ := sound_len hsd
    have hps : ∀ v ∈ ps, v.s.length ≤ 1000 := fun v hv => valid_len (h4 v hv)
    have inv0 : Inv p (mach0 vars e) := ⟨by simp [mach0], by simp [mach0], hvs, by simp [mach0], hvl, h1, by show e ≤ _; omega⟩
    have hsd' := hsd
    simp only [soundP, Bool.and_eq_true] at hsd'
    obtain ⟨M', hI, e1, e2⟩ := runF_vars (v0 := vars) hvp hps _ _ _ ⟨inv0, hsd'.2, fun i _ => rfl⟩ h
    rw [e1, e2]
    refine ⟨by simp only [soundP, hvp, hI.fit, Bool.and_self], by have := hI.inv.vl; omega, hI.inv.st, hI.same⟩
end Go.Aw.T

/- Arguments that are structs of flat fields and of slices of flat structs, opened to what is known of values (own work). -/
namespace Go.Aw
open Go Go.ChangeShapes Go.WideShapes Go.Deep Go.RowKit
set_option linter.unusedVariables false

/-- A pure function, called in a world. -/
theorem calls_at {P : Program} {f : FuncId} {args : List AV} {r : AV} (h : Pure P f args r) (w : World) (vs : List Value) (ha : ∀ m : Mem, m.w = w → m.H = AHeap.none → RvL m args vs) :
    Calls P f ⟨vs⟩ w fun e w' => (∃ v, e = .returned v ∧ ∃ m : Mem, Rv m r v) ∧ Below w.heap.size w w' := by
  have := h AHeap.none ⟨w, AHeap.none, fun _ => .nilFunc, 0⟩ vs rfl ⟨fun b T cs hb => by simp [AHeap.none] at hb, fun t i hi => by simp [AHeap.none] at hi⟩ (ha _ rfl rfl)
  refine this.mono fun e w' ⟨o, H', L', T', g1, g2, g3, g4, g5⟩ => ?_
  subst g4
  simp only [RvOut] at g3
  obtain ⟨v, e1, e2⟩ := g3
  exact ⟨⟨v, e1, _, e2⟩, ⟨g2.os, g2.tape, g2.output, g2.size, fun b hb => (g2.block b hb rfl (fun t i hi => by simp [AHeap.none] at hi)).1⟩⟩

def LKs : List LK → List AV → Prop
  | [], l => l = []
  | .b :: ks, l => False
  | .i k :: ks, l => ∃ n l', l = .int k n :: l' ∧ (Lit.int k n).wf = true ∧ LKs ks l'
  | .s :: ks, l => ∃ s l', l = .str s :: l' ∧ LKs ks l'
theorem LKs_app : ∀ {a b : List LK} {x y : List AV}, LKs a x → LKs b y → LKs (a ++ b) (x ++ y)
  | [], _, _, _, h, k => by simp only [LKs] at h; subst h; exact k
  | .b :: _, _, _, _, h, _ => by simp only [LKs] at h
  | .i _ :: az, _, _, _, h, k => by
    simp only [LKs] at h
    obtain ⟨n, l, rfl, hw, h⟩ := h
    exact ⟨n, _, rfl, hw, LKs_app h k⟩
  | .s :: az, _, _, _, h, k => by
    simp only [LKs] at h
    obtain ⟨n, l, rfl, h⟩ := h
    exact ⟨n, _, rfl, LKs_app h k⟩
theorem LKs_len : ∀ {a : List LK} {x : List AV}, LKs a x → x.length = a.length
  | [], _, h => by simp only [LKs] at h; subst h; rfl
  | .b :: _, _, h => by simp only [LKs] at h
  | .i _ :: az, _, h => by
    simp only [LKs] at h
    obtain ⟨n, l, rfl, hw, h⟩ := h
    simp [LKs_len h]
  | .s :: az, _, h => by
    simp only [LKs] at h
    obtain ⟨n, l, rfl, h⟩ := h
    simp [LKs_len h]
theorem rvL_app {m : Mem} : ∀ {x y : List AV} {u v : List Value}, RvL m x u → RvL m y v → RvL m (x ++ y) (u ++ v)
  | [], _, _, _, h, k => by simp only [RvL] at h; subst h; exact k
  | a :: az, _, _, _, h, k => by
    simp only [RvL] at h
    obtain ⟨v, vs, rfl, h1, h2⟩ := h
    simp only [List.cons_append, RvL]
    exact ⟨v, _, rfl, h1, rvL_app h2 k⟩

def flatWs (P : Program) (g : TypeId → Option (List LK)) : Nat → List Field → Option (List LK)
  | _, [] => some []
  | off, f :: fs => match g f.type with
    | some ks => if f.offset = off ∧ P.cellsOf f.type = ks.length then (flatWs P g (off + ks.length) fs).map (ks ++ ·) else none
    | none => none
def flatW (P : Program) : Nat → TypeId → Option (List LK)
  | 0, _ => none
  | d + 1, t => match P.underlying t with
    | some (.int k) => some [.i k]
    | some .string => some [.s]
    | some (.struct fs) => match flatWs P (flatW P d) 0 fs.toList with
      | some ks => if P.cellsOf t = ks.length then some ks else none
      | none => none
    | _ => none

section
variable {H : Type} {enc : TypeId × Value → H} {P : Program} {w : World} {base : Nat} {spare : Nat → Bool} {held : Bool}
theorem rv_string {m : Mem} {s : ByteArray} (h : s.size ≤ maxLen) : Rv m (.str s.data.toList) (.string s) := by
  simp only [Rv]
  exact ⟨trivial, by simpa using h⟩
theorem flat_open : ∀ {d : Nat} {t : TypeId} {ks : List LK} {fuel : Nat} {cs : List Value} {x : DataW H × List MemPlace}, flatW P d t = some ks → DataW.trod enc P w base spare held fuel t cs = some x → ∃ avs, LKs ks avs ∧ cs.length = ks.length ∧ ∀ m : Mem, RvL m avs cs
  | 0, _, _, _, _, _, h, _ => by simp [flatW] at h
  | d + 1, t, ks, fuel, cs, x, h, ht => by
    simp only [flatW] at h
    split at h
    · rename_i k hu
      simp at h
      subst h
      obtain ⟨n, rfl, _, hw⟩ := DataW.trod_int hu ht
      exact ⟨[.int k n], ⟨n, [], rfl, hw, rfl⟩, rfl, fun m => by simp only [RvL, Rv]; exact ⟨_, _, rfl, rfl, rfl⟩⟩
    · rename_i hu
      simp at h
      subst h
      obtain ⟨s, rfl, _, hl⟩ := DataW.trod_string hu ht
      exact ⟨[.str s.data.toList], ⟨_, [], rfl, rfl⟩, rfl, fun m => by simp only [RvL]; exact ⟨_, _, rfl, rv_string hl, rfl⟩⟩
    · rename_i fs hu
      obtain ⟨xs, n, _, _, hlen, hxs, hf⟩ := DataW.trod_struct hu ht
      split at h
      · rename_i ks' hk
        split at h
        · rename_i hc
          simp at h
          subst h
          have key : ∀ (l : List Field) (off i : Nat) (ks : List LK), flatWs P (flatW P d) off l = some ks → (∀ j, l[j]? = fs.toList[i + j]?) → ∃ avs, LKs ks avs ∧ ((cs.drop off).take ks.length).length = ks.length ∧ ∀ m : Mem, RvL m avs ((cs.drop off).take ks.length) := by
            intro l
            induction l with
            | nil =>
              intro off i ks h _
              simp [flatWs] at h
              subst h
              exact ⟨[], rfl, by simp, fun m => by simp [RvL]⟩
            | cons f l ih =>
              intro off i ks h hj
              simp only [flatWs] at h
              split at h
              · rename_i k1 h1
                split at h
                · rename_i h2
                  obtain ⟨h2, h3⟩ := h2
                  simp only [Option.map_eq_some_iff] at h
                  obtain ⟨k2, h4, rfl⟩ := h
                  obtain ⟨a2, b2, b2l, c2⟩ := ih (off + k1.length) (i + 1) k2 h4 (fun j => by have := hj (j + 1); simpa [Nat.add_assoc, Nat.add_comm 1 j] using this)
                  have hfi : fs[i]? = some f := by have := hj 0; simpa using this.symm
                  have hi : i < fs.size := (Array.getElem?_eq_some_iff.1 hfi).1
                  have e1 := hf i f hfi
                  rw [List.getElem?_eq_getElem (by omega : i < xs.length), h2, h3] at e1
                  obtain ⟨a1, b1, b1l, c1⟩ := flat_open h1 e1
                  have es : (cs.drop off).take (k1 ++ k2).length = (cs.drop off).take k1.length ++ (cs.drop (off + k1.length)).take k2.length := by
                    rw [List.length_append, List.take_add, List.drop_drop]
                  refine ⟨a1 ++ a2, LKs_app b1 b2, ?_, fun m => ?_⟩
                  · rw [es, List.length_append, b1l, b2l, List.length_append]
                  · rw [es]; exact rvL_app (c1 m) (c2 m)
                · cases h
              · cases h
          obtain ⟨avs, a1, a2, a3⟩ := key fs.toList 0 0 ks' hk (fun j => by simp)
          have e : (cs.drop 0).take ks'.length = cs := by rw [List.drop_zero]; exact List.take_of_length_le (by omega)
          rw [e] at a2 a3
          exact ⟨avs, a1, a2, a3⟩
        · cases h
      · cases h
    · cases h
theorem st_none {m : Mem} {b o : Nat} {v : Value} (hH : m.H = AHeap.none) (hc : m.w.cell? ⟨b, o, none⟩ = some v) : St m b o where
  lt := World.block_lt_of_cell? m.w _ (by rw [hc])
  blk := by rw [hH]; rfl
  tok := fun t i hi => by rw [hH] at hi; simp [AHeap.none] at hi
theorem rvC_flat {m : Mem} (hH : m.H = AHeap.none) : ∀ {ks : List LK} {avs : List AV} {cs : List Value} {b o : Nat}, LKs ks avs → RvL m avs cs → (∀ j v, cs[j]? = some v → m.w.cell? ⟨b, o + j, none⟩ = some v) → RvC m avs b o
  | [], _, _, _, _, h, _, _ => by simp only [LKs] at h; subst h; simp only [RvC]
  | .b :: _, _, _, _, _, h, _, _ => by simp only [LKs] at h
  | .i k :: ks, avs, cs, b, o, h, hv, hc => by
    simp only [LKs] at h
    obtain ⟨n, l, rfl, hw, h⟩ := h
    simp only [RvL] at hv
    obtain ⟨v, vs, rfl, h1, h2⟩ := hv
    simp only [RvC]
    have h0 := hc 0 v rfl
    refine ⟨⟨v, h0, ?_, st_none hH h0, h1⟩, rvC_flat hH h h2 fun j u hu => ?_⟩
    · simp only [Rv] at h1; subst h1; rfl
    · have := hc (j + 1) u (by simpa using hu)
      rw [show o + 1 + j = o + (j + 1) by omega]
      exact this
  | .s :: ks, avs, cs, b, o, h, hv, hc => by
    simp only [LKs] at h
    obtain ⟨n, l, rfl, h⟩ := h
    simp only [RvL] at hv
    obtain ⟨v, vs, rfl, h1, h2⟩ := hv
    simp only [RvC]
    have h0 := hc 0 v rfl
    refine ⟨⟨v, h0, ?_, st_none hH h0, h1⟩, rvC_flat hH h h2 fun j u hu => ?_⟩
    · simp only [Rv] at h1; obtain ⟨h1, _⟩ := h1; subst h1; rfl
    · have := hc (j + 1) u (by simpa using hu)
      rw [show o + 1 + j = o + (j + 1) by omega]
      exact this
theorem rvR_of {m : Mem} {size b o : Nat} {R : Nat → List AV} : ∀ (n i : Nat), (∀ j, i ≤ j → j < i + n → (R j).length = size ∧ RvC m (R j) b (o + j * size)) → RvR m size ((List.range' i n).map R) b (o + i * size)
  | 0, _, _ => by simp [RvR]
  | n + 1, i, h => by
    obtain ⟨h1, h2⟩ := h i (Nat.le_refl _) (by omega)
    simp only [List.range'_succ, List.map_cons, RvR]
    refine ⟨h1, h2, ?_⟩
    have := rvR_of n (i + 1) fun j h1 h2 => h j (by omega) (by omega)
    rw [show o + i * size + size = o + (i + 1) * size by rw [Nat.add_mul]; omega]
    exact this
theorem slice_open {t e : TypeId} {ks : List LK} {fuel : Nat} {v : Value} {x : DataW H × List MemPlace} (ht : P.underlying t = some (.slice e)) (hk : flatW P 8 e = some ks) (hc : P.cellsOf e = ks.length) (h0 : 0 < ks.length)
    (h : DataW.trod enc P w base spare held fuel t [v] = some x) : ∃ rows, (∀ r ∈ rows, LKs ks r) ∧ ∀ m : Mem, m.w = w → m.H = AHeap.none → Rv m (.vs ks.length rows) v := by
  rcases open_slice ht h with ⟨h1, _⟩ | ⟨a, len, cap, mm, n, D, Pl, hcs, hb, hl, hm, hmm, _, hi⟩
  · simp at h1
    subst h1
    refine ⟨[], fun r hr => by simp at hr, fun m _ _ => ?_⟩
    simp only [Rv]
    exact ⟨none, 0, 0, rfl, rfl, ⟨Nat.le_refl _, Nat.zero_le _⟩, .inl rfl⟩
  · simp at hcs
    subst hcs
    have hlm : len ≤ mm := by rw [hmm]; split <;> omega
    have key : ∀ i, ∃ r cs, i < len → LKs ks r ∧ (∀ m : Mem, RvL m r cs) ∧ cs.length = ks.length ∧ ∀ j, j < ks.length → w.cell? ((a.add (i * ks.length)).add j) = cs[j]? := by
      intro i
      by_cases hil : i < len
      · obtain ⟨cs', h1, h2⟩ := hi i (by omega)
        rw [hc] at h1
        obtain ⟨_, h3, h4⟩ := World.cells?_some h1
        obtain ⟨avs, g1, g2, g3⟩ := flat_open hk h2
        exact ⟨avs, cs', fun _ => ⟨g1, g3, h3, h4⟩⟩
      · exact ⟨[], [], fun h => absurd h hil⟩
    obtain ⟨R, hR⟩ := Classical.skolem.1 key
    refine ⟨(List.range' 0 len).map R, fun r hr => ?_, fun m hw hH => ?_⟩
    · obtain ⟨i, h1, rfl⟩ := List.mem_map.1 hr
      obtain ⟨cs, h2⟩ := hR i
      exact (h2 (by have := List.mem_range'_1.1 h1; omega)).1
    · simp only [Rv]
      refine ⟨_, _, _, rfl, by simp, ⟨hl, hm⟩, ?_⟩
      by_cases hz : len = 0
      · left; simp [hz]
      · right
        have hspot : ∃ b o, a = ⟨b, o, none⟩ := by
          obtain ⟨cs, h2⟩ := hR 0
          obtain ⟨_, _, h3, h4⟩ := h2 (by omega)
          have h5 := h4 0 h0
          rw [List.getElem?_eq_getElem (by omega)] at h5
          simp only [Nat.zero_mul, Addr.add, if_true] at h5
          obtain ⟨ab, ao, az⟩ := a
          cases az with
          | none => exact ⟨_, _, rfl⟩
          | some _ =>
            exfalso
            unfold World.cell? at h5
            split at h5
            · simp at h5
            · cases h5
        obtain ⟨b, o, rfl⟩ := hspot
        refine ⟨b, o, rfl, ?_⟩
        have := rvR_of (m := m) (size := ks.length) (b := b) (o := o) (R := R) len 0 fun j _ hj => ?_
        · simpa using this
        · obtain ⟨cs, h2⟩ := hR j
          obtain ⟨g1, g2, g3, g4⟩ := h2 (by omega)
          refine ⟨LKs_len g1, rvC_flat hH g1 (g2 m) fun i v hv => ?_⟩
          have hi' : i < ks.length := by rw [← g3]; exact (List.getElem?_eq_some_iff.1 hv).1
          have h6 := g4 i hi'
          rw [hv] at h6
          rw [hw, ← h6]
          congr 1
          unfold Addr.add
          by_cases e1 : j * ks.length = 0
          · by_cases e2 : i = 0
            · simp [e1, e2]
            · simp [e1, e2]
          · by_cases e2 : i = 0
            · simp [e1, e2]
            · simp [e1, e2]
inductive FK where
  | lk (k : LK)
  | sl (ks : List LK)
  deriving DecidableEq
def FKs : List FK → List AV → Prop
  | [], l => l = []
  | .lk .b :: ks, l => False
  | .lk (.i k) :: ks, l => ∃ n l', l = .int k n :: l' ∧ (Lit.int k n).wf = true ∧ FKs ks l'
  | .lk .s :: ks, l => ∃ s l', l = .str s :: l' ∧ FKs ks l'
  | .sl k :: ks, l => ∃ rows l', l = .vs k.length rows :: l' ∧ (∀ r ∈ rows, LKs k r) ∧ FKs ks l'
def fieldW (P : Program) (t : TypeId) : Option FK := match P.underlying t with
  | some (.int k) => some (.lk (.i k))
  | some .string => some (.lk .s)
  | some (.slice e) => match flatW P 8 e with
    | some ks => if P.cellsOf e = ks.length ∧ 0 < ks.length then some (.sl ks) else none
    | none => none
  | _ => none
def fieldsW (P : Program) : List Field → Option (List FK)
  | [] => some []
  | f :: fs => match fieldW P f.type with
    | some k => (fieldsW P fs).map (k :: ·)
    | none => none
def structW (P : Program) (t : TypeId) : Option (List FK) := match P.underlying t with
  | some (.struct fs) => if oneCellFields P fs = true ∧ P.cellsOf t = fs.size then fieldsW P fs.toList else none
  | _ => none
theorem field_open {t : TypeId} {k : FK} {fuel : Nat} {v : Value} {x : DataW H × List MemPlace} (hk : fieldW P t = some k) (h : DataW.trod enc P w base spare held fuel t [v] = some x) :
    ∃ a, (∀ ks az, FKs ks az → FKs (k :: ks) (a :: az)) ∧ ∀ m : Mem, m.w = w → m.H = AHeap.none → Rv m a v := by
  simp only [fieldW] at hk
  split at hk
  · rename_i hu
    simp at hk
    subst hk
    obtain ⟨n, h1, _, hw⟩ := DataW.trod_int hu h
    simp at h1
    subst h1
    exact ⟨.int _ n, fun ks az h => ⟨n, az, rfl, hw, h⟩, fun m _ _ => by simp only [Rv]⟩
  · rename_i hu
    simp at hk
    subst hk
    obtain ⟨s, h1, _, hl⟩ := DataW.trod_string hu h
    simp at h1
    subst h1
    exact ⟨.str s.data.toList, fun ks az h => ⟨_, az, rfl, h⟩, fun m _ _ => rv_string hl⟩
  · rename_i e hu
    split at hk
    · rename_i ks h1
      split at hk
      · rename_i h2
        simp at hk
        subst hk
        obtain ⟨rows, h3, h4⟩ := slice_open hu h1 h2.1 h2.2 h
        exact ⟨.vs ks.length rows, fun ks' az h => ⟨rows, az, rfl, h3, h⟩, h4⟩
      · cases hk
    · cases hk
  · cases hk
theorem struct_open {r : Reach} {b0 : Nat} {t : TypeId} {ks : List FK} {v : Value} {d : DataW H} {p : List MemPlace} (hk : structW P t = some ks) (hv : Value.okWide P w r b0 t v) (h : DataW.Trod enc P w base spare held t v d p) :
    ∃ avs, FKs ks avs ∧ ∀ m : Mem, m.w = w → m.H = AHeap.none → Rv m (.agg avs) v := by
  simp only [structW] at hk
  split at hk
  · rename_i fs hu
    split at hk
    · rename_i hc
      obtain ⟨hone, hC⟩ := hc
      obtain ⟨cs, rfl, hsz⟩ := okWide_struct hu hv
      obtain ⟨l⟩ := cs
      obtain ⟨fuel, hf⟩ := h
      obtain ⟨xs, n, _, _, hlen, hxs, hg⟩ := DataW.trod_struct hu hf
      simp only [Value.cells] at hlen hg
      have hll : l.length = fs.size := by rw [← hC]; simpa using hsz
      have key : ∀ (fl : List Field) (i : Nat) (ks : List FK), fieldsW P fl = some ks → (∀ j, fl[j]? = fs.toList[i + j]?) → fl.length = fs.size - i → i ≤ fs.size → ∃ avs, FKs ks avs ∧ ∀ m : Mem, m.w = w → m.H = AHeap.none → RvL m avs (l.drop i) := by
        intro fl
        induction fl with
        | nil =>
          intro i ks h1 _ h2 h3
          simp [fieldsW] at h1
          subst h1
          refine ⟨[], rfl, fun m _ _ => ?_⟩
          simp at h2
          rw [List.drop_eq_nil_of_le (by omega)]
          simp only [RvL]
        | cons f fl ih =>
          intro i ks h1 hj h2 h3
          simp only [fieldsW] at h1
          split at h1
          · rename_i k e1
            simp only [Option.map_eq_some_iff] at h1
            obtain ⟨k2, h4, rfl⟩ := h1
            simp at h2
            have hfi : fs[i]? = some f := by have := hj 0; simpa using this.symm
            have hi : i < fs.size := (Array.getElem?_eq_some_iff.1 hfi).1
            obtain ⟨a2, b2, c2⟩ := ih (i + 1) k2 h4 (fun j => by have := hj (j + 1); simpa [Nat.add_assoc, Nat.add_comm 1 j] using this) (by omega) (by omega)
            obtain ⟨ho, h1c⟩ := hone_of hone i f hfi
            have e2 := hg i f hfi
            rw [List.getElem?_eq_getElem (by omega : i < xs.length), ho, h1c] at e2
            have hd : l.drop i = l[i]'(by omega) :: l.drop (i + 1) := List.drop_eq_getElem_cons (by omega)
            have et : (l.drop i).take 1 = [l[i]'(by omega)] := by rw [hd]; rfl
            rw [et] at e2
            obtain ⟨a1, b1, c1⟩ := field_open e1 e2
            refine ⟨a1 :: a2, b1 _ _ b2, fun m hw hH => ?_⟩
            rw [hd]
            simp only [RvL]
            exact ⟨_, _, rfl, c1 m hw hH, c2 m hw hH⟩
          · cases h1
      obtain ⟨avs, a1, a2⟩ := key fs.toList 0 ks hk (fun j => by simp) (by simp) (Nat.zero_le _)
      refine ⟨avs, a1, fun m hw hH => ?_⟩
      simp only [Rv]
      exact ⟨l, rfl, by simpa using a2 m hw hH⟩
    · cases hk
  · cases hk
end
theorem rows_map {α : Type} {f : α → List AV} : ∀ {rows : List (List AV)}, (∀ r ∈ rows, ∃ v, r = f v) → ∃ xs : List α, rows = xs.map f
  | [], _ => ⟨[], rfl⟩
  | r :: rs, h => by
    obtain ⟨v, hv⟩ := h r (by simp)
    obtain ⟨xs, hx⟩ := rows_map (rows := rs) fun r hr => h r (by simp [hr])
    exact ⟨v :: xs, by rw [hv, hx]; rfl⟩
end Go.Aw

namespace Go.Aw.T
open Go Go.Aw Go.Proofs Go.RowKit
set_option maxRecDepth 100000
attribute [local irreducible] Go.Aw.DM Go.Aw.AHeap.setB Go.Aw.AHeap.setT
attribute [local go_sem] peval EOpd.ev Env.get binInt binStr binBool buildParts AV.cells AV.okc setRange minmaxAV AV.one AV.ofCells eqCells eqCell bslRows cond_true cond_false beq_self_eq_true Bool.not_true Bool.not_false beq_true beq_false eq_self if_true Option.some.injEq List.length_cons List.length_nil List.take_succ_cons List.take_zero List.drop_succ_cons List.drop_zero List.set_cons_succ List.set_cons_zero List.nil_append List.cons_append List.append_nil and_self Option.map_some List.map_cons List.map_nil Bool.false_eq_true if_false Nat.zero_add Nat.add_zero true_and and_true Bool.and_true Bool.true_and List.getElem?_cons_zero List.getElem?_cons_succ Nat.zero_le Nat.le_refl
set_option linter.unusedSimpArgs false
set_option linter.unusedVariables false
open Go.Aw
theorem sw27 : structW Try.prog 27 = some [.lk .s, .lk (.i .i64), .sl [.s, .i .i64, .i .i64, .i .i64, .i .i64, .i .i64, .s], .sl [.i .i64, .i .i64, .i .i64], .sl [.i .i64, .i .i64, .i .i64, .i .i64], .sl [.i .i64, .i .i64, .s]] := by kernel_rfl
theorem sw56 : structW Try.prog 56 = some [.lk (.i .i64), .sl [.i .i64, .i .i64, .s], .sl [.i .i64, .i .i64, .s], .lk (.i .i64)] := by kernel_rfl
theorem rows_val {rows : List (List AV)} (h : ∀ r ∈ rows, LKs [.i .i64, .i .i64, .s] r) : ∃ xs : List Val, rows = xs.map Val.row :=
  rows_map fun r hr => by
    have := h r hr
    simp only [LKs] at this
    obtain ⟨a, _, rfl, _, b, _, rfl, _, c, _, rfl, rfl⟩ := this
    exact ⟨⟨a, b, c⟩, rfl⟩
theorem rows_ins {rows : List (List AV)} (h : ∀ r ∈ rows, LKs [.i .i64, .i .i64, .s] r) : ∃ xs : List Ins_, rows = xs.map Ins_.row :=
  rows_map fun r hr => by
    have := h r hr
    simp only [LKs] at this
    obtain ⟨a, _, rfl, _, b, _, rfl, _, c, _, rfl, rfl⟩ := this
    exact ⟨⟨a, b, c⟩, rfl⟩
theorem rows_hd {rows : List (List AV)} (h : ∀ r ∈ rows, LKs [.i .i64, .i .i64, .i .i64] r) : ∃ xs : List Hd, rows = xs.map Hd.row :=
  rows_map fun r hr => by
    have := h r hr
    simp only [LKs] at this
    obtain ⟨a, _, rfl, _, b, _, rfl, _, c, _, rfl, _, rfl⟩ := this
    exact ⟨⟨a, b, c⟩, rfl⟩
theorem rows_of {rows : List (List AV)} (h : ∀ r ∈ rows, LKs [.i .i64, .i .i64, .i .i64, .i .i64] r) : ∃ xs : List Of_, rows = xs.map Of_.row :=
  rows_map fun r hr => by
    have := h r hr
    simp only [LKs] at this
    obtain ⟨a, _, rfl, _, b, _, rfl, _, c, _, rfl, _, d, _, rfl, _, rfl⟩ := this
    exact ⟨⟨a, b, c, d⟩, rfl⟩
theorem rows_var {rows : List (List AV)} (h : ∀ r ∈ rows, LKs [.s, .i .i64, .i .i64, .i .i64, .i .i64, .i .i64, .s] r) : ∃ xs : List Var_, rows = xs.map Var_.row :=
  rows_map fun r hr => by
    have := h r hr
    simp only [LKs] at this
    obtain ⟨a, _, rfl, b, _, rfl, _, c, _, rfl, _, d, _, rfl, _, e, _, rfl, _, f, _, rfl, _, g, _, rfl, rfl⟩ := this
    exact ⟨⟨a, ⟨b, c, d⟩, ⟨e, f, g⟩⟩, rfl⟩
section
variable {H : Type} {enc : TypeId × Value → H} {w : World} {base : Nat} {spare : Nat → Bool} {held : Bool} {r : Reach} {b0 : Nat} {v : Value} {d : DataW H} {p : List MemPlace}
theorem open27 (hv : Value.okWide Try.prog w r b0 27 v) (h : DataW.Trod enc Try.prog w base spare held 27 v d p) : ∃ q : Prog, ∀ m : Mem, m.w = w → m.H = AHeap.none → Rv m q.av v := by
  obtain ⟨avs, h1, h2⟩ := struct_open sw27 hv h
  simp only [FKs] at h1
  obtain ⟨nm, _, rfl, rl, _, rfl, _, r1, _, rfl, k1, r2, _, rfl, k2, r3, _, rfl, k3, r4, _, rfl, k4, rfl⟩ := h1
  obtain ⟨vs, rfl⟩ := rows_var k1
  obtain ⟨hs, rfl⟩ := rows_hd k2
  obtain ⟨os, rfl⟩ := rows_of k3
  obtain ⟨cs, rfl⟩ := rows_ins k4
  exact ⟨⟨nm, rl, vs, hs, os, cs⟩, h2⟩
theorem open56 (hv : Value.okWide Try.prog w r b0 56 v) (h : DataW.Trod enc Try.prog w base spare held 56 v d p) : ∃ (e : Int) (vars ps : List Val) (s : Int), (Lit.int .i64 e).wf = true ∧ (Lit.int .i64 s).wf = true ∧ ∀ m : Mem, m.w = w → m.H = AHeap.none → Rv m (callAv e vars ps s) v := by
  obtain ⟨avs, h1, h2⟩ := struct_open sw56 hv h
  simp only [FKs] at h1
  obtain ⟨e, _, rfl, we, r1, _, rfl, k1, r2, _, rfl, k2, s, _, rfl, ws, rfl⟩ := h1
  obtain ⟨vs, rfl⟩ := rows_val k1
  obtain ⟨ps, rfl⟩ := rows_val k2
  exact ⟨e, vs, ps, s, we, ws, h2⟩
end
end Go.Aw.T
