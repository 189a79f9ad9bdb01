/- Part of a proof; own work. -/
import Derived.Below
import Derived.KernelRfl
import Derived.Shelf.Strconv.Itoa3
import Derived.Shelf.Strconv.AtoiAll
import Derived.Shelf.Strings.BuilderK
import Derived.Shelf.Strings.Search1
import Derived.Test.YtocjjlmnkpnjbaaGreatDoorProg
import Derived.Test.YtocjjlmnkpnjbaaGreatDoorAS4
namespace Go.Aw.T
open Go Go.Aw Go.Proofs Go.RowKit
set_option maxRecDepth 100000
attribute [local irreducible] Go.Aw.DM Go.Aw.AHeap.setB Go.Aw.AHeap.setT
attribute [local go_sem] peval EOpd.ev Env.get binInt binStr binBool buildParts AV.cells AV.okc setRange minmaxAV AV.one AV.ofCells eqCells eqCell bslRows cond_true cond_false beq_self_eq_true Bool.not_true Bool.not_false beq_true beq_false eq_self if_true Option.some.injEq List.length_cons List.length_nil List.take_succ_cons List.take_zero List.drop_succ_cons List.drop_zero List.set_cons_succ List.set_cons_zero List.nil_append List.cons_append List.append_nil and_self Option.map_some List.map_cons List.map_nil Bool.false_eq_true if_false Nat.zero_add Nat.add_zero true_and and_true Bool.and_true Bool.true_and List.getElem?_cons_zero List.getElem?_cons_succ Nat.zero_le Nat.le_refl
set_option linter.unusedSimpArgs false
set_option linter.unusedVariables false
structure Dst (ta tb tc td : Nat) : Prop where
  ba : tb ≠ ta
  ca : tc ≠ ta
  cb : tc ≠ tb
  da : td ≠ ta
  db : td ≠ tb
  dc : td ≠ tc
def HO (G : AHeap) (b ta tb tc td : Nat) (nm : List UInt8) (rl : Int) (A B C D : List (List AV)) (va vb vc vd : Nat) : AHeap :=
  ⟨fun q => if q = b then some (36, [.str nm, .int .i64 rl, .ms ta va, .ms tb vb, .ms tc vc, .ms td vd]) else G.blk q,
   fun q => if q = ta then some (.mu 73 7 va A) else if q = tb then some (.mu 75 3 vb B) else if q = tc then some (.mu 78 4 vc C) else if q = td then some (.mu 43 3 vd D) else G.tok q⟩
section
variable {G : AHeap} {b ta tb tc td : Nat} {nm : List UInt8} {rl : Int} {A B C D : List (List AV)} {va vb vc vd : Nat}
theorem ho_blk : (HO G b ta tb tc td nm rl A B C D va vb vc vd).blk b = some (36, [.str nm, .int .i64 rl, .ms ta va, .ms tb vb, .ms tc vc, .ms td vd]) := by simp [HO]
theorem ho_look {x : Nat} {y : Option (TypeId × List AV)} (hx : x ≠ b) (h : G.blk x = y) : (HO G b ta tb tc td nm rl A B C D va vb vc vd).blk x = y := by simp [HO, hx, h]
theorem ho_ta : (HO G b ta tb tc td nm rl A B C D va vb vc vd).tok ta = some (.mu 73 7 va A) := by simp [HO]
theorem ho_tb (d : Dst ta tb tc td) : (HO G b ta tb tc td nm rl A B C D va vb vc vd).tok tb = some (.mu 75 3 vb B) := by simp [HO, d.ba]
theorem ho_tc (d : Dst ta tb tc td) : (HO G b ta tb tc td nm rl A B C D va vb vc vd).tok tc = some (.mu 78 4 vc C) := by simp [HO, d.ca, d.cb]
theorem ho_td (d : Dst ta tb tc td) : (HO G b ta tb tc td nm rl A B C D va vb vc vd).tok td = some (.mu 43 3 vd D) := by simp [HO, d.da, d.db, d.dc]
theorem ho_sub {H : AHeap} (h : HSub H G) (hb : H.blk b = none) (ha : H.tok ta = none) (hb' : H.tok tb = none) (hc : H.tok tc = none) (hd : H.tok td = none) : HSub H (HO G b ta tb tc td nm rl A B C D va vb vc vd) where
  blk := fun x y hx => by
    have e : x ≠ b := fun e => by subst e; rw [hb] at hx; cases hx
    simp only [HO, if_neg e]; exact h.blk x y hx
  tok := fun x y hx => by
    have e1 : x ≠ ta := fun e => by subst e; rw [ha] at hx; cases hx
    have e2 : x ≠ tb := fun e => by subst e; rw [hb'] at hx; cases hx
    have e3 : x ≠ tc := fun e => by subst e; rw [hc] at hx; cases hx
    have e4 : x ≠ td := fun e => by subst e; rw [hd] at hx; cases hx
    simp only [HO, if_neg e1, if_neg e2, if_neg e3, if_neg e4]; exact h.tok x y hx
theorem ho_set_a (d : Dst ta tb tc td) {R : List (List AV)} : ((HO G b ta tb tc td nm rl A B C D va vb vc vd).setT ta (.mu 73 7 (va + 1) R)).setB b 36 [.str nm, .int .i64 rl, .ms ta (va + 1), .ms tb vb, .ms tc vc, .ms td vd] = HO G b ta tb tc td nm rl R B C D (va + 1) vb vc vd := by
  have h1 := d.ba; have h2 := d.ca; have h3 := d.cb; have h4 := d.da; have h5 := d.db; have h6 := d.dc
  simp only [HO, AHeap.setT, AHeap.setB, AHeap.mk.injEq]
  refine ⟨?_, ?_⟩
  · funext q
    by_cases e : q = b <;> simp [e]
  · funext q
    by_cases e : q = ta
    · subst e; simp [*]
    · simp [e]
theorem ho_set_b (d : Dst ta tb tc td) {R : List (List AV)} : ((HO G b ta tb tc td nm rl A B C D va vb vc vd).setT tb (.mu 75 3 (vb + 1) R)).setB b 36 [.str nm, .int .i64 rl, .ms ta va, .ms tb (vb + 1), .ms tc vc, .ms td vd] = HO G b ta tb tc td nm rl A R C D va (vb + 1) vc vd := by
  have h1 := d.ba; have h2 := d.ca; have h3 := d.cb; have h4 := d.da; have h5 := d.db; have h6 := d.dc
  simp only [HO, AHeap.setT, AHeap.setB, AHeap.mk.injEq]
  refine ⟨?_, ?_⟩
  · funext q
    by_cases e : q = b <;> simp [e]
  · funext q
    by_cases e : q = tb
    · subst e; simp [*]
    · simp [e]
theorem ho_set_c (d : Dst ta tb tc td) {R : List (List AV)} : ((HO G b ta tb tc td nm rl A B C D va vb vc vd).setT tc (.mu 78 4 (vc + 1) R)).setB b 36 [.str nm, .int .i64 rl, .ms ta va, .ms tb vb, .ms tc (vc + 1), .ms td vd] = HO G b ta tb tc td nm rl A B R D va vb (vc + 1) vd := by
  have h1 := d.ba; have h2 := d.ca; have h3 := d.cb; have h4 := d.da; have h5 := d.db; have h6 := d.dc
  simp only [HO, AHeap.setT, AHeap.setB, AHeap.mk.injEq]
  refine ⟨?_, ?_⟩
  · funext q
    by_cases e : q = b <;> simp [e]
  · funext q
    by_cases e : q = tc
    · subst e; simp [*]
    · simp [e]
theorem ho_set_d (d : Dst ta tb tc td) {R : List (List AV)} : ((HO G b ta tb tc td nm rl A B C D va vb vc vd).setT td (.mu 43 3 (vd + 1) R)).setB b 36 [.str nm, .int .i64 rl, .ms ta va, .ms tb vb, .ms tc vc, .ms td (vd + 1)] = HO G b ta tb tc td nm rl A B C R va vb vc (vd + 1) := by
  have h1 := d.ba; have h2 := d.ca; have h3 := d.cb; have h4 := d.da; have h5 := d.db; have h6 := d.dc
  simp only [HO, AHeap.setT, AHeap.setB, AHeap.mk.injEq]
  refine ⟨?_, ?_⟩
  · funext q
    by_cases e : q = b <;> simp [e]
  · funext q
    by_cases e : q = td
    · subst e; simp [*]
    · simp [e]
end
theorem take_succ_map {α β : Type} (f : α → β) {l : List α} {i : Nat} {v : α} (h : l[i]? = some v) : (l.take i).map f ++ [f v] = (l.take (i + 1)).map f := by
  rw [List.take_add_one, h]; simp
theorem p12b (p : Prog) (hl : p.vars.length * 72 ≤ 140737488355328 ∧ p.hs.length * 24 ≤ 140737488355328 ∧ p.os.length * 32 ≤ 140737488355328 ∧ p.code.length * 32 ≤ 140737488355328) : Pure Tryz.prog 12 [p.av] p.av := by
  refine pure_introF mo Tryz.func12 c12 fun H => ?_
  unfold e12 r12
  simp only [initEnv, initFrom]
  repeat' first|(apply Sp.go;·constructor<;>first|exact ss|(change _=_;first|(simp only[go_sem,Nat.reduceBEq,Nat.reduceAdd,Nat.reduceLeDiff,reduceIte]<;>rfl)|rfl)|exact Nat.le_of_ble_eq_true rfl|decide|(repeat' first|(apply Lk.go;constructor)|assumption|exact nb ‹_› ‹_›|exact nt ‹_› ‹_›))|(intro b hb;repeat first|(refine fe hb ?_;intro _ _ hb)|(refine fT hb ?_;intro hb))|refine rt ?_|refine gA rfl ?_|refine gB rfl ?_|apply cT rfl|apply cF rfl|(apply DM.gbT;rfl)|(apply DM.gbF;rfl)|intro h
  rename_i b1 h1 b2 h2 n1 n2 h3 h4 n3 n4 h5 n5 n6
  rename Nat => b
  have hG : ∃ G : AHeap, HSub H G ∧ G.blk b = none ∧ G.blk b1 = some (27, p.cells) ∧ (G.blk b2 = some (36, [.str [], .int .i64 0, .nilS, .nilS, .nilS, .nilS])) ∧ G = (H.setB b1 27 p.cells).setB b2 36 [.str [], .int .i64 0, .nilS, .nilS, .nilS, .nilS] := ⟨_, HSub.setB (HSub.setB (HSub.refl _) h1) h3, by assumption, g_ne n2 g_same, g_same, rfl⟩
  obtain ⟨G, hGs, hGb, hG1, hG2, hGe⟩ := hG
  have hHb : H.blk b = none := by assumption
  have e1 : b1 ≠ b := (ne_blk hGb hG1).2
  have e2 : b2 ≠ b := (ne_blk hGb hG2).2
  refine AM.eqH (H2 := G.setB b 36 [.str p.name, .int .i64 p.role, .nilS, .nilS, .nilS, .nilS]) (by rw [hGe]) ?_
  apply AM.ghostB b 2 73 7 (by decide) g_same rfl
  intro ta hta
  apply AM.ghostB b 3 75 3 (by decide) g_same rfl
  intro tb htb
  apply AM.ghostB b 4 78 4 (by decide) g_same rfl
  intro tc htc
  apply AM.ghostB b 5 43 3 (by decide) g_same rfl
  intro td htd
  have ha0 : G.tok ta = none := freshT_setB hta
  obtain ⟨nba, _, htb⟩ := freshT_setT (freshT_setB htb)
  have hb0 : G.tok tb = none := freshT_setB htb
  obtain ⟨ncb, _, htc⟩ := freshT_setT (freshT_setB htc)
  obtain ⟨nca, _, htc⟩ := freshT_setT (freshT_setB htc)
  have hc0 : G.tok tc = none := freshT_setB htc
  obtain ⟨ndc, _, htd⟩ := freshT_setT (freshT_setB htd)
  obtain ⟨ndb, _, htd⟩ := freshT_setT (freshT_setB htd)
  obtain ⟨nda, _, htd⟩ := freshT_setT (freshT_setB htd)
  have hd0 : G.tok td = none := freshT_setB htd
  have d : Dst ta tb tc td := ⟨nba, nca, ncb, nda, ndb, ndc⟩
  have fa := hGs.none_tok ha0; have fb := hGs.none_tok hb0; have fc := hGs.none_tok hc0; have fd := hGs.none_tok hd0
  have hsubO : ∀ A B C D va vb vc vd c, HSub H ((HO G b ta tb tc td p.name p.role A B C D va vb vc vd).setB b2 36 c) := fun A B C D va vb vc vd c => HSub.setB (ho_sub hGs hHb fa fb fc fd) h3
  refine AM.eqH (H2 := HO G b ta tb tc td p.name p.role [] [] [] [] 0 0 0 0) ?_ ?_
  · have q1 := d.ba; have q2 := d.ca; have q3 := d.cb; have q4 := d.da; have q5 := d.db; have q6 := d.dc
    simp only [HO, AHeap.setT, AHeap.setB, AHeap.mk.injEq]
    refine ⟨?_, ?_⟩
    · funext q
      by_cases e : q = b <;> simp [e]
    · funext q
      by_cases e3 : q = ta
      · subst e3; simp [*, Ne.symm q1, Ne.symm q2, Ne.symm q4]
      · by_cases e4 : q = tb
        · subst e4; simp [*, Ne.symm q3, Ne.symm q5]
        · by_cases e5 : q = tc
          · subst e5; simp [*, Ne.symm q6]
          · simp [*]
  clear hGe hta htb htc htd
  refine AM.loopX (X := Nat) 0 (fun i => [(1, .ptr b1 0), (2, .ptr b2 0), (3, .ptr b 0), (4, .int .i64 (i : Int))]) (fun i H' => H' = HO G b ta tb tc td p.name p.role ((p.vars.take i).map Var_.row) [] [] [] i 0 0 0 ∧ i ≤ p.vars.length) (fun i => p.vars.length - i) ⟨rfl, Nat.zero_le _⟩ ?_ ?_
  · (repeat first | exact envle_nil _ | (refine envle_cons ?_ ?_; · (simp only [go_sem, Nat.reduceBEq, Nat.reduceAdd]; exact AVLe.refl _)))
  rintro i H' ⟨rfl, hi⟩
  repeat' first|(apply Sp.go;·constructor<;>first|exact ss|(change _=_;first|(simp only[go_sem,Nat.reduceBEq,Nat.reduceAdd,Nat.reduceLeDiff,reduceIte]<;>rfl)|rfl)|exact Nat.le_of_ble_eq_true rfl|decide|(repeat' first|(apply Lk.go;constructor)|assumption|exact nb ‹_› ‹_›|exact nt ‹_› ‹_›| refine ho_look ‹_› ?_ | exact ho_blk | exact ho_ta | exact ho_tb ‹_› | exact ho_tc ‹_› | exact ho_td ‹_›))|(intro b hb;repeat first|(refine fe hb ?_;intro _ _ hb)|(refine fT hb ?_;intro hb))|refine rt ?_|refine gA rfl ?_|refine gB rfl ?_|apply cT rfl|apply cF rfl|(apply DM.gbT;rfl)|(apply DM.gbF;rfl)|intro h
  (apply AM.cond; (· rfl))
  · intro hlt
    simp at hlt
    obtain ⟨v, hv⟩ := some_of hlt
    repeat' first|(apply Sp.go;·constructor<;>first|exact ss|(change _=_;first|(simp only[go_sem,Nat.reduceBEq,Nat.reduceAdd,Nat.reduceLeDiff,reduceIte]<;>rfl)|rfl)|exact Nat.le_of_ble_eq_true rfl|decide|(repeat' first|(apply Lk.go;constructor)|assumption|exact nb ‹_› ‹_›|exact nt ‹_› ‹_›| refine ho_look ‹_› ?_ | exact ho_blk | exact ho_ta | exact ho_tb ‹_› | exact ho_tc ‹_› | exact ho_td ‹_›))|(intro b hb;repeat first|(refine fe hb ?_;intro _ _ hb)|(refine fT hb ?_;intro hb))|refine rt ?_|refine gA rfl ?_|refine gB rfl ?_|apply cT rfl|apply cF rfl|(apply DM.gbT;rfl)|(apply DM.gbF;rfl)|intro h
    (apply DM.ixV (row := v.row) (z := (i : Int)) (by omega) (row_get Var_.row hv); (· rfl); (· rfl))
    repeat' first|(apply Sp.go;·constructor<;>first|exact ss|(change _=_;first|(simp only[go_sem,Nat.reduceBEq,Nat.reduceAdd,Nat.reduceLeDiff,reduceIte]<;>rfl)|rfl)|exact Nat.le_of_ble_eq_true rfl|decide|(repeat' first|(apply Lk.go;constructor)|assumption|exact nb ‹_› ‹_›|exact nt ‹_› ‹_›| refine ho_look ‹_› ?_ | exact ho_blk | exact ho_ta | exact ho_tb ‹_› | exact ho_tc ‹_› | exact ho_td ‹_›))|(intro b hb;repeat first|(refine fe hb ?_;intro _ _ hb)|(refine fT hb ?_;intro hb))|refine rt ?_|refine gA rfl ?_|refine gB rfl ?_|apply cT rfl|apply cF rfl|(apply DM.gbT;rfl)|(apply DM.gbF;rfl)|intro h
    (apply DM.apM; (· rfl); (· repeat' first|(apply Lk.go;constructor)|assumption|exact nb ‹_› ‹_›|exact nt ‹_› ‹_›| refine ho_look ‹_› ?_ | exact ho_blk | exact ho_ta | exact ho_tb ‹_› | exact ho_tc ‹_› | exact ho_td ‹_›); (· simp only [rowsOf, if_true, eq_self, go_sem, Nat.reduceBEq, reduceIte] <;> rfl); (· (simp only [List.length_map, List.length_cons, List.length_nil, List.length_take, maxLen]; omega)); (· (simp only [List.length_map, List.length_cons, List.length_nil, List.length_take, maxLen]; omega)))
    rw [show (p.vars.take i).map Var_.row ++ [v.row] = (p.vars.take (i + 1)).map Var_.row from take_succ_map Var_.row hv]
    repeat' first|(apply Sp.go;·constructor<;>first|exact ss|(change _=_;first|(simp only[go_sem,Nat.reduceBEq,Nat.reduceAdd,Nat.reduceLeDiff,reduceIte]<;>rfl)|rfl)|exact Nat.le_of_ble_eq_true rfl|decide|(repeat' first|(apply Lk.go;constructor)|assumption|exact nb ‹_› ‹_›|exact nt ‹_› ‹_›| refine ho_look ‹_› ?_ | exact ho_blk | exact ho_ta | exact ho_tb ‹_› | exact ho_tc ‹_› | exact ho_td ‹_›))|(intro b hb;repeat first|(refine fe hb ?_;intro _ _ hb)|(refine fT hb ?_;intro hb))|refine rt ?_|refine gA rfl ?_|refine gB rfl ?_|apply cT rfl|apply cF rfl|(apply DM.gbT;rfl)|(apply DM.gbF;rfl)|intro h
    refine AM.eqH (ho_set_a d) ?_
    refine AM.roundX (i + 1) ⟨rfl, by omega⟩ ?_ (show p.vars.length - (i + 1) < p.vars.length - i by omega)
    (repeat first | exact envle_nil _ | (refine envle_cons ?_ ?_; · (simp only [go_sem, Nat.reduceBEq, Nat.reduceAdd]; exact AVLe.refl _)))
    refine envle_cons ?_ ?_
    · simp only [go_sem, Nat.reduceBEq, Nat.reduceAdd]
      refine avle_int ?_
      rw [inc64 hlt (show p.vars.length ≤ maxLen by unfold maxLen; omega)]
    exact envle_nil _
  intro hlt
  simp at hlt
  have hi0 : i = p.vars.length := by omega
  subst hi0
  rw [List.take_length]
  clear hi hlt
  repeat' first|(apply Sp.go;·constructor<;>first|exact ss|(change _=_;first|(simp only[go_sem,Nat.reduceBEq,Nat.reduceAdd,Nat.reduceLeDiff,reduceIte]<;>rfl)|rfl)|exact Nat.le_of_ble_eq_true rfl|decide|(repeat' first|(apply Lk.go;constructor)|assumption|exact nb ‹_› ‹_›|exact nt ‹_› ‹_›| refine ho_look ‹_› ?_ | exact ho_blk | exact ho_ta | exact ho_tb ‹_› | exact ho_tc ‹_› | exact ho_td ‹_›))|(intro b hb;repeat first|(refine fe hb ?_;intro _ _ hb)|(refine fT hb ?_;intro hb))|refine rt ?_|refine gA rfl ?_|refine gB rfl ?_|apply cT rfl|apply cF rfl|(apply DM.gbT;rfl)|(apply DM.gbF;rfl)|intro h
  refine AM.loopX (X := Nat) 0 (fun i => [(1, .ptr b1 0), (2, .ptr b2 0), (3, .ptr b 0), (5, .int .i64 (i : Int))]) (fun i H' => H' = HO G b ta tb tc td p.name p.role (p.vars.map Var_.row) ((p.hs.take i).map Hd.row) [] [] p.vars.length i 0 0 ∧ i ≤ p.hs.length) (fun i => p.hs.length - i) ⟨rfl, Nat.zero_le _⟩ ?_ ?_
  · (repeat first | exact envle_nil _ | (refine envle_cons ?_ ?_; · (simp only [go_sem, Nat.reduceBEq, Nat.reduceAdd]; exact AVLe.refl _)))
  rintro i H' ⟨rfl, hi⟩
  repeat' first|(apply Sp.go;·constructor<;>first|exact ss|(change _=_;first|(simp only[go_sem,Nat.reduceBEq,Nat.reduceAdd,Nat.reduceLeDiff,reduceIte]<;>rfl)|rfl)|exact Nat.le_of_ble_eq_true rfl|decide|(repeat' first|(apply Lk.go;constructor)|assumption|exact nb ‹_› ‹_›|exact nt ‹_› ‹_›| refine ho_look ‹_› ?_ | exact ho_blk | exact ho_ta | exact ho_tb ‹_› | exact ho_tc ‹_› | exact ho_td ‹_›))|(intro b hb;repeat first|(refine fe hb ?_;intro _ _ hb)|(refine fT hb ?_;intro hb))|refine rt ?_|refine gA rfl ?_|refine gB rfl ?_|apply cT rfl|apply cF rfl|(apply DM.gbT;rfl)|(apply DM.gbF;rfl)|intro h
  (apply AM.cond; (· rfl))
  · intro hlt
    simp at hlt
    obtain ⟨v, hv⟩ := some_of hlt
    repeat' first|(apply Sp.go;·constructor<;>first|exact ss|(change _=_;first|(simp only[go_sem,Nat.reduceBEq,Nat.reduceAdd,Nat.reduceLeDiff,reduceIte]<;>rfl)|rfl)|exact Nat.le_of_ble_eq_true rfl|decide|(repeat' first|(apply Lk.go;constructor)|assumption|exact nb ‹_› ‹_›|exact nt ‹_› ‹_›| refine ho_look ‹_› ?_ | exact ho_blk | exact ho_ta | exact ho_tb ‹_› | exact ho_tc ‹_› | exact ho_td ‹_›))|(intro b hb;repeat first|(refine fe hb ?_;intro _ _ hb)|(refine fT hb ?_;intro hb))|refine rt ?_|refine gA rfl ?_|refine gB rfl ?_|apply cT rfl|apply cF rfl|(apply DM.gbT;rfl)|(apply DM.gbF;rfl)|intro h
    (apply DM.ixV (row := v.row) (z := (i : Int)) (by omega) (row_get Hd.row hv); (· rfl); (· rfl))
    repeat' first|(apply Sp.go;·constructor<;>first|exact ss|(change _=_;first|(simp only[go_sem,Nat.reduceBEq,Nat.reduceAdd,Nat.reduceLeDiff,reduceIte]<;>rfl)|rfl)|exact Nat.le_of_ble_eq_true rfl|decide|(repeat' first|(apply Lk.go;constructor)|assumption|exact nb ‹_› ‹_›|exact nt ‹_› ‹_›| refine ho_look ‹_› ?_ | exact ho_blk | exact ho_ta | exact ho_tb ‹_› | exact ho_tc ‹_› | exact ho_td ‹_›))|(intro b hb;repeat first|(refine fe hb ?_;intro _ _ hb)|(refine fT hb ?_;intro hb))|refine rt ?_|refine gA rfl ?_|refine gB rfl ?_|apply cT rfl|apply cF rfl|(apply DM.gbT;rfl)|(apply DM.gbF;rfl)|intro h
    (apply DM.apM; (· rfl); (· repeat' first|(apply Lk.go;constructor)|assumption|exact nb ‹_› ‹_›|exact nt ‹_› ‹_›| refine ho_look ‹_› ?_ | exact ho_blk | exact ho_ta | exact ho_tb ‹_› | exact ho_tc ‹_› | exact ho_td ‹_›); (· simp only [rowsOf, if_true, eq_self, go_sem, Nat.reduceBEq, reduceIte] <;> rfl); (· (simp only [List.length_map, List.length_cons, List.length_nil, List.length_take, maxLen]; omega)); (· (simp only [List.length_map, List.length_cons, List.length_nil, List.length_take, maxLen]; omega)))
    rw [show (p.hs.take i).map Hd.row ++ [v.row] = (p.hs.take (i + 1)).map Hd.row from take_succ_map Hd.row hv]
    repeat' first|(apply Sp.go;·constructor<;>first|exact ss|(change _=_;first|(simp only[go_sem,Nat.reduceBEq,Nat.reduceAdd,Nat.reduceLeDiff,reduceIte]<;>rfl)|rfl)|exact Nat.le_of_ble_eq_true rfl|decide|(repeat' first|(apply Lk.go;constructor)|assumption|exact nb ‹_› ‹_›|exact nt ‹_› ‹_›| refine ho_look ‹_› ?_ | exact ho_blk | exact ho_ta | exact ho_tb ‹_› | exact ho_tc ‹_› | exact ho_td ‹_›))|(intro b hb;repeat first|(refine fe hb ?_;intro _ _ hb)|(refine fT hb ?_;intro hb))|refine rt ?_|refine gA rfl ?_|refine gB rfl ?_|apply cT rfl|apply cF rfl|(apply DM.gbT;rfl)|(apply DM.gbF;rfl)|intro h
    refine AM.eqH (ho_set_b d) ?_
    refine AM.roundX (i + 1) ⟨rfl, by omega⟩ ?_ (show p.hs.length - (i + 1) < p.hs.length - i by omega)
    (repeat first | exact envle_nil _ | (refine envle_cons ?_ ?_; · (simp only [go_sem, Nat.reduceBEq, Nat.reduceAdd]; exact AVLe.refl _)))
    refine envle_cons ?_ ?_
    · simp only [go_sem, Nat.reduceBEq, Nat.reduceAdd]
      refine avle_int ?_
      rw [inc64 hlt (show p.hs.length ≤ maxLen by unfold maxLen; omega)]
    exact envle_nil _
  intro hlt
  simp at hlt
  have hi1 : i = p.hs.length := by omega
  subst hi1
  rw [List.take_length]
  clear hi hlt
  repeat' first|(apply Sp.go;·constructor<;>first|exact ss|(change _=_;first|(simp only[go_sem,Nat.reduceBEq,Nat.reduceAdd,Nat.reduceLeDiff,reduceIte]<;>rfl)|rfl)|exact Nat.le_of_ble_eq_true rfl|decide|(repeat' first|(apply Lk.go;constructor)|assumption|exact nb ‹_› ‹_›|exact nt ‹_› ‹_›| refine ho_look ‹_› ?_ | exact ho_blk | exact ho_ta | exact ho_tb ‹_› | exact ho_tc ‹_› | exact ho_td ‹_›))|(intro b hb;repeat first|(refine fe hb ?_;intro _ _ hb)|(refine fT hb ?_;intro hb))|refine rt ?_|refine gA rfl ?_|refine gB rfl ?_|apply cT rfl|apply cF rfl|(apply DM.gbT;rfl)|(apply DM.gbF;rfl)|intro h
  refine AM.loopX (X := Nat) 0 (fun i => [(1, .ptr b1 0), (2, .ptr b2 0), (3, .ptr b 0), (6, .int .i64 (i : Int))]) (fun i H' => H' = HO G b ta tb tc td p.name p.role (p.vars.map Var_.row) (p.hs.map Hd.row) ((p.os.take i).map Of_.row) [] p.vars.length p.hs.length i 0 ∧ i ≤ p.os.length) (fun i => p.os.length - i) ⟨rfl, Nat.zero_le _⟩ ?_ ?_
  · (repeat first | exact envle_nil _ | (refine envle_cons ?_ ?_; · (simp only [go_sem, Nat.reduceBEq, Nat.reduceAdd]; exact AVLe.refl _)))
  rintro i H' ⟨rfl, hi⟩
  repeat' first|(apply Sp.go;·constructor<;>first|exact ss|(change _=_;first|(simp only[go_sem,Nat.reduceBEq,Nat.reduceAdd,Nat.reduceLeDiff,reduceIte]<;>rfl)|rfl)|exact Nat.le_of_ble_eq_true rfl|decide|(repeat' first|(apply Lk.go;constructor)|assumption|exact nb ‹_› ‹_›|exact nt ‹_› ‹_›| refine ho_look ‹_› ?_ | exact ho_blk | exact ho_ta | exact ho_tb ‹_› | exact ho_tc ‹_› | exact ho_td ‹_›))|(intro b hb;repeat first|(refine fe hb ?_;intro _ _ hb)|(refine fT hb ?_;intro hb))|refine rt ?_|refine gA rfl ?_|refine gB rfl ?_|apply cT rfl|apply cF rfl|(apply DM.gbT;rfl)|(apply DM.gbF;rfl)|intro h
  (apply AM.cond; (· rfl))
  · intro hlt
    simp at hlt
    obtain ⟨v, hv⟩ := some_of hlt
    repeat' first|(apply Sp.go;·constructor<;>first|exact ss|(change _=_;first|(simp only[go_sem,Nat.reduceBEq,Nat.reduceAdd,Nat.reduceLeDiff,reduceIte]<;>rfl)|rfl)|exact Nat.le_of_ble_eq_true rfl|decide|(repeat' first|(apply Lk.go;constructor)|assumption|exact nb ‹_› ‹_›|exact nt ‹_› ‹_›| refine ho_look ‹_› ?_ | exact ho_blk | exact ho_ta | exact ho_tb ‹_› | exact ho_tc ‹_› | exact ho_td ‹_›))|(intro b hb;repeat first|(refine fe hb ?_;intro _ _ hb)|(refine fT hb ?_;intro hb))|refine rt ?_|refine gA rfl ?_|refine gB rfl ?_|apply cT rfl|apply cF rfl|(apply DM.gbT;rfl)|(apply DM.gbF;rfl)|intro h
    (apply DM.ixV (row := v.row) (z := (i : Int)) (by omega) (row_get Of_.row hv); (· rfl); (· rfl))
    repeat' first|(apply Sp.go;·constructor<;>first|exact ss|(change _=_;first|(simp only[go_sem,Nat.reduceBEq,Nat.reduceAdd,Nat.reduceLeDiff,reduceIte]<;>rfl)|rfl)|exact Nat.le_of_ble_eq_true rfl|decide|(repeat' first|(apply Lk.go;constructor)|assumption|exact nb ‹_› ‹_›|exact nt ‹_› ‹_›| refine ho_look ‹_› ?_ | exact ho_blk | exact ho_ta | exact ho_tb ‹_› | exact ho_tc ‹_› | exact ho_td ‹_›))|(intro b hb;repeat first|(refine fe hb ?_;intro _ _ hb)|(refine fT hb ?_;intro hb))|refine rt ?_|refine gA rfl ?_|refine gB rfl ?_|apply cT rfl|apply cF rfl|(apply DM.gbT;rfl)|(apply DM.gbF;rfl)|intro h
    (apply DM.apM; (· rfl); (· repeat' first|(apply Lk.go;constructor)|assumption|exact nb ‹_› ‹_›|exact nt ‹_› ‹_›| refine ho_look ‹_› ?_ | exact ho_blk | exact ho_ta | exact ho_tb ‹_› | exact ho_tc ‹_› | exact ho_td ‹_›); (· simp only [rowsOf, if_true, eq_self, go_sem, Nat.reduceBEq, reduceIte] <;> rfl); (· (simp only [List.length_map, List.length_cons, List.length_nil, List.length_take, maxLen]; omega)); (· (simp only [List.length_map, List.length_cons, List.length_nil, List.length_take, maxLen]; omega)))
    rw [show (p.os.take i).map Of_.row ++ [v.row] = (p.os.take (i + 1)).map Of_.row from take_succ_map Of_.row hv]
    repeat' first|(apply Sp.go;·constructor<;>first|exact ss|(change _=_;first|(simp only[go_sem,Nat.reduceBEq,Nat.reduceAdd,Nat.reduceLeDiff,reduceIte]<;>rfl)|rfl)|exact Nat.le_of_ble_eq_true rfl|decide|(repeat' first|(apply Lk.go;constructor)|assumption|exact nb ‹_› ‹_›|exact nt ‹_› ‹_›| refine ho_look ‹_› ?_ | exact ho_blk | exact ho_ta | exact ho_tb ‹_› | exact ho_tc ‹_› | exact ho_td ‹_›))|(intro b hb;repeat first|(refine fe hb ?_;intro _ _ hb)|(refine fT hb ?_;intro hb))|refine rt ?_|refine gA rfl ?_|refine gB rfl ?_|apply cT rfl|apply cF rfl|(apply DM.gbT;rfl)|(apply DM.gbF;rfl)|intro h
    refine AM.eqH (ho_set_c d) ?_
    refine AM.roundX (i + 1) ⟨rfl, by omega⟩ ?_ (show p.os.length - (i + 1) < p.os.length - i by omega)
    (repeat first | exact envle_nil _ | (refine envle_cons ?_ ?_; · (simp only [go_sem, Nat.reduceBEq, Nat.reduceAdd]; exact AVLe.refl _)))
    refine envle_cons ?_ ?_
    · simp only [go_sem, Nat.reduceBEq, Nat.reduceAdd]
      refine avle_int ?_
      rw [inc64 hlt (show p.os.length ≤ maxLen by unfold maxLen; omega)]
    exact envle_nil _
  intro hlt
  simp at hlt
  have hi2 : i = p.os.length := by omega
  subst hi2
  rw [List.take_length]
  clear hi hlt
  repeat' first|(apply Sp.go;·constructor<;>first|exact ss|(change _=_;first|(simp only[go_sem,Nat.reduceBEq,Nat.reduceAdd,Nat.reduceLeDiff,reduceIte]<;>rfl)|rfl)|exact Nat.le_of_ble_eq_true rfl|decide|(repeat' first|(apply Lk.go;constructor)|assumption|exact nb ‹_› ‹_›|exact nt ‹_› ‹_›| refine ho_look ‹_› ?_ | exact ho_blk | exact ho_ta | exact ho_tb ‹_› | exact ho_tc ‹_› | exact ho_td ‹_›))|(intro b hb;repeat first|(refine fe hb ?_;intro _ _ hb)|(refine fT hb ?_;intro hb))|refine rt ?_|refine gA rfl ?_|refine gB rfl ?_|apply cT rfl|apply cF rfl|(apply DM.gbT;rfl)|(apply DM.gbF;rfl)|intro h
  refine AM.loopX (X := Nat) 0 (fun i => [(1, .ptr b1 0), (2, .ptr b2 0), (3, .ptr b 0), (7, .int .i64 (i : Int))]) (fun i H' => H' = HO G b ta tb tc td p.name p.role (p.vars.map Var_.row) (p.hs.map Hd.row) (p.os.map Of_.row) ((p.code.take i).map Ins_.row) p.vars.length p.hs.length p.os.length i ∧ i ≤ p.code.length) (fun i => p.code.length - i) ⟨rfl, Nat.zero_le _⟩ ?_ ?_
  · (repeat first | exact envle_nil _ | (refine envle_cons ?_ ?_; · (simp only [go_sem, Nat.reduceBEq, Nat.reduceAdd]; exact AVLe.refl _)))
  rintro i H' ⟨rfl, hi⟩
  repeat' first|(apply Sp.go;·constructor<;>first|exact ss|(change _=_;first|(simp only[go_sem,Nat.reduceBEq,Nat.reduceAdd,Nat.reduceLeDiff,reduceIte]<;>rfl)|rfl)|exact Nat.le_of_ble_eq_true rfl|decide|(repeat' first|(apply Lk.go;constructor)|assumption|exact nb ‹_› ‹_›|exact nt ‹_› ‹_›| refine ho_look ‹_› ?_ | exact ho_blk | exact ho_ta | exact ho_tb ‹_› | exact ho_tc ‹_› | exact ho_td ‹_›))|(intro b hb;repeat first|(refine fe hb ?_;intro _ _ hb)|(refine fT hb ?_;intro hb))|refine rt ?_|refine gA rfl ?_|refine gB rfl ?_|apply cT rfl|apply cF rfl|(apply DM.gbT;rfl)|(apply DM.gbF;rfl)|intro h
  (apply AM.cond; (· rfl))
  · intro hlt
    simp at hlt
    obtain ⟨v, hv⟩ := some_of hlt
    repeat' first|(apply Sp.go;·constructor<;>first|exact ss|(change _=_;first|(simp only[go_sem,Nat.reduceBEq,Nat.reduceAdd,Nat.reduceLeDiff,reduceIte]<;>rfl)|rfl)|exact Nat.le_of_ble_eq_true rfl|decide|(repeat' first|(apply Lk.go;constructor)|assumption|exact nb ‹_› ‹_›|exact nt ‹_› ‹_›| refine ho_look ‹_› ?_ | exact ho_blk | exact ho_ta | exact ho_tb ‹_› | exact ho_tc ‹_› | exact ho_td ‹_›))|(intro b hb;repeat first|(refine fe hb ?_;intro _ _ hb)|(refine fT hb ?_;intro hb))|refine rt ?_|refine gA rfl ?_|refine gB rfl ?_|apply cT rfl|apply cF rfl|(apply DM.gbT;rfl)|(apply DM.gbF;rfl)|intro h
    (apply DM.ixV (row := v.row) (z := (i : Int)) (by omega) (row_get Ins_.row hv); (· rfl); (· rfl))
    repeat' first|(apply Sp.go;·constructor<;>first|exact ss|(change _=_;first|(simp only[go_sem,Nat.reduceBEq,Nat.reduceAdd,Nat.reduceLeDiff,reduceIte]<;>rfl)|rfl)|exact Nat.le_of_ble_eq_true rfl|decide|(repeat' first|(apply Lk.go;constructor)|assumption|exact nb ‹_› ‹_›|exact nt ‹_› ‹_›| refine ho_look ‹_› ?_ | exact ho_blk | exact ho_ta | exact ho_tb ‹_› | exact ho_tc ‹_› | exact ho_td ‹_›))|(intro b hb;repeat first|(refine fe hb ?_;intro _ _ hb)|(refine fT hb ?_;intro hb))|refine rt ?_|refine gA rfl ?_|refine gB rfl ?_|apply cT rfl|apply cF rfl|(apply DM.gbT;rfl)|(apply DM.gbF;rfl)|intro h
    (apply DM.apM; (· rfl); (· repeat' first|(apply Lk.go;constructor)|assumption|exact nb ‹_› ‹_›|exact nt ‹_› ‹_›| refine ho_look ‹_› ?_ | exact ho_blk | exact ho_ta | exact ho_tb ‹_› | exact ho_tc ‹_› | exact ho_td ‹_›); (· simp only [rowsOf, if_true, eq_self, go_sem, Nat.reduceBEq, reduceIte] <;> rfl); (· (simp only [List.length_map, List.length_cons, List.length_nil, List.length_take, maxLen]; omega)); (· (simp only [List.length_map, List.length_cons, List.length_nil, List.length_take, maxLen]; omega)))
    rw [show (p.code.take i).map Ins_.row ++ [v.row] = (p.code.take (i + 1)).map Ins_.row from take_succ_map Ins_.row hv]
    repeat' first|(apply Sp.go;·constructor<;>first|exact ss|(change _=_;first|(simp only[go_sem,Nat.reduceBEq,Nat.reduceAdd,Nat.reduceLeDiff,reduceIte]<;>rfl)|rfl)|exact Nat.le_of_ble_eq_true rfl|decide|(repeat' first|(apply Lk.go;constructor)|assumption|exact nb ‹_› ‹_›|exact nt ‹_› ‹_›| refine ho_look ‹_› ?_ | exact ho_blk | exact ho_ta | exact ho_tb ‹_› | exact ho_tc ‹_› | exact ho_td ‹_›))|(intro b hb;repeat first|(refine fe hb ?_;intro _ _ hb)|(refine fT hb ?_;intro hb))|refine rt ?_|refine gA rfl ?_|refine gB rfl ?_|apply cT rfl|apply cF rfl|(apply DM.gbT;rfl)|(apply DM.gbF;rfl)|intro h
    refine AM.eqH (ho_set_d d) ?_
    refine AM.roundX (i + 1) ⟨rfl, by omega⟩ ?_ (show p.code.length - (i + 1) < p.code.length - i by omega)
    (repeat first | exact envle_nil _ | (refine envle_cons ?_ ?_; · (simp only [go_sem, Nat.reduceBEq, Nat.reduceAdd]; exact AVLe.refl _)))
    refine envle_cons ?_ ?_
    · simp only [go_sem, Nat.reduceBEq, Nat.reduceAdd]
      refine avle_int ?_
      rw [inc64 hlt (show p.code.length ≤ maxLen by unfold maxLen; omega)]
    exact envle_nil _
  intro hlt
  simp at hlt
  have hi3 : i = p.code.length := by omega
  subst hi3
  rw [List.take_length]
  clear hi hlt
  repeat' first|(apply Sp.go;·constructor<;>first|exact ss|(change _=_;first|(simp only[go_sem,Nat.reduceBEq,Nat.reduceAdd,Nat.reduceLeDiff,reduceIte]<;>rfl)|rfl)|exact Nat.le_of_ble_eq_true rfl|decide|(repeat' first|(apply Lk.go;constructor)|assumption|exact nb ‹_› ‹_›|exact nt ‹_› ‹_›| refine ho_look ‹_› ?_ | exact ho_blk | exact ho_ta | exact ho_tb ‹_› | exact ho_tc ‹_› | exact ho_td ‹_›))|(intro b hb;repeat first|(refine fe hb ?_;intro _ _ hb)|(refine fT hb ?_;intro hb))|refine rt ?_|refine gA rfl ?_|refine gB rfl ?_|apply cT rfl|apply cF rfl|(apply DM.gbT;rfl)|(apply DM.gbF;rfl)|intro h
  apply AM.retF
  · simp only [Aw.results, ERes.ev, peval, EOpd.ev, Env.get, Nat.reduceBEq, cond_true, cond_false]
    rw [g_same]
    rfl
  · exact hsubO _ _ _ _ _ _ _ _ _
  · exact Frz.agg (FrzL.cons (Frz.same (hsubO _ _ _ _ _ _ _ _ _)) (FrzL.cons (Frz.same (hsubO _ _ _ _ _ _ _ _ _)) (FrzL.cons (Frz.ms (hsubO _ _ _ _ _ _ _ _ _) (t_B ho_ta) fa) (FrzL.cons (Frz.ms (hsubO _ _ _ _ _ _ _ _ _) (t_B (ho_tb d)) fb) (FrzL.cons (Frz.ms (hsubO _ _ _ _ _ _ _ _ _) (t_B (ho_tc d)) fc) (FrzL.cons (Frz.ms (hsubO _ _ _ _ _ _ _ _ _) (t_B (ho_td d)) fd) FrzL.nil))))))
theorem p12 (p : Prog) (hl : p.vars.length ≤ 1000 ∧ p.hs.length ≤ 1000 ∧ p.os.length ≤ 1000 ∧ p.code.length ≤ 1000) : Pure Tryz.prog 12 [p.av] p.av := p12b p (by omega)
def eqF {α β : Type} (q : α → β → Bool) : List α → List β → Bool
 | [], [] => true
 | a :: l, b :: r => q a b && eqF q l r
 | _, _ => false
theorem eqF_len {α β : Type} {q : α → β → Bool} : ∀ {l : List α} {r : List β}, l.length ≠ r.length → eqF q l r = false
 | [], [], h => by simp at h
 | [], _ :: _, _ => rfl
 | _ :: _, [], _ => rfl
 | a :: l, b :: r, h => by simp only [eqF]; rw [eqF_len (by simpa using h)]; simp
theorem eqF_iff {α : Type} {q : α → α → Bool} (hq : ∀ a b, q a b = true ↔ a = b) : ∀ (l r : List α), eqF q l r = true ↔ l = r
 | [], [] => by simp [eqF]
 | [], _ :: _ => by simp [eqF]
 | _ :: _, [] => by simp [eqF]
 | a :: l, b :: r => by simp only [eqF, Bool.and_eq_true, hq, eqF_iff hq l r, List.cons.injEq]
def Var_.eqb (v x : Var_) : Bool := decide (v.name = x.name) && (decide (v.sort.k = x.sort.k) && (decide (v.sort.lo = x.sort.lo) && (decide (v.sort.hi = x.sort.hi) && (decide (v.init.k = x.init.k) && (decide (v.init.n = x.init.n) && (decide (v.init.s = x.init.s)))))))
theorem Var_.eqb_iff (v x : Var_) : v.eqb x = true ↔ v = x := by
 obtain ⟨a, ⟨b, c, d⟩, ⟨e, f, g⟩⟩ := v
 obtain ⟨a1, ⟨b1, c1, d1⟩, ⟨e1, f1, g1⟩⟩ := x
 simp [Var_.eqb, and_assoc]
theorem p39 (vs xs : List Var_) : Pure Tryz.prog 39 [.vs 7 (vs.map Var_.row), .vs 7 (xs.map Var_.row)] (.bool (eqF Var_.eqb vs xs)) := by
 refine pure_assume (G := vs.length ≤ maxLen) (fun m vs h => by simp only [RvL] at h; obtain ⟨_, _, _, h, _⟩ := h; simpa using vs_len h) fun hlen => ?_
 refine pure_intro mo Tryz.func39 c39 fun H => ?_
 unfold e39 r39
 simp only [initEnv, initFrom]
 repeat' first|(apply Sp.go;·constructor<;>first|exact ss|(change _=_;first|(simp only[go_sem,Nat.reduceBEq,Nat.reduceAdd,Nat.reduceLeDiff,reduceIte]<;>rfl)|rfl)|exact Nat.le_of_ble_eq_true rfl|decide|(repeat' first|(apply Lk.go;constructor)|assumption|exact nb ‹_› ‹_›|exact nt ‹_› ‹_›))|(intro b hb;repeat first|(refine fe hb ?_;intro _ _ hb)|(refine fT hb ?_;intro hb))|refine rt ?_|refine gA rfl ?_|refine gB rfl ?_|apply cT rfl|apply cF rfl|(apply DM.gbT;rfl)|(apply DM.gbF;rfl)|intro h
 (apply AM.cond; (· rfl))
 ·intro h
  repeat' first|(apply Sp.go;·constructor<;>first|exact ss|(change _=_;first|(simp only[go_sem,Nat.reduceBEq,Nat.reduceAdd,Nat.reduceLeDiff,reduceIte]<;>rfl)|rfl)|exact Nat.le_of_ble_eq_true rfl|decide|(repeat' first|(apply Lk.go;constructor)|assumption|exact nb ‹_› ‹_›|exact nt ‹_› ‹_›))|(intro b hb;repeat first|(refine fe hb ?_;intro _ _ hb)|(refine fT hb ?_;intro hb))|refine rt ?_|refine gA rfl ?_|refine gB rfl ?_|apply cT rfl|apply cF rfl|(apply DM.gbT;rfl)|(apply DM.gbF;rfl)|intro h
  (apply Sr.go;·constructor<;>first|(apply Lk.go;constructor<;>first|exact ss|(change _=_;first|(simp only[go_sem,Nat.reduceBEq,Nat.reduceAdd,Nat.reduceLeDiff,reduceIte]<;>rfl)|rfl)|exact Nat.le_of_ble_eq_true rfl|decide|(repeat' first|(apply Lk.go;constructor)|assumption|exact nb ‹_› ‹_›|exact nt ‹_› ‹_›))|assumption)
  refine avle_eq ?_; rw [AV.bool.injEq, eqF_len (by simp at h; omega)]
 ·intro h
  have hl : vs.length = xs.length := by simp at h; omega
  repeat' first|(apply Sp.go;·constructor<;>first|exact ss|(change _=_;first|(simp only[go_sem,Nat.reduceBEq,Nat.reduceAdd,Nat.reduceLeDiff,reduceIte]<;>rfl)|rfl)|exact Nat.le_of_ble_eq_true rfl|decide|(repeat' first|(apply Lk.go;constructor)|assumption|exact nb ‹_› ‹_›|exact nt ‹_› ‹_›))|(intro b hb;repeat first|(refine fe hb ?_;intro _ _ hb)|(refine fT hb ?_;intro hb))|refine rt ?_|refine gA rfl ?_|refine gB rfl ?_|apply cT rfl|apply cF rfl|(apply DM.gbT;rfl)|(apply DM.gbF;rfl)|intro h
  refine AM.loopX (X := Nat) 0 (fun i => [(0, .vs 7 (vs.map Var_.row)), (1, .vs 7 (xs.map Var_.row)), (12, .int .i64 vs.length), (13, .int .i64 i)]) (fun i H' => H' = H ∧ i ≤ vs.length ∧ eqF Var_.eqb vs xs = eqF Var_.eqb (vs.drop i) (xs.drop i)) (fun i => vs.length - i) ⟨rfl, by omega, by simp⟩ ?_ ?_
  ·(repeat first | exact envle_nil _ | (refine envle_cons ?_ ?_; · (simp only [go_sem, Nat.reduceBEq, Nat.reduceAdd]; exact AVLe.refl _)))
   refine envle_cons ?_ (envle_cons ?_ (envle_nil _))
   ·simp only [Env.get, Nat.reduceBEq, cond_true, cond_false, beq_self_eq_true]
    exact avle_int (by simp)
   ·simp only [Env.get, Nat.reduceBEq, cond_true, cond_false, beq_self_eq_true]
    exact AVLe.refl _
  ·intro i H' ⟨e, hi, he⟩
   subst e
   repeat' first|(apply Sp.go;·constructor<;>first|exact ss|(change _=_;first|(simp only[go_sem,Nat.reduceBEq,Nat.reduceAdd,Nat.reduceLeDiff,reduceIte]<;>rfl)|rfl)|exact Nat.le_of_ble_eq_true rfl|decide|(repeat' first|(apply Lk.go;constructor)|assumption|exact nb ‹_› ‹_›|exact nt ‹_› ‹_›))|(intro b hb;repeat first|(refine fe hb ?_;intro _ _ hb)|(refine fT hb ?_;intro hb))|refine rt ?_|refine gA rfl ?_|refine gB rfl ?_|apply cT rfl|apply cF rfl|(apply DM.gbT;rfl)|(apply DM.gbF;rfl)|intro h
   (apply AM.cond; (· rfl))
   ·intro h3
    simp at h3
    obtain ⟨v, hv⟩ := some_of h3
    obtain ⟨x, hx⟩ := some_of (hl ▸ h3 : i < xs.length)
    rw [drop_of hv, drop_of hx] at he
    simp only [eqF] at he
    repeat' first|(apply Sp.go;·constructor<;>first|exact ss|(change _=_;first|(simp only[go_sem,Nat.reduceBEq,Nat.reduceAdd,Nat.reduceLeDiff,reduceIte]<;>rfl)|rfl)|exact Nat.le_of_ble_eq_true rfl|decide|(repeat' first|(apply Lk.go;constructor)|assumption|exact nb ‹_› ‹_›|exact nt ‹_› ‹_›))|(intro b hb;repeat first|(refine fe hb ?_;intro _ _ hb)|(refine fT hb ?_;intro hb))|refine rt ?_|refine gA rfl ?_|refine gB rfl ?_|apply cT rfl|apply cF rfl|(apply DM.gbT;rfl)|(apply DM.gbF;rfl)|intro h
    (apply DM.ixV (row := v.row) (z := (i : Int)) (by omega) (row_get Var_.row hv); (· rfl); (· rfl))
    repeat' first|(apply Sp.go;·constructor<;>first|exact ss|(change _=_;first|(simp only[go_sem,Nat.reduceBEq,Nat.reduceAdd,Nat.reduceLeDiff,reduceIte]<;>rfl)|rfl)|exact Nat.le_of_ble_eq_true rfl|decide|(repeat' first|(apply Lk.go;constructor)|assumption|exact nb ‹_› ‹_›|exact nt ‹_› ‹_›))|(intro b hb;repeat first|(refine fe hb ?_;intro _ _ hb)|(refine fT hb ?_;intro hb))|refine rt ?_|refine gA rfl ?_|refine gB rfl ?_|apply cT rfl|apply cF rfl|(apply DM.gbT;rfl)|(apply DM.gbF;rfl)|intro h
    (apply DM.ixV (row := x.row) (z := (i : Int)) (by omega) (row_get Var_.row hx); (· rfl); (· rfl))
    repeat' first|(apply Sp.go;·constructor<;>first|exact ss|(change _=_;first|(simp only[go_sem,Nat.reduceBEq,Nat.reduceAdd,Nat.reduceLeDiff,reduceIte]<;>rfl)|rfl)|exact Nat.le_of_ble_eq_true rfl|decide|(repeat' first|(apply Lk.go;constructor)|assumption|exact nb ‹_› ‹_›|exact nt ‹_› ‹_›))|(intro b hb;repeat first|(refine fe hb ?_;intro _ _ hb)|(refine fT hb ?_;intro hb))|refine rt ?_|refine gA rfl ?_|refine gB rfl ?_|apply cT rfl|apply cF rfl|(apply DM.gbT;rfl)|(apply DM.gbF;rfl)|intro h
    apply AM.cond (t := !(v.eqb x))
    ·rfl
    ·intro h4
     have h4' : v.eqb x = false := by simpa using h4
     repeat' first|(apply Sp.go;·constructor<;>first|exact ss|(change _=_;first|(simp only[go_sem,Nat.reduceBEq,Nat.reduceAdd,Nat.reduceLeDiff,reduceIte]<;>rfl)|rfl)|exact Nat.le_of_ble_eq_true rfl|decide|(repeat' first|(apply Lk.go;constructor)|assumption|exact nb ‹_› ‹_›|exact nt ‹_› ‹_›))|(intro b hb;repeat first|(refine fe hb ?_;intro _ _ hb)|(refine fT hb ?_;intro hb))|refine rt ?_|refine gA rfl ?_|refine gB rfl ?_|apply cT rfl|apply cF rfl|(apply DM.gbT;rfl)|(apply DM.gbF;rfl)|intro h
     (apply Sr.go;·constructor<;>first|(apply Lk.go;constructor<;>first|exact ss|(change _=_;first|(simp only[go_sem,Nat.reduceBEq,Nat.reduceAdd,Nat.reduceLeDiff,reduceIte]<;>rfl)|rfl)|exact Nat.le_of_ble_eq_true rfl|decide|(repeat' first|(apply Lk.go;constructor)|assumption|exact nb ‹_› ‹_›|exact nt ‹_› ‹_›))|assumption)
     refine avle_eq ?_; rw [AV.bool.injEq, he, h4', Bool.false_and]
    ·intro h4
     have h4' : v.eqb x = true := by simpa using h4
     repeat' first|(apply Sp.go;·constructor<;>first|exact ss|(change _=_;first|(simp only[go_sem,Nat.reduceBEq,Nat.reduceAdd,Nat.reduceLeDiff,reduceIte]<;>rfl)|rfl)|exact Nat.le_of_ble_eq_true rfl|decide|(repeat' first|(apply Lk.go;constructor)|assumption|exact nb ‹_› ‹_›|exact nt ‹_› ‹_›))|(intro b hb;repeat first|(refine fe hb ?_;intro _ _ hb)|(refine fT hb ?_;intro hb))|refine rt ?_|refine gA rfl ?_|refine gB rfl ?_|apply cT rfl|apply cF rfl|(apply DM.gbT;rfl)|(apply DM.gbF;rfl)|intro h
     rw [h4', Bool.true_and] at he
     refine AM.roundX (i + 1) ⟨rfl, by omega, he⟩ ?_ ?_
     ·(repeat first | exact envle_nil _ | (refine envle_cons ?_ ?_; · (simp only [go_sem, Nat.reduceBEq, Nat.reduceAdd]; exact AVLe.refl _)))
      refine envle_cons ?_ ?_
      ·simp only [go_sem, Nat.reduceBEq, Nat.reduceAdd]
       refine avle_int ?_
       rw [inc64 h3 hlen]
      exact envle_nil _
     ·show vs.length - (i + 1) < vs.length - i
      omega
   ·intro h3
    repeat' first|(apply Sp.go;·constructor<;>first|exact ss|(change _=_;first|(simp only[go_sem,Nat.reduceBEq,Nat.reduceAdd,Nat.reduceLeDiff,reduceIte]<;>rfl)|rfl)|exact Nat.le_of_ble_eq_true rfl|decide|(repeat' first|(apply Lk.go;constructor)|assumption|exact nb ‹_› ‹_›|exact nt ‹_› ‹_›))|(intro b hb;repeat first|(refine fe hb ?_;intro _ _ hb)|(refine fT hb ?_;intro hb))|refine rt ?_|refine gA rfl ?_|refine gB rfl ?_|apply cT rfl|apply cF rfl|(apply DM.gbT;rfl)|(apply DM.gbF;rfl)|intro h
    (apply Sr.go;·constructor<;>first|(apply Lk.go;constructor<;>first|exact ss|(change _=_;first|(simp only[go_sem,Nat.reduceBEq,Nat.reduceAdd,Nat.reduceLeDiff,reduceIte]<;>rfl)|rfl)|exact Nat.le_of_ble_eq_true rfl|decide|(repeat' first|(apply Lk.go;constructor)|assumption|exact nb ‹_› ‹_›|exact nt ‹_› ‹_›))|assumption)
    simp at h3
    refine avle_eq ?_; rw [AV.bool.injEq, he, List.drop_eq_nil_of_le (by omega), List.drop_eq_nil_of_le (by omega)]; rfl
def Hd.eqb (v x : Hd) : Bool := decide (v.peer = x.peer) && (decide (v.label = x.label) && (decide (v.entry = x.entry)))
theorem Hd.eqb_iff (v x : Hd) : v.eqb x = true ↔ v = x := by
 cases v; cases x
 simp [Hd.eqb]
theorem p40 (vs xs : List Hd) : Pure Tryz.prog 40 [.vs 3 (vs.map Hd.row), .vs 3 (xs.map Hd.row)] (.bool (eqF Hd.eqb vs xs)) := by
 refine pure_assume (G := vs.length ≤ maxLen) (fun m vs h => by simp only [RvL] at h; obtain ⟨_, _, _, h, _⟩ := h; simpa using vs_len h) fun hlen => ?_
 refine pure_intro mo Tryz.func40 c40 fun H => ?_
 unfold e40 r40
 simp only [initEnv, initFrom]
 repeat' first|(apply Sp.go;·constructor<;>first|exact ss|(change _=_;first|(simp only[go_sem,Nat.reduceBEq,Nat.reduceAdd,Nat.reduceLeDiff,reduceIte]<;>rfl)|rfl)|exact Nat.le_of_ble_eq_true rfl|decide|(repeat' first|(apply Lk.go;constructor)|assumption|exact nb ‹_› ‹_›|exact nt ‹_› ‹_›))|(intro b hb;repeat first|(refine fe hb ?_;intro _ _ hb)|(refine fT hb ?_;intro hb))|refine rt ?_|refine gA rfl ?_|refine gB rfl ?_|apply cT rfl|apply cF rfl|(apply DM.gbT;rfl)|(apply DM.gbF;rfl)|intro h
 (apply AM.cond; (· rfl))
 ·intro h
  repeat' first|(apply Sp.go;·constructor<;>first|exact ss|(change _=_;first|(simp only[go_sem,Nat.reduceBEq,Nat.reduceAdd,Nat.reduceLeDiff,reduceIte]<;>rfl)|rfl)|exact Nat.le_of_ble_eq_true rfl|decide|(repeat' first|(apply Lk.go;constructor)|assumption|exact nb ‹_› ‹_›|exact nt ‹_› ‹_›))|(intro b hb;repeat first|(refine fe hb ?_;intro _ _ hb)|(refine fT hb ?_;intro hb))|refine rt ?_|refine gA rfl ?_|refine gB rfl ?_|apply cT rfl|apply cF rfl|(apply DM.gbT;rfl)|(apply DM.gbF;rfl)|intro h
  (apply Sr.go;·constructor<;>first|(apply Lk.go;constructor<;>first|exact ss|(change _=_;first|(simp only[go_sem,Nat.reduceBEq,Nat.reduceAdd,Nat.reduceLeDiff,reduceIte]<;>rfl)|rfl)|exact Nat.le_of_ble_eq_true rfl|decide|(repeat' first|(apply Lk.go;constructor)|assumption|exact nb ‹_› ‹_›|exact nt ‹_› ‹_›))|assumption)
  refine avle_eq ?_; rw [AV.bool.injEq, eqF_len (by simp at h; omega)]
 ·intro h
  have hl : vs.length = xs.length := by simp at h; omega
  repeat' first|(apply Sp.go;·constructor<;>first|exact ss|(change _=_;first|(simp only[go_sem,Nat.reduceBEq,Nat.reduceAdd,Nat.reduceLeDiff,reduceIte]<;>rfl)|rfl)|exact Nat.le_of_ble_eq_true rfl|decide|(repeat' first|(apply Lk.go;constructor)|assumption|exact nb ‹_› ‹_›|exact nt ‹_› ‹_›))|(intro b hb;repeat first|(refine fe hb ?_;intro _ _ hb)|(refine fT hb ?_;intro hb))|refine rt ?_|refine gA rfl ?_|refine gB rfl ?_|apply cT rfl|apply cF rfl|(apply DM.gbT;rfl)|(apply DM.gbF;rfl)|intro h
  refine AM.loopX (X := Nat) 0 (fun i => [(0, .vs 3 (vs.map Hd.row)), (1, .vs 3 (xs.map Hd.row)), (12, .int .i64 vs.length), (13, .int .i64 i)]) (fun i H' => H' = H ∧ i ≤ vs.length ∧ eqF Hd.eqb vs xs = eqF Hd.eqb (vs.drop i) (xs.drop i)) (fun i => vs.length - i) ⟨rfl, by omega, by simp⟩ ?_ ?_
  ·(repeat first | exact envle_nil _ | (refine envle_cons ?_ ?_; · (simp only [go_sem, Nat.reduceBEq, Nat.reduceAdd]; exact AVLe.refl _)))
   refine envle_cons ?_ (envle_cons ?_ (envle_nil _))
   ·simp only [Env.get, Nat.reduceBEq, cond_true, cond_false, beq_self_eq_true]
    exact avle_int (by simp)
   ·simp only [Env.get, Nat.reduceBEq, cond_true, cond_false, beq_self_eq_true]
    exact AVLe.refl _
  ·intro i H' ⟨e, hi, he⟩
   subst e
   repeat' first|(apply Sp.go;·constructor<;>first|exact ss|(change _=_;first|(simp only[go_sem,Nat.reduceBEq,Nat.reduceAdd,Nat.reduceLeDiff,reduceIte]<;>rfl)|rfl)|exact Nat.le_of_ble_eq_true rfl|decide|(repeat' first|(apply Lk.go;constructor)|assumption|exact nb ‹_› ‹_›|exact nt ‹_› ‹_›))|(intro b hb;repeat first|(refine fe hb ?_;intro _ _ hb)|(refine fT hb ?_;intro hb))|refine rt ?_|refine gA rfl ?_|refine gB rfl ?_|apply cT rfl|apply cF rfl|(apply DM.gbT;rfl)|(apply DM.gbF;rfl)|intro h
   (apply AM.cond; (· rfl))
   ·intro h3
    simp at h3
    obtain ⟨v, hv⟩ := some_of h3
    obtain ⟨x, hx⟩ := some_of (hl ▸ h3 : i < xs.length)
    rw [drop_of hv, drop_of hx] at he
    simp only [eqF] at he
    repeat' first|(apply Sp.go;·constructor<;>first|exact ss|(change _=_;first|(simp only[go_sem,Nat.reduceBEq,Nat.reduceAdd,Nat.reduceLeDiff,reduceIte]<;>rfl)|rfl)|exact Nat.le_of_ble_eq_true rfl|decide|(repeat' first|(apply Lk.go;constructor)|assumption|exact nb ‹_› ‹_›|exact nt ‹_› ‹_›))|(intro b hb;repeat first|(refine fe hb ?_;intro _ _ hb)|(refine fT hb ?_;intro hb))|refine rt ?_|refine gA rfl ?_|refine gB rfl ?_|apply cT rfl|apply cF rfl|(apply DM.gbT;rfl)|(apply DM.gbF;rfl)|intro h
    (apply DM.ixV (row := v.row) (z := (i : Int)) (by omega) (row_get Hd.row hv); (· rfl); (· rfl))
    repeat' first|(apply Sp.go;·constructor<;>first|exact ss|(change _=_;first|(simp only[go_sem,Nat.reduceBEq,Nat.reduceAdd,Nat.reduceLeDiff,reduceIte]<;>rfl)|rfl)|exact Nat.le_of_ble_eq_true rfl|decide|(repeat' first|(apply Lk.go;constructor)|assumption|exact nb ‹_› ‹_›|exact nt ‹_› ‹_›))|(intro b hb;repeat first|(refine fe hb ?_;intro _ _ hb)|(refine fT hb ?_;intro hb))|refine rt ?_|refine gA rfl ?_|refine gB rfl ?_|apply cT rfl|apply cF rfl|(apply DM.gbT;rfl)|(apply DM.gbF;rfl)|intro h
    (apply DM.ixV (row := x.row) (z := (i : Int)) (by omega) (row_get Hd.row hx); (· rfl); (· rfl))
    repeat' first|(apply Sp.go;·constructor<;>first|exact ss|(change _=_;first|(simp only[go_sem,Nat.reduceBEq,Nat.reduceAdd,Nat.reduceLeDiff,reduceIte]<;>rfl)|rfl)|exact Nat.le_of_ble_eq_true rfl|decide|(repeat' first|(apply Lk.go;constructor)|assumption|exact nb ‹_› ‹_›|exact nt ‹_› ‹_›))|(intro b hb;repeat first|(refine fe hb ?_;intro _ _ hb)|(refine fT hb ?_;intro hb))|refine rt ?_|refine gA rfl ?_|refine gB rfl ?_|apply cT rfl|apply cF rfl|(apply DM.gbT;rfl)|(apply DM.gbF;rfl)|intro h
    apply AM.cond (t := !(v.eqb x))
    ·rfl
    ·intro h4
     have h4' : v.eqb x = false := by simpa using h4
     repeat' first|(apply Sp.go;·constructor<;>first|exact ss|(change _=_;first|(simp only[go_sem,Nat.reduceBEq,Nat.reduceAdd,Nat.reduceLeDiff,reduceIte]<;>rfl)|rfl)|exact Nat.le_of_ble_eq_true rfl|decide|(repeat' first|(apply Lk.go;constructor)|assumption|exact nb ‹_› ‹_›|exact nt ‹_› ‹_›))|(intro b hb;repeat first|(refine fe hb ?_;intro _ _ hb)|(refine fT hb ?_;intro hb))|refine rt ?_|refine gA rfl ?_|refine gB rfl ?_|apply cT rfl|apply cF rfl|(apply DM.gbT;rfl)|(apply DM.gbF;rfl)|intro h
     (apply Sr.go;·constructor<;>first|(apply Lk.go;constructor<;>first|exact ss|(change _=_;first|(simp only[go_sem,Nat.reduceBEq,Nat.reduceAdd,Nat.reduceLeDiff,reduceIte]<;>rfl)|rfl)|exact Nat.le_of_ble_eq_true rfl|decide|(repeat' first|(apply Lk.go;constructor)|assumption|exact nb ‹_› ‹_›|exact nt ‹_› ‹_›))|assumption)
     refine avle_eq ?_; rw [AV.bool.injEq, he, h4', Bool.false_and]
    ·intro h4
     have h4' : v.eqb x = true := by simpa using h4
     repeat' first|(apply Sp.go;·constructor<;>first|exact ss|(change _=_;first|(simp only[go_sem,Nat.reduceBEq,Nat.reduceAdd,Nat.reduceLeDiff,reduceIte]<;>rfl)|rfl)|exact Nat.le_of_ble_eq_true rfl|decide|(repeat' first|(apply Lk.go;constructor)|assumption|exact nb ‹_› ‹_›|exact nt ‹_› ‹_›))|(intro b hb;repeat first|(refine fe hb ?_;intro _ _ hb)|(refine fT hb ?_;intro hb))|refine rt ?_|refine gA rfl ?_|refine gB rfl ?_|apply cT rfl|apply cF rfl|(apply DM.gbT;rfl)|(apply DM.gbF;rfl)|intro h
     rw [h4', Bool.true_and] at he
     refine AM.roundX (i + 1) ⟨rfl, by omega, he⟩ ?_ ?_
     ·(repeat first | exact envle_nil _ | (refine envle_cons ?_ ?_; · (simp only [go_sem, Nat.reduceBEq, Nat.reduceAdd]; exact AVLe.refl _)))
      refine envle_cons ?_ ?_
      ·simp only [go_sem, Nat.reduceBEq, Nat.reduceAdd]
       refine avle_int ?_
       rw [inc64 h3 hlen]
      exact envle_nil _
     ·show vs.length - (i + 1) < vs.length - i
      omega
   ·intro h3
    repeat' first|(apply Sp.go;·constructor<;>first|exact ss|(change _=_;first|(simp only[go_sem,Nat.reduceBEq,Nat.reduceAdd,Nat.reduceLeDiff,reduceIte]<;>rfl)|rfl)|exact Nat.le_of_ble_eq_true rfl|decide|(repeat' first|(apply Lk.go;constructor)|assumption|exact nb ‹_› ‹_›|exact nt ‹_› ‹_›))|(intro b hb;repeat first|(refine fe hb ?_;intro _ _ hb)|(refine fT hb ?_;intro hb))|refine rt ?_|refine gA rfl ?_|refine gB rfl ?_|apply cT rfl|apply cF rfl|(apply DM.gbT;rfl)|(apply DM.gbF;rfl)|intro h
    (apply Sr.go;·constructor<;>first|(apply Lk.go;constructor<;>first|exact ss|(change _=_;first|(simp only[go_sem,Nat.reduceBEq,Nat.reduceAdd,Nat.reduceLeDiff,reduceIte]<;>rfl)|rfl)|exact Nat.le_of_ble_eq_true rfl|decide|(repeat' first|(apply Lk.go;constructor)|assumption|exact nb ‹_› ‹_›|exact nt ‹_› ‹_›))|assumption)
    simp at h3
    refine avle_eq ?_; rw [AV.bool.injEq, he, List.drop_eq_nil_of_le (by omega), List.drop_eq_nil_of_le (by omega)]; rfl
def Of_.eqb (v x : Of_) : Bool := decide (v.peer = x.peer) && (decide (v.label = x.label) && (decide (v.cond = x.cond) && (decide (v.args = x.args))))
theorem Of_.eqb_iff (v x : Of_) : v.eqb x = true ↔ v = x := by
 cases v; cases x
 simp [Of_.eqb]
theorem p41 (vs xs : List Of_) : Pure Tryz.prog 41 [.vs 4 (vs.map Of_.row), .vs 4 (xs.map Of_.row)] (.bool (eqF Of_.eqb vs xs)) := by
 refine pure_assume (G := vs.length ≤ maxLen) (fun m vs h => by simp only [RvL] at h; obtain ⟨_, _, _, h, _⟩ := h; simpa using vs_len h) fun hlen => ?_
 refine pure_intro mo Tryz.func41 c41 fun H => ?_
 unfold e41 r41
 simp only [initEnv, initFrom]
 repeat' first|(apply Sp.go;·constructor<;>first|exact ss|(change _=_;first|(simp only[go_sem,Nat.reduceBEq,Nat.reduceAdd,Nat.reduceLeDiff,reduceIte]<;>rfl)|rfl)|exact Nat.le_of_ble_eq_true rfl|decide|(repeat' first|(apply Lk.go;constructor)|assumption|exact nb ‹_› ‹_›|exact nt ‹_› ‹_›))|(intro b hb;repeat first|(refine fe hb ?_;intro _ _ hb)|(refine fT hb ?_;intro hb))|refine rt ?_|refine gA rfl ?_|refine gB rfl ?_|apply cT rfl|apply cF rfl|(apply DM.gbT;rfl)|(apply DM.gbF;rfl)|intro h
 (apply AM.cond; (· rfl))
 ·intro h
  repeat' first|(apply Sp.go;·constructor<;>first|exact ss|(change _=_;first|(simp only[go_sem,Nat.reduceBEq,Nat.reduceAdd,Nat.reduceLeDiff,reduceIte]<;>rfl)|rfl)|exact Nat.le_of_ble_eq_true rfl|decide|(repeat' first|(apply Lk.go;constructor)|assumption|exact nb ‹_› ‹_›|exact nt ‹_› ‹_›))|(intro b hb;repeat first|(refine fe hb ?_;intro _ _ hb)|(refine fT hb ?_;intro hb))|refine rt ?_|refine gA rfl ?_|refine gB rfl ?_|apply cT rfl|apply cF rfl|(apply DM.gbT;rfl)|(apply DM.gbF;rfl)|intro h
  (apply Sr.go;·constructor<;>first|(apply Lk.go;constructor<;>first|exact ss|(change _=_;first|(simp only[go_sem,Nat.reduceBEq,Nat.reduceAdd,Nat.reduceLeDiff,reduceIte]<;>rfl)|rfl)|exact Nat.le_of_ble_eq_true rfl|decide|(repeat' first|(apply Lk.go;constructor)|assumption|exact nb ‹_› ‹_›|exact nt ‹_› ‹_›))|assumption)
  refine avle_eq ?_; rw [AV.bool.injEq, eqF_len (by simp at h; omega)]
 ·intro h
  have hl : vs.length = xs.length := by simp at h; omega
  repeat' first|(apply Sp.go;·constructor<;>first|exact ss|(change _=_;first|(simp only[go_sem,Nat.reduceBEq,Nat.reduceAdd,Nat.reduceLeDiff,reduceIte]<;>rfl)|rfl)|exact Nat.le_of_ble_eq_true rfl|decide|(repeat' first|(apply Lk.go;constructor)|assumption|exact nb ‹_› ‹_›|exact nt ‹_› ‹_›))|(intro b hb;repeat first|(refine fe hb ?_;intro _ _ hb)|(refine fT hb ?_;intro hb))|refine rt ?_|refine gA rfl ?_|refine gB rfl ?_|apply cT rfl|apply cF rfl|(apply DM.gbT;rfl)|(apply DM.gbF;rfl)|intro h
  refine AM.loopX (X := Nat) 0 (fun i => [(0, .vs 4 (vs.map Of_.row)), (1, .vs 4 (xs.map Of_.row)), (12, .int .i64 vs.length), (13, .int .i64 i)]) (fun i H' => H' = H ∧ i ≤ vs.length ∧ eqF Of_.eqb vs xs = eqF Of_.eqb (vs.drop i) (xs.drop i)) (fun i => vs.length - i) ⟨rfl, by omega, by simp⟩ ?_ ?_
  ·(repeat first | exact envle_nil _ | (refine envle_cons ?_ ?_; · (simp only [go_sem, Nat.reduceBEq, Nat.reduceAdd]; exact AVLe.refl _)))
   refine envle_cons ?_ (envle_cons ?_ (envle_nil _))
   ·simp only [Env.get, Nat.reduceBEq, cond_true, cond_false, beq_self_eq_true]
    exact avle_int (by simp)
   ·simp only [Env.get, Nat.reduceBEq, cond_true, cond_false, beq_self_eq_true]
    exact AVLe.refl _
  ·intro i H' ⟨e, hi, he⟩
   subst e
   repeat' first|(apply Sp.go;·constructor<;>first|exact ss|(change _=_;first|(simp only[go_sem,Nat.reduceBEq,Nat.reduceAdd,Nat.reduceLeDiff,reduceIte]<;>rfl)|rfl)|exact Nat.le_of_ble_eq_true rfl|decide|(repeat' first|(apply Lk.go;constructor)|assumption|exact nb ‹_› ‹_›|exact nt ‹_› ‹_›))|(intro b hb;repeat first|(refine fe hb ?_;intro _ _ hb)|(refine fT hb ?_;intro hb))|refine rt ?_|refine gA rfl ?_|refine gB rfl ?_|apply cT rfl|apply cF rfl|(apply DM.gbT;rfl)|(apply DM.gbF;rfl)|intro h
   (apply AM.cond; (· rfl))
   ·intro h3
    simp at h3
    obtain ⟨v, hv⟩ := some_of h3
    obtain ⟨x, hx⟩ := some_of (hl ▸ h3 : i < xs.length)
    rw [drop_of hv, drop_of hx] at he
    simp only [eqF] at he
    repeat' first|(apply Sp.go;·constructor<;>first|exact ss|(change _=_;first|(simp only[go_sem,Nat.reduceBEq,Nat.reduceAdd,Nat.reduceLeDiff,reduceIte]<;>rfl)|rfl)|exact Nat.le_of_ble_eq_true rfl|decide|(repeat' first|(apply Lk.go;constructor)|assumption|exact nb ‹_› ‹_›|exact nt ‹_› ‹_›))|(intro b hb;repeat first|(refine fe hb ?_;intro _ _ hb)|(refine fT hb ?_;intro hb))|refine rt ?_|refine gA rfl ?_|refine gB rfl ?_|apply cT rfl|apply cF rfl|(apply DM.gbT;rfl)|(apply DM.gbF;rfl)|intro h
    (apply DM.ixV (row := v.row) (z := (i : Int)) (by omega) (row_get Of_.row hv); (· rfl); (· rfl))
    repeat' first|(apply Sp.go;·constructor<;>first|exact ss|(change _=_;first|(simp only[go_sem,Nat.reduceBEq,Nat.reduceAdd,Nat.reduceLeDiff,reduceIte]<;>rfl)|rfl)|exact Nat.le_of_ble_eq_true rfl|decide|(repeat' first|(apply Lk.go;constructor)|assumption|exact nb ‹_› ‹_›|exact nt ‹_› ‹_›))|(intro b hb;repeat first|(refine fe hb ?_;intro _ _ hb)|(refine fT hb ?_;intro hb))|refine rt ?_|refine gA rfl ?_|refine gB rfl ?_|apply cT rfl|apply cF rfl|(apply DM.gbT;rfl)|(apply DM.gbF;rfl)|intro h
    (apply DM.ixV (row := x.row) (z := (i : Int)) (by omega) (row_get Of_.row hx); (· rfl); (· rfl))
    repeat' first|(apply Sp.go;·constructor<;>first|exact ss|(change _=_;first|(simp only[go_sem,Nat.reduceBEq,Nat.reduceAdd,Nat.reduceLeDiff,reduceIte]<;>rfl)|rfl)|exact Nat.le_of_ble_eq_true rfl|decide|(repeat' first|(apply Lk.go;constructor)|assumption|exact nb ‹_› ‹_›|exact nt ‹_› ‹_›))|(intro b hb;repeat first|(refine fe hb ?_;intro _ _ hb)|(refine fT hb ?_;intro hb))|refine rt ?_|refine gA rfl ?_|refine gB rfl ?_|apply cT rfl|apply cF rfl|(apply DM.gbT;rfl)|(apply DM.gbF;rfl)|intro h
    apply AM.cond (t := !(v.eqb x))
    ·rfl
    ·intro h4
     have h4' : v.eqb x = false := by simpa using h4
     repeat' first|(apply Sp.go;·constructor<;>first|exact ss|(change _=_;first|(simp only[go_sem,Nat.reduceBEq,Nat.reduceAdd,Nat.reduceLeDiff,reduceIte]<;>rfl)|rfl)|exact Nat.le_of_ble_eq_true rfl|decide|(repeat' first|(apply Lk.go;constructor)|assumption|exact nb ‹_› ‹_›|exact nt ‹_› ‹_›))|(intro b hb;repeat first|(refine fe hb ?_;intro _ _ hb)|(refine fT hb ?_;intro hb))|refine rt ?_|refine gA rfl ?_|refine gB rfl ?_|apply cT rfl|apply cF rfl|(apply DM.gbT;rfl)|(apply DM.gbF;rfl)|intro h
     (apply Sr.go;·constructor<;>first|(apply Lk.go;constructor<;>first|exact ss|(change _=_;first|(simp only[go_sem,Nat.reduceBEq,Nat.reduceAdd,Nat.reduceLeDiff,reduceIte]<;>rfl)|rfl)|exact Nat.le_of_ble_eq_true rfl|decide|(repeat' first|(apply Lk.go;constructor)|assumption|exact nb ‹_› ‹_›|exact nt ‹_› ‹_›))|assumption)
     refine avle_eq ?_; rw [AV.bool.injEq, he, h4', Bool.false_and]
    ·intro h4
     have h4' : v.eqb x = true := by simpa using h4
     repeat' first|(apply Sp.go;·constructor<;>first|exact ss|(change _=_;first|(simp only[go_sem,Nat.reduceBEq,Nat.reduceAdd,Nat.reduceLeDiff,reduceIte]<;>rfl)|rfl)|exact Nat.le_of_ble_eq_true rfl|decide|(repeat' first|(apply Lk.go;constructor)|assumption|exact nb ‹_› ‹_›|exact nt ‹_› ‹_›))|(intro b hb;repeat first|(refine fe hb ?_;intro _ _ hb)|(refine fT hb ?_;intro hb))|refine rt ?_|refine gA rfl ?_|refine gB rfl ?_|apply cT rfl|apply cF rfl|(apply DM.gbT;rfl)|(apply DM.gbF;rfl)|intro h
     rw [h4', Bool.true_and] at he
     refine AM.roundX (i + 1) ⟨rfl, by omega, he⟩ ?_ ?_
     ·(repeat first | exact envle_nil _ | (refine envle_cons ?_ ?_; · (simp only [go_sem, Nat.reduceBEq, Nat.reduceAdd]; exact AVLe.refl _)))
      refine envle_cons ?_ ?_
      ·simp only [go_sem, Nat.reduceBEq, Nat.reduceAdd]
       refine avle_int ?_
       rw [inc64 h3 hlen]
      exact envle_nil _
     ·show vs.length - (i + 1) < vs.length - i
      omega
   ·intro h3
    repeat' first|(apply Sp.go;·constructor<;>first|exact ss|(change _=_;first|(simp only[go_sem,Nat.reduceBEq,Nat.reduceAdd,Nat.reduceLeDiff,reduceIte]<;>rfl)|rfl)|exact Nat.le_of_ble_eq_true rfl|decide|(repeat' first|(apply Lk.go;constructor)|assumption|exact nb ‹_› ‹_›|exact nt ‹_› ‹_›))|(intro b hb;repeat first|(refine fe hb ?_;intro _ _ hb)|(refine fT hb ?_;intro hb))|refine rt ?_|refine gA rfl ?_|refine gB rfl ?_|apply cT rfl|apply cF rfl|(apply DM.gbT;rfl)|(apply DM.gbF;rfl)|intro h
    (apply Sr.go;·constructor<;>first|(apply Lk.go;constructor<;>first|exact ss|(change _=_;first|(simp only[go_sem,Nat.reduceBEq,Nat.reduceAdd,Nat.reduceLeDiff,reduceIte]<;>rfl)|rfl)|exact Nat.le_of_ble_eq_true rfl|decide|(repeat' first|(apply Lk.go;constructor)|assumption|exact nb ‹_› ‹_›|exact nt ‹_› ‹_›))|assumption)
    simp at h3
    refine avle_eq ?_; rw [AV.bool.injEq, he, List.drop_eq_nil_of_le (by omega), List.drop_eq_nil_of_le (by omega)]; rfl
def Ins_.eqb (v x : Ins_) : Bool := decide (v.op = x.op) && (decide (v.n = x.n) && (decide (v.s = x.s)))
theorem Ins_.eqb_iff (v x : Ins_) : v.eqb x = true ↔ v = x := by
 cases v; cases x
 simp [Ins_.eqb]
theorem p42 (vs xs : List Ins_) : Pure Tryz.prog 42 [.vs 3 (vs.map Ins_.row), .vs 3 (xs.map Ins_.row)] (.bool (eqF Ins_.eqb vs xs)) := by
 refine pure_assume (G := vs.length ≤ maxLen) (fun m vs h => by simp only [RvL] at h; obtain ⟨_, _, _, h, _⟩ := h; simpa using vs_len h) fun hlen => ?_
 refine pure_intro mo Tryz.func42 c42 fun H => ?_
 unfold e42 r42
 simp only [initEnv, initFrom]
 repeat' first|(apply Sp.go;·constructor<;>first|exact ss|(change _=_;first|(simp only[go_sem,Nat.reduceBEq,Nat.reduceAdd,Nat.reduceLeDiff,reduceIte]<;>rfl)|rfl)|exact Nat.le_of_ble_eq_true rfl|decide|(repeat' first|(apply Lk.go;constructor)|assumption|exact nb ‹_› ‹_›|exact nt ‹_› ‹_›))|(intro b hb;repeat first|(refine fe hb ?_;intro _ _ hb)|(refine fT hb ?_;intro hb))|refine rt ?_|refine gA rfl ?_|refine gB rfl ?_|apply cT rfl|apply cF rfl|(apply DM.gbT;rfl)|(apply DM.gbF;rfl)|intro h
 (apply AM.cond; (· rfl))
 ·intro h
  repeat' first|(apply Sp.go;·constructor<;>first|exact ss|(change _=_;first|(simp only[go_sem,Nat.reduceBEq,Nat.reduceAdd,Nat.reduceLeDiff,reduceIte]<;>rfl)|rfl)|exact Nat.le_of_ble_eq_true rfl|decide|(repeat' first|(apply Lk.go;constructor)|assumption|exact nb ‹_› ‹_›|exact nt ‹_› ‹_›))|(intro b hb;repeat first|(refine fe hb ?_;intro _ _ hb)|(refine fT hb ?_;intro hb))|refine rt ?_|refine gA rfl ?_|refine gB rfl ?_|apply cT rfl|apply cF rfl|(apply DM.gbT;rfl)|(apply DM.gbF;rfl)|intro h
  (apply Sr.go;·constructor<;>first|(apply Lk.go;constructor<;>first|exact ss|(change _=_;first|(simp only[go_sem,Nat.reduceBEq,Nat.reduceAdd,Nat.reduceLeDiff,reduceIte]<;>rfl)|rfl)|exact Nat.le_of_ble_eq_true rfl|decide|(repeat' first|(apply Lk.go;constructor)|assumption|exact nb ‹_› ‹_›|exact nt ‹_› ‹_›))|assumption)
  refine avle_eq ?_; rw [AV.bool.injEq, eqF_len (by simp at h; omega)]
 ·intro h
  have hl : vs.length = xs.length := by simp at h; omega
  repeat' first|(apply Sp.go;·constructor<;>first|exact ss|(change _=_;first|(simp only[go_sem,Nat.reduceBEq,Nat.reduceAdd,Nat.reduceLeDiff,reduceIte]<;>rfl)|rfl)|exact Nat.le_of_ble_eq_true rfl|decide|(repeat' first|(apply Lk.go;constructor)|assumption|exact nb ‹_› ‹_›|exact nt ‹_› ‹_›))|(intro b hb;repeat first|(refine fe hb ?_;intro _ _ hb)|(refine fT hb ?_;intro hb))|refine rt ?_|refine gA rfl ?_|refine gB rfl ?_|apply cT rfl|apply cF rfl|(apply DM.gbT;rfl)|(apply DM.gbF;rfl)|intro h
  refine AM.loopX (X := Nat) 0 (fun i => [(0, .vs 3 (vs.map Ins_.row)), (1, .vs 3 (xs.map Ins_.row)), (12, .int .i64 vs.length), (13, .int .i64 i)]) (fun i H' => H' = H ∧ i ≤ vs.length ∧ eqF Ins_.eqb vs xs = eqF Ins_.eqb (vs.drop i) (xs.drop i)) (fun i => vs.length - i) ⟨rfl, by omega, by simp⟩ ?_ ?_
  ·(repeat first | exact envle_nil _ | (refine envle_cons ?_ ?_; · (simp only [go_sem, Nat.reduceBEq, Nat.reduceAdd]; exact AVLe.refl _)))
   refine envle_cons ?_ (envle_cons ?_ (envle_nil _))
   ·simp only [Env.get, Nat.reduceBEq, cond_true, cond_false, beq_self_eq_true]
    exact avle_int (by simp)
   ·simp only [Env.get, Nat.reduceBEq, cond_true, cond_false, beq_self_eq_true]
    exact AVLe.refl _
  ·intro i H' ⟨e, hi, he⟩
   subst e
   repeat' first|(apply Sp.go;·constructor<;>first|exact ss|(change _=_;first|(simp only[go_sem,Nat.reduceBEq,Nat.reduceAdd,Nat.reduceLeDiff,reduceIte]<;>rfl)|rfl)|exact Nat.le_of_ble_eq_true rfl|decide|(repeat' first|(apply Lk.go;constructor)|assumption|exact nb ‹_› ‹_›|exact nt ‹_› ‹_›))|(intro b hb;repeat first|(refine fe hb ?_;intro _ _ hb)|(refine fT hb ?_;intro hb))|refine rt ?_|refine gA rfl ?_|refine gB rfl ?_|apply cT rfl|apply cF rfl|(apply DM.gbT;rfl)|(apply DM.gbF;rfl)|intro h
   (apply AM.cond; (· rfl))
   ·intro h3
    simp at h3
    obtain ⟨v, hv⟩ := some_of h3
    obtain ⟨x, hx⟩ := some_of (hl ▸ h3 : i < xs.length)
    rw [drop_of hv, drop_of hx] at he
    simp only [eqF] at he
    repeat' first|(apply Sp.go;·constructor<;>first|exact ss|(change _=_;first|(simp only[go_sem,Nat.reduceBEq,Nat.reduceAdd,Nat.reduceLeDiff,reduceIte]<;>rfl)|rfl)|exact Nat.le_of_ble_eq_true rfl|decide|(repeat' first|(apply Lk.go;constructor)|assumption|exact nb ‹_› ‹_›|exact nt ‹_› ‹_›))|(intro b hb;repeat first|(refine fe hb ?_;intro _ _ hb)|(refine fT hb ?_;intro hb))|refine rt ?_|refine gA rfl ?_|refine gB rfl ?_|apply cT rfl|apply cF rfl|(apply DM.gbT;rfl)|(apply DM.gbF;rfl)|intro h
    (apply DM.ixV (row := v.row) (z := (i : Int)) (by omega) (row_get Ins_.row hv); (· rfl); (· rfl))
    repeat' first|(apply Sp.go;·constructor<;>first|exact ss|(change _=_;first|(simp only[go_sem,Nat.reduceBEq,Nat.reduceAdd,Nat.reduceLeDiff,reduceIte]<;>rfl)|rfl)|exact Nat.le_of_ble_eq_true rfl|decide|(repeat' first|(apply Lk.go;constructor)|assumption|exact nb ‹_› ‹_›|exact nt ‹_› ‹_›))|(intro b hb;repeat first|(refine fe hb ?_;intro _ _ hb)|(refine fT hb ?_;intro hb))|refine rt ?_|refine gA rfl ?_|refine gB rfl ?_|apply cT rfl|apply cF rfl|(apply DM.gbT;rfl)|(apply DM.gbF;rfl)|intro h
    (apply DM.ixV (row := x.row) (z := (i : Int)) (by omega) (row_get Ins_.row hx); (· rfl); (· rfl))
    repeat' first|(apply Sp.go;·constructor<;>first|exact ss|(change _=_;first|(simp only[go_sem,Nat.reduceBEq,Nat.reduceAdd,Nat.reduceLeDiff,reduceIte]<;>rfl)|rfl)|exact Nat.le_of_ble_eq_true rfl|decide|(repeat' first|(apply Lk.go;constructor)|assumption|exact nb ‹_› ‹_›|exact nt ‹_› ‹_›))|(intro b hb;repeat first|(refine fe hb ?_;intro _ _ hb)|(refine fT hb ?_;intro hb))|refine rt ?_|refine gA rfl ?_|refine gB rfl ?_|apply cT rfl|apply cF rfl|(apply DM.gbT;rfl)|(apply DM.gbF;rfl)|intro h
    apply AM.cond (t := !(v.eqb x))
    ·rfl
    ·intro h4
     have h4' : v.eqb x = false := by simpa using h4
     repeat' first|(apply Sp.go;·constructor<;>first|exact ss|(change _=_;first|(simp only[go_sem,Nat.reduceBEq,Nat.reduceAdd,Nat.reduceLeDiff,reduceIte]<;>rfl)|rfl)|exact Nat.le_of_ble_eq_true rfl|decide|(repeat' first|(apply Lk.go;constructor)|assumption|exact nb ‹_› ‹_›|exact nt ‹_› ‹_›))|(intro b hb;repeat first|(refine fe hb ?_;intro _ _ hb)|(refine fT hb ?_;intro hb))|refine rt ?_|refine gA rfl ?_|refine gB rfl ?_|apply cT rfl|apply cF rfl|(apply DM.gbT;rfl)|(apply DM.gbF;rfl)|intro h
     (apply Sr.go;·constructor<;>first|(apply Lk.go;constructor<;>first|exact ss|(change _=_;first|(simp only[go_sem,Nat.reduceBEq,Nat.reduceAdd,Nat.reduceLeDiff,reduceIte]<;>rfl)|rfl)|exact Nat.le_of_ble_eq_true rfl|decide|(repeat' first|(apply Lk.go;constructor)|assumption|exact nb ‹_› ‹_›|exact nt ‹_› ‹_›))|assumption)
     refine avle_eq ?_; rw [AV.bool.injEq, he, h4', Bool.false_and]
    ·intro h4
     have h4' : v.eqb x = true := by simpa using h4
     repeat' first|(apply Sp.go;·constructor<;>first|exact ss|(change _=_;first|(simp only[go_sem,Nat.reduceBEq,Nat.reduceAdd,Nat.reduceLeDiff,reduceIte]<;>rfl)|rfl)|exact Nat.le_of_ble_eq_true rfl|decide|(repeat' first|(apply Lk.go;constructor)|assumption|exact nb ‹_› ‹_›|exact nt ‹_› ‹_›))|(intro b hb;repeat first|(refine fe hb ?_;intro _ _ hb)|(refine fT hb ?_;intro hb))|refine rt ?_|refine gA rfl ?_|refine gB rfl ?_|apply cT rfl|apply cF rfl|(apply DM.gbT;rfl)|(apply DM.gbF;rfl)|intro h
     rw [h4', Bool.true_and] at he
     refine AM.roundX (i + 1) ⟨rfl, by omega, he⟩ ?_ ?_
     ·(repeat first | exact envle_nil _ | (refine envle_cons ?_ ?_; · (simp only [go_sem, Nat.reduceBEq, Nat.reduceAdd]; exact AVLe.refl _)))
      refine envle_cons ?_ ?_
      ·simp only [go_sem, Nat.reduceBEq, Nat.reduceAdd]
       refine avle_int ?_
       rw [inc64 h3 hlen]
      exact envle_nil _
     ·show vs.length - (i + 1) < vs.length - i
      omega
   ·intro h3
    repeat' first|(apply Sp.go;·constructor<;>first|exact ss|(change _=_;first|(simp only[go_sem,Nat.reduceBEq,Nat.reduceAdd,Nat.reduceLeDiff,reduceIte]<;>rfl)|rfl)|exact Nat.le_of_ble_eq_true rfl|decide|(repeat' first|(apply Lk.go;constructor)|assumption|exact nb ‹_› ‹_›|exact nt ‹_› ‹_›))|(intro b hb;repeat first|(refine fe hb ?_;intro _ _ hb)|(refine fT hb ?_;intro hb))|refine rt ?_|refine gA rfl ?_|refine gB rfl ?_|apply cT rfl|apply cF rfl|(apply DM.gbT;rfl)|(apply DM.gbF;rfl)|intro h
    (apply Sr.go;·constructor<;>first|(apply Lk.go;constructor<;>first|exact ss|(change _=_;first|(simp only[go_sem,Nat.reduceBEq,Nat.reduceAdd,Nat.reduceLeDiff,reduceIte]<;>rfl)|rfl)|exact Nat.le_of_ble_eq_true rfl|decide|(repeat' first|(apply Lk.go;constructor)|assumption|exact nb ‹_› ‹_›|exact nt ‹_› ‹_›))|assumption)
    simp at h3
    refine avle_eq ?_; rw [AV.bool.injEq, he, List.drop_eq_nil_of_le (by omega), List.drop_eq_nil_of_le (by omega)]; rfl
def sameP (p q : Prog) : Bool := decide (p.name = q.name) && decide (p.role = q.role) && eqF Var_.eqb p.vars q.vars && eqF Hd.eqb p.hs q.hs && eqF Of_.eqb p.os q.os && eqF Ins_.eqb p.code q.code
theorem sameP_iff (p q : Prog) : sameP p q = true ↔ p = q := by
 cases p; cases q
 simp [sameP, eqF_iff Var_.eqb_iff, eqF_iff Hd.eqb_iff, eqF_iff Of_.eqb_iff, eqF_iff Ins_.eqb_iff, and_assoc]
theorem p14 (p q : Prog) : Pure Tryz.prog 14 [p.av, q.av] (.bool (sameP p q)) := by
 refine pure_intro mo Tryz.func14 c14 fun H => ?_
 unfold e14 r14
 simp only [initEnv, initFrom]
 repeat' first|(apply Sp.go;·constructor<;>first|exact ss|(change _=_;first|(simp only[go_sem,Nat.reduceBEq,Nat.reduceAdd,Nat.reduceLeDiff,reduceIte]<;>rfl)|rfl)|exact Nat.le_of_ble_eq_true rfl|decide|(repeat' first|(apply Lk.go;constructor)|assumption|exact nb ‹_› ‹_›|exact nt ‹_› ‹_›))|(intro b hb;repeat first|(refine fe hb ?_;intro _ _ hb)|(refine fT hb ?_;intro hb))|refine rt ?_|refine gA rfl ?_|refine gB rfl ?_|apply cT rfl|apply cF rfl|(apply DM.gbT;rfl)|(apply DM.gbF;rfl)|intro h
 ·(apply DM.pcs (p39 _ _); (· simp only [go_sem, Nat.reduceBEq, Nat.reduceAdd] <;> rfl); (· exact AVLes.refl _))
  repeat' first|(apply Sp.go;·constructor<;>first|exact ss|(change _=_;first|(simp only[go_sem,Nat.reduceBEq,Nat.reduceAdd,Nat.reduceLeDiff,reduceIte]<;>rfl)|rfl)|exact Nat.le_of_ble_eq_true rfl|decide|(repeat' first|(apply Lk.go;constructor)|assumption|exact nb ‹_› ‹_›|exact nt ‹_› ‹_›))|(intro b hb;repeat first|(refine fe hb ?_;intro _ _ hb)|(refine fT hb ?_;intro hb))|refine rt ?_|refine gA rfl ?_|refine gB rfl ?_|apply cT rfl|apply cF rfl|(apply DM.gbT;rfl)|(apply DM.gbF;rfl)|intro h
  ·(apply DM.pcs (p40 _ _); (· simp only [go_sem, Nat.reduceBEq, Nat.reduceAdd] <;> rfl); (· exact AVLes.refl _))
   repeat' first|(apply Sp.go;·constructor<;>first|exact ss|(change _=_;first|(simp only[go_sem,Nat.reduceBEq,Nat.reduceAdd,Nat.reduceLeDiff,reduceIte]<;>rfl)|rfl)|exact Nat.le_of_ble_eq_true rfl|decide|(repeat' first|(apply Lk.go;constructor)|assumption|exact nb ‹_› ‹_›|exact nt ‹_› ‹_›))|(intro b hb;repeat first|(refine fe hb ?_;intro _ _ hb)|(refine fT hb ?_;intro hb))|refine rt ?_|refine gA rfl ?_|refine gB rfl ?_|apply cT rfl|apply cF rfl|(apply DM.gbT;rfl)|(apply DM.gbF;rfl)|intro h
   ·(apply DM.pcs (p41 _ _); (· simp only [go_sem, Nat.reduceBEq, Nat.reduceAdd] <;> rfl); (· exact AVLes.refl _))
    repeat' first|(apply Sp.go;·constructor<;>first|exact ss|(change _=_;first|(simp only[go_sem,Nat.reduceBEq,Nat.reduceAdd,Nat.reduceLeDiff,reduceIte]<;>rfl)|rfl)|exact Nat.le_of_ble_eq_true rfl|decide|(repeat' first|(apply Lk.go;constructor)|assumption|exact nb ‹_› ‹_›|exact nt ‹_› ‹_›))|(intro b hb;repeat first|(refine fe hb ?_;intro _ _ hb)|(refine fT hb ?_;intro hb))|refine rt ?_|refine gA rfl ?_|refine gB rfl ?_|apply cT rfl|apply cF rfl|(apply DM.gbT;rfl)|(apply DM.gbF;rfl)|intro h
    ·(apply DM.pcs (p42 _ _); (· simp only [go_sem, Nat.reduceBEq, Nat.reduceAdd] <;> rfl); (· exact AVLes.refl _))
     repeat' first|(apply Sp.go;·constructor<;>first|exact ss|(change _=_;first|(simp only[go_sem,Nat.reduceBEq,Nat.reduceAdd,Nat.reduceLeDiff,reduceIte]<;>rfl)|rfl)|exact Nat.le_of_ble_eq_true rfl|decide|(repeat' first|(apply Lk.go;constructor)|assumption|exact nb ‹_› ‹_›|exact nt ‹_› ‹_›))|(intro b hb;repeat first|(refine fe hb ?_;intro _ _ hb)|(refine fT hb ?_;intro hb))|refine rt ?_|refine gA rfl ?_|refine gB rfl ?_|apply cT rfl|apply cF rfl|(apply DM.gbT;rfl)|(apply DM.gbF;rfl)|intro h
     (apply Sr.go;·constructor<;>first|(apply Lk.go;constructor<;>first|exact ss|(change _=_;first|(simp only[go_sem,Nat.reduceBEq,Nat.reduceAdd,Nat.reduceLeDiff,reduceIte]<;>rfl)|rfl)|exact Nat.le_of_ble_eq_true rfl|decide|(repeat' first|(apply Lk.go;constructor)|assumption|exact nb ‹_› ‹_›|exact nt ‹_› ‹_›))|assumption)
     refine avle_eq ?_; rw [AV.bool.injEq]; simp at *; simp [sameP, *]
    ·(apply Sr.go;·constructor<;>first|(apply Lk.go;constructor<;>first|exact ss|(change _=_;first|(simp only[go_sem,Nat.reduceBEq,Nat.reduceAdd,Nat.reduceLeDiff,reduceIte]<;>rfl)|rfl)|exact Nat.le_of_ble_eq_true rfl|decide|(repeat' first|(apply Lk.go;constructor)|assumption|exact nb ‹_› ‹_›|exact nt ‹_› ‹_›))|assumption)
     refine avle_eq ?_; rw [AV.bool.injEq]; simp at *; simp [sameP, *]
   ·(apply Sr.go;·constructor<;>first|(apply Lk.go;constructor<;>first|exact ss|(change _=_;first|(simp only[go_sem,Nat.reduceBEq,Nat.reduceAdd,Nat.reduceLeDiff,reduceIte]<;>rfl)|rfl)|exact Nat.le_of_ble_eq_true rfl|decide|(repeat' first|(apply Lk.go;constructor)|assumption|exact nb ‹_› ‹_›|exact nt ‹_› ‹_›))|assumption)
    refine avle_eq ?_; rw [AV.bool.injEq]; simp at *; simp [sameP, *]
  ·(apply Sr.go;·constructor<;>first|(apply Lk.go;constructor<;>first|exact ss|(change _=_;first|(simp only[go_sem,Nat.reduceBEq,Nat.reduceAdd,Nat.reduceLeDiff,reduceIte]<;>rfl)|rfl)|exact Nat.le_of_ble_eq_true rfl|decide|(repeat' first|(apply Lk.go;constructor)|assumption|exact nb ‹_› ‹_›|exact nt ‹_› ‹_›))|assumption)
   refine avle_eq ?_; rw [AV.bool.injEq]; simp at *; simp [sameP, *]
 all_goals ((apply Sr.go;·constructor<;>first|(apply Lk.go;constructor<;>first|exact ss|(change _=_;first|(simp only[go_sem,Nat.reduceBEq,Nat.reduceAdd,Nat.reduceLeDiff,reduceIte]<;>rfl)|rfl)|exact Nat.le_of_ble_eq_true rfl|decide|(repeat' first|(apply Lk.go;constructor)|assumption|exact nb ‹_› ‹_›|exact nt ‹_› ‹_›))|assumption))
 all_goals (refine avle_eq ?_; rw [AV.bool.injEq]; simp at *; simp [sameP, *])
theorem p15 (p q : Prog) : Pure Tryz.prog 15 [p.av, q.av] (.bool (sameP p q)) := by
 refine ok_args fun ok => ?_
 refine pure_intro mo Tryz.func15 c15 fun H => ?_
 unfold e15 r15
 simp only [initEnv, initFrom]
 repeat' first|(apply Sp.go;·constructor<;>first|exact ss|(change _=_;first|(simp only[go_sem,Nat.reduceBEq,Nat.reduceAdd,Nat.reduceLeDiff,reduceIte]<;>rfl)|rfl)|exact Nat.le_of_ble_eq_true rfl|decide|(repeat' first|(apply Lk.go;constructor)|assumption|exact nb ‹_› ‹_›|exact nt ‹_› ‹_›))|(intro b hb;repeat first|(refine fe hb ?_;intro _ _ hb)|(refine fT hb ?_;intro hb))|refine rt ?_|refine gA rfl ?_|refine gB rfl ?_|apply cT rfl|apply cF rfl|(apply DM.gbT;rfl)|(apply DM.gbF;rfl)|intro h
 ·rename_i b1 _ _ _ _ g1 g2 g3 g4
  have g5 := h
  (apply AM.cond; (· rfl))
  ·intro g6
   repeat' first|(apply Sp.go;·constructor<;>first|exact ss|(change _=_;first|(simp only[go_sem,Nat.reduceBEq,Nat.reduceAdd,Nat.reduceLeDiff,reduceIte]<;>rfl)|rfl)|exact Nat.le_of_ble_eq_true rfl|decide|(repeat' first|(apply Lk.go;constructor)|assumption|exact nb ‹_› ‹_›|exact nt ‹_› ‹_›))|(intro b hb;repeat first|(refine fe hb ?_;intro _ _ hb)|(refine fT hb ?_;intro hb))|refine rt ?_|refine gA rfl ?_|refine gB rfl ?_|apply cT rfl|apply cF rfl|(apply DM.gbT;rfl)|(apply DM.gbF;rfl)|intro h
   (apply Sr.go;·constructor<;>first|(apply Lk.go;constructor<;>first|exact ss|(change _=_;first|(simp only[go_sem,Nat.reduceBEq,Nat.reduceAdd,Nat.reduceLeDiff,reduceIte]<;>rfl)|rfl)|exact Nat.le_of_ble_eq_true rfl|decide|(repeat' first|(apply Lk.go;constructor)|assumption|exact nb ‹_› ‹_›|exact nt ‹_› ‹_›))|assumption)
   refine avle_eq ?_; rw [AV.bool.injEq]; symm; rw [← Bool.not_eq_true, sameP_iff]; rintro rfl; simp at g6
  ·intro g6
   have hn : p.name = q.name := by simpa using g1
   have hr : p.role = q.role := by simpa using g2
   have l1 : p.vars.length = q.vars.length := by simp at g3; omega
   have l2 : p.hs.length = q.hs.length := by simp at g4; omega
   have l3 : p.os.length = q.os.length := by simp at g5; omega
   have l4 : p.code.length = q.code.length := by simp at g6; omega
   have hsame : sameP p q = (eqF Var_.eqb p.vars q.vars && eqF Hd.eqb p.hs q.hs && eqF Of_.eqb p.os q.os && eqF Ins_.eqb p.code q.code) := by simp [sameP, hn, hr]
   repeat' first|(apply Sp.go;·constructor<;>first|exact ss|(change _=_;first|(simp only[go_sem,Nat.reduceBEq,Nat.reduceAdd,Nat.reduceLeDiff,reduceIte]<;>rfl)|rfl)|exact Nat.le_of_ble_eq_true rfl|decide|(repeat' first|(apply Lk.go;constructor)|assumption|exact nb ‹_› ‹_›|exact nt ‹_› ‹_›))|(intro b hb;repeat first|(refine fe hb ?_;intro _ _ hb)|(refine fT hb ?_;intro hb))|refine rt ?_|refine gA rfl ?_|refine gB rfl ?_|apply cT rfl|apply cF rfl|(apply DM.gbT;rfl)|(apply DM.gbF;rfl)|intro h
   refine AM.loopX (X := Nat) 0 (fun i => [(2, .ptr b1 0), (3, .ptr b 0), (5, .int .i64 i)]) (fun i H' => H' = (H.setB b1 27 p.cells).setB b 27 q.cells ∧ i ≤ p.vars.length ∧ eqF Var_.eqb p.vars q.vars = eqF Var_.eqb (p.vars.drop i) (q.vars.drop i)) (fun i => p.vars.length - i) ⟨rfl, by omega, by simp⟩ ?_ ?_
   ·(repeat first | exact envle_nil _ | (refine envle_cons ?_ ?_; · (simp only [go_sem, Nat.reduceBEq, Nat.reduceAdd]; exact AVLe.refl _)))
   rintro i H' ⟨rfl, hi, he⟩
   repeat' first|(apply Sp.go;·constructor<;>first|exact ss|(change _=_;first|(simp only[go_sem,Nat.reduceBEq,Nat.reduceAdd,Nat.reduceLeDiff,reduceIte]<;>rfl)|rfl)|exact Nat.le_of_ble_eq_true rfl|decide|(repeat' first|(apply Lk.go;constructor)|assumption|exact nb ‹_› ‹_›|exact nt ‹_› ‹_›))|(intro b hb;repeat first|(refine fe hb ?_;intro _ _ hb)|(refine fT hb ?_;intro hb))|refine rt ?_|refine gA rfl ?_|refine gB rfl ?_|apply cT rfl|apply cF rfl|(apply DM.gbT;rfl)|(apply DM.gbF;rfl)|intro h
   (apply AM.cond; (· rfl))
   ·intro h3
    simp at h3
    obtain ⟨v, hv⟩ := some_of h3
    obtain ⟨x, hx⟩ := some_of (l1 ▸ h3 : i < q.vars.length)
    rw [drop_of hv, drop_of hx] at he
    simp only [eqF] at he
    repeat' first|(apply Sp.go;·constructor<;>first|exact ss|(change _=_;first|(simp only[go_sem,Nat.reduceBEq,Nat.reduceAdd,Nat.reduceLeDiff,reduceIte]<;>rfl)|rfl)|exact Nat.le_of_ble_eq_true rfl|decide|(repeat' first|(apply Lk.go;constructor)|assumption|exact nb ‹_› ‹_›|exact nt ‹_› ‹_›))|(intro b hb;repeat first|(refine fe hb ?_;intro _ _ hb)|(refine fT hb ?_;intro hb))|refine rt ?_|refine gA rfl ?_|refine gB rfl ?_|apply cT rfl|apply cF rfl|(apply DM.gbT;rfl)|(apply DM.gbF;rfl)|intro h
    (apply DM.ixV (row := v.row) (z := (i : Int)) (by omega) (row_get Var_.row hv); (· rfl); (· rfl))
    repeat' first|(apply Sp.go;·constructor<;>first|exact ss|(change _=_;first|(simp only[go_sem,Nat.reduceBEq,Nat.reduceAdd,Nat.reduceLeDiff,reduceIte]<;>rfl)|rfl)|exact Nat.le_of_ble_eq_true rfl|decide|(repeat' first|(apply Lk.go;constructor)|assumption|exact nb ‹_› ‹_›|exact nt ‹_› ‹_›))|(intro b hb;repeat first|(refine fe hb ?_;intro _ _ hb)|(refine fT hb ?_;intro hb))|refine rt ?_|refine gA rfl ?_|refine gB rfl ?_|apply cT rfl|apply cF rfl|(apply DM.gbT;rfl)|(apply DM.gbF;rfl)|intro h
    (apply DM.ixV (row := x.row) (z := (i : Int)) (by omega) (row_get Var_.row hx); (· rfl); (· rfl))
    repeat' first|(apply Sp.go;·constructor<;>first|exact ss|(change _=_;first|(simp only[go_sem,Nat.reduceBEq,Nat.reduceAdd,Nat.reduceLeDiff,reduceIte]<;>rfl)|rfl)|exact Nat.le_of_ble_eq_true rfl|decide|(repeat' first|(apply Lk.go;constructor)|assumption|exact nb ‹_› ‹_›|exact nt ‹_› ‹_›))|(intro b hb;repeat first|(refine fe hb ?_;intro _ _ hb)|(refine fT hb ?_;intro hb))|refine rt ?_|refine gA rfl ?_|refine gB rfl ?_|apply cT rfl|apply cF rfl|(apply DM.gbT;rfl)|(apply DM.gbF;rfl)|intro h
    apply AM.cond (t := !(v.eqb x))
    ·rfl
    ·intro h4
     have h4' : v.eqb x = false := by simpa using h4
     repeat' first|(apply Sp.go;·constructor<;>first|exact ss|(change _=_;first|(simp only[go_sem,Nat.reduceBEq,Nat.reduceAdd,Nat.reduceLeDiff,reduceIte]<;>rfl)|rfl)|exact Nat.le_of_ble_eq_true rfl|decide|(repeat' first|(apply Lk.go;constructor)|assumption|exact nb ‹_› ‹_›|exact nt ‹_› ‹_›))|(intro b hb;repeat first|(refine fe hb ?_;intro _ _ hb)|(refine fT hb ?_;intro hb))|refine rt ?_|refine gA rfl ?_|refine gB rfl ?_|apply cT rfl|apply cF rfl|(apply DM.gbT;rfl)|(apply DM.gbF;rfl)|intro h
     (apply Sr.go;·constructor<;>first|(apply Lk.go;constructor<;>first|exact ss|(change _=_;first|(simp only[go_sem,Nat.reduceBEq,Nat.reduceAdd,Nat.reduceLeDiff,reduceIte]<;>rfl)|rfl)|exact Nat.le_of_ble_eq_true rfl|decide|(repeat' first|(apply Lk.go;constructor)|assumption|exact nb ‹_› ‹_›|exact nt ‹_› ‹_›))|assumption)
     refine avle_eq ?_; rw [AV.bool.injEq, hsame, he, h4']; simp
    ·intro h4
     have h4' : v.eqb x = true := by simpa using h4
     repeat' first|(apply Sp.go;·constructor<;>first|exact ss|(change _=_;first|(simp only[go_sem,Nat.reduceBEq,Nat.reduceAdd,Nat.reduceLeDiff,reduceIte]<;>rfl)|rfl)|exact Nat.le_of_ble_eq_true rfl|decide|(repeat' first|(apply Lk.go;constructor)|assumption|exact nb ‹_› ‹_›|exact nt ‹_› ‹_›))|(intro b hb;repeat first|(refine fe hb ?_;intro _ _ hb)|(refine fT hb ?_;intro hb))|refine rt ?_|refine gA rfl ?_|refine gB rfl ?_|apply cT rfl|apply cF rfl|(apply DM.gbT;rfl)|(apply DM.gbF;rfl)|intro h
     rw [h4', Bool.true_and] at he
     refine AM.roundX (i + 1) ⟨rfl, by omega, he⟩ ?_ (show p.vars.length - (i + 1) < p.vars.length - i by omega)
     (repeat first | exact envle_nil _ | (refine envle_cons ?_ ?_; · (simp only [go_sem, Nat.reduceBEq, Nat.reduceAdd]; exact AVLe.refl _)))
     refine envle_cons ?_ ?_
     ·simp only [go_sem, Nat.reduceBEq, Nat.reduceAdd]
      refine avle_int ?_
      rw [inc64 h3 ok.vars]
     exact envle_nil _
   ·intro h3
    simp at h3
    rw [List.drop_eq_nil_of_le (by omega), List.drop_eq_nil_of_le (by omega)] at he
    have z1 : eqF Var_.eqb p.vars q.vars = true := he
    rw [z1] at hsame
    clear he h3 hi
    repeat' first|(apply Sp.go;·constructor<;>first|exact ss|(change _=_;first|(simp only[go_sem,Nat.reduceBEq,Nat.reduceAdd,Nat.reduceLeDiff,reduceIte]<;>rfl)|rfl)|exact Nat.le_of_ble_eq_true rfl|decide|(repeat' first|(apply Lk.go;constructor)|assumption|exact nb ‹_› ‹_›|exact nt ‹_› ‹_›))|(intro b hb;repeat first|(refine fe hb ?_;intro _ _ hb)|(refine fT hb ?_;intro hb))|refine rt ?_|refine gA rfl ?_|refine gB rfl ?_|apply cT rfl|apply cF rfl|(apply DM.gbT;rfl)|(apply DM.gbF;rfl)|intro h
    refine AM.loopX (X := Nat) 0 (fun i => [(2, .ptr b1 0), (3, .ptr b 0), (6, .int .i64 i)]) (fun i H' => H' = (H.setB b1 27 p.cells).setB b 27 q.cells ∧ i ≤ p.hs.length ∧ eqF Hd.eqb p.hs q.hs = eqF Hd.eqb (p.hs.drop i) (q.hs.drop i)) (fun i => p.hs.length - i) ⟨rfl, by omega, by simp⟩ ?_ ?_
    ·(repeat first | exact envle_nil _ | (refine envle_cons ?_ ?_; · (simp only [go_sem, Nat.reduceBEq, Nat.reduceAdd]; exact AVLe.refl _)))
    rintro i H' ⟨rfl, hi, he⟩
    repeat' first|(apply Sp.go;·constructor<;>first|exact ss|(change _=_;first|(simp only[go_sem,Nat.reduceBEq,Nat.reduceAdd,Nat.reduceLeDiff,reduceIte]<;>rfl)|rfl)|exact Nat.le_of_ble_eq_true rfl|decide|(repeat' first|(apply Lk.go;constructor)|assumption|exact nb ‹_› ‹_›|exact nt ‹_› ‹_›))|(intro b hb;repeat first|(refine fe hb ?_;intro _ _ hb)|(refine fT hb ?_;intro hb))|refine rt ?_|refine gA rfl ?_|refine gB rfl ?_|apply cT rfl|apply cF rfl|(apply DM.gbT;rfl)|(apply DM.gbF;rfl)|intro h
    (apply AM.cond; (· rfl))
    ·intro h3
     simp at h3
     obtain ⟨v, hv⟩ := some_of h3
     obtain ⟨x, hx⟩ := some_of (l2 ▸ h3 : i < q.hs.length)
     rw [drop_of hv, drop_of hx] at he
     simp only [eqF] at he
     repeat' first|(apply Sp.go;·constructor<;>first|exact ss|(change _=_;first|(simp only[go_sem,Nat.reduceBEq,Nat.reduceAdd,Nat.reduceLeDiff,reduceIte]<;>rfl)|rfl)|exact Nat.le_of_ble_eq_true rfl|decide|(repeat' first|(apply Lk.go;constructor)|assumption|exact nb ‹_› ‹_›|exact nt ‹_› ‹_›))|(intro b hb;repeat first|(refine fe hb ?_;intro _ _ hb)|(refine fT hb ?_;intro hb))|refine rt ?_|refine gA rfl ?_|refine gB rfl ?_|apply cT rfl|apply cF rfl|(apply DM.gbT;rfl)|(apply DM.gbF;rfl)|intro h
     (apply DM.ixV (row := v.row) (z := (i : Int)) (by omega) (row_get Hd.row hv); (· rfl); (· rfl))
     repeat' first|(apply Sp.go;·constructor<;>first|exact ss|(change _=_;first|(simp only[go_sem,Nat.reduceBEq,Nat.reduceAdd,Nat.reduceLeDiff,reduceIte]<;>rfl)|rfl)|exact Nat.le_of_ble_eq_true rfl|decide|(repeat' first|(apply Lk.go;constructor)|assumption|exact nb ‹_› ‹_›|exact nt ‹_› ‹_›))|(intro b hb;repeat first|(refine fe hb ?_;intro _ _ hb)|(refine fT hb ?_;intro hb))|refine rt ?_|refine gA rfl ?_|refine gB rfl ?_|apply cT rfl|apply cF rfl|(apply DM.gbT;rfl)|(apply DM.gbF;rfl)|intro h
     (apply DM.ixV (row := x.row) (z := (i : Int)) (by omega) (row_get Hd.row hx); (· rfl); (· rfl))
     repeat' first|(apply Sp.go;·constructor<;>first|exact ss|(change _=_;first|(simp only[go_sem,Nat.reduceBEq,Nat.reduceAdd,Nat.reduceLeDiff,reduceIte]<;>rfl)|rfl)|exact Nat.le_of_ble_eq_true rfl|decide|(repeat' first|(apply Lk.go;constructor)|assumption|exact nb ‹_› ‹_›|exact nt ‹_› ‹_›))|(intro b hb;repeat first|(refine fe hb ?_;intro _ _ hb)|(refine fT hb ?_;intro hb))|refine rt ?_|refine gA rfl ?_|refine gB rfl ?_|apply cT rfl|apply cF rfl|(apply DM.gbT;rfl)|(apply DM.gbF;rfl)|intro h
     apply AM.cond (t := !(v.eqb x))
     ·rfl
     ·intro h4
      have h4' : v.eqb x = false := by simpa using h4
      repeat' first|(apply Sp.go;·constructor<;>first|exact ss|(change _=_;first|(simp only[go_sem,Nat.reduceBEq,Nat.reduceAdd,Nat.reduceLeDiff,reduceIte]<;>rfl)|rfl)|exact Nat.le_of_ble_eq_true rfl|decide|(repeat' first|(apply Lk.go;constructor)|assumption|exact nb ‹_› ‹_›|exact nt ‹_› ‹_›))|(intro b hb;repeat first|(refine fe hb ?_;intro _ _ hb)|(refine fT hb ?_;intro hb))|refine rt ?_|refine gA rfl ?_|refine gB rfl ?_|apply cT rfl|apply cF rfl|(apply DM.gbT;rfl)|(apply DM.gbF;rfl)|intro h
      (apply Sr.go;·constructor<;>first|(apply Lk.go;constructor<;>first|exact ss|(change _=_;first|(simp only[go_sem,Nat.reduceBEq,Nat.reduceAdd,Nat.reduceLeDiff,reduceIte]<;>rfl)|rfl)|exact Nat.le_of_ble_eq_true rfl|decide|(repeat' first|(apply Lk.go;constructor)|assumption|exact nb ‹_› ‹_›|exact nt ‹_› ‹_›))|assumption)
      refine avle_eq ?_; rw [AV.bool.injEq, hsame, he, h4']; simp
     ·intro h4
      have h4' : v.eqb x = true := by simpa using h4
      repeat' first|(apply Sp.go;·constructor<;>first|exact ss|(change _=_;first|(simp only[go_sem,Nat.reduceBEq,Nat.reduceAdd,Nat.reduceLeDiff,reduceIte]<;>rfl)|rfl)|exact Nat.le_of_ble_eq_true rfl|decide|(repeat' first|(apply Lk.go;constructor)|assumption|exact nb ‹_› ‹_›|exact nt ‹_› ‹_›))|(intro b hb;repeat first|(refine fe hb ?_;intro _ _ hb)|(refine fT hb ?_;intro hb))|refine rt ?_|refine gA rfl ?_|refine gB rfl ?_|apply cT rfl|apply cF rfl|(apply DM.gbT;rfl)|(apply DM.gbF;rfl)|intro h
      rw [h4', Bool.true_and] at he
      refine AM.roundX (i + 1) ⟨rfl, by omega, he⟩ ?_ (show p.hs.length - (i + 1) < p.hs.length - i by omega)
      (repeat first | exact envle_nil _ | (refine envle_cons ?_ ?_; · (simp only [go_sem, Nat.reduceBEq, Nat.reduceAdd]; exact AVLe.refl _)))
      refine envle_cons ?_ ?_
      ·simp only [go_sem, Nat.reduceBEq, Nat.reduceAdd]
       refine avle_int ?_
       rw [inc64 h3 ok.hs]
      exact envle_nil _
    ·intro h3
     simp at h3
     rw [List.drop_eq_nil_of_le (by omega), List.drop_eq_nil_of_le (by omega)] at he
     have z2 : eqF Hd.eqb p.hs q.hs = true := he
     rw [z2] at hsame
     clear he h3 hi
     repeat' first|(apply Sp.go;·constructor<;>first|exact ss|(change _=_;first|(simp only[go_sem,Nat.reduceBEq,Nat.reduceAdd,Nat.reduceLeDiff,reduceIte]<;>rfl)|rfl)|exact Nat.le_of_ble_eq_true rfl|decide|(repeat' first|(apply Lk.go;constructor)|assumption|exact nb ‹_› ‹_›|exact nt ‹_› ‹_›))|(intro b hb;repeat first|(refine fe hb ?_;intro _ _ hb)|(refine fT hb ?_;intro hb))|refine rt ?_|refine gA rfl ?_|refine gB rfl ?_|apply cT rfl|apply cF rfl|(apply DM.gbT;rfl)|(apply DM.gbF;rfl)|intro h
     refine AM.loopX (X := Nat) 0 (fun i => [(2, .ptr b1 0), (3, .ptr b 0), (7, .int .i64 i)]) (fun i H' => H' = (H.setB b1 27 p.cells).setB b 27 q.cells ∧ i ≤ p.os.length ∧ eqF Of_.eqb p.os q.os = eqF Of_.eqb (p.os.drop i) (q.os.drop i)) (fun i => p.os.length - i) ⟨rfl, by omega, by simp⟩ ?_ ?_
     ·(repeat first | exact envle_nil _ | (refine envle_cons ?_ ?_; · (simp only [go_sem, Nat.reduceBEq, Nat.reduceAdd]; exact AVLe.refl _)))
     rintro i H' ⟨rfl, hi, he⟩
     repeat' first|(apply Sp.go;·constructor<;>first|exact ss|(change _=_;first|(simp only[go_sem,Nat.reduceBEq,Nat.reduceAdd,Nat.reduceLeDiff,reduceIte]<;>rfl)|rfl)|exact Nat.le_of_ble_eq_true rfl|decide|(repeat' first|(apply Lk.go;constructor)|assumption|exact nb ‹_› ‹_›|exact nt ‹_› ‹_›))|(intro b hb;repeat first|(refine fe hb ?_;intro _ _ hb)|(refine fT hb ?_;intro hb))|refine rt ?_|refine gA rfl ?_|refine gB rfl ?_|apply cT rfl|apply cF rfl|(apply DM.gbT;rfl)|(apply DM.gbF;rfl)|intro h
     (apply AM.cond; (· rfl))
     ·intro h3
      simp at h3
      obtain ⟨v, hv⟩ := some_of h3
      obtain ⟨x, hx⟩ := some_of (l3 ▸ h3 : i < q.os.length)
      rw [drop_of hv, drop_of hx] at he
      simp only [eqF] at he
      repeat' first|(apply Sp.go;·constructor<;>first|exact ss|(change _=_;first|(simp only[go_sem,Nat.reduceBEq,Nat.reduceAdd,Nat.reduceLeDiff,reduceIte]<;>rfl)|rfl)|exact Nat.le_of_ble_eq_true rfl|decide|(repeat' first|(apply Lk.go;constructor)|assumption|exact nb ‹_› ‹_›|exact nt ‹_› ‹_›))|(intro b hb;repeat first|(refine fe hb ?_;intro _ _ hb)|(refine fT hb ?_;intro hb))|refine rt ?_|refine gA rfl ?_|refine gB rfl ?_|apply cT rfl|apply cF rfl|(apply DM.gbT;rfl)|(apply DM.gbF;rfl)|intro h
      (apply DM.ixV (row := v.row) (z := (i : Int)) (by omega) (row_get Of_.row hv); (· rfl); (· rfl))
      repeat' first|(apply Sp.go;·constructor<;>first|exact ss|(change _=_;first|(simp only[go_sem,Nat.reduceBEq,Nat.reduceAdd,Nat.reduceLeDiff,reduceIte]<;>rfl)|rfl)|exact Nat.le_of_ble_eq_true rfl|decide|(repeat' first|(apply Lk.go;constructor)|assumption|exact nb ‹_› ‹_›|exact nt ‹_› ‹_›))|(intro b hb;repeat first|(refine fe hb ?_;intro _ _ hb)|(refine fT hb ?_;intro hb))|refine rt ?_|refine gA rfl ?_|refine gB rfl ?_|apply cT rfl|apply cF rfl|(apply DM.gbT;rfl)|(apply DM.gbF;rfl)|intro h
      (apply DM.ixV (row := x.row) (z := (i : Int)) (by omega) (row_get Of_.row hx); (· rfl); (· rfl))
      repeat' first|(apply Sp.go;·constructor<;>first|exact ss|(change _=_;first|(simp only[go_sem,Nat.reduceBEq,Nat.reduceAdd,Nat.reduceLeDiff,reduceIte]<;>rfl)|rfl)|exact Nat.le_of_ble_eq_true rfl|decide|(repeat' first|(apply Lk.go;constructor)|assumption|exact nb ‹_› ‹_›|exact nt ‹_› ‹_›))|(intro b hb;repeat first|(refine fe hb ?_;intro _ _ hb)|(refine fT hb ?_;intro hb))|refine rt ?_|refine gA rfl ?_|refine gB rfl ?_|apply cT rfl|apply cF rfl|(apply DM.gbT;rfl)|(apply DM.gbF;rfl)|intro h
      apply AM.cond (t := !(v.eqb x))
      ·rfl
      ·intro h4
       have h4' : v.eqb x = false := by simpa using h4
       repeat' first|(apply Sp.go;·constructor<;>first|exact ss|(change _=_;first|(simp only[go_sem,Nat.reduceBEq,Nat.reduceAdd,Nat.reduceLeDiff,reduceIte]<;>rfl)|rfl)|exact Nat.le_of_ble_eq_true rfl|decide|(repeat' first|(apply Lk.go;constructor)|assumption|exact nb ‹_› ‹_›|exact nt ‹_› ‹_›))|(intro b hb;repeat first|(refine fe hb ?_;intro _ _ hb)|(refine fT hb ?_;intro hb))|refine rt ?_|refine gA rfl ?_|refine gB rfl ?_|apply cT rfl|apply cF rfl|(apply DM.gbT;rfl)|(apply DM.gbF;rfl)|intro h
       (apply Sr.go;·constructor<;>first|(apply Lk.go;constructor<;>first|exact ss|(change _=_;first|(simp only[go_sem,Nat.reduceBEq,Nat.reduceAdd,Nat.reduceLeDiff,reduceIte]<;>rfl)|rfl)|exact Nat.le_of_ble_eq_true rfl|decide|(repeat' first|(apply Lk.go;constructor)|assumption|exact nb ‹_› ‹_›|exact nt ‹_› ‹_›))|assumption)
       refine avle_eq ?_; rw [AV.bool.injEq, hsame, he, h4']; simp
      ·intro h4
       have h4' : v.eqb x = true := by simpa using h4
       repeat' first|(apply Sp.go;·constructor<;>first|exact ss|(change _=_;first|(simp only[go_sem,Nat.reduceBEq,Nat.reduceAdd,Nat.reduceLeDiff,reduceIte]<;>rfl)|rfl)|exact Nat.le_of_ble_eq_true rfl|decide|(repeat' first|(apply Lk.go;constructor)|assumption|exact nb ‹_› ‹_›|exact nt ‹_› ‹_›))|(intro b hb;repeat first|(refine fe hb ?_;intro _ _ hb)|(refine fT hb ?_;intro hb))|refine rt ?_|refine gA rfl ?_|refine gB rfl ?_|apply cT rfl|apply cF rfl|(apply DM.gbT;rfl)|(apply DM.gbF;rfl)|intro h
       rw [h4', Bool.true_and] at he
       refine AM.roundX (i + 1) ⟨rfl, by omega, he⟩ ?_ (show p.os.length - (i + 1) < p.os.length - i by omega)
       (repeat first | exact envle_nil _ | (refine envle_cons ?_ ?_; · (simp only [go_sem, Nat.reduceBEq, Nat.reduceAdd]; exact AVLe.refl _)))
       refine envle_cons ?_ ?_
       ·simp only [go_sem, Nat.reduceBEq, Nat.reduceAdd]
        refine avle_int ?_
        rw [inc64 h3 ok.os]
       exact envle_nil _
     ·intro h3
      simp at h3
      rw [List.drop_eq_nil_of_le (by omega), List.drop_eq_nil_of_le (by omega)] at he
      have z3 : eqF Of_.eqb p.os q.os = true := he
      rw [z3] at hsame
      clear he h3 hi
      repeat' first|(apply Sp.go;·constructor<;>first|exact ss|(change _=_;first|(simp only[go_sem,Nat.reduceBEq,Nat.reduceAdd,Nat.reduceLeDiff,reduceIte]<;>rfl)|rfl)|exact Nat.le_of_ble_eq_true rfl|decide|(repeat' first|(apply Lk.go;constructor)|assumption|exact nb ‹_› ‹_›|exact nt ‹_› ‹_›))|(intro b hb;repeat first|(refine fe hb ?_;intro _ _ hb)|(refine fT hb ?_;intro hb))|refine rt ?_|refine gA rfl ?_|refine gB rfl ?_|apply cT rfl|apply cF rfl|(apply DM.gbT;rfl)|(apply DM.gbF;rfl)|intro h
      refine AM.loopX (X := Nat) 0 (fun i => [(2, .ptr b1 0), (3, .ptr b 0), (8, .int .i64 i)]) (fun i H' => H' = (H.setB b1 27 p.cells).setB b 27 q.cells ∧ i ≤ p.code.length ∧ eqF Ins_.eqb p.code q.code = eqF Ins_.eqb (p.code.drop i) (q.code.drop i)) (fun i => p.code.length - i) ⟨rfl, by omega, by simp⟩ ?_ ?_
      ·(repeat first | exact envle_nil _ | (refine envle_cons ?_ ?_; · (simp only [go_sem, Nat.reduceBEq, Nat.reduceAdd]; exact AVLe.refl _)))
      rintro i H' ⟨rfl, hi, he⟩
      repeat' first|(apply Sp.go;·constructor<;>first|exact ss|(change _=_;first|(simp only[go_sem,Nat.reduceBEq,Nat.reduceAdd,Nat.reduceLeDiff,reduceIte]<;>rfl)|rfl)|exact Nat.le_of_ble_eq_true rfl|decide|(repeat' first|(apply Lk.go;constructor)|assumption|exact nb ‹_› ‹_›|exact nt ‹_› ‹_›))|(intro b hb;repeat first|(refine fe hb ?_;intro _ _ hb)|(refine fT hb ?_;intro hb))|refine rt ?_|refine gA rfl ?_|refine gB rfl ?_|apply cT rfl|apply cF rfl|(apply DM.gbT;rfl)|(apply DM.gbF;rfl)|intro h
      (apply AM.cond; (· rfl))
      ·intro h3
       simp at h3
       obtain ⟨v, hv⟩ := some_of h3
       obtain ⟨x, hx⟩ := some_of (l4 ▸ h3 : i < q.code.length)
       rw [drop_of hv, drop_of hx] at he
       simp only [eqF] at he
       repeat' first|(apply Sp.go;·constructor<;>first|exact ss|(change _=_;first|(simp only[go_sem,Nat.reduceBEq,Nat.reduceAdd,Nat.reduceLeDiff,reduceIte]<;>rfl)|rfl)|exact Nat.le_of_ble_eq_true rfl|decide|(repeat' first|(apply Lk.go;constructor)|assumption|exact nb ‹_› ‹_›|exact nt ‹_› ‹_›))|(intro b hb;repeat first|(refine fe hb ?_;intro _ _ hb)|(refine fT hb ?_;intro hb))|refine rt ?_|refine gA rfl ?_|refine gB rfl ?_|apply cT rfl|apply cF rfl|(apply DM.gbT;rfl)|(apply DM.gbF;rfl)|intro h
       (apply DM.ixV (row := v.row) (z := (i : Int)) (by omega) (row_get Ins_.row hv); (· rfl); (· rfl))
       repeat' first|(apply Sp.go;·constructor<;>first|exact ss|(change _=_;first|(simp only[go_sem,Nat.reduceBEq,Nat.reduceAdd,Nat.reduceLeDiff,reduceIte]<;>rfl)|rfl)|exact Nat.le_of_ble_eq_true rfl|decide|(repeat' first|(apply Lk.go;constructor)|assumption|exact nb ‹_› ‹_›|exact nt ‹_› ‹_›))|(intro b hb;repeat first|(refine fe hb ?_;intro _ _ hb)|(refine fT hb ?_;intro hb))|refine rt ?_|refine gA rfl ?_|refine gB rfl ?_|apply cT rfl|apply cF rfl|(apply DM.gbT;rfl)|(apply DM.gbF;rfl)|intro h
       (apply DM.ixV (row := x.row) (z := (i : Int)) (by omega) (row_get Ins_.row hx); (· rfl); (· rfl))
       repeat' first|(apply Sp.go;·constructor<;>first|exact ss|(change _=_;first|(simp only[go_sem,Nat.reduceBEq,Nat.reduceAdd,Nat.reduceLeDiff,reduceIte]<;>rfl)|rfl)|exact Nat.le_of_ble_eq_true rfl|decide|(repeat' first|(apply Lk.go;constructor)|assumption|exact nb ‹_› ‹_›|exact nt ‹_› ‹_›))|(intro b hb;repeat first|(refine fe hb ?_;intro _ _ hb)|(refine fT hb ?_;intro hb))|refine rt ?_|refine gA rfl ?_|refine gB rfl ?_|apply cT rfl|apply cF rfl|(apply DM.gbT;rfl)|(apply DM.gbF;rfl)|intro h
       apply AM.cond (t := !(v.eqb x))
       ·rfl
       ·intro h4
        have h4' : v.eqb x = false := by simpa using h4
        repeat' first|(apply Sp.go;·constructor<;>first|exact ss|(change _=_;first|(simp only[go_sem,Nat.reduceBEq,Nat.reduceAdd,Nat.reduceLeDiff,reduceIte]<;>rfl)|rfl)|exact Nat.le_of_ble_eq_true rfl|decide|(repeat' first|(apply Lk.go;constructor)|assumption|exact nb ‹_› ‹_›|exact nt ‹_› ‹_›))|(intro b hb;repeat first|(refine fe hb ?_;intro _ _ hb)|(refine fT hb ?_;intro hb))|refine rt ?_|refine gA rfl ?_|refine gB rfl ?_|apply cT rfl|apply cF rfl|(apply DM.gbT;rfl)|(apply DM.gbF;rfl)|intro h
        (apply Sr.go;·constructor<;>first|(apply Lk.go;constructor<;>first|exact ss|(change _=_;first|(simp only[go_sem,Nat.reduceBEq,Nat.reduceAdd,Nat.reduceLeDiff,reduceIte]<;>rfl)|rfl)|exact Nat.le_of_ble_eq_true rfl|decide|(repeat' first|(apply Lk.go;constructor)|assumption|exact nb ‹_› ‹_›|exact nt ‹_› ‹_›))|assumption)
        refine avle_eq ?_; rw [AV.bool.injEq, hsame, he, h4']; simp
       ·intro h4
        have h4' : v.eqb x = true := by simpa using h4
        repeat' first|(apply Sp.go;·constructor<;>first|exact ss|(change _=_;first|(simp only[go_sem,Nat.reduceBEq,Nat.reduceAdd,Nat.reduceLeDiff,reduceIte]<;>rfl)|rfl)|exact Nat.le_of_ble_eq_true rfl|decide|(repeat' first|(apply Lk.go;constructor)|assumption|exact nb ‹_› ‹_›|exact nt ‹_› ‹_›))|(intro b hb;repeat first|(refine fe hb ?_;intro _ _ hb)|(refine fT hb ?_;intro hb))|refine rt ?_|refine gA rfl ?_|refine gB rfl ?_|apply cT rfl|apply cF rfl|(apply DM.gbT;rfl)|(apply DM.gbF;rfl)|intro h
        rw [h4', Bool.true_and] at he
        refine AM.roundX (i + 1) ⟨rfl, by omega, he⟩ ?_ (show p.code.length - (i + 1) < p.code.length - i by omega)
        (repeat first | exact envle_nil _ | (refine envle_cons ?_ ?_; · (simp only [go_sem, Nat.reduceBEq, Nat.reduceAdd]; exact AVLe.refl _)))
        refine envle_cons ?_ ?_
        ·simp only [go_sem, Nat.reduceBEq, Nat.reduceAdd]
         refine avle_int ?_
         rw [inc64 h3 ok.code]
        exact envle_nil _
      ·intro h3
       simp at h3
       rw [List.drop_eq_nil_of_le (by omega), List.drop_eq_nil_of_le (by omega)] at he
       have z4 : eqF Ins_.eqb p.code q.code = true := he
       rw [z4] at hsame
       clear he h3 hi
       repeat' first|(apply Sp.go;·constructor<;>first|exact ss|(change _=_;first|(simp only[go_sem,Nat.reduceBEq,Nat.reduceAdd,Nat.reduceLeDiff,reduceIte]<;>rfl)|rfl)|exact Nat.le_of_ble_eq_true rfl|decide|(repeat' first|(apply Lk.go;constructor)|assumption|exact nb ‹_› ‹_›|exact nt ‹_› ‹_›))|(intro b hb;repeat first|(refine fe hb ?_;intro _ _ hb)|(refine fT hb ?_;intro hb))|refine rt ?_|refine gA rfl ?_|refine gB rfl ?_|apply cT rfl|apply cF rfl|(apply DM.gbT;rfl)|(apply DM.gbF;rfl)|intro h
       (apply Sr.go;·constructor<;>first|(apply Lk.go;constructor<;>first|exact ss|(change _=_;first|(simp only[go_sem,Nat.reduceBEq,Nat.reduceAdd,Nat.reduceLeDiff,reduceIte]<;>rfl)|rfl)|exact Nat.le_of_ble_eq_true rfl|decide|(repeat' first|(apply Lk.go;constructor)|assumption|exact nb ‹_› ‹_›|exact nt ‹_› ‹_›))|assumption)
       refine avle_eq ?_; rw [AV.bool.injEq, hsame]; rfl
 all_goals ((apply Sr.go;·constructor<;>first|(apply Lk.go;constructor<;>first|exact ss|(change _=_;first|(simp only[go_sem,Nat.reduceBEq,Nat.reduceAdd,Nat.reduceLeDiff,reduceIte]<;>rfl)|rfl)|exact Nat.le_of_ble_eq_true rfl|decide|(repeat' first|(apply Lk.go;constructor)|assumption|exact nb ‹_› ‹_›|exact nt ‹_› ‹_›))|assumption))
 all_goals (refine avle_eq ?_; rw [AV.bool.injEq]; symm; rw [← Bool.not_eq_true, sameP_iff]; rintro rfl; simp at *)
end Go.Aw.T
namespace Go.Proofs
open Go.Shelf
def Tryz.laysM171_ren : Go.Shelf.Ren := ⟨fun | 171 => 46 | 243 => 89 | 246 => 117 | 283 => 133 | 284 => 134 | 285 => 135 | 286 => 136 | 129 => 147 | 317 => 146 | 318 => 148 | 319 => 149 | 320 => 150 | 337 => 157 | 338 => 158 | n => n, fun | 3 => 3 | 9 => 9 | 2 => 2 | 4 => 4 | 171 => 167 | 0 => 0 | 53 => 144 | 37 => 49 | 5 => 5 | 173 => 170 | 212 => 183 | 51 => 184 | 20 => 20 | 213 => 185 | 46 => 160 | 232 => 195 | 233 => 196 | n => n, fun | 17 => 3 | 18 => 4 | 19 => 5 | n => n⟩
theorem Tryz.laysM171 : Go.Proofs.LaysM.n171 Tryz.prog Tryz.laysM171_ren := {
 mixed := by kernel_rfl
 f129 := Tryz.func147.trans (congrArg some (by kernel_rfl))
 f171 := Tryz.func46.trans (congrArg some (by kernel_rfl))
 f243 := Tryz.func89.trans (congrArg some (by kernel_rfl))
 f246 := Tryz.func117.trans (congrArg some (by kernel_rfl))
 f283 := Tryz.func133.trans (congrArg some (by kernel_rfl))
 f284 := Tryz.func134.trans (congrArg some (by kernel_rfl))
 f285 := Tryz.func135.trans (congrArg some (by kernel_rfl))
 f286 := Tryz.func136.trans (congrArg some (by kernel_rfl))
 f317 := Tryz.func146.trans (congrArg some (by kernel_rfl))
 f318 := Tryz.func148.trans (congrArg some (by kernel_rfl))
 f319 := Tryz.func149.trans (congrArg some (by kernel_rfl))
 f320 := Tryz.func150.trans (congrArg some (by kernel_rfl))
 f337 := Tryz.func157.trans (congrArg some (by kernel_rfl))
 f338 := Tryz.func158.trans (congrArg some (by kernel_rfl))
 t0 := Tryz.underlying0
 a0 := Tryz.isAgg0
 z0 := Tryz.sizeOf0
 v0 := Tryz.zeroValue0
 t2 := Tryz.underlying2
 a2 := Tryz.isAgg2
 z2 := Tryz.sizeOf2
 v2 := Tryz.zeroValue2
 t3 := Tryz.underlying3
 a3 := Tryz.isAgg3
 z3 := Tryz.sizeOf3
 v3 := Tryz.zeroValue3
 t4 := Tryz.underlying4
 a4 := Tryz.isAgg4
 z4 := Tryz.sizeOf4
 v4 := Tryz.zeroValue4
 t5 := Tryz.underlying5
 a5 := Tryz.isAgg5
 z5 := Tryz.sizeOf5
 v5 := Tryz.zeroValue5
 t9 := Tryz.underlying9
 a9 := Tryz.isAgg9
 z9 := Tryz.sizeOf9
 v9 := Tryz.zeroValue9
 t20 := Tryz.underlying20
 a20 := Tryz.isAgg20
 z20 := Tryz.sizeOf20
 v20 := Tryz.zeroValue20
 t37 := Tryz.underlying49
 a37 := Tryz.isAgg49
 z37 := Tryz.sizeOf49
 v37 := Tryz.zeroValue49
 t46 := Tryz.underlying160
 a46 := Tryz.isAgg160
 z46 := Tryz.sizeOf160
 v46 := Tryz.zeroValue160
 t51 := Tryz.underlying184
 a51 := Tryz.isAgg184
 z51 := Tryz.sizeOf184
 v51 := Tryz.zeroValue184
 t53 := Tryz.underlying144
 a53 := Tryz.isAgg144
 z53 := Tryz.sizeOf144
 v53 := Tryz.zeroValue144
 t171 := Tryz.underlying167
 a171 := Tryz.isAgg167
 z171 := Tryz.sizeOf167
 v171 := Tryz.zeroValue167
 t173 := Tryz.underlying170
 a173 := Tryz.isAgg170
 z173 := Tryz.sizeOf170
 v173 := Tryz.zeroValue170
 t212 := Tryz.underlying183
 a212 := Tryz.isAgg183
 z212 := Tryz.sizeOf183
 v212 := Tryz.zeroValue183
 t213 := Tryz.underlying185
 a213 := Tryz.isAgg185
 z213 := Tryz.sizeOf185
 t232 := Tryz.underlying195
 a232 := Tryz.isAgg195
 z232 := Tryz.sizeOf195
 v232 := Tryz.zeroValue195
 t233 := Tryz.underlying196
 a233 := Tryz.isAgg196
 z233 := Tryz.sizeOf196
 v233 := Tryz.zeroValue196
 g17 := by kernel_rfl
 g18 := by kernel_rfl
 g19 := by kernel_rfl
 i0 := by kernel_rfl
 i2 := by kernel_rfl
 i3 := by kernel_rfl
 i4 := by kernel_rfl
 i5 := by kernel_rfl
 i9 := by kernel_rfl
 i20 := by kernel_rfl
 i37 := by kernel_rfl
 i46 := by kernel_rfl
 i51 := by kernel_rfl
 i53 := by kernel_rfl
 i171 := by kernel_rfl
 i173 := by kernel_rfl
 i212 := by kernel_rfl
 i232 := by kernel_rfl
 i233 := by kernel_rfl
 m17 := by kernel_rfl
 m18 := by kernel_rfl
 m19 := by kernel_rfl }
def Tryz.laysC172_ren : Go.Shelf.Ren := ⟨fun | 172 => 50 | 244 => 92 | 245 => 93 | 247 => 121 | 279 => 122 | 280 => 123 | 281 => 124 | 282 => 125 | 287 => 142 | 316 => 143 | 171 => 46 | 205 => 144 | 321 => 154 | 322 => 155 | 243 => 89 | 246 => 117 | 283 => 133 | 284 => 134 | 285 => 135 | 286 => 136 | 129 => 147 | 317 => 146 | 318 => 148 | 319 => 149 | 320 => 150 | 337 => 157 | 338 => 158 | n => n, fun | 9 => 9 | 3 => 3 | 75 => 97 | 76 => 98 | 4 => 4 | 5 => 5 | 167 => 154 | 37 => 49 | 0 => 0 | 85 => 155 | 2 => 2 | 168 => 157 | 53 => 144 | 175 => 175 | 46 => 160 | 210 => 179 | 127 => 148 | 145 => 192 | 143 => 190 | 21 => 21 | 171 => 167 | 173 => 170 | 212 => 183 | 51 => 184 | 20 => 20 | 213 => 185 | 232 => 195 | 233 => 196 | 80 => 133 | n => n, fun | 15 => 1 | 16 => 2 | 17 => 3 | 18 => 4 | 19 => 5 | n => n⟩
theorem Tryz.laysC172 : Go.Proofs.LaysC.n172 Tryz.prog Tryz.laysC172_ren := {
 mixed := by kernel_rfl
 f129 := Tryz.func147.trans (congrArg some (by kernel_rfl))
 f171 := Tryz.func46.trans (congrArg some (by kernel_rfl))
 f172 := Tryz.func50.trans (congrArg some (by kernel_rfl))
 f205 := Tryz.func144.trans (congrArg some (by kernel_rfl))
 f243 := Tryz.func89.trans (congrArg some (by kernel_rfl))
 f244 := Tryz.func92.trans (congrArg some (by kernel_rfl))
 f245 := Tryz.func93.trans (congrArg some (by kernel_rfl))
 f246 := Tryz.func117.trans (congrArg some (by kernel_rfl))
 f247 := Tryz.func121.trans (congrArg some (by kernel_rfl))
 f279 := Tryz.func122.trans (congrArg some (by kernel_rfl))
 f280 := Tryz.func123.trans (congrArg some (by kernel_rfl))
 f281 := Tryz.func124.trans (congrArg some (by kernel_rfl))
 f282 := Tryz.func125.trans (congrArg some (by kernel_rfl))
 f283 := Tryz.func133.trans (congrArg some (by kernel_rfl))
 f284 := Tryz.func134.trans (congrArg some (by kernel_rfl))
 f285 := Tryz.func135.trans (congrArg some (by kernel_rfl))
 f286 := Tryz.func136.trans (congrArg some (by kernel_rfl))
 f287 := Tryz.func142.trans (congrArg some (by kernel_rfl))
 f316 := Tryz.func143.trans (congrArg some (by kernel_rfl))
 f317 := Tryz.func146.trans (congrArg some (by kernel_rfl))
 f318 := Tryz.func148.trans (congrArg some (by kernel_rfl))
 f319 := Tryz.func149.trans (congrArg some (by kernel_rfl))
 f320 := Tryz.func150.trans (congrArg some (by kernel_rfl))
 f321 := Tryz.func154.trans (congrArg some (by kernel_rfl))
 f322 := Tryz.func155.trans (congrArg some (by kernel_rfl))
 f337 := Tryz.func157.trans (congrArg some (by kernel_rfl))
 f338 := Tryz.func158.trans (congrArg some (by kernel_rfl))
 t0 := Tryz.underlying0
 a0 := Tryz.isAgg0
 z0 := Tryz.sizeOf0
 v0 := Tryz.zeroValue0
 t2 := Tryz.underlying2
 a2 := Tryz.isAgg2
 z2 := Tryz.sizeOf2
 v2 := Tryz.zeroValue2
 t3 := Tryz.underlying3
 a3 := Tryz.isAgg3
 z3 := Tryz.sizeOf3
 v3 := Tryz.zeroValue3
 t4 := Tryz.underlying4
 a4 := Tryz.isAgg4
 z4 := Tryz.sizeOf4
 v4 := Tryz.zeroValue4
 t5 := Tryz.underlying5
 a5 := Tryz.isAgg5
 z5 := Tryz.sizeOf5
 v5 := Tryz.zeroValue5
 t9 := Tryz.underlying9
 a9 := Tryz.isAgg9
 z9 := Tryz.sizeOf9
 v9 := Tryz.zeroValue9
 t20 := Tryz.underlying20
 a20 := Tryz.isAgg20
 z20 := Tryz.sizeOf20
 v20 := Tryz.zeroValue20
 t21 := Tryz.underlying21
 a21 := Tryz.isAgg21
 z21 := Tryz.sizeOf21
 v21 := Tryz.zeroValue21
 t37 := Tryz.underlying49
 a37 := Tryz.isAgg49
 z37 := Tryz.sizeOf49
 v37 := Tryz.zeroValue49
 t46 := Tryz.underlying160
 a46 := Tryz.isAgg160
 z46 := Tryz.sizeOf160
 v46 := Tryz.zeroValue160
 t51 := Tryz.underlying184
 a51 := Tryz.isAgg184
 z51 := Tryz.sizeOf184
 v51 := Tryz.zeroValue184
 t53 := Tryz.underlying144
 a53 := Tryz.isAgg144
 z53 := Tryz.sizeOf144
 v53 := Tryz.zeroValue144
 t75 := Tryz.underlying97
 a75 := Tryz.isAgg97
 z75 := Tryz.sizeOf97
 v75 := Tryz.zeroValue97
 t76 := Tryz.underlying98
 a76 := Tryz.isAgg98
 z76 := Tryz.sizeOf98
 v76 := Tryz.zeroValue98
 t85 := Tryz.underlying155
 a85 := Tryz.isAgg155
 z85 := Tryz.sizeOf155
 v85 := Tryz.zeroValue155
 t127 := Tryz.underlying148
 a127 := Tryz.isAgg148
 z127 := Tryz.sizeOf148
 v127 := Tryz.zeroValue148
 t143 := Tryz.underlying190
 a143 := Tryz.isAgg190
 z143 := Tryz.sizeOf190
 v143 := Tryz.zeroValue190
 t145 := Tryz.underlying192
 a145 := Tryz.isAgg192
 z145 := Tryz.sizeOf192
 v145 := Tryz.zeroValue192
 t167 := Tryz.underlying154
 a167 := Tryz.isAgg154
 z167 := Tryz.sizeOf154
 v167 := Tryz.zeroValue154
 t168 := Tryz.underlying157
 a168 := Tryz.isAgg157
 z168 := Tryz.sizeOf157
 v168 := Tryz.zeroValue157
 t171 := Tryz.underlying167
 a171 := Tryz.isAgg167
 z171 := Tryz.sizeOf167
 v171 := Tryz.zeroValue167
 t173 := Tryz.underlying170
 a173 := Tryz.isAgg170
 z173 := Tryz.sizeOf170
 v173 := Tryz.zeroValue170
 t175 := Tryz.underlying175
 a175 := Tryz.isAgg175
 z175 := Tryz.sizeOf175
 v175 := Tryz.zeroValue175
 t210 := Tryz.underlying179
 a210 := Tryz.isAgg179
 z210 := Tryz.sizeOf179
 v210 := Tryz.zeroValue179
 t212 := Tryz.underlying183
 a212 := Tryz.isAgg183
 z212 := Tryz.sizeOf183
 v212 := Tryz.zeroValue183
 t213 := Tryz.underlying185
 a213 := Tryz.isAgg185
 z213 := Tryz.sizeOf185
 t232 := Tryz.underlying195
 a232 := Tryz.isAgg195
 z232 := Tryz.sizeOf195
 v232 := Tryz.zeroValue195
 t233 := Tryz.underlying196
 a233 := Tryz.isAgg196
 z233 := Tryz.sizeOf196
 v233 := Tryz.zeroValue196
 g15 := by kernel_rfl
 g16 := by kernel_rfl
 g17 := by kernel_rfl
 g18 := by kernel_rfl
 g19 := by kernel_rfl
 t80 := Tryz.underlying133
 a80 := Tryz.isAgg133
 z80 := Tryz.sizeOf133
 v80 := Tryz.zeroValue133
 i0 := by kernel_rfl
 i2 := by kernel_rfl
 i3 := by kernel_rfl
 i4 := by kernel_rfl
 i5 := by kernel_rfl
 i9 := by kernel_rfl
 i20 := by kernel_rfl
 i21 := by kernel_rfl
 i37 := by kernel_rfl
 i46 := by kernel_rfl
 i51 := by kernel_rfl
 i53 := by kernel_rfl
 i75 := by kernel_rfl
 i76 := by kernel_rfl
 i80 := by kernel_rfl
 i85 := by kernel_rfl
 i127 := by kernel_rfl
 i143 := by kernel_rfl
 i145 := by kernel_rfl
 i167 := by kernel_rfl
 i168 := by kernel_rfl
 i171 := by kernel_rfl
 i173 := by kernel_rfl
 i175 := by kernel_rfl
 i210 := by kernel_rfl
 i212 := by kernel_rfl
 i232 := by kernel_rfl
 i233 := by kernel_rfl
 m15 := by kernel_rfl
 m16 := by kernel_rfl
 m17 := by kernel_rfl
 m18 := by kernel_rfl
 m19 := by kernel_rfl
 c0 := by kernel_rfl
 c2 := by kernel_rfl
 c3 := by kernel_rfl
 c4 := by kernel_rfl
 c5 := by kernel_rfl
 c9 := by kernel_rfl
 c20 := by kernel_rfl
 c21 := by kernel_rfl
 c37 := by kernel_rfl
 c46 := by kernel_rfl
 c51 := by kernel_rfl
 c53 := by kernel_rfl
 c75 := by kernel_rfl
 c76 := by kernel_rfl
 c80 := by kernel_rfl
 c85 := by kernel_rfl
 c127 := by kernel_rfl
 c143 := by kernel_rfl
 c145 := by kernel_rfl
 c167 := by kernel_rfl
 c168 := by kernel_rfl
 c171 := by kernel_rfl
 c173 := by kernel_rfl
 c175 := by kernel_rfl
 c210 := by kernel_rfl
 c212 := by kernel_rfl
 c213 := by kernel_rfl
 c232 := by kernel_rfl
 c233 := by kernel_rfl }
def Tryz.lays217_ren : Go.Shelf.Ren := ⟨fun | 217 => 137 | 266 => 151 | n => n, fun | 9 => 9 | 5 => 5 | 3 => 3 | n => n, fun | n => n⟩
theorem Tryz.lays217 : Go.Proofs.Lays.n217 Tryz.prog Tryz.lays217_ren := {
 mixed := by kernel_rfl
 f217 := Tryz.func137.trans (congrArg some (by kernel_rfl))
 f266 := Tryz.func151.trans (congrArg some (by kernel_rfl))
 t3 := Tryz.underlying3
 a3 := Tryz.isAgg3
 z3 := Tryz.sizeOf3
 v3 := Tryz.zeroValue3
 t5 := Tryz.underlying5
 a5 := Tryz.isAgg5
 z5 := Tryz.sizeOf5
 v5 := Tryz.zeroValue5
 t9 := Tryz.underlying9
 a9 := Tryz.isAgg9
 z9 := Tryz.sizeOf9
 v9 := Tryz.zeroValue9 }
def Tryz.ren : Go.Shelf.Ren := ⟨fun | 169 => 88 | 167 => 87 | 240 => 116 | 276 => 132 | n => n, fun | 70 => 129 | 9 => 9 | 0 => 0 | 72 => 131 | 37 => 49 | 127 => 148 | 3 => 3 | 5 => 5 | 4 => 4 | 75 => 97 | 164 => 165 | 80 => 133 | 20 => 20 | n => n, fun | n => n⟩
theorem Tryz.lays167b : Go.Proofs.Lays.n167 Tryz.prog Tryz.ren := {
 mixed := by kernel_rfl
 f167 := Tryz.func87.trans (congrArg some (by kernel_rfl))
 f240 := Tryz.func116.trans (congrArg some (by kernel_rfl))
 f276 := Tryz.func132.trans (congrArg some (by kernel_rfl))
 t0 := Tryz.underlying0
 a0 := Tryz.isAgg0
 z0 := Tryz.sizeOf0
 v0 := Tryz.zeroValue0
 t4 := Tryz.underlying4
 a4 := Tryz.isAgg4
 z4 := Tryz.sizeOf4
 v4 := Tryz.zeroValue4
 t5 := Tryz.underlying5
 a5 := Tryz.isAgg5
 z5 := Tryz.sizeOf5
 v5 := Tryz.zeroValue5
 t9 := Tryz.underlying9
 a9 := Tryz.isAgg9
 z9 := Tryz.sizeOf9
 v9 := Tryz.zeroValue9
 t20 := Tryz.underlying20
 a20 := Tryz.isAgg20
 z20 := Tryz.sizeOf20
 v20 := Tryz.zeroValue20
 t37 := Tryz.underlying49
 a37 := Tryz.isAgg49
 z37 := Tryz.sizeOf49
 v37 := Tryz.zeroValue49
 t70 := Tryz.underlying129
 a70 := Tryz.isAgg129
 z70 := Tryz.sizeOf129
 v70 := Tryz.zeroValue129
 t72 := Tryz.underlying131
 a72 := Tryz.isAgg131
 z72 := Tryz.sizeOf131
 v72 := Tryz.zeroValue131
 t75 := Tryz.underlying97
 a75 := Tryz.isAgg97
 z75 := Tryz.sizeOf97
 v75 := Tryz.zeroValue97
 t164 := Tryz.underlying165
 a164 := Tryz.isAgg165
 z164 := Tryz.sizeOf165
 v164 := Tryz.zeroValue165 }
theorem Tryz.lays169b : Go.Proofs.Lays.n169 Tryz.prog Tryz.ren := {
 mixed := by kernel_rfl
 f169 := Tryz.func88.trans (congrArg some (by kernel_rfl))
 t0 := Tryz.underlying0
 a0 := Tryz.isAgg0
 z0 := Tryz.sizeOf0
 v0 := Tryz.zeroValue0
 t3 := Tryz.underlying3
 a3 := Tryz.isAgg3
 z3 := Tryz.sizeOf3
 v3 := Tryz.zeroValue3
 t9 := Tryz.underlying9
 a9 := Tryz.isAgg9
 z9 := Tryz.sizeOf9
 v9 := Tryz.zeroValue9
 t37 := Tryz.underlying49
 a37 := Tryz.isAgg49
 z37 := Tryz.sizeOf49
 v37 := Tryz.zeroValue49
 t70 := Tryz.underlying129
 a70 := Tryz.isAgg129
 z70 := Tryz.sizeOf129
 v70 := Tryz.zeroValue129
 t72 := Tryz.underlying131
 a72 := Tryz.isAgg131
 z72 := Tryz.sizeOf131
 v72 := Tryz.zeroValue131
 t127 := Tryz.underlying148
 a127 := Tryz.isAgg148
 z127 := Tryz.sizeOf148
 v127 := Tryz.zeroValue148 }
theorem Tryz.extra : Builder.Extra Tryz.prog Tryz.ren := {
 sizeBuilder := by kernel_rfl
 liesBuilder := by kernel_rfl
 t5 := Tryz.underlying5
 a5 := Tryz.isAgg5
 z5 := Tryz.sizeOf5
 v5 := Tryz.zeroValue5
 infoByte := by kernel_rfl
 cellsByte := by kernel_rfl
 sizeByte := by kernel_rfl
 neB5 := by decide }
open Go.RowKit
theorem Tryz.WriteByte (B b : Nat) (bs : List Value) (c : Int) (w : World) (h : Lib.IsBuilderF 131 5 B b bs w) (hlen : bs.length + 1 ≤ 140737488355328) (hBw : B ≤ w.heap.size) :
  Calls Tryz.prog 87 #[.pointer (some ⟨b, 0, none⟩), .int .u8 c] w fun e w' => e = .returned .nilIface ∧ (Lib.BuilderAtF 131 5 B b (.pointer (some ⟨b, 0, none⟩)) (bs ++ [.int .u8 c]) w' ∧ Below B w w' ∧ Lib.OthersKept 5 (some b) w w') :=
 Any.Builder_WriteByte_k Tryz.lays167b Tryz.extra B b bs c w h hlen hBw
theorem Tryz.String (B b : Nat) (l : List UInt8) (w : World) (h : Lib.IsBuilderF 131 5 B b (Lib.byteCells l) w) (hBw : B ≤ w.heap.size) :
  Calls Tryz.prog 88 #[.pointer (some ⟨b, 0, none⟩)] w fun e w' => e = .returned (.string ⟨l.toArray⟩) ∧ (Lib.IsBuilderF 131 5 B b (Lib.byteCells l) w' ∧ Below B w w' ∧ Lib.OthersKept 5 (some b) w w') :=
 Any.Builder_String_any_k Tryz.lays169b Tryz.extra B b l w h hBw
theorem Tryz.strconv_Itoa (n : Int) (h0 : -9223372036854775808 ≤ n) (h1 : n ≤ 9223372036854775807) (w : World) (htab : Lib.TabIs Tryz.prog w "internal/strconv.uint64pow10" .u64 Lib.pow10Tab) :
  Calls Tryz.prog 46 #[.int .i64 n] w fun e w' => e = .returned (.string ⟨(Lib.itoa n).toArray⟩) ∧ ∃ k os, w' = Go.Sort.grow (w.drewN k) os := Any.strconv_Itoa Tryz.laysM171 n h0 h1 w htab
theorem Tryz.strconv_Atoi_ok (s : ByteArray) (hmax : s.size ≤ 9223372036854775806) (v : Int) (h : Lib.atoiAll s.data.toList = .ok v) (w : World) :
  Calls Tryz.prog 50 #[.string s] w fun e w' => e = .returned (.tuple #[.int .i64 v, .nilIface]) ∧ (w' = w ∨ ∃ t, w' = Lib.bytesWorld w 5 t) := Any.strconv_Atoi_ok Tryz.laysC172 s hmax v h w
theorem Tryz.IndexByte (s : ByteArray) (c : Int) (w : World) : Calls Tryz.prog 137 #[.string s, .int .u8 c] w fun e w' => e = .returned (.int .i64 (Lib.indexByte s.data.toList c.toNat.toUInt8)) ∧ w' = w := Any.stringslite_IndexByte Tryz.lays217 s c w
end Go.Proofs
