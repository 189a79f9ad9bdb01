/- Part of a proof; own work. -/
import Derived.Test.YtjjngpjdhjeckaaAS5
namespace Go.Aw.T.R
open Go Go.Aw Go.Aw.T Go.Proofs Go.RowKit
set_option maxRecDepth 100000
attribute [local irreducible] Go.Aw.DM Go.Aw.AHeap.setB Go.Aw.AHeap.setT
attribute [local go_sem] peval EOpd.ev Env.get binInt binStr binBool buildParts AV.cells AV.okc setRange minmaxAV AV.one AV.ofCells eqCells eqCell bslRows cond_true cond_false beq_self_eq_true Bool.not_true Bool.not_false beq_true beq_false eq_self if_true Option.some.injEq List.length_cons List.length_nil List.take_succ_cons List.take_zero List.drop_succ_cons List.drop_zero List.set_cons_succ List.set_cons_zero List.nil_append List.cons_append List.append_nil and_self Option.map_some List.map_cons List.map_nil Bool.false_eq_true if_false Nat.zero_add Nat.add_zero true_and and_true Bool.and_true Bool.true_and List.getElem?_cons_zero List.getElem?_cons_succ Nat.zero_le Nat.le_refl
set_option linter.unusedSimpArgs false
set_option linter.unusedVariables false
set_option maxHeartbeats 4000000 in
theorem p22 (p : Prog) : Pure Try.prog 22 [p.av] (.bool (validP p)) := by
  refine ok_args fun ok => ?_
  have bad : validP p = false → AVLe (.bool false) (.bool (validP p)) := by
    intro h
    rw [h]
    exact AVLe.refl _
  refine pure_intro mo Try.func22 c22 fun H => ?_
  unfold e22 r22
  simp only [initEnv, initFrom]
  repeat' first|(apply Sp.go;·constructor<;>first|exact ss|(change _=_;first|(simp only[go_sem,Nat.reduceBEq,Nat.reduceAdd,Nat.reduceLeDiff,reduceIte]<;>rfl)|rfl)|exact Nat.le_of_ble_eq_true rfl|decide|(repeat' first|(apply Lk.go;constructor)|assumption|exact nb ‹_› ‹_›|exact nt ‹_› ‹_›))|(intro b hb;repeat first|(refine fe hb ?_;intro _ _ hb)|(refine fT hb ?_;intro hb))|refine rt ?_|refine gA rfl ?_|refine gB rfl ?_|apply cT rfl|apply cF rfl|(apply DM.gbT;rfl)|(apply DM.gbF;rfl)|intro h
  rename Nat => b1
  (apply DM.pcs (p48 p.name); (· simp only [go_sem, Nat.reduceBEq, Nat.reduceAdd] <;> rfl); (· exact AVLes.refl _))
  repeat' first|(apply Sp.go;·constructor<;>first|exact ss|(change _=_;first|(simp only[go_sem,Nat.reduceBEq,Nat.reduceAdd,Nat.reduceLeDiff,reduceIte]<;>rfl)|rfl)|exact Nat.le_of_ble_eq_true rfl|decide|(repeat' first|(apply Lk.go;constructor)|assumption|exact nb ‹_› ‹_›|exact nt ‹_› ‹_›))|(intro b hb;repeat first|(refine fe hb ?_;intro _ _ hb)|(refine fT hb ?_;intro hb))|refine rt ?_|refine gA rfl ?_|refine gB rfl ?_|apply cT rfl|apply cF rfl|(apply DM.gbT;rfl)|(apply DM.gbF;rfl)|intro h
  all_goals try (
    skip
    (apply DM.pcs (p49 p.vars); (· simp only [go_sem, Nat.reduceBEq, Nat.reduceAdd] <;> rfl); (· exact AVLes.refl _))
    repeat' first|(apply Sp.go;·constructor<;>first|exact ss|(change _=_;first|(simp only[go_sem,Nat.reduceBEq,Nat.reduceAdd,Nat.reduceLeDiff,reduceIte]<;>rfl)|rfl)|exact Nat.le_of_ble_eq_true rfl|decide|(repeat' first|(apply Lk.go;constructor)|assumption|exact nb ‹_› ‹_›|exact nt ‹_› ‹_›))|(intro b hb;repeat first|(refine fe hb ?_;intro _ _ hb)|(refine fT hb ?_;intro hb))|refine rt ?_|refine gA rfl ?_|refine gB rfl ?_|apply cT rfl|apply cF rfl|(apply DM.gbT;rfl)|(apply DM.gbF;rfl)|(apply AM.condS;rfl)|intro h
    )
  all_goals try (
    skip
    (apply Sr.go;·constructor<;>first|(apply Lk.go;constructor<;>first|exact ss|(change _=_;first|(simp only[go_sem,Nat.reduceBEq,Nat.reduceAdd,Nat.reduceLeDiff,reduceIte]<;>rfl)|rfl)|exact Nat.le_of_ble_eq_true rfl|decide|(repeat' first|(apply Lk.go;constructor)|assumption|exact nb ‹_› ‹_›|exact nt ‹_› ‹_›))|assumption)
    refine bad (Bool.eq_false_iff.2 fun hv => ?_)
    simp only [validP, partsOk, inB, Bool.and_eq_true, decide_eq_true_eq] at hv
    simp at *
    first | omega | (simp_all; done)
    )
  rename_i g1 g2 g3 g4 g5 g6 g7
  have g8 := h
  clear h
  have hn1 : isName p.name = true := by simpa using g1
  have hv1 : varsOk p.vars = true := by simpa using g4
  simp only [List.length_map, decide_eq_false_iff_not] at g2 g3 g5 g6 g7 g8
  have hr1 : inB p.role 0 5 = true := by simp only [inB, Bool.and_eq_true, decide_eq_true_eq]; omega
  have hc1 : inB p.code.length 1 1000 = true := by simp only [inB, Bool.and_eq_true, decide_eq_true_eq]; omega
  have hh1 : decide (p.hs.length ≤ 40) = true := decide_eq_true (by omega)
  have ho1 : decide (p.os.length ≤ 40) = true := decide_eq_true (by omega)
  have hval : validP p = (allI p.hs.length (okHd p) && allI p.os.length (okOf p) && allI p.code.length (okIx p)) := by
    rw [validP, partsOk, hn1, hv1, hr1, hc1, hh1, ho1]
    simp
  clear g1 g4 bad
  have badH : ∀ {i}, i < p.hs.length → okHd p i = false → AVLe (.bool false) (.bool (validP p)) := by
    intro i hi h
    refine avle_eq ?_
    rw [AV.bool.injEq, hval, allI_false hi h, Bool.false_and, Bool.false_and]
  have badO : ∀ {i}, i < p.os.length → okOf p i = false → AVLe (.bool false) (.bool (validP p)) := by
    intro i hi h
    refine avle_eq ?_
    rw [AV.bool.injEq, hval, allI_false hi h, Bool.and_false, Bool.false_and]
  have badI : ∀ {i}, i < p.code.length → okIx p i = false → AVLe (.bool false) (.bool (validP p)) := by
    intro i hi h
    refine avle_eq ?_
    rw [AV.bool.injEq, hval, allI_false hi h, Bool.and_false]
  refine AM.loopX (X := Nat) 0 (fun i => [(1, .ptr b1 0), (3, .int .i64 p.code.length), (4, .int .i64 i)]) (fun i H' => H' = H.setB b1 27 p.cells ∧ i ≤ p.hs.length ∧ ∀ j, j < i → okHd p j = true) (fun i => p.hs.length - i) ⟨rfl, by omega, fun j hj => by omega⟩ ?_ ?_
  · (repeat first | exact envle_nil _ | (refine envle_cons ?_ ?_; · (simp only [go_sem, Nat.reduceBEq, Nat.reduceAdd]; exact AVLe.refl _)))
    refine envle_cons ?_ ?_
    · simp only [Env.get, Nat.reduceBEq, cond_true, cond_false, beq_self_eq_true]
      exact avle_int (by simp)
    (repeat first | exact envle_nil _ | (refine envle_cons ?_ ?_; · (simp only [go_sem, Nat.reduceBEq, Nat.reduceAdd]; exact AVLe.refl _)))
  · intro i H' ⟨e, hi, he⟩
    subst e
    repeat' first|(apply Sp.go;·constructor<;>first|exact ss|(change _=_;first|(simp only[go_sem,Nat.reduceBEq,Nat.reduceAdd,Nat.reduceLeDiff,reduceIte]<;>rfl)|rfl)|exact Nat.le_of_ble_eq_true rfl|decide|(repeat' first|(apply Lk.go;constructor)|assumption|exact nb ‹_› ‹_›|exact nt ‹_› ‹_›))|(intro b hb;repeat first|(refine fe hb ?_;intro _ _ hb)|(refine fT hb ?_;intro hb))|refine rt ?_|refine gA rfl ?_|refine gB rfl ?_|apply cT rfl|apply cF rfl|(apply DM.gbT;rfl)|(apply DM.gbF;rfl)|intro h
    (apply AM.cond; (· rfl))
    · intro h3
      simp at h3
      obtain ⟨v, hv⟩ := some_of h3
      have hok : okHd p i = (p.party v.peer v.label && p.target v.entry && decide (idxP (fun w : Hd => decide (w.peer = v.peer) && decide (w.label = v.label)) p.hs 0 = (i : Int))) := by simp [okHd, hv]
      repeat' first|(apply Sp.go;·constructor<;>first|exact ss|(change _=_;first|(simp only[go_sem,Nat.reduceBEq,Nat.reduceAdd,Nat.reduceLeDiff,reduceIte]<;>rfl)|rfl)|exact Nat.le_of_ble_eq_true rfl|decide|(repeat' first|(apply Lk.go;constructor)|assumption|exact nb ‹_› ‹_›|exact nt ‹_› ‹_›))|(intro b hb;repeat first|(refine fe hb ?_;intro _ _ hb)|(refine fT hb ?_;intro hb))|refine rt ?_|refine gA rfl ?_|refine gB rfl ?_|apply cT rfl|apply cF rfl|(apply DM.gbT;rfl)|(apply DM.gbF;rfl)|intro h
      (apply DM.ixV (row := v.row) (z := (i : Int)) (by omega) (row_get Hd.row hv); (· rfl); (· rfl))
      repeat' first|(apply Sp.go;·constructor<;>first|exact ss|(change _=_;first|(simp only[go_sem,Nat.reduceBEq,Nat.reduceAdd,Nat.reduceLeDiff,reduceIte]<;>rfl)|rfl)|exact Nat.le_of_ble_eq_true rfl|decide|(repeat' first|(apply Lk.go;constructor)|assumption|exact nb ‹_› ‹_›|exact nt ‹_› ‹_›))|(intro b hb;repeat first|(refine fe hb ?_;intro _ _ hb)|(refine fT hb ?_;intro hb))|refine rt ?_|refine gA rfl ?_|refine gB rfl ?_|apply cT rfl|apply cF rfl|(apply DM.gbT;rfl)|(apply DM.gbF;rfl)|intro h
      (apply DM.pcs (p50 v.peer v.label p.role); (· simp only [go_sem, Nat.reduceBEq, Nat.reduceAdd] <;> rfl); (· exact AVLes.refl _))
      repeat' first|(apply Sp.go;·constructor<;>first|exact ss|(change _=_;first|(simp only[go_sem,Nat.reduceBEq,Nat.reduceAdd,Nat.reduceLeDiff,reduceIte]<;>rfl)|rfl)|exact Nat.le_of_ble_eq_true rfl|decide|(repeat' first|(apply Lk.go;constructor)|assumption|exact nb ‹_› ‹_›|exact nt ‹_› ‹_›))|(intro b hb;repeat first|(refine fe hb ?_;intro _ _ hb)|(refine fT hb ?_;intro hb))|refine rt ?_|refine gA rfl ?_|refine gB rfl ?_|apply cT rfl|apply cF rfl|(apply DM.gbT;rfl)|(apply DM.gbF;rfl)|(apply AM.condS;rfl)|intro h
      all_goals try (
        skip
        (apply Sr.go;·constructor<;>first|(apply Lk.go;constructor<;>first|exact ss|(change _=_;first|(simp only[go_sem,Nat.reduceBEq,Nat.reduceAdd,Nat.reduceLeDiff,reduceIte]<;>rfl)|rfl)|exact Nat.le_of_ble_eq_true rfl|decide|(repeat' first|(apply Lk.go;constructor)|assumption|exact nb ‹_› ‹_›|exact nt ‹_› ‹_›))|assumption)
        refine badH h3 ?_
        rw [hok, Bool.eq_false_iff]
        intro hq
        simp only [Prog.party, Prog.target, inB, Bool.and_eq_true, decide_eq_true_eq] at hq
        first | (simp only [decide_eq_true_eq] at h; omega) | (simp only [inB, Bool.not_eq_true', Bool.and_eq_false_iff, decide_eq_false_iff_not] at h; omega)
        )
      rename_i f1 f2
      have hpt : p.party v.peer v.label = true := by simpa [Prog.party] using f1
      have htg : p.target v.entry = true := by
        simp only [decide_eq_false_iff_not] at f2 h
        simp only [Prog.target, inB, Bool.and_eq_true, decide_eq_true_eq]
        omega
      clear f1 f2 h
      refine AM.loopX (X := Nat) 0 (fun k => [(1, .ptr b1 0), (3, .int .i64 p.code.length), (4, .int .i64 i), (5, .ptr b 0), (6, .int .i64 k)]) (fun k H' => H' = (H.setB b1 27 p.cells).setB b 129 v.row ∧ k ≤ i ∧ ∀ j w, j < k → p.hs[j]? = some w → (decide (w.peer = v.peer) && decide (w.label = v.label)) = false) (fun k => i - k) ⟨rfl, by omega, fun j w hj => by omega⟩ ?_ ?_
      · (repeat first | exact envle_nil _ | (refine envle_cons ?_ ?_; · (simp only [go_sem, Nat.reduceBEq, Nat.reduceAdd]; exact AVLe.refl _)))
      · intro k H' ⟨e, hk, hn⟩
        subst e
        repeat' first|(apply Sp.go;·constructor<;>first|exact ss|(change _=_;first|(simp only[go_sem,Nat.reduceBEq,Nat.reduceAdd,Nat.reduceLeDiff,reduceIte]<;>rfl)|rfl)|exact Nat.le_of_ble_eq_true rfl|decide|(repeat' first|(apply Lk.go;constructor)|assumption|exact nb ‹_› ‹_›|exact nt ‹_› ‹_›))|(intro b hb;repeat first|(refine fe hb ?_;intro _ _ hb)|(refine fT hb ?_;intro hb))|refine rt ?_|refine gA rfl ?_|refine gB rfl ?_|apply cT rfl|apply cF rfl|(apply DM.gbT;rfl)|(apply DM.gbF;rfl)|intro h
        (apply AM.cond; (· rfl))
        · intro h5
          simp at h5
          obtain ⟨w, hw⟩ := some_of (show k < p.hs.length by omega)
          repeat' first|(apply Sp.go;·constructor<;>first|exact ss|(change _=_;first|(simp only[go_sem,Nat.reduceBEq,Nat.reduceAdd,Nat.reduceLeDiff,reduceIte]<;>rfl)|rfl)|exact Nat.le_of_ble_eq_true rfl|decide|(repeat' first|(apply Lk.go;constructor)|assumption|exact nb ‹_› ‹_›|exact nt ‹_› ‹_›))|(intro b hb;repeat first|(refine fe hb ?_;intro _ _ hb)|(refine fT hb ?_;intro hb))|refine rt ?_|refine gA rfl ?_|refine gB rfl ?_|apply cT rfl|apply cF rfl|(apply DM.gbT;rfl)|(apply DM.gbF;rfl)|intro h
          (apply DM.ixV (row := w.row) (z := (k : Int)) (by omega) (row_get Hd.row hw); (· rfl); (· rfl))
          repeat' first|(apply Sp.go;·constructor<;>first|exact ss|(change _=_;first|(simp only[go_sem,Nat.reduceBEq,Nat.reduceAdd,Nat.reduceLeDiff,reduceIte]<;>rfl)|rfl)|exact Nat.le_of_ble_eq_true rfl|decide|(repeat' first|(apply Lk.go;constructor)|assumption|exact nb ‹_› ‹_›|exact nt ‹_› ‹_›))|(intro b hb;repeat first|(refine fe hb ?_;intro _ _ hb)|(refine fT hb ?_;intro hb))|refine rt ?_|refine gA rfl ?_|refine gB rfl ?_|apply cT rfl|apply cF rfl|(apply DM.gbT;rfl)|(apply DM.gbF;rfl)|intro h
          · skip
            (apply DM.ixV (row := w.row) (z := (k : Int)) (by omega) (row_get Hd.row hw); (· rfl); (· rfl))
            repeat' first|(apply Sp.go;·constructor<;>first|exact ss|(change _=_;first|(simp only[go_sem,Nat.reduceBEq,Nat.reduceAdd,Nat.reduceLeDiff,reduceIte]<;>rfl)|rfl)|exact Nat.le_of_ble_eq_true rfl|decide|(repeat' first|(apply Lk.go;constructor)|assumption|exact nb ‹_› ‹_›|exact nt ‹_› ‹_›))|(intro b hb;repeat first|(refine fe hb ?_;intro _ _ hb)|(refine fT hb ?_;intro hb))|refine rt ?_|refine gA rfl ?_|refine gB rfl ?_|apply cT rfl|apply cF rfl|(apply DM.gbT;rfl)|(apply DM.gbF;rfl)|intro h
            (apply AM.cond; (· rfl))
            · intro h6
              repeat' first|(apply Sp.go;·constructor<;>first|exact ss|(change _=_;first|(simp only[go_sem,Nat.reduceBEq,Nat.reduceAdd,Nat.reduceLeDiff,reduceIte]<;>rfl)|rfl)|exact Nat.le_of_ble_eq_true rfl|decide|(repeat' first|(apply Lk.go;constructor)|assumption|exact nb ‹_› ‹_›|exact nt ‹_› ‹_›))|(intro b hb;repeat first|(refine fe hb ?_;intro _ _ hb)|(refine fT hb ?_;intro hb))|refine rt ?_|refine gA rfl ?_|refine gB rfl ?_|apply cT rfl|apply cF rfl|(apply DM.gbT;rfl)|(apply DM.gbF;rfl)|intro h
              (apply Sr.go;·constructor<;>first|(apply Lk.go;constructor<;>first|exact ss|(change _=_;first|(simp only[go_sem,Nat.reduceBEq,Nat.reduceAdd,Nat.reduceLeDiff,reduceIte]<;>rfl)|rfl)|exact Nat.le_of_ble_eq_true rfl|decide|(repeat' first|(apply Lk.go;constructor)|assumption|exact nb ‹_› ‹_›|exact nt ‹_› ‹_›))|assumption)
              refine badH h3 ?_
              have := idx_lt (q := fun w : Hd => decide (w.peer = v.peer) && decide (w.label = v.label)) 0 (by omega) hw (by simp only [h, h6]; rfl)
              rw [hok, decide_eq_false (by omega), Bool.and_false]
            · intro h6
              repeat' first|(apply Sp.go;·constructor<;>first|exact ss|(change _=_;first|(simp only[go_sem,Nat.reduceBEq,Nat.reduceAdd,Nat.reduceLeDiff,reduceIte]<;>rfl)|rfl)|exact Nat.le_of_ble_eq_true rfl|decide|(repeat' first|(apply Lk.go;constructor)|assumption|exact nb ‹_› ‹_›|exact nt ‹_› ‹_›))|(intro b hb;repeat first|(refine fe hb ?_;intro _ _ hb)|(refine fT hb ?_;intro hb))|refine rt ?_|refine gA rfl ?_|refine gB rfl ?_|apply cT rfl|apply cF rfl|(apply DM.gbT;rfl)|(apply DM.gbF;rfl)|intro h
              refine AM.roundX (k + 1) ⟨rfl, by omega, fun j u hj hu => ?_⟩ ?_ ?_
              · by_cases e : j = k
                · subst e
                  rw [hw] at hu
                  cases hu
                  rw [h6, Bool.and_false]
                · exact hn j u (by omega) hu
              · (repeat first | exact envle_nil _ | (refine envle_cons ?_ ?_; · (simp only [go_sem, Nat.reduceBEq, Nat.reduceAdd]; exact AVLe.refl _)))
                refine envle_cons ?_ ?_
                · simp only [go_sem, Nat.reduceBEq, Nat.reduceAdd]
                  refine avle_int ?_
                  rw [inc64 h5 (by have := ok.hs; omega)]
                exact envle_nil _
              · show i - (k + 1) < i - k
                omega
          · refine AM.roundX (k + 1) ⟨rfl, by omega, fun j u hj hu => ?_⟩ ?_ ?_
            · by_cases e : j = k
              · subst e
                rw [hw] at hu
                cases hu
                rw [h, Bool.false_and]
              · exact hn j u (by omega) hu
            · (repeat first | exact envle_nil _ | (refine envle_cons ?_ ?_; · (simp only [go_sem, Nat.reduceBEq, Nat.reduceAdd]; exact AVLe.refl _)))
              refine envle_cons ?_ ?_
              · simp only [go_sem, Nat.reduceBEq, Nat.reduceAdd]
                refine avle_int ?_
                rw [inc64 h5 (by have := ok.hs; omega)]
              exact envle_nil _
            · show i - (k + 1) < i - k
              omega
        · intro h5
          simp at h5
          have : k = i := by omega
          subst this
          have hidx := idx_at (q := fun w : Hd => decide (w.peer = v.peer) && decide (w.label = v.label)) 0 (by omega) hv (by simp) hn
          repeat' first|(apply Sp.go;·constructor<;>first|exact ss|(change _=_;first|(simp only[go_sem,Nat.reduceBEq,Nat.reduceAdd,Nat.reduceLeDiff,reduceIte]<;>rfl)|rfl)|exact Nat.le_of_ble_eq_true rfl|decide|(repeat' first|(apply Lk.go;constructor)|assumption|exact nb ‹_› ‹_›|exact nt ‹_› ‹_›))|(intro b hb;repeat first|(refine fe hb ?_;intro _ _ hb)|(refine fT hb ?_;intro hb))|refine rt ?_|refine gA rfl ?_|refine gB rfl ?_|apply cT rfl|apply cF rfl|(apply DM.gbT;rfl)|(apply DM.gbF;rfl)|intro h
          refine AM.forget (H.setB b1 27 p.cells) ?_ ?_
          · (repeat' first|assumption|(apply Lk.go;constructor))
          refine AM.roundX (k + 1) ⟨rfl, by omega, fun j hj => ?_⟩ ?_ ?_
          · by_cases e : j = k
            · subst e
              rw [hok, hpt, htg, decide_eq_true (by omega)]
              rfl
            · exact he j (by omega)
          · (repeat first | exact envle_nil _ | (refine envle_cons ?_ ?_; · (simp only [go_sem, Nat.reduceBEq, Nat.reduceAdd]; exact AVLe.refl _)))
            refine envle_cons ?_ ?_
            · simp only [go_sem, Nat.reduceBEq, Nat.reduceAdd]
              refine avle_int ?_
              rw [inc64 h3 ok.hs]
            exact envle_nil _
          · show p.hs.length - (k + 1) < p.hs.length - k
            omega
    · intro h3
      simp at h3
      have hall : allI p.hs.length (okHd p) = true := allI_true fun j hj => he j (by omega)
      rw [hall, Bool.true_and] at hval
      repeat' first|(apply Sp.go;·constructor<;>first|exact ss|(change _=_;first|(simp only[go_sem,Nat.reduceBEq,Nat.reduceAdd,Nat.reduceLeDiff,reduceIte]<;>rfl)|rfl)|exact Nat.le_of_ble_eq_true rfl|decide|(repeat' first|(apply Lk.go;constructor)|assumption|exact nb ‹_› ‹_›|exact nt ‹_› ‹_›))|(intro b hb;repeat first|(refine fe hb ?_;intro _ _ hb)|(refine fT hb ?_;intro hb))|refine rt ?_|refine gA rfl ?_|refine gB rfl ?_|apply cT rfl|apply cF rfl|(apply DM.gbT;rfl)|(apply DM.gbF;rfl)|intro h
      refine AM.loopX (X := Nat) 0 (fun i => [(1, .ptr b1 0), (3, .int .i64 p.code.length), (7, .int .i64 i)]) (fun i H' => H' = H.setB b1 27 p.cells ∧ i ≤ p.os.length ∧ ∀ j, j < i → okOf p j = true) (fun i => p.os.length - i) ⟨rfl, by omega, fun j hj => by omega⟩ ?_ ?_
      · (repeat first | exact envle_nil _ | (refine envle_cons ?_ ?_; · (simp only [go_sem, Nat.reduceBEq, Nat.reduceAdd]; exact AVLe.refl _)))
      · intro i H' ⟨e, hi, he⟩
        subst e
        repeat' first|(apply Sp.go;·constructor<;>first|exact ss|(change _=_;first|(simp only[go_sem,Nat.reduceBEq,Nat.reduceAdd,Nat.reduceLeDiff,reduceIte]<;>rfl)|rfl)|exact Nat.le_of_ble_eq_true rfl|decide|(repeat' first|(apply Lk.go;constructor)|assumption|exact nb ‹_› ‹_›|exact nt ‹_› ‹_›))|(intro b hb;repeat first|(refine fe hb ?_;intro _ _ hb)|(refine fT hb ?_;intro hb))|refine rt ?_|refine gA rfl ?_|refine gB rfl ?_|apply cT rfl|apply cF rfl|(apply DM.gbT;rfl)|(apply DM.gbF;rfl)|intro h
        (apply AM.cond; (· rfl))
        · intro h3
          simp at h3
          obtain ⟨v, hv⟩ := some_of h3
          have hok : okOf p i = (p.party v.peer v.label && p.target v.args && (decide (v.cond = -1) || p.target v.cond)) := by simp [okOf, hv]
          repeat' first|(apply Sp.go;·constructor<;>first|exact ss|(change _=_;first|(simp only[go_sem,Nat.reduceBEq,Nat.reduceAdd,Nat.reduceLeDiff,reduceIte]<;>rfl)|rfl)|exact Nat.le_of_ble_eq_true rfl|decide|(repeat' first|(apply Lk.go;constructor)|assumption|exact nb ‹_› ‹_›|exact nt ‹_› ‹_›))|(intro b hb;repeat first|(refine fe hb ?_;intro _ _ hb)|(refine fT hb ?_;intro hb))|refine rt ?_|refine gA rfl ?_|refine gB rfl ?_|apply cT rfl|apply cF rfl|(apply DM.gbT;rfl)|(apply DM.gbF;rfl)|intro h
          (apply DM.ixV (row := v.row) (z := (i : Int)) (by omega) (row_get Of_.row hv); (· rfl); (· rfl))
          repeat' first|(apply Sp.go;·constructor<;>first|exact ss|(change _=_;first|(simp only[go_sem,Nat.reduceBEq,Nat.reduceAdd,Nat.reduceLeDiff,reduceIte]<;>rfl)|rfl)|exact Nat.le_of_ble_eq_true rfl|decide|(repeat' first|(apply Lk.go;constructor)|assumption|exact nb ‹_› ‹_›|exact nt ‹_› ‹_›))|(intro b hb;repeat first|(refine fe hb ?_;intro _ _ hb)|(refine fT hb ?_;intro hb))|refine rt ?_|refine gA rfl ?_|refine gB rfl ?_|apply cT rfl|apply cF rfl|(apply DM.gbT;rfl)|(apply DM.gbF;rfl)|intro h
          (apply DM.pcs (p50 v.peer v.label p.role); (· simp only [go_sem, Nat.reduceBEq, Nat.reduceAdd] <;> rfl); (· exact AVLes.refl _))
          repeat' first|(apply Sp.go;·constructor<;>first|exact ss|(change _=_;first|(simp only[go_sem,Nat.reduceBEq,Nat.reduceAdd,Nat.reduceLeDiff,reduceIte]<;>rfl)|rfl)|exact Nat.le_of_ble_eq_true rfl|decide|(repeat' first|(apply Lk.go;constructor)|assumption|exact nb ‹_› ‹_›|exact nt ‹_› ‹_›))|(intro b hb;repeat first|(refine fe hb ?_;intro _ _ hb)|(refine fT hb ?_;intro hb))|refine rt ?_|refine gA rfl ?_|refine gB rfl ?_|apply cT rfl|apply cF rfl|(apply DM.gbT;rfl)|(apply DM.gbF;rfl)|(apply AM.condS;rfl)|intro h
          all_goals try (
            skip
            (apply Sr.go;·constructor<;>first|(apply Lk.go;constructor<;>first|exact ss|(change _=_;first|(simp only[go_sem,Nat.reduceBEq,Nat.reduceAdd,Nat.reduceLeDiff,reduceIte]<;>rfl)|rfl)|exact Nat.le_of_ble_eq_true rfl|decide|(repeat' first|(apply Lk.go;constructor)|assumption|exact nb ‹_› ‹_›|exact nt ‹_› ‹_›))|assumption)
            refine badO h3 ?_
            rw [hok, Bool.eq_false_iff]
            intro hq
            simp only [Prog.party, Prog.target, inB, Bool.and_eq_true, Bool.or_eq_true, decide_eq_true_eq] at hq
            first | (simp only [decide_eq_true_eq] at h; omega) | (simp only [inB, Bool.not_eq_true', Bool.and_eq_false_iff, decide_eq_false_iff_not] at h; omega)
            )
          rename_i f1 f2 f3 f4
          have hokt : okOf p i = true := by
            have hpt : p.party v.peer v.label = true := by simpa [Prog.party] using f1
            simp only [decide_eq_false_iff_not] at f2 f3 f4 h
            have htg : p.target v.args = true := by
              simp only [Prog.target, inB, Bool.and_eq_true, decide_eq_true_eq]
              omega
            rw [hok, hpt, htg]
            simp only [Bool.true_and, Bool.or_eq_true, Prog.target, inB, Bool.and_eq_true, decide_eq_true_eq]
            omega
          refine AM.forget (H.setB b1 27 p.cells) ?_ ?_
          · (repeat' first|assumption|(apply Lk.go;constructor))
          refine AM.roundX (i + 1) ⟨rfl, by omega, fun j hj => ?_⟩ ?_ ?_
          · by_cases e : j = i
            · subst e
              exact hokt
            · exact he j (by omega)
          · (repeat first | exact envle_nil _ | (refine envle_cons ?_ ?_; · (simp only [go_sem, Nat.reduceBEq, Nat.reduceAdd]; exact AVLe.refl _)))
            refine envle_cons ?_ ?_
            · simp only [go_sem, Nat.reduceBEq, Nat.reduceAdd]
              refine avle_int ?_
              rw [inc64 h3 ok.os]
            exact envle_nil _
          · show p.os.length - (i + 1) < p.os.length - i
            omega
        · intro h3
          simp at h3
          have hall2 : allI p.os.length (okOf p) = true := allI_true fun j hj => he j (by omega)
          rw [hall2, Bool.true_and] at hval
          repeat' first|(apply Sp.go;·constructor<;>first|exact ss|(change _=_;first|(simp only[go_sem,Nat.reduceBEq,Nat.reduceAdd,Nat.reduceLeDiff,reduceIte]<;>rfl)|rfl)|exact Nat.le_of_ble_eq_true rfl|decide|(repeat' first|(apply Lk.go;constructor)|assumption|exact nb ‹_› ‹_›|exact nt ‹_› ‹_›))|(intro b hb;repeat first|(refine fe hb ?_;intro _ _ hb)|(refine fT hb ?_;intro hb))|refine rt ?_|refine gA rfl ?_|refine gB rfl ?_|apply cT rfl|apply cF rfl|(apply DM.gbT;rfl)|(apply DM.gbF;rfl)|intro h
          refine AM.loopX (X := Nat) 0 (fun i => [(1, .ptr b1 0), (3, .int .i64 p.code.length), (9, .int .i64 i)]) (fun i H' => H' = H.setB b1 27 p.cells ∧ i ≤ p.code.length ∧ ∀ j, j < i → okIx p j = true) (fun i => p.code.length - i) ⟨rfl, by omega, fun j hj => by omega⟩ ?_ ?_
          · (repeat first | exact envle_nil _ | (refine envle_cons ?_ ?_; · (simp only [go_sem, Nat.reduceBEq, Nat.reduceAdd]; exact AVLe.refl _)))
          · intro i H' ⟨e, hi, he⟩
            subst e
            repeat' first|(apply Sp.go;·constructor<;>first|exact ss|(change _=_;first|(simp only[go_sem,Nat.reduceBEq,Nat.reduceAdd,Nat.reduceLeDiff,reduceIte]<;>rfl)|rfl)|exact Nat.le_of_ble_eq_true rfl|decide|(repeat' first|(apply Lk.go;constructor)|assumption|exact nb ‹_› ‹_›|exact nt ‹_› ‹_›))|(intro b hb;repeat first|(refine fe hb ?_;intro _ _ hb)|(refine fT hb ?_;intro hb))|refine rt ?_|refine gA rfl ?_|refine gB rfl ?_|apply cT rfl|apply cF rfl|(apply DM.gbT;rfl)|(apply DM.gbF;rfl)|intro h
            (apply AM.cond; (· rfl))
            · intro h3
              simp at h3
              obtain ⟨x, hx⟩ := some_of h3
              have hok : okIx p i = okIns p x := by simp [okIx, hx]
              repeat' first|(apply Sp.go;·constructor<;>first|exact ss|(change _=_;first|(simp only[go_sem,Nat.reduceBEq,Nat.reduceAdd,Nat.reduceLeDiff,reduceIte]<;>rfl)|rfl)|exact Nat.le_of_ble_eq_true rfl|decide|(repeat' first|(apply Lk.go;constructor)|assumption|exact nb ‹_› ‹_›|exact nt ‹_› ‹_›))|(intro b hb;repeat first|(refine fe hb ?_;intro _ _ hb)|(refine fT hb ?_;intro hb))|refine rt ?_|refine gA rfl ?_|refine gB rfl ?_|apply cT rfl|apply cF rfl|(apply DM.gbT;rfl)|(apply DM.gbF;rfl)|intro h
              (apply DM.ixV (row := x.row) (z := (i : Int)) (by omega) (row_get Ins_.row hx); (· rfl); (· rfl))
              repeat' first|(apply Sp.go;·constructor<;>first|exact ss|(change _=_;first|(simp only[go_sem,Nat.reduceBEq,Nat.reduceAdd,Nat.reduceLeDiff,reduceIte]<;>rfl)|rfl)|exact Nat.le_of_ble_eq_true rfl|decide|(repeat' first|(apply Lk.go;constructor)|assumption|exact nb ‹_› ‹_›|exact nt ‹_› ‹_›))|(intro b hb;repeat first|(refine fe hb ?_;intro _ _ hb)|(refine fT hb ?_;intro hb))|refine rt ?_|refine gA rfl ?_|refine gB rfl ?_|apply cT rfl|apply cF rfl|(apply DM.gbT;rfl)|(apply DM.gbF;rfl)|intro h
              (apply DM.pcs (p51 x); (· simp only [go_sem, Nat.reduceBEq, Nat.reduceAdd] <;> rfl); (· exact AVLes.refl _))
              repeat' first|(apply Sp.go;·constructor<;>first|exact ss|(change _=_;first|(simp only[go_sem,Nat.reduceBEq,Nat.reduceAdd,Nat.reduceLeDiff,reduceIte]<;>rfl)|rfl)|exact Nat.le_of_ble_eq_true rfl|decide|(repeat' first|(apply Lk.go;constructor)|assumption|exact nb ‹_› ‹_›|exact nt ‹_› ‹_›))|(intro b hb;repeat first|(refine fe hb ?_;intro _ _ hb)|(refine fT hb ?_;intro hb))|refine rt ?_|refine gA rfl ?_|refine gB rfl ?_|apply cT rfl|apply cF rfl|(apply DM.gbT;rfl)|(apply DM.gbF;rfl)|(apply AM.condS;rfl)|intro h
              · skip
                have fm : formed x = true := by simpa using h
                clear h
                have hlow : x.op = 19 ∨ x.op = 20 ∨ x.op = 22 → 0 ≤ x.n := by
                  intro ho
                  have fe := formed_eq x
                  rw [fm] at fe
                  have fe2 := fe.symm
                  simp only [Bool.and_eq_true] at fe2
                  have f3 := fe2.1.2
                  rw [show numd x.op = (0, 999, true) by rcases ho with h | h | h <;> rw [h] <;> rfl] at f3
                  simp only [inB, Bool.and_eq_true, decide_eq_true_eq] at f3
                  exact f3.1
                have hI : okIns p x = decide ((x.op = 3 ∨ x.op = 5 → x.n < p.vars.length) ∧ (x.op = 19 ∨ x.op = 20 ∨ x.op = 22 → x.n < p.code.length)) := by
                  rw [okIns, fm, Bool.true_and]
                  split
                  · rename_i ho
                    rw [decide_eq_decide]
                    constructor
                    · intro h; exact ⟨fun _ => h, fun h2 => by omega⟩
                    · intro h; exact h.1 ho
                  · rename_i ho
                    split
                    · rename_i ho2
                      rw [Bool.eq_iff_iff, decide_eq_true_eq]
                      simp only [Prog.target, inB, Bool.and_eq_true, decide_eq_true_eq]
                      have := hlow ho2
                      constructor
                      · intro h; exact ⟨fun h2 => absurd h2 ho, fun _ => by omega⟩
                      · intro h; have := h.2 ho2; omega
                    · rename_i ho2
                      rw [decide_eq_true]
                      exact ⟨fun h2 => absurd h2 ho, fun h2 => absurd h2 ho2⟩
                have okRound : okIns p x = true → ∀ j, j < i + 1 → okIx p j = true := by
                  intro h j hj
                  by_cases e : j = i
                  · subst e
                    rw [hok, h]
                  · exact he j (by omega)
                clear hlow fm hval hall hall2
                (apply DM.pcs (p42 x.op); (· simp only [go_sem, Nat.reduceBEq, Nat.reduceAdd] <;> rfl); (· exact AVLes.refl _))
                repeat' first|(apply Sp.go;·constructor<;>first|exact ss|(change _=_;first|(simp only[go_sem,Nat.reduceBEq,Nat.reduceAdd,Nat.reduceLeDiff,reduceIte]<;>rfl)|rfl)|exact Nat.le_of_ble_eq_true rfl|decide|(repeat' first|(apply Lk.go;constructor)|assumption|exact nb ‹_› ‹_›|exact nt ‹_› ‹_›))|(intro b hb;repeat first|(refine fe hb ?_;intro _ _ hb)|(refine fT hb ?_;intro hb))|refine rt ?_|refine gA rfl ?_|refine gB rfl ?_|apply cT rfl|apply cF rfl|(apply DM.gbT;rfl)|(apply DM.gbF;rfl)|(apply AM.condS;rfl)|intro h
                all_goals first
                  | (skip
                     (apply Sr.go;·constructor<;>first|(apply Lk.go;constructor<;>first|exact ss|(change _=_;first|(simp only[go_sem,Nat.reduceBEq,Nat.reduceAdd,Nat.reduceLeDiff,reduceIte]<;>rfl)|rfl)|exact Nat.le_of_ble_eq_true rfl|decide|(repeat' first|(apply Lk.go;constructor)|assumption|exact nb ‹_› ‹_›|exact nt ‹_› ‹_›))|assumption)
                     refine badI h3 ?_
                     rw [hok, hI, decide_eq_false_iff_not]
                     clear he okRound badI badO badH hok hI
                     simp at *
                     omega)
                  | (refine AM.forget (H.setB b1 27 p.cells) ?_ ?_
                     · (repeat' first|assumption|(apply Lk.go;constructor))
                     refine AM.roundX (i + 1) ⟨rfl, by omega, ?_⟩ ?_ ?_
                     · refine okRound ?_
                       rw [hI, decide_eq_true_eq]
                       clear he okRound badI badO badH hok hI
                       simp at *
                       omega
                     · (repeat first | exact envle_nil _ | (refine envle_cons ?_ ?_; · (simp only [go_sem, Nat.reduceBEq, Nat.reduceAdd]; exact AVLe.refl _)))
                       refine envle_cons ?_ ?_
                       · simp only [go_sem, Nat.reduceBEq, Nat.reduceAdd]
                         refine avle_int ?_
                         rw [inc64 h3 ok.code]
                       exact envle_nil _
                     · show p.code.length - (i + 1) < p.code.length - i
                       omega)
              · (apply Sr.go;·constructor<;>first|(apply Lk.go;constructor<;>first|exact ss|(change _=_;first|(simp only[go_sem,Nat.reduceBEq,Nat.reduceAdd,Nat.reduceLeDiff,reduceIte]<;>rfl)|rfl)|exact Nat.le_of_ble_eq_true rfl|decide|(repeat' first|(apply Lk.go;constructor)|assumption|exact nb ‹_› ‹_›|exact nt ‹_› ‹_›))|assumption)
                exact badI h3 (by rw [hok, okIns]; simp at h; rw [h, Bool.false_and])
            · intro h3
              simp at h3
              rw [allI_true fun j hj => he j (by omega)] at hval
              repeat' first|(apply Sp.go;·constructor<;>first|exact ss|(change _=_;first|(simp only[go_sem,Nat.reduceBEq,Nat.reduceAdd,Nat.reduceLeDiff,reduceIte]<;>rfl)|rfl)|exact Nat.le_of_ble_eq_true rfl|decide|(repeat' first|(apply Lk.go;constructor)|assumption|exact nb ‹_› ‹_›|exact nt ‹_› ‹_›))|(intro b hb;repeat first|(refine fe hb ?_;intro _ _ hb)|(refine fT hb ?_;intro hb))|refine rt ?_|refine gA rfl ?_|refine gB rfl ?_|apply cT rfl|apply cF rfl|(apply DM.gbT;rfl)|(apply DM.gbF;rfl)|intro h
              (apply Sr.go;·constructor<;>first|(apply Lk.go;constructor<;>first|exact ss|(change _=_;first|(simp only[go_sem,Nat.reduceBEq,Nat.reduceAdd,Nat.reduceLeDiff,reduceIte]<;>rfl)|rfl)|exact Nat.le_of_ble_eq_true rfl|decide|(repeat' first|(apply Lk.go;constructor)|assumption|exact nb ‹_› ‹_›|exact nt ‹_› ‹_›))|assumption)
              rw [hval]
              exact AVLe.refl _
end Go.Aw.T.R
namespace Go.Aw.T
open Go Go.Aw Go.Proofs Go.RowKit
set_option maxRecDepth 100000
attribute [local irreducible] Go.Aw.DM Go.Aw.AHeap.setB Go.Aw.AHeap.setT
attribute [local go_sem] peval EOpd.ev Env.get binInt binStr binBool buildParts AV.cells AV.okc setRange minmaxAV AV.one AV.ofCells eqCells eqCell bslRows cond_true cond_false beq_self_eq_true Bool.not_true Bool.not_false beq_true beq_false eq_self if_true Option.some.injEq List.length_cons List.length_nil List.take_succ_cons List.take_zero List.drop_succ_cons List.drop_zero List.set_cons_succ List.set_cons_zero List.nil_append List.cons_append List.append_nil and_self Option.map_some List.map_cons List.map_nil Bool.false_eq_true if_false Nat.zero_add Nat.add_zero true_and and_true Bool.and_true Bool.true_and List.getElem?_cons_zero List.getElem?_cons_succ Nat.zero_le Nat.le_refl
set_option linter.unusedSimpArgs false
set_option linter.unusedVariables false
def loR (i : Nat) (x : Ins_) (lo : List Int) : List Int := if x.op = 21 then lo ++ [(i : Int)] else if x.op = 23 then lo.take (lo.length - 1) else lo
def leadsP (op : Int) : Bool := decide (op = 19) || decide (op = 20) || decide (op = 22)
def stepR (p : Prog) (ps rr : List Int) (S : List (Option St2)) (i : Nat) (x : Ins_) (s0 : St2) : Int × List (Option St2) :=
  if (stackR p ps x s0.1).2 = false ∨ (x.op = 24 ∧ s0.1 ≠ rr) then (11, S)
  else if structR p i x s0.2 = false then (7, S)
  else
    let s := ((stackR p ps x s0.1).1, loR i x s0.2)
    let r1 := if x.op = 19 ∨ x.op = 24 then (0, S) else reachP S (i + 1) s
    if leadsP x.op = true ∧ r1.1 = 0 then reachP r1.2 x.n.toNat s else r1
def endR (S : List (Option St2)) (i : Nat) (x : Ins_) (s : St2) : Int × List (Option St2) :=
  if leadsP x.op = true ∧ (if x.op = 19 ∨ x.op = 24 then ((0, S) : Int × List (Option St2)) else reachP S (i + 1) s).1 = 0 then reachP (if x.op = 19 ∨ x.op = 24 then ((0, S) : Int × List (Option St2)) else reachP S (i + 1) s).2 x.n.toNat s else (if x.op = 19 ∨ x.op = 24 then (0, S) else reachP S (i + 1) s)
theorem DM.call81 {d? : Option Nat} {l : List EI} {env : Env} {K : Env → AHeap → Prop} {Rp : AV → AHeap → Prop} {f : FuncId} {args : List EOpd} {aa az' : List AV} {H : AHeap} {ts v : Nat} {r : Int × List (Option St2)} (hc : ACalls Try.prog f aa H (RQ81 H ts v r)) (hm : args.map (EOpd.ev env) = az') (ha : AVLes az' aa)
    (h0 : DM Try.prog l (env.put d? (.int .i64 r.1)) (H.setT ts (.mu 133 3 v (r.2.map rrow))) K Rp) : DM Try.prog (⟨d?, none, .call f args⟩ :: l) env H K Rp := by
  simp only [DM, wanted]
  refine IStep.call _ (hm ▸ ha) hc fun o H' ⟨g1, g2⟩ => ?_
  subst g1
  subst g2
  exact h0
def mid45 : EC := match e45 with
  | .seq _ (.seq _ t) => t
  | _ => .skip
def tail45 : EC := match mid45 with
  | .seq _ (.seq _ (.seq _ (.seq _ (.seq _ t)))) => t
  | _ => .skip
set_option maxHeartbeats 4000000 in
theorem t45 (H H3 : AHeap) (ts v : Nat) (p : Prog) (hval : validP p = true) (S : List (Option St2)) (hS : S.length = p.code.length) (hts : H.tok ts = some (.mu 133 3 v (S.map rrow))) (ht3 : H3.tok ts = some (.mu 133 3 v (S.map rrow))) (hs : HSub H H3)
    (i : Nat) (x : Ins_) (hx : p.code[i]? = some x) (s : St2) (b11 b15 : Nat) (h11 : H3.blk b11 = some (68, x.row)) (h15 : H3.blk b15 = some (133, [.bool true, .vs 1 (s.1.map irow), .vs 1 (s.2.map irow)])) (hlt : ¬ (x.op = 19 ∨ x.op = 24) → i + 1 < p.code.length) :
    AM Try.prog [.t 10] (RW81 H ts v (endR S i x s)) [.c tail45] [(1, .ms ts v), (2, .int .i64 i), (10, .int .i64 0), (11, .ptr b11 0), (15, .ptr b15 0)] H3 := by
  have hcl := code_len hval
  have hi := (List.getElem?_eq_some_iff.1 hx).1
  have hxm : x ∈ p.code := List.mem_of_getElem? hx
  have hw1 : IntKind.i64.wrap ((i : Int) + 1) = ((i + 1 : Nat) : Int) := inc64 hi (by unfold maxLen; omega)
  unfold tail45 mid45 e45
  dsimp only
  by_cases hA : x.op = 19
  · have d19 : decide (x.op = 19) = true := decide_eq_true hA
    obtain ⟨tn, htn⟩ : ∃ tn : Nat, x.n = (tn : Int) := ⟨x.n.toNat, by have := (target_ok hval hxm (by omega)).1; omega⟩
    have htl := (target_ok hval hxm (by omega)).2
    repeat' first|(apply Sp.go;·constructor<;>first|exact ss|(change _=_;first|(simp only[go_sem,Nat.reduceBEq,Nat.reduceAdd,Nat.reduceLeDiff,reduceIte, d19]<;>rfl)|rfl)|exact Nat.le_of_ble_eq_true rfl|decide|(repeat' first|(apply Lk.go;constructor)|assumption|exact nb ‹_› ‹_›|exact nt ‹_› ‹_›))|(intro b hb;repeat first|(refine fe hb ?_;intro _ _ hb)|(refine fT hb ?_;intro hb))|refine rt ?_|refine gA rfl ?_|refine gB rfl ?_|apply cT rfl|apply cF rfl|(apply DM.gbT;rfl)|(apply DM.gbF;rfl)|intro h
    (apply DM.pcs (R.p42 x.op); (· simp only [go_sem, Nat.reduceBEq, Nat.reduceAdd] <;> rfl); (· exact AVLes.refl _))
    repeat' first|(apply Sp.go;·constructor<;>first|exact ss|(change _=_;first|(simp only[go_sem,Nat.reduceBEq,Nat.reduceAdd,Nat.reduceLeDiff,reduceIte, d19, Bool.true_or]<;>rfl)|rfl)|exact Nat.le_of_ble_eq_true rfl|decide|(repeat' first|(apply Lk.go;constructor)|assumption|exact nb ‹_› ‹_›|exact nt ‹_› ‹_›))|(intro b hb;repeat first|(refine fe hb ?_;intro _ _ hb)|(refine fT hb ?_;intro hb))|refine rt ?_|refine gA rfl ?_|refine gB rfl ?_|apply cT rfl|apply cF rfl|(apply DM.gbT;rfl)|(apply DM.gbF;rfl)|intro h
    rw [htn]
    refine DM.call81 (p81 H3 ts v S (by omega) ht3 tn (by omega) s) (by simp only [go_sem, Nat.reduceBEq] <;> rfl) (AVLes.refl _) ?_
    simp only [put_some]
    repeat' first|(apply Sp.go;·constructor<;>first|exact ss|(change _=_;first|(simp only[go_sem,Nat.reduceBEq,Nat.reduceAdd,Nat.reduceLeDiff,reduceIte]<;>rfl)|rfl)|exact Nat.le_of_ble_eq_true rfl|decide|(repeat' first|(apply Lk.go;constructor)|assumption|exact nb ‹_› ‹_›|exact nt ‹_› ‹_›))|(intro b hb;repeat first|(refine fe hb ?_;intro _ _ hb)|(refine fT hb ?_;intro hb))|refine rt ?_|refine gA rfl ?_|refine gB rfl ?_|apply cT rfl|apply cF rfl|(apply DM.gbT;rfl)|(apply DM.gbF;rfl)|intro h
    have e : endR S i x s = reachP S tn s := by simp only [endR, if_pos (Or.inl hA : x.op = 19 ∨ x.op = 24)]; rw [if_pos ⟨by simp [leadsP, hA], trivial⟩, htn, Int.toNat_natCast]
    rw [e]
    exact AM.ret (v := .int .i64 (reachP S tn s).1) rfl ⟨rfl, hsub_setT hs ts _⟩
  by_cases hB : x.op = 24
  · have d19 : decide (x.op = 19) = false := decide_eq_false (by omega)
    have d24 : decide (x.op = 24) = true := decide_eq_true hB
    have d20 : decide (x.op = 20) = false := decide_eq_false (by omega)
    have d22 : decide (x.op = 22) = false := decide_eq_false (by omega)
    repeat' first|(apply Sp.go;·constructor<;>first|exact ss|(change _=_;first|(simp only[go_sem,Nat.reduceBEq,Nat.reduceAdd,Nat.reduceLeDiff,reduceIte, d19, d24]<;>rfl)|rfl)|exact Nat.le_of_ble_eq_true rfl|decide|(repeat' first|(apply Lk.go;constructor)|assumption|exact nb ‹_› ‹_›|exact nt ‹_› ‹_›))|(intro b hb;repeat first|(refine fe hb ?_;intro _ _ hb)|(refine fT hb ?_;intro hb))|refine rt ?_|refine gA rfl ?_|refine gB rfl ?_|apply cT rfl|apply cF rfl|(apply DM.gbT;rfl)|(apply DM.gbF;rfl)|intro h
    (apply DM.pcs (R.p42 x.op); (· simp only [go_sem, Nat.reduceBEq, Nat.reduceAdd] <;> rfl); (· exact AVLes.refl _))
    repeat' first|(apply Sp.go;·constructor<;>first|exact ss|(change _=_;first|(simp only[go_sem,Nat.reduceBEq,Nat.reduceAdd,Nat.reduceLeDiff,reduceIte, d19, d20, d22, Bool.or_false]<;>rfl)|rfl)|exact Nat.le_of_ble_eq_true rfl|decide|(repeat' first|(apply Lk.go;constructor)|assumption|exact nb ‹_› ‹_›|exact nt ‹_› ‹_›))|(intro b hb;repeat first|(refine fe hb ?_;intro _ _ hb)|(refine fT hb ?_;intro hb))|refine rt ?_|refine gA rfl ?_|refine gB rfl ?_|apply cT rfl|apply cF rfl|(apply DM.gbT;rfl)|(apply DM.gbF;rfl)|intro h
    have e : endR S i x s = (0, S) := by simp only [endR, if_pos (Or.inr hB : x.op = 19 ∨ x.op = 24)]; rw [if_neg (by simp [leadsP, hB])]
    rw [e]
    exact AM.ret (v := .int .i64 0) rfl ⟨rfl, by rw [setT_id hts]; exact hs⟩
  have d19 : decide (x.op = 19) = false := decide_eq_false hA
  have d24 : decide (x.op = 24) = false := decide_eq_false hB
  have hne : ¬ (x.op = 19 ∨ x.op = 24) := fun h => h.elim hA hB
  have hl := hlt hne
  have e : endR S i x s = if leadsP x.op = true ∧ (reachP S (i + 1) s).1 = 0 then reachP (reachP S (i + 1) s).2 x.n.toNat s else reachP S (i + 1) s := by simp only [endR, if_neg hne]
  rw [e]
  repeat' first|(apply Sp.go;·constructor<;>first|exact ss|(change _=_;first|(simp only[go_sem,Nat.reduceBEq,Nat.reduceAdd,Nat.reduceLeDiff,reduceIte, d19, d24, hw1]<;>rfl)|rfl)|exact Nat.le_of_ble_eq_true rfl|decide|(repeat' first|(apply Lk.go;constructor)|assumption|exact nb ‹_› ‹_›|exact nt ‹_› ‹_›))|(intro b hb;repeat first|(refine fe hb ?_;intro _ _ hb)|(refine fT hb ?_;intro hb))|refine rt ?_|refine gA rfl ?_|refine gB rfl ?_|apply cT rfl|apply cF rfl|(apply DM.gbT;rfl)|(apply DM.gbF;rfl)|intro h
  have hlen := reachP_len S (i + 1) s
  have c1 := p81 H3 ts v S (by omega) ht3 (i + 1) (by omega) s
  generalize hr1 : reachP S (i + 1) s = r1 at *
  refine DM.call81 c1 (by simp only [go_sem, Nat.reduceBEq] <;> rfl) (AVLes.refl _) ?_
  simp only [put_some]
  have g11 : (H3.setT ts (.mu 133 3 v (r1.2.map rrow))).blk b11 = some (68, x.row) := g_T h11
  have g15 : (H3.setT ts (.mu 133 3 v (r1.2.map rrow))).blk b15 = some (133, [.bool true, .vs 1 (s.1.map irow), .vs 1 (s.2.map irow)]) := g_T h15
  repeat' first|(apply Sp.go;·constructor<;>first|exact ss|(change _=_;first|(simp only[go_sem,Nat.reduceBEq,Nat.reduceAdd,Nat.reduceLeDiff,reduceIte]<;>rfl)|rfl)|exact Nat.le_of_ble_eq_true rfl|decide|(repeat' first|(apply Lk.go;constructor)|assumption|exact nb ‹_› ‹_›|exact nt ‹_› ‹_›))|(intro b hb;repeat first|(refine fe hb ?_;intro _ _ hb)|(refine fT hb ?_;intro hb))|refine rt ?_|refine gA rfl ?_|refine gB rfl ?_|apply cT rfl|apply cF rfl|(apply DM.gbT;rfl)|(apply DM.gbF;rfl)|intro h
  (apply DM.pcs (R.p42 x.op); (· simp only [go_sem, Nat.reduceBEq, Nat.reduceAdd] <;> rfl); (· exact AVLes.refl _))
  simp only [d19, Bool.false_or]
  have e0 : leadsP x.op = (decide (x.op = 20) || decide (x.op = 22)) := by simp [leadsP, d19]
  rw [e0]
  cases hld : (decide (x.op = 20) || decide (x.op = 22)) with
  | false =>
    rw [if_neg (by simp)]
    repeat' first|(apply Sp.go;·constructor<;>first|exact ss|(change _=_;first|(simp only[go_sem,Nat.reduceBEq,Nat.reduceAdd,Nat.reduceLeDiff,reduceIte]<;>rfl)|rfl)|exact Nat.le_of_ble_eq_true rfl|decide|(repeat' first|(apply Lk.go;constructor)|assumption|exact nb ‹_› ‹_›|exact nt ‹_› ‹_›))|(intro b hb;repeat first|(refine fe hb ?_;intro _ _ hb)|(refine fT hb ?_;intro hb))|refine rt ?_|refine gA rfl ?_|refine gB rfl ?_|apply cT rfl|apply cF rfl|(apply DM.gbT;rfl)|(apply DM.gbF;rfl)|intro h
    exact AM.ret (v := .int .i64 r1.1) rfl ⟨rfl, hsub_setT hs ts _⟩
  | true =>
    have hC : x.op = 20 ∨ x.op = 22 := by simpa using hld
    obtain ⟨tn, htn⟩ : ∃ tn : Nat, x.n = (tn : Int) := ⟨x.n.toNat, by have := (target_ok hval hxm (by omega)).1; omega⟩
    have htl := (target_ok hval hxm (by omega)).2
    by_cases hz : r1.1 = 0
    · have dz : decide (r1.1 = 0) = true := decide_eq_true hz
      rw [if_pos ⟨rfl, hz⟩, htn, Int.toNat_natCast]
      repeat' first|(apply Sp.go;·constructor<;>first|exact ss|(change _=_;first|(simp only[go_sem,Nat.reduceBEq,Nat.reduceAdd,Nat.reduceLeDiff,reduceIte, dz]<;>rfl)|rfl)|exact Nat.le_of_ble_eq_true rfl|decide|(repeat' first|(apply Lk.go;constructor)|assumption|exact nb ‹_› ‹_›|exact nt ‹_› ‹_›))|(intro b hb;repeat first|(refine fe hb ?_;intro _ _ hb)|(refine fT hb ?_;intro hb))|refine rt ?_|refine gA rfl ?_|refine gB rfl ?_|apply cT rfl|apply cF rfl|(apply DM.gbT;rfl)|(apply DM.gbF;rfl)|intro h
      rw [htn]
      refine DM.call81 (p81 _ ts v r1.2 (by omega) t_same tn (by omega) s) (by simp only [go_sem, Nat.reduceBEq] <;> rfl) (AVLes.refl _) ?_
      simp only [put_some]
      rw [setT_setT]
      repeat' first|(apply Sp.go;·constructor<;>first|exact ss|(change _=_;first|(simp only[go_sem,Nat.reduceBEq,Nat.reduceAdd,Nat.reduceLeDiff,reduceIte]<;>rfl)|rfl)|exact Nat.le_of_ble_eq_true rfl|decide|(repeat' first|(apply Lk.go;constructor)|assumption|exact nb ‹_› ‹_›|exact nt ‹_› ‹_›))|(intro b hb;repeat first|(refine fe hb ?_;intro _ _ hb)|(refine fT hb ?_;intro hb))|refine rt ?_|refine gA rfl ?_|refine gB rfl ?_|apply cT rfl|apply cF rfl|(apply DM.gbT;rfl)|(apply DM.gbF;rfl)|intro h
      exact AM.ret (v := .int .i64 (reachP r1.2 tn s).1) rfl ⟨rfl, hsub_setT hs ts _⟩
    · have dz : decide (r1.1 = 0) = false := decide_eq_false hz
      rw [if_neg (fun h => hz h.2)]
      repeat' first|(apply Sp.go;·constructor<;>first|exact ss|(change _=_;first|(simp only[go_sem,Nat.reduceBEq,Nat.reduceAdd,Nat.reduceLeDiff,reduceIte, dz]<;>rfl)|rfl)|exact Nat.le_of_ble_eq_true rfl|decide|(repeat' first|(apply Lk.go;constructor)|assumption|exact nb ‹_› ‹_›|exact nt ‹_› ‹_›))|(intro b hb;repeat first|(refine fe hb ?_;intro _ _ hb)|(refine fT hb ?_;intro hb))|refine rt ?_|refine gA rfl ?_|refine gB rfl ?_|apply cT rfl|apply cF rfl|(apply DM.gbT;rfl)|(apply DM.gbF;rfl)|intro h
      exact AM.ret (v := .int .i64 r1.1) rfl ⟨rfl, hsub_setT hs ts _⟩
theorem stepR_st {p : Prog} {ps rr : List Int} {S : List (Option St2)} {i : Nat} {x : Ins_} {s0 : St2} (h : (stackR p ps x s0.1).2 = false ∨ (x.op = 24 ∧ s0.1 ≠ rr)) : stepR p ps rr S i x s0 = (11, S) := by rw [stepR, if_pos h]
theorem stepR_lo {p : Prog} {ps rr : List Int} {S : List (Option St2)} {i : Nat} {x : Ins_} {s0 : St2} (h : ¬ ((stackR p ps x s0.1).2 = false ∨ (x.op = 24 ∧ s0.1 ≠ rr))) (h2 : structR p i x s0.2 = false) : stepR p ps rr S i x s0 = (7, S) := by rw [stepR, if_neg h, if_pos h2]
theorem stepR_end {p : Prog} {ps rr : List Int} {S : List (Option St2)} {i : Nat} {x : Ins_} {s0 : St2} (h : ¬ ((stackR p ps x s0.1).2 = false ∨ (x.op = 24 ∧ s0.1 ≠ rr))) (h2 : structR p i x s0.2 = true) : stepR p ps rr S i x s0 = endR S i x ((stackR p ps x s0.1).1, loR i x s0.2) := by rw [stepR, if_neg h, if_neg (by rw [h2]; simp)]; rfl
theorem stepR_mid {p : Prog} {ps rr : List Int} {S : List (Option St2)} {i : Nat} {x : Ins_} {s0 : St2} (h : ¬ ((stackR p ps x s0.1).2 = false ∨ (x.op = 24 ∧ s0.1 ≠ rr))) : stepR p ps rr S i x s0 = if structR p i x s0.2 = false then (7, S) else endR S i x ((stackR p ps x s0.1).1, loR i x s0.2) := by rw [stepR, if_neg h]; rfl
def headn45 (t : EC) : EC := match mid45 with
  | .seq _ (.seq _ (.seq c (.seq d (.seq e _)))) => .seq c (.seq d (.seq e t))
  | _ => .skip
def headk45 (t : EC) : EC := match mid45 with
  | .seq a (.seq b _) => .seq a (.seq b t)
  | _ => .skip
set_option maxHeartbeats 4000000 in
theorem n45 (H H2 : AHeap) (ts v : Nat) (p : Prog) (hval : validP p = true) (S : List (Option St2)) (hS : S.length = p.code.length) (hts : H.tok ts = some (.mu 133 3 v (S.map rrow))) (ht2 : H2.tok ts = some (.mu 133 3 v (S.map rrow))) (hs2 : HSub H H2)
    (i : Nat) (x : Ins_) (hx : p.code[i]? = some x) (st lo s1 : List Int) (hlo : lo.length ≤ 4) (hlb : ∀ b ∈ lo, 0 ≤ b ∧ b ≤ 1000) (b5 b11 b12 : Nat) (h5 : H2.blk b5 = some (27, p.cells)) (h11 : H2.blk b11 = some (68, x.row)) (h12 : H2.blk b12 = some (133, [.bool true, .vs 1 (st.map irow), .vs 1 (lo.map irow)])) :
    AM Try.prog [.t 10] (RW81 H ts v (if structR p i x lo = false then (7, S) else endR S i x (s1, loR i x lo))) [.c (headn45 tail45)] [(1, .ms ts v), (2, .int .i64 i), (5, .ptr b5 0), (10, .int .i64 0), (11, .ptr b11 0), (12, .ptr b12 0), (13, .vs 1 (s1.map irow))] H2 := by
  have hcl := code_len hval
  have hi := (List.getElem?_eq_some_iff.1 hx).1
  have err : ∀ n, HSub (H.setT ts (.mu 133 3 v (((n : Int), S).2.map rrow))) H2 := fun n => by dsimp only; rw [setT_id hts]; exact hs2
  have c80 := p80 p i x lo hcl hx hlo hlb
  generalize hTT : tail45 = TT
  unfold headn45 mid45 e45
  dsimp only
  repeat' first|(apply Sp.go;·constructor<;>first|exact ss|(change _=_;first|(simp only[go_sem,Nat.reduceBEq,Nat.reduceAdd,Nat.reduceLeDiff,reduceIte]<;>rfl)|rfl)|exact Nat.le_of_ble_eq_true rfl|decide|(repeat' first|(apply Lk.go;constructor)|assumption|exact nb ‹_› ‹_›|exact nt ‹_› ‹_›))|(intro b hb;repeat first|(refine fe hb ?_;intro _ _ hb)|(refine fT hb ?_;intro hb))|refine rt ?_|refine gA rfl ?_|refine gB rfl ?_|apply cT rfl|apply cF rfl|(apply DM.gbT;rfl)|(apply DM.gbF;rfl)|intro h
  (apply DM.pcs (c80); (· simp only [go_sem, Nat.reduceBEq, Nat.reduceAdd] <;> rfl); (· exact AVLes.refl _))
  cases hsr : structR p i x lo with
  | false =>
    repeat' first|(apply Sp.go;·constructor<;>first|exact ss|(change _=_;first|(simp only[go_sem,Nat.reduceBEq,Nat.reduceAdd,Nat.reduceLeDiff,reduceIte]<;>rfl)|rfl)|exact Nat.le_of_ble_eq_true rfl|decide|(repeat' first|(apply Lk.go;constructor)|assumption|exact nb ‹_› ‹_›|exact nt ‹_› ‹_›))|(intro b hb;repeat first|(refine fe hb ?_;intro _ _ hb)|(refine fT hb ?_;intro hb))|refine rt ?_|refine gA rfl ?_|refine gB rfl ?_|apply cT rfl|apply cF rfl|(apply DM.gbT;rfl)|(apply DM.gbF;rfl)|intro h
    rw [if_pos rfl]
    exact AM.ret (v := .int .i64 7) rfl ⟨rfl, err 7⟩
  | true =>
    rw [if_neg (by simp)]
    have hlt : ¬ (x.op = 19 ∨ x.op = 24) → i + 1 < p.code.length := fun h => by
      rw [structR, if_neg (fun e => h (.inr e)), if_neg (fun e => h (.inl e)), Bool.and_eq_true] at hsr
      exact of_decide_eq_true hsr.2
    repeat' first|(apply Sp.go;·constructor<;>first|exact ss|(change _=_;first|(simp only[go_sem,Nat.reduceBEq,Nat.reduceAdd,Nat.reduceLeDiff,reduceIte]<;>rfl)|rfl)|exact Nat.le_of_ble_eq_true rfl|decide|(repeat' first|(apply Lk.go;constructor)|assumption|exact nb ‹_› ‹_›|exact nt ‹_› ‹_›))|(intro b hb;repeat first|(refine fe hb ?_;intro _ _ hb)|(refine fT hb ?_;intro hb))|refine rt ?_|refine gA rfl ?_|refine gB rfl ?_|apply cT rfl|apply cF rfl|(apply DM.gbT;rfl)|(apply DM.gbF;rfl)|intro h
    rename Nat => b15
    have hne11 : b11 ≠ b15 := (ne_blk hb h11).2
    have hne12 : b12 ≠ b15 := (ne_blk hb h12).2
    have g11 : ∀ cs, (H2.setB b15 133 cs).blk b11 = some (68, x.row) := fun cs => g_ne hne11 h11
    have g12 : ∀ cs, (H2.setB b15 133 cs).blk b12 = some (133, [.bool true, .vs 1 (st.map irow), .vs 1 (lo.map irow)]) := fun cs => g_ne hne12 h12
    have tl : ∀ l', l' = loR i x lo → ∀ H3 : AHeap, HSub (H2.setB b15 133 [.bool true, .vs 1 (s1.map irow), .vs 1 (l'.map irow)]) H3 → AM Try.prog [.t 10] (RW81 H ts v (endR S i x (s1, loR i x lo))) [.c TT] [(1, .ms ts v), (2, .int .i64 i), (10, .int .i64 0), (11, .ptr b11 0), (15, .ptr b15 0)] H3 := by
      intro l' hl' H3 h3
      subst hTT
      rw [← hl']
      exact t45 H H3 ts v p hval S hS hts (h3.tok _ _ (t_B ht2)) ((HSub.setB hs2 (hs2.none_blk hb)).trans h3) i x hx (s1, l') b11 b15 (h3.blk _ _ (g11 _)) (h3.blk _ _ g_same) hlt
    by_cases h21 : x.op = 21
    · have d21 : decide (x.op = 21) = true := decide_eq_true h21
      simp only [d21]
      repeat' first|(apply Sp.go;·constructor<;>first|exact ss|(change _=_;first|(simp only[go_sem,Nat.reduceBEq,Nat.reduceAdd,Nat.reduceLeDiff,reduceIte]<;>rfl)|rfl)|exact Nat.le_of_ble_eq_true rfl|decide|(repeat' first|(apply Lk.go;constructor)|assumption|exact nb ‹_› ‹_›|exact nt ‹_› ‹_›))|(intro b hb;repeat first|(refine fe hb ?_;intro _ _ hb)|(refine fT hb ?_;intro hb))|refine rt ?_|refine gA rfl ?_|refine gB rfl ?_|apply cT rfl|apply cF rfl|(apply DM.gbT;rfl)|(apply DM.gbF;rfl)|intro h
      (apply DM.bsO (rows := []); (· rfl); (· rfl); (· rfl); (· decide))
      intro tk htk
      replace htk := freshT_setB htk
      repeat' first|(apply Sp.go;·constructor<;>first|exact ss|(change _=_;first|(simp only[go_sem,Nat.reduceBEq,Nat.reduceAdd,Nat.reduceLeDiff,reduceIte]<;>rfl)|rfl)|exact Nat.le_of_ble_eq_true rfl|decide|(repeat' first|(apply Lk.go;constructor)|assumption|exact nb ‹_› ‹_›|exact nt ‹_› ‹_›))|(intro b hb;repeat first|(refine fe hb ?_;intro _ _ hb)|(refine fT hb ?_;intro hb))|refine rt ?_|refine gA rfl ?_|refine gB rfl ?_|apply cT rfl|apply cF rfl|(apply DM.gbT;rfl)|(apply DM.gbF;rfl)|intro h
      (apply DM.apO; (· rfl); (· exact t_same.trans (by simp)); (· simp only [rowsOf, if_true, eq_self, go_sem, Nat.reduceBEq, reduceIte] <;> rfl); (· (simp only [List.length_map, List.length_nil, maxLen]; omega)); (· (simp only [List.length_map, List.length_nil, maxLen]; omega)))
      repeat' first|(apply Sp.go;·constructor<;>first|exact ss|(change _=_;first|(simp only[go_sem,Nat.reduceBEq,Nat.reduceAdd,Nat.reduceLeDiff,reduceIte]<;>rfl)|rfl)|exact Nat.le_of_ble_eq_true rfl|decide|(repeat' first|(apply Lk.go;constructor)|assumption|exact nb ‹_› ‹_›|exact nt ‹_› ‹_›))|(intro b hb;repeat first|(refine fe hb ?_;intro _ _ hb)|(refine fT hb ?_;intro hb))|refine rt ?_|refine gA rfl ?_|refine gB rfl ?_|apply cT rfl|apply cF rfl|(apply DM.gbT;rfl)|(apply DM.gbF;rfl)|intro h
      (apply DM.apO; (· rfl); (· exact t_same.trans (by simp)); (· simp only [rowsOf, if_true, eq_self, go_sem, Nat.reduceBEq, reduceIte] <;> rfl); (· (simp only [List.length_map, List.length_append, List.length_cons, List.length_nil, maxLen]; omega)); (· (simp only [List.length_map, List.length_append, List.length_cons, List.length_nil, maxLen]; omega)))
      repeat' first|(apply Sp.go;·constructor<;>first|exact ss|(change _=_;first|(simp only[go_sem,Nat.reduceBEq,Nat.reduceAdd,Nat.reduceLeDiff,reduceIte]<;>rfl)|rfl)|exact Nat.le_of_ble_eq_true rfl|decide|(repeat' first|(apply Lk.go;constructor)|assumption|exact nb ‹_› ‹_›|exact nt ‹_› ‹_›))|(intro b hb;repeat first|(refine fe hb ?_;intro _ _ hb)|(refine fT hb ?_;intro hb))|refine rt ?_|refine gA rfl ?_|refine gB rfl ?_|apply cT rfl|apply cF rfl|(apply DM.gbT;rfl)|(apply DM.gbF;rfl)|intro h
      rw [setT_setT, setT_setT]
      refine AM.frzC b15 tk (T := 133) (Te := 3) (ver := 0) (size := 1) (rows := []) (cs := [.bool true, .vs 1 (s1.map irow), .own tk 1 (lo.map irow ++ [[.int .i64 i]])]) (cs' := [.bool true, .vs 1 (s1.map irow), .vs 1 ((loR i x lo).map irow)]) g_same (FrzL.cons (Frz.same (HSub.dropT _ tk)) (FrzL.cons (Frz.same (HSub.dropT _ tk)) (FrzL.cons (Frz.le (HSub.dropT _ tk) (own_le (by simp [loR, h21]))) FrzL.nil))) ?_
      refine AM.weakE [(1, .ms ts v), (2, .int .i64 i), (10, .int .i64 0), (11, .ptr b11 0), (15, .ptr b15 0)] ?_ ?_
      · (repeat first | exact envle_nil _ | (refine envle_cons ?_ ?_; · (simp only [go_sem, Nat.reduceBEq, Nat.reduceAdd]; exact AVLe.refl _)))
      refine tl (loR i x lo) rfl _ ⟨fun y z h => ?_, fun y z h => ?_⟩
      · simp only [AHeap.setB, AHeap.setT, AHeap.dropT] at h ⊢
        by_cases e : y = b15 <;> simp_all
      · have hn : y ≠ tk := fun e => by subst e; simp only [AHeap.setB] at h; rw [htk] at h; cases h
        simp only [AHeap.setB, AHeap.setT, AHeap.dropT] at h ⊢
        simp [hn, h]
    have d21 : decide (x.op = 21) = false := decide_eq_false h21
    by_cases h23 : x.op = 23
    · have d23 : decide (x.op = 23) = true := decide_eq_true h23
      have hl0 : lo.length ≠ 0 := by
        simp [structR, h23] at hsr
        intro h; exact hsr.1 (List.eq_nil_of_length_eq_zero h)
      have hw : IntKind.i64.wrap (((lo.map irow).length : Int) - 1) = ((lo.length - 1 : Nat) : Int) := by
        rw [List.length_map, wrap64 (by omega) (by omega)]
        omega
      simp only [d21]
      repeat' first|(apply Sp.go;·constructor<;>first|exact ss|(change _=_;first|(simp only[go_sem,Nat.reduceBEq,Nat.reduceAdd,Nat.reduceLeDiff,reduceIte, d23]<;>rfl)|rfl)|exact Nat.le_of_ble_eq_true rfl|decide|(repeat' first|(apply Lk.go;constructor)|assumption|exact nb ‹_› ‹_›|exact nt ‹_› ‹_›))|(intro b hb;repeat first|(refine fe hb ?_;intro _ _ hb)|(refine fT hb ?_;intro hb))|refine rt ?_|refine gA rfl ?_|refine gB rfl ?_|apply cT rfl|apply cF rfl|(apply DM.gbT;rfl)|(apply DM.gbF;rfl)|intro h
      repeat' first|(apply Sp.go;·constructor<;>first|exact ss|(change _=_;first|(simp only[go_sem,Nat.reduceBEq,Nat.reduceAdd,Nat.reduceLeDiff,reduceIte]<;>rfl)|rfl)|exact Nat.le_of_ble_eq_true rfl|decide|(repeat' first|(apply Lk.go;constructor)|assumption|exact nb ‹_› ‹_›|exact nt ‹_› ‹_›))|(intro b hb;repeat first|(refine fe hb ?_;intro _ _ hb)|(refine fT hb ?_;intro hb))|refine rt ?_|refine gA rfl ?_|refine gB rfl ?_|apply cT rfl|apply cF rfl|(apply DM.gbT;rfl)|(apply DM.gbF;rfl)|intro h
      simp only [hw]
      refine DM.slH (h := lo.length - 1) (kk := .i64) rfl rfl (by simp only [List.length_map]; omega) ?_
      rw [← List.map_take]
      repeat' first|(apply Sp.go;·constructor<;>first|exact ss|(change _=_;first|(simp only[go_sem,Nat.reduceBEq,Nat.reduceAdd,Nat.reduceLeDiff,reduceIte]<;>rfl)|rfl)|exact Nat.le_of_ble_eq_true rfl|decide|(repeat' first|(apply Lk.go;constructor)|assumption|exact nb ‹_› ‹_›|exact nt ‹_› ‹_›))|(intro b hb;repeat first|(refine fe hb ?_;intro _ _ hb)|(refine fT hb ?_;intro hb))|refine rt ?_|refine gA rfl ?_|refine gB rfl ?_|apply cT rfl|apply cF rfl|(apply DM.gbT;rfl)|(apply DM.gbF;rfl)|intro h
      refine AM.weakE [(1, .ms ts v), (2, .int .i64 i), (10, .int .i64 0), (11, .ptr b11 0), (15, .ptr b15 0)] ?_ ?_
      · (repeat first | exact envle_nil _ | (refine envle_cons ?_ ?_; · (simp only [go_sem, Nat.reduceBEq, Nat.reduceAdd]; exact AVLe.refl _)))
      exact tl (lo.take (lo.length - 1)) (by simp [loR, h23]) _ (HSub.refl _)
    have d23 : decide (x.op = 23) = false := decide_eq_false h23
    simp only [d21]
    repeat' first|(apply Sp.go;·constructor<;>first|exact ss|(change _=_;first|(simp only[go_sem,Nat.reduceBEq,Nat.reduceAdd,Nat.reduceLeDiff,reduceIte, d23]<;>rfl)|rfl)|exact Nat.le_of_ble_eq_true rfl|decide|(repeat' first|(apply Lk.go;constructor)|assumption|exact nb ‹_› ‹_›|exact nt ‹_› ‹_›))|(intro b hb;repeat first|(refine fe hb ?_;intro _ _ hb)|(refine fT hb ?_;intro hb))|refine rt ?_|refine gA rfl ?_|refine gB rfl ?_|apply cT rfl|apply cF rfl|(apply DM.gbT;rfl)|(apply DM.gbF;rfl)|intro h
    refine AM.weakE [(1, .ms ts v), (2, .int .i64 i), (10, .int .i64 0), (11, .ptr b11 0), (15, .ptr b15 0)] ?_ ?_
    · (repeat first | exact envle_nil _ | (refine envle_cons ?_ ?_; · (simp only [go_sem, Nat.reduceBEq, Nat.reduceAdd]; exact AVLe.refl _)))
    refine tl lo (by simp [loR, h21, h23]) _ ?_
    exact HSub.refl _
set_option maxHeartbeats 4000000 in
theorem m45 (H H2 : AHeap) (ts v : Nat) (p : Prog) (hval : validP p = true) (ps rr : List Int) (hps : ps.length ≤ 1000) (S : List (Option St2)) (hS : S.length = p.code.length) (hts : H.tok ts = some (.mu 133 3 v (S.map rrow))) (ht2 : H2.tok ts = some (.mu 133 3 v (S.map rrow))) (hs2 : HSub H H2)
    (i : Nat) (x : Ins_) (hx : p.code[i]? = some x) (s0 : St2) (hst : s0.1.length ≤ 16) (hlo : s0.2.length ≤ 4) (hlb : ∀ b ∈ s0.2, 0 ≤ b ∧ b ≤ 1000) (b5 b11 b12 : Nat) (h5 : H2.blk b5 = some (27, p.cells)) (h11 : H2.blk b11 = some (68, x.row)) (h12 : H2.blk b12 = some (133, [.bool true, .vs 1 (s0.1.map irow), .vs 1 (s0.2.map irow)])) :
    AM Try.prog [.t 10] (RW81 H ts v (stepR p ps rr S i x s0)) [.c mid45] [(1, .ms ts v), (2, .int .i64 i), (3, .vs 1 (ps.map irow)), (4, .vs 1 (rr.map irow)), (5, .ptr b5 0), (10, .int .i64 0), (11, .ptr b11 0), (12, .ptr b12 0)] H2 := by
  have hcl := code_len hval
  have hi := (List.getElem?_eq_some_iff.1 hx).1
  have hxm : x ∈ p.code := List.mem_of_getElem? hx
  have err : ∀ n, HSub (H.setT ts (.mu 133 3 v (((n : Int), S).2.map rrow))) H2 := fun n => by dsimp only; rw [setT_id hts]; exact hs2
  have nn := n45 H H2 ts v p hval S hS hts ht2 hs2 i x hx s0.1 s0.2 (stackR p ps x s0.1).1 hlo hlb b5 b11 b12 h5 h11 h12
  rw [show mid45 = headk45 (headn45 tail45) from rfl]
  generalize hTT : headn45 tail45 = TT at nn ⊢
  unfold headk45 mid45 e45
  dsimp only
  have c78 := p78 p ps x s0.1 hst hps (insOk hval hxm).var (insOk hval hxm).par
  repeat' first|(apply Sp.go;·constructor<;>first|exact ss|(change _=_;first|(simp only[go_sem,Nat.reduceBEq,Nat.reduceAdd,Nat.reduceLeDiff,reduceIte]<;>rfl)|rfl)|exact Nat.le_of_ble_eq_true rfl|decide|(repeat' first|(apply Lk.go;constructor)|assumption|exact nb ‹_› ‹_›|exact nt ‹_› ‹_›))|(intro b hb;repeat first|(refine fe hb ?_;intro _ _ hb)|(refine fT hb ?_;intro hb))|refine rt ?_|refine gA rfl ?_|refine gB rfl ?_|apply cT rfl|apply cF rfl|(apply DM.gbT;rfl)|(apply DM.gbF;rfl)|intro h
  (apply DM.pcs (c78); (· simp only [go_sem, Nat.reduceBEq, Nat.reduceAdd] <;> rfl); (· exact AVLes.refl _))
  cases hsk : (stackR p ps x s0.1).2 with
  | false =>
    repeat' first|(apply Sp.go;·constructor<;>first|exact ss|(change _=_;first|(simp only[go_sem,Nat.reduceBEq,Nat.reduceAdd,Nat.reduceLeDiff,reduceIte]<;>rfl)|rfl)|exact Nat.le_of_ble_eq_true rfl|decide|(repeat' first|(apply Lk.go;constructor)|assumption|exact nb ‹_› ‹_›|exact nt ‹_› ‹_›))|(intro b hb;repeat first|(refine fe hb ?_;intro _ _ hb)|(refine fT hb ?_;intro hb))|refine rt ?_|refine gA rfl ?_|refine gB rfl ?_|apply cT rfl|apply cF rfl|(apply DM.gbT;rfl)|(apply DM.gbF;rfl)|intro h
    rw [stepR_st (.inl hsk)]
    exact AM.ret (v := .int .i64 11) rfl ⟨rfl, err 11⟩
  | true =>
    have c79 := p79 s0.1 rr
    by_cases h24 : x.op = 24
    · have d24 : decide (x.op = 24) = true := decide_eq_true h24
      repeat' first|(apply Sp.go;·constructor<;>first|exact ss|(change _=_;first|(simp only[go_sem,Nat.reduceBEq,Nat.reduceAdd,Nat.reduceLeDiff,reduceIte, d24]<;>rfl)|rfl)|exact Nat.le_of_ble_eq_true rfl|decide|(repeat' first|(apply Lk.go;constructor)|assumption|exact nb ‹_› ‹_›|exact nt ‹_› ‹_›))|(intro b hb;repeat first|(refine fe hb ?_;intro _ _ hb)|(refine fT hb ?_;intro hb))|refine rt ?_|refine gA rfl ?_|refine gB rfl ?_|apply cT rfl|apply cF rfl|(apply DM.gbT;rfl)|(apply DM.gbF;rfl)|intro h
      (apply DM.pcs (c79); (· simp only [go_sem, Nat.reduceBEq, Nat.reduceAdd] <;> rfl); (· exact AVLes.refl _))
      by_cases hrr : s0.1 = rr
      · have drr : decide (s0.1 = rr) = true := decide_eq_true hrr
        simp only [drr]
        repeat' first|(apply Sp.go;·constructor<;>first|exact ss|(change _=_;first|(simp only[go_sem,Nat.reduceBEq,Nat.reduceAdd,Nat.reduceLeDiff,reduceIte]<;>rfl)|rfl)|exact Nat.le_of_ble_eq_true rfl|decide|(repeat' first|(apply Lk.go;constructor)|assumption|exact nb ‹_› ‹_›|exact nt ‹_› ‹_›))|(intro b hb;repeat first|(refine fe hb ?_;intro _ _ hb)|(refine fT hb ?_;intro hb))|refine rt ?_|refine gA rfl ?_|refine gB rfl ?_|apply cT rfl|apply cF rfl|(apply DM.gbT;rfl)|(apply DM.gbF;rfl)|intro h
        rw [stepR_mid (fun h => h.elim (by rw [hsk]; simp) (fun q => q.2 hrr))]
        refine AM.weakE [(1, .ms ts v), (2, .int .i64 i), (5, .ptr b5 0), (10, .int .i64 0), (11, .ptr b11 0), (12, .ptr b12 0), (13, .vs 1 ((stackR p ps x s0.1).1.map irow))] ?_ nn
        (repeat first | exact envle_nil _ | (refine envle_cons ?_ ?_; · (simp only [go_sem, Nat.reduceBEq, Nat.reduceAdd]; exact AVLe.refl _)))
      · have drr : decide (s0.1 = rr) = false := decide_eq_false hrr
        simp only [drr]
        repeat' first|(apply Sp.go;·constructor<;>first|exact ss|(change _=_;first|(simp only[go_sem,Nat.reduceBEq,Nat.reduceAdd,Nat.reduceLeDiff,reduceIte]<;>rfl)|rfl)|exact Nat.le_of_ble_eq_true rfl|decide|(repeat' first|(apply Lk.go;constructor)|assumption|exact nb ‹_› ‹_›|exact nt ‹_› ‹_›))|(intro b hb;repeat first|(refine fe hb ?_;intro _ _ hb)|(refine fT hb ?_;intro hb))|refine rt ?_|refine gA rfl ?_|refine gB rfl ?_|apply cT rfl|apply cF rfl|(apply DM.gbT;rfl)|(apply DM.gbF;rfl)|intro h
        rw [stepR_st (.inr ⟨h24, hrr⟩)]
        exact AM.ret (v := .int .i64 11) rfl ⟨rfl, err 11⟩
    · have d24 : decide (x.op = 24) = false := decide_eq_false h24
      repeat' first|(apply Sp.go;·constructor<;>first|exact ss|(change _=_;first|(simp only[go_sem,Nat.reduceBEq,Nat.reduceAdd,Nat.reduceLeDiff,reduceIte, d24]<;>rfl)|rfl)|exact Nat.le_of_ble_eq_true rfl|decide|(repeat' first|(apply Lk.go;constructor)|assumption|exact nb ‹_› ‹_›|exact nt ‹_› ‹_›))|(intro b hb;repeat first|(refine fe hb ?_;intro _ _ hb)|(refine fT hb ?_;intro hb))|refine rt ?_|refine gA rfl ?_|refine gB rfl ?_|apply cT rfl|apply cF rfl|(apply DM.gbT;rfl)|(apply DM.gbF;rfl)|intro h
      rw [stepR_mid (fun h => h.elim (by rw [hsk]; simp) (fun q => h24 q.1))]
      refine AM.weakE [(1, .ms ts v), (2, .int .i64 i), (5, .ptr b5 0), (10, .int .i64 0), (11, .ptr b11 0), (12, .ptr b12 0), (13, .vs 1 ((stackR p ps x s0.1).1.map irow))] ?_ nn
      (repeat first | exact envle_nil _ | (refine envle_cons ?_ ?_; · (simp only [go_sem, Nat.reduceBEq, Nat.reduceAdd]; exact AVLe.refl _)))
set_option maxHeartbeats 4000000 in
theorem p45 (H : AHeap) (ts v : Nat) (p : Prog) (hval : validP p = true) (ps rr : List Int) (hps : ps.length ≤ 1000) (S : List (Option St2)) (hS : S.length = p.code.length) (hts : H.tok ts = some (.mu 133 3 v (S.map rrow)))
    (i : Nat) (x : Ins_) (hx : p.code[i]? = some x) (s0 : St2) (hSi : S[i]? = some (some s0)) (hst : s0.1.length ≤ 16) (hlo : s0.2.length ≤ 4) (hlb : ∀ b ∈ s0.2, 0 ≤ b ∧ b ≤ 1000) :
    ACalls Try.prog 45 [p.av, .ms ts v, .int .i64 i, .vs 1 (ps.map irow), .vs 1 (rr.map irow)] H (RQ81 H ts v (stepR p ps rr S i x s0)) := by
  have hw : ACalls Try.prog 45 [p.av, .ms ts v, .int .i64 i, .vs 1 (ps.map irow), .vs 1 (rr.map irow)] H (RW81 H ts v (stepR p ps rr S i x s0)) := by
    refine acalls_of mo Try.func45 c45 ?_
    unfold e45 r45
    simp only [initEnv, initFrom]
    have hi := (List.getElem?_eq_some_iff.1 hSi).1
    have hcl := code_len hval
    have hsr : (S.map rrow)[i]? = some (rrow (some s0)) := by rw [List.getElem?_map, hSi]; rfl
    repeat' first|(apply Sp.go;·constructor<;>first|exact ss|(change _=_;first|(simp only[go_sem,Nat.reduceBEq,Nat.reduceAdd,Nat.reduceLeDiff,reduceIte]<;>rfl)|rfl)|exact Nat.le_of_ble_eq_true rfl|decide|(repeat' first|(apply Lk.go;constructor)|assumption|exact nb ‹_› ‹_›|exact nt ‹_› ‹_›))|(intro b hb;repeat first|(refine fe hb ?_;intro _ _ hb)|(refine fT hb ?_;intro hb))|refine rt ?_|refine gA rfl ?_|refine gB rfl ?_|apply cT rfl|apply cF rfl|(apply DM.gbT;rfl)|(apply DM.gbF;rfl)|intro h
    rename Nat => b5
    have h5 : (H.setB b5 27 p.cells).blk b5 = some (27, p.cells) := g_same
    have ht1 : (H.setB b5 27 p.cells).tok ts = some (.mu 133 3 v (S.map rrow)) := t_B hts
    have hs1 : HSub H (H.setB b5 27 p.cells) := HSub.setB (HSub.refl _) hb
    generalize H.setB b5 27 p.cells = H1 at *
    (apply DM.ixV (row := x.row) (z := (i : Int)) (by omega) (row_get Ins_.row hx); (· rfl); (· rfl))
    repeat' first|(apply Sp.go;·constructor<;>first|exact ss|(change _=_;first|(simp only[go_sem,Nat.reduceBEq,Nat.reduceAdd,Nat.reduceLeDiff,reduceIte]<;>rfl)|rfl)|exact Nat.le_of_ble_eq_true rfl|decide|(repeat' first|(apply Lk.go;constructor)|assumption|exact nb ‹_› ‹_›|exact nt ‹_› ‹_›))|(intro b hb;repeat first|(refine fe hb ?_;intro _ _ hb)|(refine fT hb ?_;intro hb))|refine rt ?_|refine gA rfl ?_|refine gB rfl ?_|apply cT rfl|apply cF rfl|(apply DM.gbT;rfl)|(apply DM.gbF;rfl)|intro h
    (apply DM.ixM; (· rfl); (· repeat' first|(apply Lk.go;constructor)|assumption|exact nb ‹_› ‹_›|exact nt ‹_› ‹_›|(apply Lv.go;constructor)); (· rfl); (· (first | omega | (simp only [List.length_map]; omega))); (· (first | omega | (simp only [List.length_map]; omega))))
    repeat' first|(apply Sp.go;·constructor<;>first|exact ss|(change _=_;first|(simp only[go_sem,Nat.reduceBEq,Nat.reduceAdd,Nat.reduceLeDiff,reduceIte]<;>rfl)|rfl)|exact Nat.le_of_ble_eq_true rfl|decide|(repeat' first|(apply Lk.go;constructor)|assumption|exact nb ‹_› ‹_›|exact nt ‹_› ‹_›))|(intro b hb;repeat first|(refine fe hb ?_;intro _ _ hb)|(refine fT hb ?_;intro hb))|refine rt ?_|refine gA rfl ?_|refine gB rfl ?_|apply cT rfl|apply cF rfl|(apply DM.gbT;rfl)|(apply DM.gbF;rfl)|intro h
    (apply DM.ldMA (i := i); (· rfl); (· repeat' first|(apply Lk.go;constructor)|assumption|exact nb ‹_› ‹_›|exact nt ‹_› ‹_›|(apply Lv.go;constructor)); (· exact rrow_len _); (· exact hsr); (· simp))
    repeat' first|(apply Sp.go;·constructor<;>first|exact ss|(change _=_;first|(simp only[go_sem,Nat.reduceBEq,Nat.reduceAdd,Nat.reduceLeDiff,reduceIte]<;>rfl)|rfl)|exact Nat.le_of_ble_eq_true rfl|decide|(repeat' first|(apply Lk.go;constructor)|assumption|exact nb ‹_› ‹_›|exact nt ‹_› ‹_›))|(intro b hb;repeat first|(refine fe hb ?_;intro _ _ hb)|(refine fT hb ?_;intro hb))|refine rt ?_|refine gA rfl ?_|refine gB rfl ?_|apply cT rfl|apply cF rfl|(apply DM.gbT;rfl)|(apply DM.gbF;rfl)|intro h
    rename_i hb5n b11 z1 z2 z3 z4
    rename Nat => b12
    refine DM.stDA (b := b11) (new := x.row) (cs' := x.row) rfl (fun s hs => by simp at hs) rfl (g_ne z4 g_same) rfl rfl rfl (by decide) rfl ?_
    refine DM.stF (b := b12) (new := rrow (some s0)) rfl (g_ne z3 g_same) rfl rfl rfl rfl rfl ?_
    refine DM.nil ?_
    refine AM.weakE [(1, .ms ts v), (2, .int .i64 i), (3, .vs 1 (ps.map irow)), (4, .vs 1 (rr.map irow)), (5, .ptr b5 0), (10, .int .i64 0), (11, .ptr b11 0), (12, .ptr b12 0)] ?_ ?_
    · (repeat first | exact envle_nil _ | (refine envle_cons ?_ ?_; · (simp only [go_sem, Nat.reduceBEq, Nat.reduceAdd]; exact AVLe.refl _)))
    refine AM.forget ((H1.setB b11 68 x.row).setB b12 133 (rrow (some s0))) ⟨fun y z h => ?_, fun y z h => by simp only [AHeap.setB] at h ⊢; exact h⟩ ?_
    · simp only [AHeap.setB] at h ⊢
      by_cases e1 : y = b12 <;> by_cases e2 : y = b11 <;> simp_all
    have hne5 : b5 ≠ b11 := (ne_blk z1 h5).2
    have hne6 : b5 ≠ b12 := (ne_blk hb h5).2
    have h5' : ((H1.setB b11 68 x.row).setB b12 133 (rrow (some s0))).blk b5 = some (27, p.cells) := g_ne hne6 (g_ne hne5 h5)
    have h11 : ((H1.setB b11 68 x.row).setB b12 133 (rrow (some s0))).blk b11 = some (68, x.row) := g_ne z4 g_same
    have h12 : ((H1.setB b11 68 x.row).setB b12 133 (rrow (some s0))).blk b12 = some (133, [.bool true, .vs 1 (s0.1.map irow), .vs 1 (s0.2.map irow)]) := g_same
    have ht2 : ((H1.setB b11 68 x.row).setB b12 133 (rrow (some s0))).tok ts = some (.mu 133 3 v (S.map rrow)) := t_B (t_B ht1)
    have hs2 : HSub H ((H1.setB b11 68 x.row).setB b12 133 (rrow (some s0))) := HSub.setB (HSub.setB hs1 (hs1.none_blk z1)) (hs1.none_blk hb)
    generalize (H1.setB b11 68 x.row).setB b12 133 (rrow (some s0)) = H2 at *
    exact m45 H H2 ts v p hval ps rr hps S hS hts ht2 hs2 i x hx s0 hst hlo hlb b5 b11 b12 h5' h11 h12
  exact hw.mono fun o H' ⟨h1, h2⟩ => by
    subst h1
    exact ⟨.ret (.int .i64 (stepR p ps rr S i x s0).1), _, AVLe.refl _, h2, rfl, rfl⟩
theorem concat_cases (l : List Int) : l = [] ∨ ∃ k a, l = k ++ [a] := by
  rcases List.eq_nil_or_concat l with h | ⟨k, a, h⟩
  · exact .inl h
  · exact .inr ⟨k, a, by simpa using h⟩
theorem pop_snoc (k a : Int) (l : List Int) : popK k (l ++ [a]) = if a = k then some l else none := by
  unfold popK
  simp only [List.getLast?_append, List.getLast?_singleton, Option.some_or, List.dropLast_concat]
theorem pops_pref : ∀ (t : List UInt8) (st : List Int), popsK (t.map kindOf) st = if prefOk t st.reverse then some (st.take (st.length - t.length)) else none
  | [], st => by simp [popsK, prefOk]
  | c :: t, st => by
    rcases concat_cases st with rfl | ⟨l, a, rfl⟩
    · simp [popsK, popK, prefOk]
    · have ih := pops_pref t l
      have h1 : prefOk (c :: t) (l ++ [a]).reverse = (decide (a = kindOf c) && prefOk t l.reverse) := by rw [List.reverse_append]; rfl
      have h2 : (l ++ [a]).take ((l ++ [a]).length - (c :: t).length) = l.take (l.length - t.length) := by
        rw [List.take_append_of_le_length (by simp)]
        congr 1
        simp
      rw [List.map_cons, popsK, pop_snoc, h1, h2]
      by_cases e : a = kindOf c
      · rw [if_pos e, Option.bind_some, ih, decide_eq_true e, Bool.true_and]
      · rw [if_neg e, decide_eq_false e, Bool.false_and]; rfl
/-- The two forms of what an operation does to the stack. -/
theorem eff_pops (op : Int) (st ks : List Int) (k : Option Int) (hst : st.length ≤ 16) (t : List UInt8) (ht : takesP op = t) (hks : t.map kindOf = ks) (hg : (givesP op).map kindOf = k.toList) :
    ((popsK ks st).bind fun s => match k with | some k => pushK k s | none => some s) = if (effR op st).2 = false then none else some (effR op st).1 := by
  subst ht hks
  rw [pops_pref]
  unfold effR
  rw [hg]
  cases hp : prefOk (takesP op) st.reverse with
  | false => simp
  | true =>
    simp only [if_true, Option.bind_some]
    have hl : (st.take (st.length - (takesP op).length)).length ≤ 16 := by simp; omega
    generalize st.take (st.length - (takesP op).length) = s at *
    cases k with
    | none => simp [hl]
    | some k => 
      simp only [pushK, Option.toList_some, List.length_append, List.length_cons, List.length_nil]
      by_cases h : s.length < 16
      · rw [if_pos h, if_neg (by simp only [decide_eq_false_iff_not]; omega)]
      · rw [if_neg h, if_pos (by simp only [decide_eq_false_iff_not]; omega)]
theorem val_stack (p : Prog) (ps rr : List Int) (x : Ins_) (st : List Int) (hst : st.length ≤ 16) (hv : x.op = 3 ∨ x.op = 5 → 0 ≤ x.n ∧ x.n < p.vars.length) (hpa : x.op = 4 → 0 ≤ x.n) :
    valuesP p ps rr x st = if (stackR p ps x st).2 = false ∨ (x.op = 24 ∧ st ≠ rr) then none else some (stackR p ps x st).1 := by
  by_cases h3 : x.op = 3
  · obtain ⟨v, hx⟩ := some_of (show x.n.toNat < p.vars.length by have := hv (.inl h3); omega)
    have e1 : valuesP p ps rr x st = pushK v.sort.k st := by simp [valuesP, h3, hx]
    have e2 : stackR p ps x st = (st ++ [v.sort.k], decide (st.length < 16)) := by simp [stackR, h3, kAt, hx]
    rw [e1, e2, pushK]
    by_cases h : st.length < 16 <;> simp [h, h3]
  by_cases h4 : x.op = 4
  · have hn := hpa h4
    cases hq : ps[x.n.toNat]? with
    | none =>
      have h1 := List.getElem?_eq_none_iff.1 hq
      have e1 : valuesP p ps rr x st = none := by simp [valuesP, h4, hq]
      have e2 : stackR p ps x st = ([], false) := by simp [stackR, h4, hq]
      rw [e1, e2, if_pos (.inl rfl)]
    | some k =>
      have h1 := (List.getElem?_eq_some_iff.1 hq).1
      have e1 : valuesP p ps rr x st = pushK k st := by simp [valuesP, h4, hq]; intro h; omega
      have e2 : stackR p ps x st = (st ++ [k], decide (st.length < 16)) := by simp [stackR, h4, hq]
      rw [e1, e2, pushK]
      by_cases h : st.length < 16 <;> simp [h, h4]
  by_cases h5 : x.op = 5
  · obtain ⟨v, hx⟩ := some_of (show x.n.toNat < p.vars.length by have := hv (.inr h5); omega)
    have e1 : valuesP p ps rr x st = popK v.sort.k st := by
      simp only [valuesP, if_neg (show ¬ x.op = 1 by omega), if_neg (show ¬ x.op = 2 by omega), if_neg h3, if_neg h4, if_pos h5, hx, Option.bind_some, popsK]
      cases popK v.sort.k st <;> rfl
    have e0 : kAt p x = v.sort.k := by simp [kAt, hx]
    rw [e1]
    simp only [stackR, if_neg h3, if_neg h4, if_pos h5, e0]
    rcases concat_cases st with rfl | ⟨l, a, rfl⟩
    · simp [popK]
    · rw [pop_snoc]
      by_cases e : a = v.sort.k <;> simp [e, h5]
  by_cases h12 : x.op = 12
  · have e1 : valuesP p ps rr x st = match st.getLast? with
      | none => none
      | some k => if k = 1 ∨ k = 2 then (popsK [k, k] st).bind (pushK 1) else none := by
      simp [valuesP, h12, isArith]
      cases st.getLast? <;> rfl
    rw [e1]
    simp only [stackR, if_neg h3, if_neg h4, if_neg h5, if_pos h12]
    rcases concat_cases st with rfl | ⟨l, a, rfl⟩
    · simp
    · rcases concat_cases l with rfl | ⟨l, b, rfl⟩
      · by_cases ha : a = 1 ∨ a = 2
        · have : popsK [a, a] ([] ++ [a]) = none := by rw [popsK, pop_snoc, if_pos rfl]; rfl
          simp only [List.getLast?_append, List.getLast?_singleton, Option.some_or, if_pos ha, this]
          simp
        · simp [ha]
      · have hl1 : (l ++ [b] ++ [a]).length = l.length + 2 := by simp
        have g1 : (l ++ [b] ++ [a])[(l ++ [b] ++ [a]).length - 1]? = some a := by
          rw [hl1, List.getElem?_append_right (by simp)]; simp
        have g2 : (l ++ [b] ++ [a])[(l ++ [b] ++ [a]).length - 2]? = some b := by
          rw [hl1, List.getElem?_append_left (by simp), List.getElem?_append_right (by simp)]; simp
        have g3 : (l ++ [b] ++ [a]).take ((l ++ [b] ++ [a]).length - 2) = l := by
          rw [hl1, List.append_assoc, List.take_append_of_le_length (by simp)]; simp
        rw [g1, g2, g3]
        simp only [List.getLast?_append, List.getLast?_singleton, Option.some_or, Option.some.injEq]
        by_cases ha : a = 1 ∨ a = 2
        · by_cases hb : a = b
          · subst hb
            have : popsK [a, a] (l ++ [a] ++ [a]) = some l := by rw [popsK, pop_snoc, if_pos rfl, Option.bind_some, popsK, pop_snoc, if_pos rfl]; rfl
            have c : 2 ≤ (l ++ [a] ++ [a]).length ∧ a = a ∧ (a = 1 ∨ a = 2) := ⟨by omega, rfl, ha⟩
            simp only [if_pos ha, this, Option.bind_some, if_pos c, pushK, if_pos (show l.length < 16 by simp at hst; omega)]
            simp [h12, ha]
          · have : popsK [a, a] (l ++ [b] ++ [a]) = none := by rw [popsK, pop_snoc, if_pos rfl, Option.bind_some, popsK, pop_snoc, if_neg (fun e => hb e.symm)]; rfl
            have c : ¬ (2 ≤ (l ++ [b] ++ [a]).length ∧ a = b ∧ (a = 1 ∨ a = 2)) := fun h => hb h.2.1
            simp only [if_pos ha, this, if_neg c]
            simp
        · have c : ¬ (2 ≤ (l ++ [b] ++ [a]).length ∧ a = b ∧ (a = 1 ∨ a = 2)) := fun h => ha h.2.2
          simp only [if_neg ha, if_neg c]
          simp
  have es : stackR p ps x st = effR x.op st := by simp only [stackR, if_neg h3, if_neg h4, if_neg h5, if_neg h12]
  rw [es]
  have go : ∀ (ks : List Int) (k : Option Int) (t : List UInt8), takesP x.op = t → t.map kindOf = ks → (givesP x.op).map kindOf = k.toList → x.op ≠ 24 → valuesP p ps rr x st = ((popsK ks st).bind fun s => match k with | some k => pushK k s | none => some s) → valuesP p ps rr x st = if (effR x.op st).2 = false ∨ (x.op = 24 ∧ st ≠ rr) then none else some (effR x.op st).1 := by
    intro ks k t a b c d e
    rw [e, eff_pops x.op st ks k hst t a b c]
    simp [d]
  by_cases h1 : x.op = 1
  · exact go [] (some 1) [] (by rw [h1]; rfl) rfl (by rw [h1]; rfl) (by omega) (by simp [valuesP, h1, popsK])
  by_cases h2 : x.op = 2
  · exact go [] (some 2) [] (by rw [h2]; rfl) rfl (by rw [h2]; rfl) (by omega) (by simp [valuesP, h2, popsK])
  by_cases ha : isArith x.op = true
  · have n1 : x.op ≠ 11 ∧ x.op ≠ 14 ∧ x.op ≠ 17 ∧ x.op ≠ 18 ∧ x.op ≠ 20 ∧ x.op ≠ 24 := by simp [isArith] at ha; omega
    exact go [1, 1] (some 1) [105, 105] (by rw [takesP, if_pos ha]) rfl (by rw [givesP, if_neg h1, if_neg h2, if_pos ha]; rfl) n1.2.2.2.2.2 (by simp [valuesP, h1, h2, h3, h4, h5, ha])
  have hz : isArith x.op = false := by simpa using ha
  by_cases h11 : x.op = 11 ∨ x.op = 14
  · exact go [1] (some 1) [105] (by rw [takesP, if_neg ha, if_pos h11]) rfl (by rw [givesP, if_neg h1, if_neg h2, if_neg ha, if_pos h11]; rfl) (by omega) (by simp only [valuesP, if_neg h1, if_neg h2, if_neg h3, if_neg h4, if_neg h5, if_neg ha, if_pos h11])
  by_cases h17 : x.op = 17
  · exact go [2, 2] (some 2) [116, 116] (by rw [h17]; rfl) rfl (by rw [h17]; rfl) (by omega) (by simp [valuesP, h17, isArith])
  by_cases h18 : x.op = 18
  · exact go [2] (some 1) [116] (by rw [h18]; rfl) rfl (by rw [h18]; rfl) (by omega) (by simp [valuesP, h18, isArith])
  by_cases h20 : x.op = 20
  · exact go [1] none [105] (by rw [h20]; rfl) rfl (by rw [h20]; rfl) (by omega) (by simp [valuesP, h20, isArith])
  have ht : takesP x.op = [] := by simp [takesP, hz, h11, h17, h18, h20]
  have hg : givesP x.op = [] := by simp [givesP, h1, h2, hz, h11, h17, h18]
  by_cases h24 : x.op = 24
  · have e1 : valuesP p ps rr x st = if st = rr then some st else none := by simp [valuesP, h24, isArith]
    have e2 := eff_pops x.op st [] none hst [] ht rfl (by rw [hg]; rfl)
    simp only [popsK, Option.bind_some] at e2
    rw [e1]
    by_cases h : (effR x.op st).2 = false
    · rw [if_pos h] at e2; cases e2
    · rw [if_neg h] at e2
      by_cases hr : st = rr
      · rw [if_pos hr, if_neg (fun h' => h'.elim h (fun q => q.2 hr)), ← e2]
      · rw [if_neg hr, if_pos (.inr ⟨h24, hr⟩)]
  · exact go [] none [] ht rfl (by rw [hg]; rfl) h24 (by simp only [valuesP, if_neg h1, if_neg h2, if_neg h3, if_neg h4, if_neg h5, if_neg ha, if_neg h11, if_neg h12, if_neg h17, if_neg h18, if_neg h20, if_neg h24, popsK, Option.bind_some])
theorem lo_struct (p : Prog) (i : Nat) (x : Ins_) (lo : List Int) : loopsP p i x lo = if structR p i x lo = false then none else some (loR i x lo) := by
  unfold loopsP loopsQ structR loR finP
  by_cases h21 : x.op = 21
  · by_cases h : lo.length < 4 <;> by_cases h2 : i + 1 < p.code.length <;> simp [h21, h, h2]
  by_cases h22 : x.op = 22
  · rcases concat_cases lo with rfl | ⟨l, a, rfl⟩
    · simp [h22]
    · by_cases h : x.n = a + 1
      · have e : a = x.n - 1 := by omega
        by_cases h2 : i + 1 < p.code.length <;> simp [h22, h, h2]
      · have e : ¬ a = x.n - 1 := by omega
        simp [h22, h, e]
  by_cases h23 : x.op = 23
  · rcases concat_cases lo with rfl | ⟨l, a, rfl⟩
    · simp [h23]
    · by_cases h2 : i + 1 < p.code.length <;> simp [h23, h2]
  by_cases h24 : x.op = 24
  · cases lo <;> simp [h24]
  by_cases h19 : x.op = 19
  · by_cases h : (i : Int) < x.n <;> simp [h19, h]
  by_cases h20 : x.op = 20
  · by_cases h : (i : Int) < x.n <;> by_cases h2 : i + 1 < p.code.length <;> simp [h20, h, h2]
  by_cases h2 : i + 1 < p.code.length <;> simp [h21, h22, h23, h24, h19, h20, h2]
theorem look_step {p : Prog} (hval : validP p = true) (ps rr : List Int) {S : List (Option St2)} {i : Nat} {x : Ins_} {s0 : St2} (hx : p.code[i]? = some x) (hS : S[i]? = some (some s0)) (hst : s0.1.length ≤ 16) : lookP p ps rr S i = stepR p ps rr S i x s0 := by
  have hxm : x ∈ p.code := List.mem_of_getElem? hx
  have h1 := val_stack p ps rr x s0.1 hst (insOk hval hxm).var (insOk hval hxm).par
  have h2 := lo_struct p i x s0.2
  unfold lookP
  rw [hx, hS]
  dsimp only
  rw [h1]
  by_cases hb : (stackR p ps x s0.1).2 = false ∨ (x.op = 24 ∧ s0.1 ≠ rr)
  · rw [if_pos hb, stepR_st hb]
  · rw [if_neg hb]
    dsimp only
    rw [h2]
    by_cases hc : structR p i x s0.2 = false
    · rw [if_pos hc, stepR_lo hb hc]
    · rw [if_neg hc, stepR_end hb (by simpa using hc), endR]
      dsimp only
      have e : leadsP x.op = true ↔ (x.op = 19 ∨ x.op = 20 ∨ x.op = 22) := by simp [leadsP, or_assoc]
      generalize (if x.op = 19 ∨ x.op = 24 then ((0, S) : Int × List (Option St2)) else reachP S (i + 1) _) = r1
      by_cases ha : r1.1 = 0 ∧ (x.op = 19 ∨ x.op = 20 ∨ x.op = 22)
      · rw [if_pos ha, if_pos ⟨e.2 ha.2, ha.1⟩]
      · rw [if_neg ha, if_neg (fun h => ha ⟨h.2, e.1 h.1⟩)]
theorem flatten_set1 {size : Nat} : ∀ {rows : List (List AV)} {i j : Nat} {row : List AV} {r : AV}, (∀ r ∈ rows, r.length = size) → rows[i]? = some row → j < size → (rows.set i (row.set j r)).flatten = setRange rows.flatten (i * size + j) [r] := by
  intro rows i j row r hs hr hj
  have hl := hs row (List.mem_of_getElem? hr)
  obtain ⟨g1, g2⟩ := flat_get hs hr
  rw [flatten_set hs hr (by simp [hl])]
  have e : row.set j r = row.take j ++ [r] ++ row.drop (j + 1) := by
    rw [List.set_eq_take_append_cons_drop, if_pos (by omega)]; simp
  rw [e, ← g2]
  simp only [setRange]
  generalize rows.flatten = F at *
  have hA : ((F.drop (i * size)).take size).length = size := by rw [g2]; exact hl
  have l1 : (List.take j (List.take size (List.drop (i * size) F)) ++ [r] ++ List.drop (j + 1) (List.take size (List.drop (i * size) F))).length = size := by
    simp only [List.length_append, List.length_take, List.length_drop, List.length_cons, List.length_nil] at *; omega
  rw [l1]
  have e1 : F.take (i * size + j) = F.take (i * size) ++ (F.drop (i * size)).take j := List.take_add
  have e2 : List.take j (List.take size (List.drop (i * size) F)) = (F.drop (i * size)).take j := by rw [List.take_take, Nat.min_eq_left (by omega)]
  have e3 : F.drop (i * size + j + 1) = List.drop (j + 1) (List.take size (List.drop (i * size) F)) ++ F.drop (i * size + size) := by
    have : (F.drop (i * size)) = (F.drop (i * size)).take size ++ F.drop (i * size + size) := by
      rw [← List.drop_drop, List.take_append_drop]
    have h4 : F.drop (i * size + j + 1) = (F.drop (i * size)).drop (j + 1) := by rw [List.drop_drop]; congr 1
    rw [h4]
    conv => lhs; rw [this]
    rw [List.drop_append, hA, show j + 1 - size = 0 by omega, List.drop_zero]
  rw [e1, e2, List.length_singleton, e3]
  simp
theorem DM.stM1 {P : Program} {l : List EI} {env : Env} {H : AHeap} {K : Env → AHeap → Prop} {Rp : AV → AHeap → Prop} {a v : EOpd} {t ver k Te size : Nat} {rows : List (List AV)} {row : List AV} {r : AV} {i j : Nat} (ha : a.ev env = .mp t ver k) (ht : H.tok t = some (.mu Te size ver rows)) (hv : (v.ev env).cells = [r]) (hs : ∀ r ∈ rows, r.length = size) (hr : rows[i]? = some row) (hk : k = i * size + j) (hj : j < size) (ho : r.one = true) (h : DM P l env (H.setT t (.mu Te size ver (rows.set i (row.set j r)))) K Rp) : DM P (⟨none, none, .store 1 a v⟩ :: l) env H K Rp := by
  obtain ⟨g1, g2⟩ := flat_get hs hr
  have hl := hs row (List.mem_of_getElem? hr)
  subst hk
  simp only [DM, wanted]
  exact IStep.storeM ha ht (by rw [hv]; rfl) (by omega) (by rw [hv]; simp [ho]) (by rw [hv]; exact flatten_set1 hs hr hj) (fun q hq => by rcases List.mem_or_eq_of_mem_set hq with h | h; exact hs q h; subst h; simp [hl]) (by simp) h
/-- Less may be known of the rows of a writable slice. -/
theorem AM.tokLe {P : Program} {rs : List ERes} {R : Out → AHeap → Prop} {k : List Item} {env : Env} {H : AHeap} (t : Nat) {Te size ver : Nat} {rows rows' : List (List AV)} (ht : H.tok t = some (.mu Te size ver rows)) (hl : AVLes rows.flatten rows'.flatten) (hlen : rows'.length = rows.length) (hs : ∀ r ∈ rows', r.length = size)
    (h : AM P rs R k env (H.setT t (.mu Te size ver rows'))) : AM P rs R k env H := by
  refine AM.conv (fun env' H' => env' = env ∧ H' = H.setT t (.mu Te size ver rows')) (fun m e rh => ?_) (fun env' H' ⟨e1, e2⟩ => by subst e1; subst e2; exact h)
  subst e
  obtain ⟨k1, k2, ⟨xs, k3, k5⟩, k4⟩ := rh.tok t _ ht
  obtain ⟨k6, k7, k8⟩ := k5 rows rfl
  have g0 : Grows0 m m.w t (.mu Te size ver rows) (m.L t) (.mu Te size ver rows') := ⟨rfl, rfl, rfl, Nat.le_refl _, fun _ _ _ => rfl, fun _ _ _ _ => rfl, fun _ h => .inl h, Nat.le_refl _, rfl, rfl, Nat.le_refl _, fun _ => rfl⟩
  have v2 := Ev.gt rh ht g0
  have r2 := RH.gt rh ht (v := m.L t) (o := .mu Te size ver rows') ⟨g0, xs, by
    have := k3
    simp only [Own.mu, Own.len] at this ⊢
    rw [hlen]
    exact this, fun rows'' hr => by
    cases hr
    exact ⟨RvL.ev v2 _ _ (avles_rv hl k6), hs, k8⟩⟩
  have hL : (fun x => if x = t then m.L t else m.L x) = m.L := by
    funext x
    by_cases e : x = t
    · rw [if_pos e, e]
    · rw [if_neg e]
  exact ⟨env, _, (fun x => if x = t then m.L t else m.L x), m.T, ⟨rfl, rfl⟩, r2, v2, fun q v hv => Rv.ev v2 _ _ hv⟩
theorem avles_app {a b c d : List AV} (h : AVLes a b) (k : AVLes c d) : AVLes (a ++ c) (b ++ d) := by
  induction a generalizing b with
  | nil => simp only [AVLes] at h; subst h; exact k
  | cons x a ih =>
    obtain ⟨y, b', rfl, h1, h2⟩ := h
    exact avles_cons h1 (ih h2)
theorem avles_flat_set : ∀ (rows : List (List AV)) (i : Nat) {x y : List AV}, AVLes x y → AVLes (rows.set i x).flatten (rows.set i y).flatten
  | [], _, _, _, _ => by simpa using avles_nil
  | r :: rs, 0, _, _, h => by simpa using avles_app h (AVLes.refl _)
  | r :: rs, i + 1, _, _, h => by simpa using avles_app (AVLes.refl r) (avles_flat_set rs i h)
def tail19 : EC := match e19 with
  | .seq _ (.seq _ (.seq _ (.seq _ t))) => t
  | _ => .skip
def head19 (t : EC) : EC := match e19 with
  | .seq a (.seq b (.seq c (.seq d _))) => .seq a (.seq b (.seq c (.seq d t)))
  | _ => .skip
def HR (H : AHeap) (p : Prog) (b4 ts : Nat) (S : List (Option St2)) : AHeap := (H.setB b4 27 p.cells).setT ts (.mu 133 3 0 (S.map rrow))
theorem hr_set {H : AHeap} {p : Prog} {b4 ts : Nat} {S S' : List (Option St2)} : (HR H p b4 ts S).setT ts (.mu 133 3 0 (S'.map rrow)) = HR H p b4 ts S' := by
  simp only [HR, setT_setT]
set_option maxHeartbeats 8000000 in
theorem t19 (p : Prog) (ei : Nat) (ps rr : List Int) (hps : ps.length ≤ 1000) (hval : validP p = true) (hei : ei ≤ p.code.length) (H : AHeap) (b4 ts : Nat) (hb4 : H.blk b4 = none) (hts : H.tok ts = none) (S0 : List (Option St2)) (hS0 : S0.length = p.code.length) (hok : SOk p S0) (r : Int × Int × Int) (hr : r = costF p ps rr (p.code.length - ei) ei S0 0) :
    AM Try.prog r19 (RT17 H r) [.c tail19] [(1, .int .i64 ei), (2, .vs 1 (ps.map irow)), (3, .vs 1 (rr.map irow)), (4, .ptr b4 0), (8, .int .i64 0), (9, .int .i64 0), (10, .int .i64 0), (11, .ms ts 0)] (HR H p b4 ts S0) := by
  have hcl := code_len hval
  have k1 : ∀ S, (HR H p b4 ts S).blk b4 = some (27, p.cells) := fun S => g_T g_same
  have k3 : ∀ S, (HR H p b4 ts S).tok ts = some (.mu 133 3 0 (S.map rrow)) := fun S => t_same
  have k4 : ∀ S, HSub H (HR H p b4 ts S) := fun S => HSub.setT (HSub.setB (HSub.refl _) hb4) hts
  have k5 : ∀ S S', (HR H p b4 ts S).setT ts (.mu 133 3 0 (S'.map rrow)) = HR H p b4 ts S' := fun S S' => hr_set
  generalize HR H p b4 ts = F at *
  unfold tail19 e19 r19
  dsimp only
  repeat' first|(apply Sp.go;·constructor<;>first|exact ss|(change _=_;first|(simp only[go_sem,Nat.reduceBEq,Nat.reduceAdd,Nat.reduceLeDiff,reduceIte]<;>rfl)|rfl)|exact Nat.le_of_ble_eq_true rfl|decide|(repeat' first|(apply Lk.go;constructor)|assumption|exact nb ‹_› ‹_›|exact nt ‹_› ‹_›))|(intro b hb;repeat first|(refine fe hb ?_;intro _ _ hb)|(refine fT hb ?_;intro hb))|refine rt ?_|refine gA rfl ?_|refine gB rfl ?_|apply cT rfl|apply cF rfl|(apply DM.gbT;rfl)|(apply DM.gbF;rfl)|intro h
  refine AM.loopX (X := Nat × List (Option St2) × Int) (ei, S0, 0) (fun x => [(2, .vs 1 (ps.map irow)), (3, .vs 1 (rr.map irow)), (4, .ptr b4 0), (8, .int .i64 0), (9, .int .i64 0), (10, .int .i64 0), (11, .ms ts 0), (12, .int .i64 x.2.2), (13, .int .i64 x.1)]) (fun x H' => H' = F x.2.1 ∧ x.1 ≤ p.code.length ∧ x.2.1.length = p.code.length ∧ SOk p x.2.1 ∧ r = costF p ps rr (p.code.length - x.1) x.1 x.2.1 x.2.2) (fun x => p.code.length - x.1) ⟨rfl, hei, hS0, hok, hr⟩ ?_ ?_
  · (repeat first | exact envle_nil _ | (refine envle_cons ?_ ?_; · (simp only [go_sem, Nat.reduceBEq, Nat.reduceAdd]; exact AVLe.refl _)))
  · rintro ⟨i, S, c⟩ H' ⟨e, q1, q2, q3, q4⟩
    subst e
    dsimp only at *
    have f1 := k1 S
    have f3 := k3 S
    have f4 := k4 S
    generalize hH2 : F S = H2 at f1 f3 f4 ⊢
    repeat' first|(apply Sp.go;·constructor<;>first|exact ss|(change _=_;first|(simp only[go_sem,Nat.reduceBEq,Nat.reduceAdd,Nat.reduceLeDiff,reduceIte]<;>rfl)|rfl)|exact Nat.le_of_ble_eq_true rfl|decide|(repeat' first|(apply Lk.go;constructor)|assumption|exact nb ‹_› ‹_›|exact nt ‹_› ‹_›))|(intro b hb;repeat first|(refine fe hb ?_;intro _ _ hb)|(refine fT hb ?_;intro hb))|refine rt ?_|refine gA rfl ?_|refine gB rfl ?_|apply cT rfl|apply cF rfl|(apply DM.gbT;rfl)|(apply DM.gbF;rfl)|intro h
    (apply AM.cond; (· rfl))
    · intro h3
      simp at h3
      repeat' first|(apply Sp.go;·constructor<;>first|exact ss|(change _=_;first|(simp only[go_sem,Nat.reduceBEq,Nat.reduceAdd,Nat.reduceLeDiff,reduceIte]<;>rfl)|rfl)|exact Nat.le_of_ble_eq_true rfl|decide|(repeat' first|(apply Lk.go;constructor)|assumption|exact nb ‹_› ‹_›|exact nt ‹_› ‹_›))|(intro b hb;repeat first|(refine fe hb ?_;intro _ _ hb)|(refine fT hb ?_;intro hb))|refine rt ?_|refine gA rfl ?_|refine gB rfl ?_|apply cT rfl|apply cF rfl|(apply DM.gbT;rfl)|(apply DM.gbF;rfl)|intro h
      (apply DM.ixM; (· rfl); (· repeat' first|(apply Lk.go;constructor)|assumption|exact nb ‹_› ‹_›|exact nt ‹_› ‹_›|(apply Lm.go;constructor)); (· rfl); (· (first | omega | (simp only [List.length_map]; omega))); (· (first | omega | (simp only [List.length_map]; omega))))
      repeat' first|(apply Sp.go;·constructor<;>first|exact ss|(change _=_;first|(simp only[go_sem,Nat.reduceBEq,Nat.reduceAdd,Nat.reduceLeDiff,reduceIte]<;>rfl)|rfl)|exact Nat.le_of_ble_eq_true rfl|decide|(repeat' first|(apply Lk.go;constructor)|assumption|exact nb ‹_› ‹_›|exact nt ‹_› ‹_›))|(intro b hb;repeat first|(refine fe hb ?_;intro _ _ hb)|(refine fT hb ?_;intro hb))|refine rt ?_|refine gA rfl ?_|refine gB rfl ?_|apply cT rfl|apply cF rfl|(apply DM.gbT;rfl)|(apply DM.gbF;rfl)|intro h
      obtain ⟨so, hso⟩ := some_of (show i < S.length by omega)
      have hsr : (S.map rrow)[i]? = some (rrow so) := by rw [List.getElem?_map, hso]; rfl
      obtain ⟨k, hk⟩ : ∃ k, p.code.length - i = k + 1 := ⟨p.code.length - i - 1, by omega⟩
      have hk2 : p.code.length - (i + 1) = k := by omega
      rw [hk] at q4
      cases so with
      | none =>
        (apply DM.ldM1 (i := i) (j := 0); (· rfl); (· repeat' first|(apply Lk.go;constructor)|assumption|exact nb ‹_› ‹_›|exact nt ‹_› ‹_›|(apply Lm.go;constructor)); (· exact rrow_len _); (· exact hsr); (· simp); (· rfl))
        repeat' first|(apply Sp.go;·constructor<;>first|exact ss|(change _=_;first|(simp only[go_sem,Nat.reduceBEq,Nat.reduceAdd,Nat.reduceLeDiff,reduceIte]<;>rfl)|rfl)|exact Nat.le_of_ble_eq_true rfl|decide|(repeat' first|(apply Lk.go;constructor)|assumption|exact nb ‹_› ‹_›|exact nt ‹_› ‹_›))|(intro b hb;repeat first|(refine fe hb ?_;intro _ _ hb)|(refine fT hb ?_;intro hb))|refine rt ?_|refine gA rfl ?_|refine gB rfl ?_|apply cT rfl|apply cF rfl|(apply DM.gbT;rfl)|(apply DM.gbF;rfl)|intro h
        refine AM.roundX (i + 1, S, c) ⟨hH2.symm, by dsimp only; omega, q2, q3, ?_⟩ ?_ ?_
        · rw [q4, costF_skip hso]
          dsimp only
          rw [hk2]
        · (repeat first | exact envle_nil _ | (refine envle_cons ?_ ?_; · (simp only [go_sem, Nat.reduceBEq, Nat.reduceAdd]; exact AVLe.refl _)))
          refine envle_cons ?_ ?_
          · simp only [go_sem, Nat.reduceBEq, Nat.reduceAdd]
            refine avle_int ?_
            rw [inc64 h3 (by unfold maxLen; omega)]
          exact envle_nil _
        · show p.code.length - (i + 1) < p.code.length - i
          omega
      | some s =>
        (apply DM.ldM1 (i := i) (j := 0); (· rfl); (· repeat' first|(apply Lk.go;constructor)|assumption|exact nb ‹_› ‹_›|exact nt ‹_› ‹_›|(apply Lm.go;constructor)); (· exact rrow_len _); (· exact hsr); (· simp); (· rfl))
        repeat' first|(apply Sp.go;·constructor<;>first|exact ss|(change _=_;first|(simp only[go_sem,Nat.reduceBEq,Nat.reduceAdd,Nat.reduceLeDiff,reduceIte]<;>rfl)|rfl)|exact Nat.le_of_ble_eq_true rfl|decide|(repeat' first|(apply Lk.go;constructor)|assumption|exact nb ‹_› ‹_›|exact nt ‹_› ‹_›))|(intro b hb;repeat first|(refine fe hb ?_;intro _ _ hb)|(refine fT hb ?_;intro hb))|refine rt ?_|refine gA rfl ?_|refine gB rfl ?_|apply cT rfl|apply cF rfl|(apply DM.gbT;rfl)|(apply DM.gbF;rfl)|intro h
        have hst := q3 s (List.mem_of_getElem? hso)
        obtain ⟨l1, l2, l3⟩ := lookP_ok (ps := ps) (rr := rr) h3 hso q3
        obtain ⟨x, hx⟩ := some_of h3
        have hls := look_step hval ps rr hx hso hst.st
        have hc := p45 H2 ts 0 p hval ps rr hps S q2 f3 i x hx s hso hst.st hst.lo (fun b hb => by have := hst.ix b hb; omega)
        refine DM.call81 hc (by simp only [go_sem, Nat.reduceBEq] <;> rfl) (AVLes.refl _) ?_
        simp only [put_some]
        rw [← hH2, k5, ← hls]
        by_cases z : (lookP p ps rr S i).1 = 0
        · rw [costF_ok hso z] at q4
          rw [z]
          generalize (lookP p ps rr S i).2 = S' at *
          have f1' := k1 S'
          have f3' := k3 S'
          have f4' := k4 S'
          generalize hH3 : F S' = H3 at f1' f3' f4' ⊢
          have hsr' : (S'.map rrow)[i]? = some (rrow (some s)) := by rw [List.getElem?_map, l3]; rfl
          repeat' first|(apply Sp.go;·constructor<;>first|exact ss|(change _=_;first|(simp only[go_sem,Nat.reduceBEq,Nat.reduceAdd,Nat.reduceLeDiff,reduceIte]<;>rfl)|rfl)|exact Nat.le_of_ble_eq_true rfl|decide|(repeat' first|(apply Lk.go;constructor)|assumption|exact nb ‹_› ‹_›|exact nt ‹_› ‹_›))|(intro b hb;repeat first|(refine fe hb ?_;intro _ _ hb)|(refine fT hb ?_;intro hb))|refine rt ?_|refine gA rfl ?_|refine gB rfl ?_|apply cT rfl|apply cF rfl|(apply DM.gbT;rfl)|(apply DM.gbF;rfl)|intro h
          refine AM.loopX (X := Nat × Int) (0, 1) (fun x => [(2, .vs 1 (ps.map irow)), (3, .vs 1 (rr.map irow)), (4, .ptr b4 0), (8, .int .i64 0), (9, .int .i64 0), (10, .int .i64 0), (11, .ms ts 0), (12, .int .i64 c), (13, .int .i64 i), (15, .int .i64 x.2), (16, .int .i64 x.1)]) (fun x H' => H' = H3 ∧ x.1 ≤ s.2.length ∧ roundsP p s.2 = (s.2.drop x.1).foldl (mulR p) x.2) (fun x => s.2.length - x.1) ⟨rfl, Nat.zero_le _, rfl⟩ ?_ ?_
          · (repeat first | exact envle_nil _ | (refine envle_cons ?_ ?_; · (simp only [go_sem, Nat.reduceBEq, Nat.reduceAdd]; exact AVLe.refl _)))
          · rintro ⟨j, n⟩ H' ⟨e, y1, y2⟩
            subst e
            dsimp only at *
            repeat' first|(apply Sp.go;·constructor<;>first|exact ss|(change _=_;first|(simp only[go_sem,Nat.reduceBEq,Nat.reduceAdd,Nat.reduceLeDiff,reduceIte]<;>rfl)|rfl)|exact Nat.le_of_ble_eq_true rfl|decide|(repeat' first|(apply Lk.go;constructor)|assumption|exact nb ‹_› ‹_›|exact nt ‹_› ‹_›))|(intro b hb;repeat first|(refine fe hb ?_;intro _ _ hb)|(refine fT hb ?_;intro hb))|refine rt ?_|refine gA rfl ?_|refine gB rfl ?_|apply cT rfl|apply cF rfl|(apply DM.gbT;rfl)|(apply DM.gbF;rfl)|intro h
            (apply DM.ixM; (· rfl); (· repeat' first|(apply Lk.go;constructor)|assumption|exact nb ‹_› ‹_›|exact nt ‹_› ‹_›|(apply Lm.go;constructor)); (· rfl); (· (first | omega | (simp only [List.length_map]; omega))); (· (first | omega | (simp only [List.length_map]; omega))))
            repeat' first|(apply Sp.go;·constructor<;>first|exact ss|(change _=_;first|(simp only[go_sem,Nat.reduceBEq,Nat.reduceAdd,Nat.reduceLeDiff,reduceIte]<;>rfl)|rfl)|exact Nat.le_of_ble_eq_true rfl|decide|(repeat' first|(apply Lk.go;constructor)|assumption|exact nb ‹_› ‹_›|exact nt ‹_› ‹_›))|(intro b hb;repeat first|(refine fe hb ?_;intro _ _ hb)|(refine fT hb ?_;intro hb))|refine rt ?_|refine gA rfl ?_|refine gB rfl ?_|apply cT rfl|apply cF rfl|(apply DM.gbT;rfl)|(apply DM.gbF;rfl)|intro h
            (apply DM.ldM1 (i := i) (j := 2); (· rfl); (· repeat' first|(apply Lk.go;constructor)|assumption|exact nb ‹_› ‹_›|exact nt ‹_› ‹_›|(apply Lm.go;constructor)); (· exact rrow_len _); (· exact hsr'); (· simp); (· rfl))
            repeat' first|(apply Sp.go;·constructor<;>first|exact ss|(change _=_;first|(simp only[go_sem,Nat.reduceBEq,Nat.reduceAdd,Nat.reduceLeDiff,reduceIte]<;>rfl)|rfl)|exact Nat.le_of_ble_eq_true rfl|decide|(repeat' first|(apply Lk.go;constructor)|assumption|exact nb ‹_› ‹_›|exact nt ‹_› ‹_›))|(intro b hb;repeat first|(refine fe hb ?_;intro _ _ hb)|(refine fT hb ?_;intro hb))|refine rt ?_|refine gA rfl ?_|refine gB rfl ?_|apply cT rfl|apply cF rfl|(apply DM.gbT;rfl)|(apply DM.gbF;rfl)|intro h
            (apply AM.cond; (· rfl))
            · intro h4
              simp at h4
              obtain ⟨bb, hbb⟩ := some_of h4
              rw [drop_of hbb, List.foldl_cons] at y2
              have hbi := hst.ix bb (List.mem_of_getElem? hbb)
              obtain ⟨bn, rfl⟩ : ∃ bn : Nat, bb = (bn : Int) := ⟨bb.toNat, by omega⟩
              obtain ⟨x, hx⟩ := some_of (show bn < p.code.length by omega)
              repeat' first|(apply Sp.go;·constructor<;>first|exact ss|(change _=_;first|(simp only[go_sem,Nat.reduceBEq,Nat.reduceAdd,Nat.reduceLeDiff,reduceIte]<;>rfl)|rfl)|exact Nat.le_of_ble_eq_true rfl|decide|(repeat' first|(apply Lk.go;constructor)|assumption|exact nb ‹_› ‹_›|exact nt ‹_› ‹_›))|(intro b hb;repeat first|(refine fe hb ?_;intro _ _ hb)|(refine fT hb ?_;intro hb))|refine rt ?_|refine gA rfl ?_|refine gB rfl ?_|apply cT rfl|apply cF rfl|(apply DM.gbT;rfl)|(apply DM.gbF;rfl)|intro h
              (apply DM.ixM; (· rfl); (· repeat' first|(apply Lk.go;constructor)|assumption|exact nb ‹_› ‹_›|exact nt ‹_› ‹_›|(apply Lm.go;constructor)); (· rfl); (· (first | omega | (simp only [List.length_map]; omega))); (· (first | omega | (simp only [List.length_map]; omega))))
              repeat' first|(apply Sp.go;·constructor<;>first|exact ss|(change _=_;first|(simp only[go_sem,Nat.reduceBEq,Nat.reduceAdd,Nat.reduceLeDiff,reduceIte]<;>rfl)|rfl)|exact Nat.le_of_ble_eq_true rfl|decide|(repeat' first|(apply Lk.go;constructor)|assumption|exact nb ‹_› ‹_›|exact nt ‹_› ‹_›))|(intro b hb;repeat first|(refine fe hb ?_;intro _ _ hb)|(refine fT hb ?_;intro hb))|refine rt ?_|refine gA rfl ?_|refine gB rfl ?_|apply cT rfl|apply cF rfl|(apply DM.gbT;rfl)|(apply DM.gbF;rfl)|intro h
              (apply DM.ldM1 (i := i) (j := 2); (· rfl); (· repeat' first|(apply Lk.go;constructor)|assumption|exact nb ‹_› ‹_›|exact nt ‹_› ‹_›|(apply Lm.go;constructor)); (· exact rrow_len _); (· exact hsr'); (· simp); (· rfl))
              repeat' first|(apply Sp.go;·constructor<;>first|exact ss|(change _=_;first|(simp only[go_sem,Nat.reduceBEq,Nat.reduceAdd,Nat.reduceLeDiff,reduceIte]<;>rfl)|rfl)|exact Nat.le_of_ble_eq_true rfl|decide|(repeat' first|(apply Lk.go;constructor)|assumption|exact nb ‹_› ‹_›|exact nt ‹_› ‹_›))|(intro b hb;repeat first|(refine fe hb ?_;intro _ _ hb)|(refine fT hb ?_;intro hb))|refine rt ?_|refine gA rfl ?_|refine gB rfl ?_|apply cT rfl|apply cF rfl|(apply DM.gbT;rfl)|(apply DM.gbF;rfl)|intro h
              (apply DM.ixV (row := irow bn) (z := (j : Int)) (by omega) (row_get irow hbb); (· rfl); (· rfl))
              repeat' first|(apply Sp.go;·constructor<;>first|exact ss|(change _=_;first|(simp only[go_sem,Nat.reduceBEq,Nat.reduceAdd,Nat.reduceLeDiff,reduceIte]<;>rfl)|rfl)|exact Nat.le_of_ble_eq_true rfl|decide|(repeat' first|(apply Lk.go;constructor)|assumption|exact nb ‹_› ‹_›|exact nt ‹_› ‹_›))|(intro b hb;repeat first|(refine fe hb ?_;intro _ _ hb)|(refine fT hb ?_;intro hb))|refine rt ?_|refine gA rfl ?_|refine gB rfl ?_|apply cT rfl|apply cF rfl|(apply DM.gbT;rfl)|(apply DM.gbF;rfl)|intro h
              (apply DM.ixV (row := x.row) (z := (bn : Int)) (by omega) (row_get Ins_.row hx); (· rfl); (· rfl))
              repeat' first|(apply Sp.go;·constructor<;>first|exact ss|(change _=_;first|(simp only[go_sem,Nat.reduceBEq,Nat.reduceAdd,Nat.reduceLeDiff,reduceIte]<;>rfl)|rfl)|exact Nat.le_of_ble_eq_true rfl|decide|(repeat' first|(apply Lk.go;constructor)|assumption|exact nb ‹_› ‹_›|exact nt ‹_› ‹_›))|(intro b hb;repeat first|(refine fe hb ?_;intro _ _ hb)|(refine fT hb ?_;intro hb))|refine rt ?_|refine gA rfl ?_|refine gB rfl ?_|apply cT rfl|apply cF rfl|(apply DM.gbT;rfl)|(apply DM.gbF;rfl)|intro h
              refine AM.roundX (j + 1, mulR p n bn) ⟨rfl, by dsimp only; omega, y2⟩ ?_ ?_
              · have hm : mulR p n bn = IntKind.i64.wrap (n * x.n) := by simp [mulR, hx]
                rw [hm]
                (repeat first | exact envle_nil _ | (refine envle_cons ?_ ?_; · (simp only [go_sem, Nat.reduceBEq, Nat.reduceAdd]; exact AVLe.refl _)))
                refine envle_cons ?_ ?_
                · simp only [go_sem, Nat.reduceBEq, Nat.reduceAdd]
                  refine avle_int ?_
                  rw [inc64 h4 (by have := hst.lo; unfold maxLen; omega)]
                exact envle_nil _
              · show s.2.length - (j + 1) < s.2.length - j
                omega
            · intro h4
              simp at h4
              rw [List.drop_eq_nil_of_le h4] at y2
              simp only [List.foldl_nil] at y2
              repeat' first|(apply Sp.go;·constructor<;>first|exact ss|(change _=_;first|(simp only[go_sem,Nat.reduceBEq,Nat.reduceAdd,Nat.reduceLeDiff,reduceIte]<;>rfl)|rfl)|exact Nat.le_of_ble_eq_true rfl|decide|(repeat' first|(apply Lk.go;constructor)|assumption|exact nb ‹_› ‹_›|exact nt ‹_› ‹_›))|(intro b hb;repeat first|(refine fe hb ?_;intro _ _ hb)|(refine fT hb ?_;intro hb))|refine rt ?_|refine gA rfl ?_|refine gB rfl ?_|apply cT rfl|apply cF rfl|(apply DM.gbT;rfl)|(apply DM.gbF;rfl)|intro h
              refine AM.roundX (i + 1, S', IntKind.i64.wrap (c + n)) ⟨hH3.symm, by dsimp only; omega, l2.trans q2, l1, ?_⟩ ?_ ?_
              · rw [q4, y2]
                dsimp only
                rw [hk2]
              · (repeat first | exact envle_nil _ | (refine envle_cons ?_ ?_; · (simp only [go_sem, Nat.reduceBEq, Nat.reduceAdd]; exact AVLe.refl _)))
                refine envle_cons ?_ ?_
                · simp only [go_sem, Nat.reduceBEq, Nat.reduceAdd]
                  refine avle_int ?_
                  rw [inc64 h3 (by unfold maxLen; omega)]
                exact envle_nil _
              · show p.code.length - (i + 1) < p.code.length - i
                omega
        · rw [costF_err hso z] at q4
          have hh := k4 (lookP p ps rr S i).2
          generalize (lookP p ps rr S i).2 = S' at *
          generalize F S' = H3 at hh ⊢
          repeat' first|(apply Sp.go;·constructor<;>first|exact ss|(change _=_;first|(simp only[go_sem,Nat.reduceBEq,Nat.reduceAdd,Nat.reduceLeDiff,reduceIte]<;>rfl)|rfl)|exact Nat.le_of_ble_eq_true rfl|decide|(repeat' first|(apply Lk.go;constructor)|assumption|exact nb ‹_› ‹_›|exact nt ‹_› ‹_›))|(intro b hb;repeat first|(refine fe hb ?_;intro _ _ hb)|(refine fT hb ?_;intro hb))|refine rt ?_|refine gA rfl ?_|refine gB rfl ?_|apply cT rfl|apply cF rfl|(apply DM.gbT;rfl)|(apply DM.gbF;rfl)|intro h
          (apply AM.cond; (· rfl))
          · intro _
            repeat' first|(apply Sp.go;·constructor<;>first|exact ss|(change _=_;first|(simp only[go_sem,Nat.reduceBEq,Nat.reduceAdd,Nat.reduceLeDiff,reduceIte]<;>rfl)|rfl)|exact Nat.le_of_ble_eq_true rfl|decide|(repeat' first|(apply Lk.go;constructor)|assumption|exact nb ‹_› ‹_›|exact nt ‹_› ‹_›))|(intro b hb;repeat first|(refine fe hb ?_;intro _ _ hb)|(refine fT hb ?_;intro hb))|refine rt ?_|refine gA rfl ?_|refine gB rfl ?_|apply cT rfl|apply cF rfl|(apply DM.gbT;rfl)|(apply DM.gbF;rfl)|intro h
            exact AM.ret (v := .tup [.int .i64 0, .int .i64 i, .int .i64 (lookP p ps rr S i).1]) rfl (rt17 q4 hh)
          · intro h4
            simp at h4
            exact absurd h4 z
    · intro h3
      simp at h3
      repeat' first|(apply Sp.go;·constructor<;>first|exact ss|(change _=_;first|(simp only[go_sem,Nat.reduceBEq,Nat.reduceAdd,Nat.reduceLeDiff,reduceIte]<;>rfl)|rfl)|exact Nat.le_of_ble_eq_true rfl|decide|(repeat' first|(apply Lk.go;constructor)|assumption|exact nb ‹_› ‹_›|exact nt ‹_› ‹_›))|(intro b hb;repeat first|(refine fe hb ?_;intro _ _ hb)|(refine fT hb ?_;intro hb))|refine rt ?_|refine gA rfl ?_|refine gB rfl ?_|apply cT rfl|apply cF rfl|(apply DM.gbT;rfl)|(apply DM.gbF;rfl)|intro h
      have hk : p.code.length - i = 0 := by omega
      rw [hk] at q4
      exact AM.ret (v := .tup [.int .i64 c, .int .i64 0, .int .i64 0]) rfl (rt17 q4 f4)
set_option maxHeartbeats 8000000 in
theorem p19 (p : Prog) (e : Int) (ps rr : List Int) (hps : ps.length ≤ 1000) : Pure Try.prog 19 [p.av, .int .i64 e, .vs 1 (ps.map irow), .vs 1 (rr.map irow)] (.tup [.int .i64 (costP p e ps rr).1, .int .i64 (costP p e ps rr).2.1, .int .i64 (costP p e ps rr).2.2]) := by
  refine pure_intro mo Try.func19 c19 fun H => ?_
  rw [show e19 = head19 tail19 from rfl]
  generalize hTT : tail19 = TT
  unfold head19 e19 r19
  simp only [initEnv, initFrom]
  repeat' first|(apply Sp.go;·constructor<;>first|exact ss|(change _=_;first|(simp only[go_sem,Nat.reduceBEq,Nat.reduceAdd,Nat.reduceLeDiff,reduceIte]<;>rfl)|rfl)|exact Nat.le_of_ble_eq_true rfl|decide|(repeat' first|(apply Lk.go;constructor)|assumption|exact nb ‹_› ‹_›|exact nt ‹_› ‹_›))|(intro b hb;repeat first|(refine fe hb ?_;intro _ _ hb)|(refine fT hb ?_;intro hb))|refine rt ?_|refine gA rfl ?_|refine gB rfl ?_|apply cT rfl|apply cF rfl|(apply DM.gbT;rfl)|(apply DM.gbF;rfl)|intro h
  (apply DM.pcs (R.p22 p); (· simp only [go_sem, Nat.reduceBEq, Nat.reduceAdd] <;> rfl); (· exact AVLes.refl _))
  cases hval : validP p with
  | false =>
    repeat' first|(apply Sp.go;·constructor<;>first|exact ss|(change _=_;first|(simp only[go_sem,Nat.reduceBEq,Nat.reduceAdd,Nat.reduceLeDiff,reduceIte]<;>rfl)|rfl)|exact Nat.le_of_ble_eq_true rfl|decide|(repeat' first|(apply Lk.go;constructor)|assumption|exact nb ‹_› ‹_›|exact nt ‹_› ‹_›))|(intro b hb;repeat first|(refine fe hb ?_;intro _ _ hb)|(refine fT hb ?_;intro hb))|refine rt ?_|refine gA rfl ?_|refine gB rfl ?_|apply cT rfl|apply cF rfl|(apply DM.gbT;rfl)|(apply DM.gbF;rfl)|(apply AM.condS;rfl)|intro h
    (apply Sr.go;·constructor<;>first|(apply Lk.go;constructor<;>first|exact ss|(change _=_;first|(simp only[go_sem,Nat.reduceBEq,Nat.reduceAdd,Nat.reduceLeDiff,reduceIte]<;>rfl)|rfl)|exact Nat.le_of_ble_eq_true rfl|decide|(repeat' first|(apply Lk.go;constructor)|assumption|exact nb ‹_› ‹_›|exact nt ‹_› ‹_›))|assumption)
    rw [show costP p e ps rr = (0, 0, 1) by simp [costP, hval]]
    exact AVLe.refl _
  | true =>
    have hcl := code_len hval
    repeat' first|(apply Sp.go;·constructor<;>first|exact ss|(change _=_;first|(simp only[go_sem,Nat.reduceBEq,Nat.reduceAdd,Nat.reduceLeDiff,reduceIte]<;>rfl)|rfl)|exact Nat.le_of_ble_eq_true rfl|decide|(repeat' first|(apply Lk.go;constructor)|assumption|exact nb ‹_› ‹_›|exact nt ‹_› ‹_›))|(intro b hb;repeat first|(refine fe hb ?_;intro _ _ hb)|(refine fT hb ?_;intro hb))|refine rt ?_|refine gA rfl ?_|refine gB rfl ?_|apply cT rfl|apply cF rfl|(apply DM.gbT;rfl)|(apply DM.gbF;rfl)|(apply AM.condS;rfl)|intro h
    · (apply Sr.go;·constructor<;>first|(apply Lk.go;constructor<;>first|exact ss|(change _=_;first|(simp only[go_sem,Nat.reduceBEq,Nat.reduceAdd,Nat.reduceLeDiff,reduceIte]<;>rfl)|rfl)|exact Nat.le_of_ble_eq_true rfl|decide|(repeat' first|(apply Lk.go;constructor)|assumption|exact nb ‹_› ‹_›|exact nt ‹_› ‹_›))|assumption)
      have h1 : (p.code.length : Int) ≤ e := by have := of_decide_eq_true h; simpa using this
      rw [show costP p e ps rr = (0, 0, 1) by simp [costP, h1]]
      exact AVLe.refl _
    · have he0 : ¬ e < 0 := of_decide_eq_false ‹decide (e < 0) = false›
      have he1 : e < (p.code.length : Int) := by have := of_decide_eq_false h; simp at this; omega
      rename Nat => b4
      have hb4 := hb
      clear h hb
      obtain ⟨ei, rfl⟩ : ∃ n : Nat, e = (n : Int) := ⟨e.toNat, by omega⟩
      refine DM.mk (n := p.code.length) (by omega) (by unfold maxLen; omega) (by simp only [go_sem, Nat.reduceBEq, List.length_map] <;> rfl) rfl rfl (by decide) ?_
      intro ts hts
      have hts0 : H.tok ts = none := freshT_setB hts
      repeat' first|(apply Sp.go;·constructor<;>first|exact ss|(change _=_;first|(simp only[go_sem,Nat.reduceBEq,Nat.reduceAdd,Nat.reduceLeDiff,reduceIte]<;>rfl)|rfl)|exact Nat.le_of_ble_eq_true rfl|decide|(repeat' first|(apply Lk.go;constructor)|assumption|exact nb ‹_› ‹_›|exact nt ‹_› ‹_›))|(intro b hb;repeat first|(refine fe hb ?_;intro _ _ hb)|(refine fT hb ?_;intro hb))|refine rt ?_|refine gA rfl ?_|refine gB rfl ?_|apply cT rfl|apply cF rfl|(apply DM.gbT;rfl)|(apply DM.gbF;rfl)|intro h
      (apply DM.ixM; (· rfl); (· repeat' first|(apply Lk.go;constructor)|assumption|exact nb ‹_› ‹_›|exact nt ‹_› ‹_›|(apply Lm.go;constructor)); (· rfl); (· (first | omega | (simp only [List.length_replicate]; omega))); (· (first | omega | (simp only [List.length_replicate]; omega))))
      repeat' first|(apply Sp.go;·constructor<;>first|exact ss|(change _=_;first|(simp only[go_sem,Nat.reduceBEq,Nat.reduceAdd,Nat.reduceLeDiff,reduceIte]<;>rfl)|rfl)|exact Nat.le_of_ble_eq_true rfl|decide|(repeat' first|(apply Lk.go;constructor)|assumption|exact nb ‹_› ‹_›|exact nt ‹_› ‹_›))|(intro b hb;repeat first|(refine fe hb ?_;intro _ _ hb)|(refine fT hb ?_;intro hb))|refine rt ?_|refine gA rfl ?_|refine gB rfl ?_|apply cT rfl|apply cF rfl|(apply DM.gbT;rfl)|(apply DM.gbF;rfl)|intro h
      refine DM.stM1 (i := ei) (j := 0) rfl t_same rfl (fun r hr => by rw [List.eq_of_mem_replicate hr]; rfl) (by rw [List.getElem?_replicate, if_pos (by omega)]) (by simp) (by decide) rfl ?_
      refine DM.nil ?_
      rw [setT_setT]
      refine AM.tokLe ts t_same (rows' := (start0 p.code.length ei).map rrow) ?_ (by simp [start0]) (rrow_len _) ?_
      · rw [start0, List.map_set, List.map_replicate]
        exact avles_flat_set _ _ (avles_cons (AVLe.refl _) (avles_cons AVLe.nil (avles_cons AVLe.nil avles_nil)))
      rw [setT_setT]
      refine AM.weakE [(1, .int .i64 ei), (2, .vs 1 (ps.map irow)), (3, .vs 1 (rr.map irow)), (4, .ptr b4 0), (8, .int .i64 0), (9, .int .i64 0), (10, .int .i64 0), (11, .ms ts 0)] ?_ ?_
      · (repeat first | exact envle_nil _ | (refine envle_cons ?_ ?_; · (simp only [go_sem, Nat.reduceBEq, Nat.reduceAdd]; exact AVLe.refl _)))
      subst hTT
      exact t19 p ei ps rr hps hval (by omega) H b4 ts hb4 hts0 _ start_len start_ok _ (by simp [costP, hval]; omega)
    · (apply Sr.go;·constructor<;>first|(apply Lk.go;constructor<;>first|exact ss|(change _=_;first|(simp only[go_sem,Nat.reduceBEq,Nat.reduceAdd,Nat.reduceLeDiff,reduceIte]<;>rfl)|rfl)|exact Nat.le_of_ble_eq_true rfl|decide|(repeat' first|(apply Lk.go;constructor)|assumption|exact nb ‹_› ‹_›|exact nt ‹_› ‹_›))|assumption)
      have h1 : e < 0 := of_decide_eq_true h
      rw [show costP p e ps rr = (0, 0, 1) by simp [costP, h1]]
      exact AVLe.refl _
end Go.Aw.T
namespace Go.Aw.T.R
open Go Go.Aw Go.Aw.T Go.Proofs Go.RowKit
set_option maxRecDepth 100000
attribute [local irreducible] Go.Aw.DM Go.Aw.AHeap.setB Go.Aw.AHeap.setT
attribute [local go_sem] peval EOpd.ev Env.get binInt binStr binBool buildParts AV.cells AV.okc setRange minmaxAV AV.one AV.ofCells eqCells eqCell bslRows cond_true cond_false beq_self_eq_true Bool.not_true Bool.not_false beq_true beq_false eq_self if_true Option.some.injEq List.length_cons List.length_nil List.take_succ_cons List.take_zero List.drop_succ_cons List.drop_zero List.set_cons_succ List.set_cons_zero List.nil_append List.cons_append List.append_nil and_self Option.map_some List.map_cons List.map_nil Bool.false_eq_true if_false Nat.zero_add Nat.add_zero true_and and_true Bool.and_true Bool.true_and List.getElem?_cons_zero List.getElem?_cons_succ Nat.zero_le Nat.le_refl
set_option linter.unusedSimpArgs false
set_option linter.unusedVariables false
/-- A slot that is nil becomes a slice of no rows that may be appended to. -/
theorem AM.ghostO {P : Program} {rs : List ERes} {R : Out → AHeap → Prop} {k : List Item} {env : Env} {H : AHeap} (j Te size : Nat) (h0 : size ≠ 0) (hj : env.get j = .nilS)
    (h : ∀ t, H.tok t = none → AM P rs R k ((j, .own t size []) :: env) (H.setT t (.frz Te size 0))) : AM P rs R k env H := by
  refine AM.conv (fun env' H' => ∃ t, H.tok t = none ∧ env' = (j, .own t size []) :: env ∧ H' = H.setT t (.frz Te size 0)) ?_ ?_
  · intro m hH rh
    subst hH
    obtain ⟨r1, e1, v1⟩ := new_tok_nil rh (T := Te) h0
    refine ⟨(j, .own m.T size []) :: env, _, _, _, ⟨m.T, tok_new rh, rfl, rfl⟩, r1, e1, fun i v hv => ?_⟩
    by_cases hi : i = j
    · subst hi
      rw [hj] at hv
      simp only [Rv] at hv
      subst hv
      have : Env.get ((i, AV.own m.T size []) :: env) i = .own m.T size [] := by simp [Env.get]
      rw [this]
      exact v1
    · have : Env.get ((j, AV.own m.T size []) :: env) i = Env.get env i := by
        have e : (j == i) = false := by simp only [beq_eq_false_iff_ne]; exact fun e => hi e.symm
        simp only [Env.get, e, cond_false]
      rw [this]
      exact Rv.ev e1 _ _ hv
  · rintro env' H' ⟨t, h1, rfl, rfl⟩
    exact h t h1
theorem DM.apO {P : Program} {T size bytes t d : Nat} {x y : EOpd} {env : Env} {H : AHeap} {rows nw : List (List AV)} {l : List EI} {K : Env → AHeap → Prop} {Rp : AV → AHeap → Prop} (hx : x.ev env = .own t size rows) (ht : H.tok t = some (.frz T size rows.length)) (hy : rowsOf size (y.ev env) = some nw) (hb : (rows.length + nw.length) * bytes ≤ 140737488355328) (hm : rows.length + nw.length ≤ maxLen) (h : DM P l ((d, .own t size (rows ++ nw)) :: env) (H.setT t (.frz T size (rows.length + nw.length))) K Rp) : DM P (⟨some d, none, .append T size bytes x y⟩ :: l) env H K Rp := by
  simp only [DM, wanted]
  exact IStep.append hx ht hy hb hm h
theorem hsub_tok2 {H H' : AHeap} {t : Nat} {o : Own} (hb : ∀ b x, H.blk b = some x → H'.blk b = some x) (ht : ∀ t' x, t' ≠ t → H.tok t' = some x → H'.tok t' = some x) (h : H'.tok t = some o) : HSub (H.setT t o) H' :=
  ⟨fun b x h => by rw [setT_blk] at h; exact hb b x h, fun x y e => by
    simp only [AHeap.setT] at e
    by_cases hx : x = t
    · subst hx; rw [if_pos rfl] at e; rw [← e]; exact h
    · rw [if_neg hx] at e; exact ht x y hx e⟩
end Go.Aw.T.R
namespace Go.Aw.T
open Go Go.Aw Go.Proofs Go.RowKit
set_option maxRecDepth 100000
attribute [local irreducible] Go.Aw.DM Go.Aw.AHeap.setB Go.Aw.AHeap.setT
attribute [local go_sem] peval EOpd.ev Env.get binInt binStr binBool buildParts AV.cells AV.okc setRange minmaxAV AV.one AV.ofCells eqCells eqCell bslRows cond_true cond_false beq_self_eq_true Bool.not_true Bool.not_false beq_true beq_false eq_self if_true Option.some.injEq List.length_cons List.length_nil List.take_succ_cons List.take_zero List.drop_succ_cons List.drop_zero List.set_cons_succ List.set_cons_zero List.nil_append List.cons_append List.append_nil and_self Option.map_some List.map_cons List.map_nil Bool.false_eq_true if_false Nat.zero_add Nat.add_zero true_and and_true Bool.and_true Bool.true_and List.getElem?_cons_zero List.getElem?_cons_succ Nat.zero_le Nat.le_refl
set_option linter.unusedSimpArgs false
set_option linter.unusedVariables false
structure Fld where
  name : List UInt8
  sort : Sort_
abbrev Fld.row (f : Fld) : List AV := [.str f.name, .int .i64 f.sort.k, .int .i64 f.sort.lo, .int .i64 f.sort.hi]
structure Decl_ where
  name : List UInt8
  fields : List Fld
  first : Int
  diffs : List (Int × Int × Int)
  eqs : List (Int × Int)
abbrev Decl_.row (d : Decl_) : List AV := [.str d.name, .vs 4 (d.fields.map Fld.row), .int .i64 d.first, .vs 3 (d.diffs.map fun x => [.int .i64 x.1, .int .i64 x.2.1, .int .i64 x.2.2]), .vs 2 (d.eqs.map fun x => [.int .i64 x.1, .int .i64 x.2])]
def kindsD (d : Decl_) : List Int := d.fields.map fun f => f.sort.k
theorem p47 (d : Decl_) (hf : d.fields.length ≤ 1000) : Pure Try.prog 47 [.agg d.row] (.vs 1 ((kindsD d).map irow)) := by
  refine pure_intro mo Try.func47 c47 fun H => ?_
  unfold e47 r47
  simp only [initEnv, initFrom]
  repeat' first|(apply Sp.go;·constructor<;>first|exact ss|(change _=_;first|(simp only[go_sem,Nat.reduceBEq,Nat.reduceAdd,Nat.reduceLeDiff,reduceIte]<;>rfl)|rfl)|exact Nat.le_of_ble_eq_true rfl|decide|(repeat' first|(apply Lk.go;constructor)|assumption|exact nb ‹_› ‹_›|exact nt ‹_› ‹_›))|(intro b hb;repeat first|(refine fe hb ?_;intro _ _ hb)|(refine fT hb ?_;intro hb))|refine rt ?_|refine gA rfl ?_|refine gB rfl ?_|apply cT rfl|apply cF rfl|(apply DM.gbT;rfl)|(apply DM.gbF;rfl)|intro h
  rename Nat => b1
  have hsub0 : HSub H (H.setB b1 103 d.row) := HSub.setB (HSub.refl _) hb
  apply R.AM.ghostO 3 3 1 (by decide)
  · simp only [Env.get, Nat.reduceBEq, cond_true, cond_false, beq_self_eq_true]
  intro tv htv
  have htv2 : H.tok tv = none := freshT_setB htv
  have hbp : (H.setB b1 103 d.row).blk b1 = some (103, d.row) := g_same
  generalize H.setB b1 103 d.row = G at htv hsub0 hbp ⊢
  repeat' first|(apply Sp.go;·constructor<;>first|exact ss|(change _=_;first|(simp only[go_sem,Nat.reduceBEq,Nat.reduceAdd,Nat.reduceLeDiff,reduceIte]<;>rfl)|rfl)|exact Nat.le_of_ble_eq_true rfl|decide|(repeat' first|(apply Lk.go;constructor)|assumption|exact nb ‹_› ‹_›|exact nt ‹_› ‹_›))|(intro b hb;repeat first|(refine fe hb ?_;intro _ _ hb)|(refine fT hb ?_;intro hb))|refine rt ?_|refine gA rfl ?_|refine gB rfl ?_|apply cT rfl|apply cF rfl|(apply DM.gbT;rfl)|(apply DM.gbF;rfl)|intro h
  refine AM.loopX (X := Nat) 0 (fun i => [(7, .vs 4 (d.fields.map Fld.row)), (8, .int .i64 d.fields.length), (9, .int .i64 i), (3, .own tv 1 ((d.fields.take i).map fun f => irow f.sort.k))]) (fun i H' => H' = G.setT tv (.frz 3 1 i) ∧ i ≤ d.fields.length) (fun i => d.fields.length - i) ⟨rfl, by omega⟩ ?_ ?_
  · refine envle_cons ?_ ?_
    · simp only [Env.get, Nat.reduceBEq, cond_true, cond_false, beq_self_eq_true]; exact AVLe.refl _
    refine envle_cons ?_ ?_
    · simp only [Env.get, Nat.reduceBEq, cond_true, cond_false, beq_self_eq_true]; exact avle_int (by simp)
    (repeat first | exact envle_nil _ | (refine envle_cons ?_ ?_; · (simp only [go_sem, Nat.reduceBEq, Nat.reduceAdd]; exact AVLe.refl _)))
  · intro i H' ⟨e, hi⟩
    subst e
    repeat' first|(apply Sp.go;·constructor<;>first|exact ss|(change _=_;first|(simp only[go_sem,Nat.reduceBEq,Nat.reduceAdd,Nat.reduceLeDiff,reduceIte]<;>rfl)|rfl)|exact Nat.le_of_ble_eq_true rfl|decide|(repeat' first|(apply Lk.go;constructor)|assumption|exact nb ‹_› ‹_›|exact nt ‹_› ‹_›))|(intro b hb;repeat first|(refine fe hb ?_;intro _ _ hb)|(refine fT hb ?_;intro hb))|refine rt ?_|refine gA rfl ?_|refine gB rfl ?_|apply cT rfl|apply cF rfl|(apply DM.gbT;rfl)|(apply DM.gbF;rfl)|intro h
    (apply AM.cond; (· rfl))
    · intro h3
      simp at h3
      obtain ⟨v, hv⟩ := some_of h3
      repeat' first|(apply Sp.go;·constructor<;>first|exact ss|(change _=_;first|(simp only[go_sem,Nat.reduceBEq,Nat.reduceAdd,Nat.reduceLeDiff,reduceIte]<;>rfl)|rfl)|exact Nat.le_of_ble_eq_true rfl|decide|(repeat' first|(apply Lk.go;constructor)|assumption|exact nb ‹_› ‹_›|exact nt ‹_› ‹_›))|(intro b hb;repeat first|(refine fe hb ?_;intro _ _ hb)|(refine fT hb ?_;intro hb))|refine rt ?_|refine gA rfl ?_|refine gB rfl ?_|apply cT rfl|apply cF rfl|(apply DM.gbT;rfl)|(apply DM.gbF;rfl)|intro h
      (apply DM.ixV (row := v.row) (z := (i : Int)) (by omega) (row_get Fld.row hv); (· rfl); (· rfl))
      repeat' first|(apply Sp.go;·constructor<;>first|exact ss|(change _=_;first|(simp only[go_sem,Nat.reduceBEq,Nat.reduceAdd,Nat.reduceLeDiff,reduceIte]<;>rfl)|rfl)|exact Nat.le_of_ble_eq_true rfl|decide|(repeat' first|(apply Lk.go;constructor)|assumption|exact nb ‹_› ‹_›|exact nt ‹_› ‹_›))|(intro b hb;repeat first|(refine fe hb ?_;intro _ _ hb)|(refine fT hb ?_;intro hb))|refine rt ?_|refine gA rfl ?_|refine gB rfl ?_|apply cT rfl|apply cF rfl|(apply DM.gbT;rfl)|(apply DM.gbF;rfl)|intro h
      have hl0 : ((d.fields.take i).map fun f => irow f.sort.k).length = i := by simp; omega
      apply DM.apO
      · simp only [EOpd.ev, Env.get, Nat.reduceBEq, cond_true, cond_false, beq_self_eq_true] <;> rfl
      · rw [hl0]
        (· repeat' first|(apply Lk.go;constructor)|assumption|exact nb ‹_› ‹_›|exact nt ‹_› ‹_›|(apply Lm.go;constructor))
      · simp only [rowsOf, if_true, eq_self, EOpd.ev, Env.get, Nat.reduceBEq, cond_true, cond_false, beq_self_eq_true] <;> rfl
      · rw [hl0]; simp only [List.length_cons, List.length_nil]; omega
      · rw [hl0]; simp only [List.length_cons, List.length_nil, maxLen]; omega
      repeat' first|(apply Sp.go;·constructor<;>first|exact ss|(change _=_;first|(simp only[go_sem,Nat.reduceBEq,Nat.reduceAdd,Nat.reduceLeDiff,reduceIte]<;>rfl)|rfl)|exact Nat.le_of_ble_eq_true rfl|decide|(repeat' first|(apply Lk.go;constructor)|assumption|exact nb ‹_› ‹_›|exact nt ‹_› ‹_›))|(intro b hb;repeat first|(refine fe hb ?_;intro _ _ hb)|(refine fT hb ?_;intro hb))|refine rt ?_|refine gA rfl ?_|refine gB rfl ?_|apply cT rfl|apply cF rfl|(apply DM.gbT;rfl)|(apply DM.gbF;rfl)|intro h
      refine AM.forget (G.setT tv (.frz 3 1 (i + 1))) ?_ ?_
      · refine R.hsub_tok2 ?_ ?_ ?_
        · intro b x hx
          (· repeat' first|(apply Lk.go;constructor)|assumption|exact nb ‹_› ‹_›|exact nt ‹_› ‹_›)
        · intro t' x hn hx
          (· repeat' first|(apply Lk.go;constructor)|assumption|exact nb ‹_› ‹_›|exact nt ‹_› ‹_›|(apply Lm.go;constructor))
        · rw [hl0]
          (· repeat' first|(apply Lk.go;constructor)|assumption|exact nb ‹_› ‹_›|exact nt ‹_› ‹_›|(apply Lm.go;constructor))
      refine AM.roundX (i + 1) ⟨rfl, by omega⟩ ?_ ?_
      · (repeat first | exact envle_nil _ | (refine envle_cons ?_ ?_; · (simp only [go_sem, Nat.reduceBEq, Nat.reduceAdd]; exact AVLe.refl _)))
        refine envle_cons ?_ ?_
        · simp only [go_sem, Nat.reduceBEq, Nat.reduceAdd]
          refine avle_int ?_
          rw [inc64 h3 (by unfold maxLen; omega)]
        refine envle_cons ?_ (envle_nil _)
        simp only [Env.get, Nat.reduceBEq, cond_true, cond_false, beq_self_eq_true]
        rw [List.take_add_one, hv]
        refine avle_eq ?_
        simp
      · show d.fields.length - (i + 1) < d.fields.length - i
        omega
    · intro h3
      simp at h3
      have : i = d.fields.length := by omega
      subst this
      repeat' first|(apply Sp.go;·constructor<;>first|exact ss|(change _=_;first|(simp only[go_sem,Nat.reduceBEq,Nat.reduceAdd,Nat.reduceLeDiff,reduceIte]<;>rfl)|rfl)|exact Nat.le_of_ble_eq_true rfl|decide|(repeat' first|(apply Lk.go;constructor)|assumption|exact nb ‹_› ‹_›|exact nt ‹_› ‹_›))|(intro b hb;repeat first|(refine fe hb ?_;intro _ _ hb)|(refine fT hb ?_;intro hb))|refine rt ?_|refine gA rfl ?_|refine gB rfl ?_|apply cT rfl|apply cF rfl|(apply DM.gbT;rfl)|(apply DM.gbF;rfl)|intro h
      (apply Sr.go;·constructor<;>first|(apply Lk.go;constructor<;>first|exact ss|(change _=_;first|(simp only[go_sem,Nat.reduceBEq,Nat.reduceAdd,Nat.reduceLeDiff,reduceIte]<;>rfl)|rfl)|exact Nat.le_of_ble_eq_true rfl|decide|(repeat' first|(apply Lk.go;constructor)|assumption|exact nb ‹_› ‹_›|exact nt ‹_› ‹_›))|assumption)
      rw [List.take_length]
      simp only [kindsD, List.map_map]
      exact AVLe.own
structure Part where
  at_ : Int
  label : Int
  kind : Int
abbrev Part.row (x : Part) : List AV := [.int .i64 x.at_, .int .i64 x.label, .int .i64 x.kind]
def hPart (h : Hd) : Part := ⟨h.entry, h.label, 0⟩
def oParts (o : Of_) : List Part := (if o.cond ≠ -1 then [⟨o.cond, o.label, 1⟩] else []) ++ [⟨o.args, o.label, 2⟩]
def partsP (p : Prog) : List Part := p.hs.map hPart ++ p.os.flatMap oParts
theorem oParts_len (os : List Of_) : (os.flatMap oParts).length ≤ 2 * os.length := by
  induction os with
  | nil => simp
  | cons o os ih =>
    have : (oParts o).length ≤ 2 := by unfold oParts; split <;> simp
    simp only [List.flatMap_cons, List.length_append, List.length_cons]; omega
theorem DM.apOr {P : Program} {d : Nat} {l : List EI} {env : Env} {H : AHeap} {K : Env → AHeap → Prop} {Rp : AV → AHeap → Prop} {T size bytes t n : Nat} {x y : EOpd} {rows nw : List (List AV)} (hx : x.ev env = .own t size rows) (ht : H.tok t = some (.frz T size n)) (hn : rows.length = n) (hy : rowsOf size (y.ev env) = some nw) (hb : (n + nw.length) * bytes ≤ 140737488355328) (hm : n + nw.length ≤ maxLen) (h : DM P l ((d, .own t size (rows ++ nw)) :: env) (H.setT t (.frz T size (n + nw.length))) K Rp) : DM P (⟨some d, none, .append T size bytes x y⟩ :: l) env H K Rp := by
  subst hn
  exact DM.apO hx ht hy hb hm h
def pRows (p : Prog) (i : Nat) : List (List AV) := (p.hs.map hPart ++ (p.os.take i).flatMap oParts).map Part.row
def pLen (p : Prog) (i : Nat) : Nat := p.hs.length + ((p.os.take i).flatMap oParts).length
theorem pRows_len (p : Prog) (i : Nat) : (pRows p i).length = pLen p i := by simp [pRows, pLen]
theorem pRows_succ {p : Prog} {i : Nat} {o : Of_} (h : p.os[i]? = some o) : pRows p (i + 1) = pRows p i ++ (oParts o).map Part.row := by
  simp [pRows, List.take_add_one, h, List.flatMap_append]
theorem pLen_succ {p : Prog} {i : Nat} {o : Of_} (h : p.os[i]? = some o) : pLen p (i + 1) = pLen p i + (oParts o).length := by
  rw [← pRows_len, ← pRows_len, pRows_succ h]; simp
set_option maxHeartbeats 2000000 in
theorem p46 (p : Prog) (h1 : p.hs.length ≤ 100) (h2 : p.os.length ≤ 100) : Pure Try.prog 46 [p.av] (.vs 3 ((partsP p).map Part.row)) := by
  have hL : ∀ i, pLen p i ≤ 300 := fun i => by
    have := oParts_len (p.os.take i)
    simp only [pLen]
    have : (p.os.take i).length ≤ p.os.length := by simp; omega
    omega
  refine pure_intro mo Try.func46 c46 fun H => ?_
  unfold e46 r46
  simp only [initEnv, initFrom]
  repeat' first|(apply Sp.go;·constructor<;>first|exact ss|(change _=_;first|(simp only[go_sem,Nat.reduceBEq,Nat.reduceAdd,Nat.reduceLeDiff,reduceIte]<;>rfl)|rfl)|exact Nat.le_of_ble_eq_true rfl|decide|(repeat' first|(apply Lk.go;constructor)|assumption|exact nb ‹_› ‹_›|exact nt ‹_› ‹_›))|(intro b hb;repeat first|(refine fe hb ?_;intro _ _ hb)|(refine fT hb ?_;intro hb))|refine rt ?_|refine gA rfl ?_|refine gB rfl ?_|apply cT rfl|apply cF rfl|(apply DM.gbT;rfl)|(apply DM.gbF;rfl)|intro h
  rename Nat => b1
  have hsub0 : HSub H (H.setB b1 41 p.cells) := HSub.setB (HSub.refl _) hb
  apply R.AM.ghostO 3 138 3 (by decide)
  · simp only [Env.get, Nat.reduceBEq, cond_true, cond_false, beq_self_eq_true]
  intro tv htv
  have htv2 : H.tok tv = none := freshT_setB htv
  have hbp : (H.setB b1 41 p.cells).blk b1 = some (41, p.cells) := g_same
  generalize H.setB b1 41 p.cells = G at htv hsub0 hbp ⊢
  repeat' first|(apply Sp.go;·constructor<;>first|exact ss|(change _=_;first|(simp only[go_sem,Nat.reduceBEq,Nat.reduceAdd,Nat.reduceLeDiff,reduceIte]<;>rfl)|rfl)|exact Nat.le_of_ble_eq_true rfl|decide|(repeat' first|(apply Lk.go;constructor)|assumption|exact nb ‹_› ‹_›|exact nt ‹_› ‹_›))|(intro b hb;repeat first|(refine fe hb ?_;intro _ _ hb)|(refine fT hb ?_;intro hb))|refine rt ?_|refine gA rfl ?_|refine gB rfl ?_|apply cT rfl|apply cF rfl|(apply DM.gbT;rfl)|(apply DM.gbF;rfl)|intro h
  refine AM.loopX (X := Nat) 0 (fun i => [(1, .ptr b1 0), (9, .vs 3 (p.hs.map Hd.row)), (10, .int .i64 p.hs.length), (11, .int .i64 i), (3, .own tv 3 (((p.hs.take i).map hPart).map Part.row))]) (fun i H' => H' = G.setT tv (.frz 138 3 i) ∧ i ≤ p.hs.length) (fun i => p.hs.length - i) ⟨rfl, by omega⟩ ?_ ?_
  · refine envle_cons ?_ (envle_cons ?_ (envle_cons ?_ ?_))
    · simp only [Env.get, Nat.reduceBEq, cond_true, cond_false, beq_self_eq_true]; exact AVLe.refl _
    · simp only [Env.get, Nat.reduceBEq, cond_true, cond_false, beq_self_eq_true]; exact AVLe.refl _
    · simp only [Env.get, Nat.reduceBEq, cond_true, cond_false, beq_self_eq_true]; exact avle_int (by simp)
    (repeat first | exact envle_nil _ | (refine envle_cons ?_ ?_; · (simp only [go_sem, Nat.reduceBEq, Nat.reduceAdd]; exact AVLe.refl _)))
  · intro i H' ⟨e, hi⟩
    subst e
    have hl0 : (((p.hs.take i).map hPart).map Part.row).length = i := by simp; omega
    repeat' first|(apply Sp.go;·constructor<;>first|exact ss|(change _=_;first|(simp only[go_sem,Nat.reduceBEq,Nat.reduceAdd,Nat.reduceLeDiff,reduceIte]<;>rfl)|rfl)|exact Nat.le_of_ble_eq_true rfl|decide|(repeat' first|(apply Lk.go;constructor)|assumption|exact nb ‹_› ‹_›|exact nt ‹_› ‹_›))|(intro b hb;repeat first|(refine fe hb ?_;intro _ _ hb)|(refine fT hb ?_;intro hb))|refine rt ?_|refine gA rfl ?_|refine gB rfl ?_|apply cT rfl|apply cF rfl|(apply DM.gbT;rfl)|(apply DM.gbF;rfl)|intro h
    (apply AM.cond; (· rfl))
    · intro h3
      simp at h3
      obtain ⟨v, hv⟩ := some_of h3
      repeat' first|(apply Sp.go;·constructor<;>first|exact ss|(change _=_;first|(simp only[go_sem,Nat.reduceBEq,Nat.reduceAdd,Nat.reduceLeDiff,reduceIte]<;>rfl)|rfl)|exact Nat.le_of_ble_eq_true rfl|decide|(repeat' first|(apply Lk.go;constructor)|assumption|exact nb ‹_› ‹_›|exact nt ‹_› ‹_›))|(intro b hb;repeat first|(refine fe hb ?_;intro _ _ hb)|(refine fT hb ?_;intro hb))|refine rt ?_|refine gA rfl ?_|refine gB rfl ?_|apply cT rfl|apply cF rfl|(apply DM.gbT;rfl)|(apply DM.gbF;rfl)|intro h
      (apply DM.ixV (row := v.row) (z := (i : Int)) (by omega) (row_get Hd.row hv); (· rfl); (· rfl))
      repeat' first|(apply Sp.go;·constructor<;>first|exact ss|(change _=_;first|(simp only[go_sem,Nat.reduceBEq,Nat.reduceAdd,Nat.reduceLeDiff,reduceIte]<;>rfl)|rfl)|exact Nat.le_of_ble_eq_true rfl|decide|(repeat' first|(apply Lk.go;constructor)|assumption|exact nb ‹_› ‹_›|exact nt ‹_› ‹_›))|(intro b hb;repeat first|(refine fe hb ?_;intro _ _ hb)|(refine fT hb ?_;intro hb))|refine rt ?_|refine gA rfl ?_|refine gB rfl ?_|apply cT rfl|apply cF rfl|(apply DM.gbT;rfl)|(apply DM.gbF;rfl)|intro h
      apply DM.apOr
      · simp only [EOpd.ev, Env.get, Nat.reduceBEq, cond_true, cond_false, beq_self_eq_true] <;> rfl
      · (· repeat' first|(apply Lk.go;constructor)|assumption|exact nb ‹_› ‹_›|exact nt ‹_› ‹_›|(apply Lm.go;constructor))
      · exact hl0
      · simp only [rowsOf, if_true, eq_self, EOpd.ev, Env.get, Nat.reduceBEq, cond_true, cond_false, beq_self_eq_true] <;> rfl
      · simp only [List.length_cons, List.length_nil]; omega
      · simp only [List.length_cons, List.length_nil, maxLen]; omega
      repeat' first|(apply Sp.go;·constructor<;>first|exact ss|(change _=_;first|(simp only[go_sem,Nat.reduceBEq,Nat.reduceAdd,Nat.reduceLeDiff,reduceIte]<;>rfl)|rfl)|exact Nat.le_of_ble_eq_true rfl|decide|(repeat' first|(apply Lk.go;constructor)|assumption|exact nb ‹_› ‹_›|exact nt ‹_› ‹_›))|(intro b hb;repeat first|(refine fe hb ?_;intro _ _ hb)|(refine fT hb ?_;intro hb))|refine rt ?_|refine gA rfl ?_|refine gB rfl ?_|apply cT rfl|apply cF rfl|(apply DM.gbT;rfl)|(apply DM.gbF;rfl)|intro h
      refine AM.forget (G.setT tv (.frz 138 3 (i + 1))) ?_ ?_
      · refine R.hsub_tok2 ?_ ?_ ?_
        · intro b x hx
          (· repeat' first|(apply Lk.go;constructor)|assumption|exact nb ‹_› ‹_›|exact nt ‹_› ‹_›)
        · intro t' x hn hx
          (· repeat' first|(apply Lk.go;constructor)|assumption|exact nb ‹_› ‹_›|exact nt ‹_› ‹_›|(apply Lm.go;constructor))
        · (· repeat' first|(apply Lk.go;constructor)|assumption|exact nb ‹_› ‹_›|exact nt ‹_› ‹_›|(apply Lm.go;constructor))
      refine AM.roundX (i + 1) ⟨rfl, by omega⟩ ?_ ?_
      · (repeat first | exact envle_nil _ | (refine envle_cons ?_ ?_; · (simp only [go_sem, Nat.reduceBEq, Nat.reduceAdd]; exact AVLe.refl _)))
        refine envle_cons ?_ ?_
        · simp only [go_sem, Nat.reduceBEq, Nat.reduceAdd]
          refine avle_int ?_
          rw [inc64 h3 (by unfold maxLen; omega)]
        refine envle_cons ?_ (envle_nil _)
        simp only [Env.get, Nat.reduceBEq, cond_true, cond_false, beq_self_eq_true]
        rw [List.take_add_one, hv]
        refine avle_eq ?_
        simp [hPart]
      · show p.hs.length - (i + 1) < p.hs.length - i
        omega
    · intro h3
      simp at h3
      have : i = p.hs.length := by omega
      subst this
      have hbp2 : (G.setT tv (.frz 138 3 p.hs.length)).blk b1 = some (41, p.cells) := g_T hbp
      repeat' first|(apply Sp.go;·constructor<;>first|exact ss|(change _=_;first|(simp only[go_sem,Nat.reduceBEq,Nat.reduceAdd,Nat.reduceLeDiff,reduceIte]<;>rfl)|rfl)|exact Nat.le_of_ble_eq_true rfl|decide|(repeat' first|(apply Lk.go;constructor)|assumption|exact nb ‹_› ‹_›|exact nt ‹_› ‹_›))|(intro b hb;repeat first|(refine fe hb ?_;intro _ _ hb)|(refine fT hb ?_;intro hb))|refine rt ?_|refine gA rfl ?_|refine gB rfl ?_|apply cT rfl|apply cF rfl|(apply DM.gbT;rfl)|(apply DM.gbF;rfl)|intro h
      refine AM.loopX (X := Nat) 0 (fun i => [(25, .vs 4 (p.os.map Of_.row)), (26, .int .i64 p.os.length), (27, .int .i64 i), (3, .own tv 3 (pRows p i))]) (fun i H' => H' = G.setT tv (.frz 138 3 (pLen p i)) ∧ i ≤ p.os.length) (fun i => p.os.length - i) ⟨rfl, by omega⟩ ?_ ?_
      · refine envle_cons ?_ (envle_cons ?_ (envle_cons ?_ (envle_cons ?_ (envle_nil _))))
        · simp only [Env.get, Nat.reduceBEq, cond_true, cond_false, beq_self_eq_true]; exact AVLe.refl _
        · simp only [Env.get, Nat.reduceBEq, cond_true, cond_false, beq_self_eq_true]; exact avle_int (by simp)
        · simp only [Env.get, Nat.reduceBEq, cond_true, cond_false, beq_self_eq_true]; exact AVLe.refl _
        · simp only [Env.get, Nat.reduceBEq, cond_true, cond_false, beq_self_eq_true]
          rw [List.take_length]
          exact avle_eq (by simp [pRows])
      · intro i H' ⟨e, hi⟩
        subst e
        have hl1 := pRows_len p i
        have hLi := hL i
        repeat' first|(apply Sp.go;·constructor<;>first|exact ss|(change _=_;first|(simp only[go_sem,Nat.reduceBEq,Nat.reduceAdd,Nat.reduceLeDiff,reduceIte]<;>rfl)|rfl)|exact Nat.le_of_ble_eq_true rfl|decide|(repeat' first|(apply Lk.go;constructor)|assumption|exact nb ‹_› ‹_›|exact nt ‹_› ‹_›))|(intro b hb;repeat first|(refine fe hb ?_;intro _ _ hb)|(refine fT hb ?_;intro hb))|refine rt ?_|refine gA rfl ?_|refine gB rfl ?_|apply cT rfl|apply cF rfl|(apply DM.gbT;rfl)|(apply DM.gbF;rfl)|intro h
        (apply AM.cond; (· rfl))
        · intro h3
          simp at h3
          obtain ⟨v, hv⟩ := some_of h3
          have e1 := pRows_succ hv
          have e2 := pLen_succ hv
          repeat' first|(apply Sp.go;·constructor<;>first|exact ss|(change _=_;first|(simp only[go_sem,Nat.reduceBEq,Nat.reduceAdd,Nat.reduceLeDiff,reduceIte]<;>rfl)|rfl)|exact Nat.le_of_ble_eq_true rfl|decide|(repeat' first|(apply Lk.go;constructor)|assumption|exact nb ‹_› ‹_›|exact nt ‹_› ‹_›))|(intro b hb;repeat first|(refine fe hb ?_;intro _ _ hb)|(refine fT hb ?_;intro hb))|refine rt ?_|refine gA rfl ?_|refine gB rfl ?_|apply cT rfl|apply cF rfl|(apply DM.gbT;rfl)|(apply DM.gbF;rfl)|intro h
          (apply DM.ixV (row := v.row) (z := (i : Int)) (by omega) (row_get Of_.row hv); (· rfl); (· rfl))
          repeat' first|(apply Sp.go;·constructor<;>first|exact ss|(change _=_;first|(simp only[go_sem,Nat.reduceBEq,Nat.reduceAdd,Nat.reduceLeDiff,reduceIte]<;>rfl)|rfl)|exact Nat.le_of_ble_eq_true rfl|decide|(repeat' first|(apply Lk.go;constructor)|assumption|exact nb ‹_› ‹_›|exact nt ‹_› ‹_›))|(intro b hb;repeat first|(refine fe hb ?_;intro _ _ hb)|(refine fT hb ?_;intro hb))|refine rt ?_|refine gA rfl ?_|refine gB rfl ?_|apply cT rfl|apply cF rfl|(apply DM.gbT;rfl)|(apply DM.gbF;rfl)|intro h
          (apply AM.cond; (· rfl))
          · intro h4
            simp at h4
            have eo : oParts v = [⟨v.cond, v.label, 1⟩, ⟨v.args, v.label, 2⟩] := by simp [oParts, h4]
            rw [eo] at e1 e2
            repeat' first|(apply Sp.go;·constructor<;>first|exact ss|(change _=_;first|(simp only[go_sem,Nat.reduceBEq,Nat.reduceAdd,Nat.reduceLeDiff,reduceIte]<;>rfl)|rfl)|exact Nat.le_of_ble_eq_true rfl|decide|(repeat' first|(apply Lk.go;constructor)|assumption|exact nb ‹_› ‹_›|exact nt ‹_› ‹_›))|(intro b hb;repeat first|(refine fe hb ?_;intro _ _ hb)|(refine fT hb ?_;intro hb))|refine rt ?_|refine gA rfl ?_|refine gB rfl ?_|apply cT rfl|apply cF rfl|(apply DM.gbT;rfl)|(apply DM.gbF;rfl)|intro h
            apply DM.apOr
            · simp only [EOpd.ev, Env.get, Nat.reduceBEq, cond_true, cond_false, beq_self_eq_true] <;> rfl
            · (· repeat' first|(apply Lk.go;constructor)|assumption|exact nb ‹_› ‹_›|exact nt ‹_› ‹_›|(apply Lm.go;constructor))
            · exact hl1
            · simp only [rowsOf, if_true, eq_self, EOpd.ev, Env.get, Nat.reduceBEq, cond_true, cond_false, beq_self_eq_true] <;> rfl
            · simp only [List.length_cons, List.length_nil]; omega
            · simp only [List.length_cons, List.length_nil, maxLen]; omega
            repeat' first|(apply Sp.go;·constructor<;>first|exact ss|(change _=_;first|(simp only[go_sem,Nat.reduceBEq,Nat.reduceAdd,Nat.reduceLeDiff,reduceIte]<;>rfl)|rfl)|exact Nat.le_of_ble_eq_true rfl|decide|(repeat' first|(apply Lk.go;constructor)|assumption|exact nb ‹_› ‹_›|exact nt ‹_› ‹_›))|(intro b hb;repeat first|(refine fe hb ?_;intro _ _ hb)|(refine fT hb ?_;intro hb))|refine rt ?_|refine gA rfl ?_|refine gB rfl ?_|apply cT rfl|apply cF rfl|(apply DM.gbT;rfl)|(apply DM.gbF;rfl)|intro h
            apply DM.apOr
            · simp only [EOpd.ev, Env.get, Nat.reduceBEq, cond_true, cond_false, beq_self_eq_true] <;> rfl
            · (· repeat' first|(apply Lk.go;constructor)|assumption|exact nb ‹_› ‹_›|exact nt ‹_› ‹_›|(apply Lm.go;constructor))
            · rw [List.length_append, hl1]
            · simp only [rowsOf, if_true, eq_self, EOpd.ev, Env.get, Nat.reduceBEq, cond_true, cond_false, beq_self_eq_true] <;> rfl
            · simp only [List.length_cons, List.length_nil]; omega
            · simp only [List.length_cons, List.length_nil, maxLen]; omega
            repeat' first|(apply Sp.go;·constructor<;>first|exact ss|(change _=_;first|(simp only[go_sem,Nat.reduceBEq,Nat.reduceAdd,Nat.reduceLeDiff,reduceIte]<;>rfl)|rfl)|exact Nat.le_of_ble_eq_true rfl|decide|(repeat' first|(apply Lk.go;constructor)|assumption|exact nb ‹_› ‹_›|exact nt ‹_› ‹_›))|(intro b hb;repeat first|(refine fe hb ?_;intro _ _ hb)|(refine fT hb ?_;intro hb))|refine rt ?_|refine gA rfl ?_|refine gB rfl ?_|apply cT rfl|apply cF rfl|(apply DM.gbT;rfl)|(apply DM.gbF;rfl)|intro h
            refine AM.forget (G.setT tv (.frz 138 3 (pLen p (i + 1)))) ?_ ?_
            · refine R.hsub_tok2 ?_ ?_ ?_
              · intro b x hx
                (· repeat' first|(apply Lk.go;constructor)|assumption|exact nb ‹_› ‹_›|exact nt ‹_› ‹_›)
              · intro t' x hn hx
                (· repeat' first|(apply Lk.go;constructor)|assumption|exact nb ‹_› ‹_›|exact nt ‹_› ‹_›|(apply Lm.go;constructor))
              · rw [e2]
                (· repeat' first|(apply Lk.go;constructor)|assumption|exact nb ‹_› ‹_›|exact nt ‹_› ‹_›|(apply Lm.go;constructor))
            refine AM.roundX (i + 1) ⟨rfl, by omega⟩ ?_ ?_
            · (repeat first | exact envle_nil _ | (refine envle_cons ?_ ?_; · (simp only [go_sem, Nat.reduceBEq, Nat.reduceAdd]; exact AVLe.refl _)))
              refine envle_cons ?_ ?_
              · simp only [go_sem, Nat.reduceBEq, Nat.reduceAdd]
                refine avle_int ?_
                rw [inc64 h3 (by unfold maxLen; omega)]
              refine envle_cons ?_ (envle_nil _)
              simp only [Env.get, Nat.reduceBEq, cond_true, cond_false, beq_self_eq_true]
              rw [e1]
              refine avle_eq ?_
              simp
            · show p.os.length - (i + 1) < p.os.length - i
              omega
          · intro h4
            simp at h4
            have eo : oParts v = [⟨v.args, v.label, 2⟩] := by simp [oParts, h4]
            rw [eo] at e1 e2
            repeat' first|(apply Sp.go;·constructor<;>first|exact ss|(change _=_;first|(simp only[go_sem,Nat.reduceBEq,Nat.reduceAdd,Nat.reduceLeDiff,reduceIte]<;>rfl)|rfl)|exact Nat.le_of_ble_eq_true rfl|decide|(repeat' first|(apply Lk.go;constructor)|assumption|exact nb ‹_› ‹_›|exact nt ‹_› ‹_›))|(intro b hb;repeat first|(refine fe hb ?_;intro _ _ hb)|(refine fT hb ?_;intro hb))|refine rt ?_|refine gA rfl ?_|refine gB rfl ?_|apply cT rfl|apply cF rfl|(apply DM.gbT;rfl)|(apply DM.gbF;rfl)|intro h
            apply DM.apOr
            · simp only [EOpd.ev, Env.get, Nat.reduceBEq, cond_true, cond_false, beq_self_eq_true] <;> rfl
            · (· repeat' first|(apply Lk.go;constructor)|assumption|exact nb ‹_› ‹_›|exact nt ‹_› ‹_›|(apply Lm.go;constructor))
            · exact hl1
            · simp only [rowsOf, if_true, eq_self, EOpd.ev, Env.get, Nat.reduceBEq, cond_true, cond_false, beq_self_eq_true] <;> rfl
            · simp only [List.length_cons, List.length_nil]; omega
            · simp only [List.length_cons, List.length_nil, maxLen]; omega
            repeat' first|(apply Sp.go;·constructor<;>first|exact ss|(change _=_;first|(simp only[go_sem,Nat.reduceBEq,Nat.reduceAdd,Nat.reduceLeDiff,reduceIte]<;>rfl)|rfl)|exact Nat.le_of_ble_eq_true rfl|decide|(repeat' first|(apply Lk.go;constructor)|assumption|exact nb ‹_› ‹_›|exact nt ‹_› ‹_›))|(intro b hb;repeat first|(refine fe hb ?_;intro _ _ hb)|(refine fT hb ?_;intro hb))|refine rt ?_|refine gA rfl ?_|refine gB rfl ?_|apply cT rfl|apply cF rfl|(apply DM.gbT;rfl)|(apply DM.gbF;rfl)|intro h
            refine AM.forget (G.setT tv (.frz 138 3 (pLen p (i + 1)))) ?_ ?_
            · refine R.hsub_tok2 ?_ ?_ ?_
              · intro b x hx
                (· repeat' first|(apply Lk.go;constructor)|assumption|exact nb ‹_› ‹_›|exact nt ‹_› ‹_›)
              · intro t' x hn hx
                (· repeat' first|(apply Lk.go;constructor)|assumption|exact nb ‹_› ‹_›|exact nt ‹_› ‹_›|(apply Lm.go;constructor))
              · rw [e2]
                (· repeat' first|(apply Lk.go;constructor)|assumption|exact nb ‹_› ‹_›|exact nt ‹_› ‹_›|(apply Lm.go;constructor))
            refine AM.roundX (i + 1) ⟨rfl, by omega⟩ ?_ ?_
            · (repeat first | exact envle_nil _ | (refine envle_cons ?_ ?_; · (simp only [go_sem, Nat.reduceBEq, Nat.reduceAdd]; exact AVLe.refl _)))
              refine envle_cons ?_ ?_
              · simp only [go_sem, Nat.reduceBEq, Nat.reduceAdd]
                refine avle_int ?_
                rw [inc64 h3 (by unfold maxLen; omega)]
              refine envle_cons ?_ (envle_nil _)
              simp only [Env.get, Nat.reduceBEq, cond_true, cond_false, beq_self_eq_true]
              rw [e1]
              refine avle_eq ?_
              simp
            · show p.os.length - (i + 1) < p.os.length - i
              omega
        · intro h3
          simp at h3
          have : i = p.os.length := by omega
          subst this
          repeat' first|(apply Sp.go;·constructor<;>first|exact ss|(change _=_;first|(simp only[go_sem,Nat.reduceBEq,Nat.reduceAdd,Nat.reduceLeDiff,reduceIte]<;>rfl)|rfl)|exact Nat.le_of_ble_eq_true rfl|decide|(repeat' first|(apply Lk.go;constructor)|assumption|exact nb ‹_› ‹_›|exact nt ‹_› ‹_›))|(intro b hb;repeat first|(refine fe hb ?_;intro _ _ hb)|(refine fT hb ?_;intro hb))|refine rt ?_|refine gA rfl ?_|refine gB rfl ?_|apply cT rfl|apply cF rfl|(apply DM.gbT;rfl)|(apply DM.gbF;rfl)|intro h
          (apply Sr.go;·constructor<;>first|(apply Lk.go;constructor<;>first|exact ss|(change _=_;first|(simp only[go_sem,Nat.reduceBEq,Nat.reduceAdd,Nat.reduceLeDiff,reduceIte]<;>rfl)|rfl)|exact Nat.le_of_ble_eq_true rfl|decide|(repeat' first|(apply Lk.go;constructor)|assumption|exact nb ‹_› ‹_›|exact nt ‹_› ‹_›))|assumption)
          simp only [pRows, List.take_length]
          exact AVLe.own
structure PartOk (p : Prog) (x : Part) : Prop where
  lab : 0 ≤ x.label ∧ x.label ≤ 39
  at_ : 0 ≤ x.at_ ∧ x.at_ < p.code.length
  kind : x.kind = 0 ∨ x.kind = 1 ∨ x.kind = 2
theorem parts_ok {p : Prog} (hv : validP p = true) : (p.hs.length ≤ 40 ∧ p.os.length ≤ 40) ∧ ∀ x ∈ partsP p, PartOk p x := by
  simp only [validP, partsOk, Bool.and_eq_true, decide_eq_true_eq] at hv
  obtain ⟨⟨⟨_, _⟩, ⟨⟨h1, h2⟩, h3⟩, h4⟩, _⟩ := hv
  refine ⟨⟨h3, h4⟩, fun x hx => ?_⟩
  simp only [allI, List.all_eq_true, List.mem_range] at h1 h2
  rcases List.mem_append.1 hx with hx | hx
  · obtain ⟨h, hm, rfl⟩ := List.mem_map.1 hx
    obtain ⟨i, hi⟩ := List.getElem?_of_mem hm
    have := h1 i (List.getElem?_eq_some_iff.1 hi).1
    simp [okHd, hi, Prog.party, Prog.target, inB] at this
    exact ⟨by simp [hPart]; omega, by simp [hPart]; omega, .inl rfl⟩
  · obtain ⟨o, hm, hx⟩ := List.mem_flatMap.1 hx
    obtain ⟨i, hi⟩ := List.getElem?_of_mem hm
    have := h2 i (List.getElem?_eq_some_iff.1 hi).1
    simp [okOf, hi, Prog.party, Prog.target, inB] at this
    unfold oParts at hx
    rcases List.mem_append.1 hx with hx | hx
    · by_cases hc : o.cond = -1
      · simp [hc] at hx
      · simp [hc] at hx
        subst hx
        exact ⟨by simp; omega, by simp; omega, .inr (.inl rfl)⟩
    · simp at hx
      subst hx
      exact ⟨by simp; omega, by simp; omega, .inr (.inr rfl)⟩
def kindsL (ds : List Decl_) (label : Int) : List Int := ((ds[label.toNat]?).map kindsD).getD []
def psOf (ds : List Decl_) (x : Part) : List Int := if x.kind = 0 then kindsL ds x.label else []
def rsOf (ds : List Decl_) (x : Part) : List Int := if x.kind = 0 then [] else if x.kind = 1 then [1] else kindsL ds x.label
def checkF (p : Prog) (ds : List Decl_) : List Part → Int × Int
  | [] => (0, 0)
  | x :: l => if (ds.length : Int) ≤ x.label then (x.at_, 10)
    else if (costP p x.at_ (psOf ds x) (rsOf ds x)).2.2 ≠ 0 then ((costP p x.at_ (psOf ds x) (rsOf ds x)).2.1, (costP p x.at_ (psOf ds x) (rsOf ds x)).2.2)
    else if 5000 < (costP p x.at_ (psOf ds x) (rsOf ds x)).1 then (x.at_, 6) else checkF p ds l
def checkP (p : Prog) (ds : List Decl_) : Int × Int := if validP p = false then (0, 1) else checkF p ds (partsP p)
theorem kindsL_len {ds : List Decl_} (hd : ∀ d ∈ ds, d.fields.length ≤ 1000) (n : Int) : (kindsL ds n).length ≤ 1000 := by
  unfold kindsL
  cases h : ds[n.toNat]? with
  | none => simp
  | some d => simp [kindsD]; exact hd d (List.mem_of_getElem? h)
set_option maxHeartbeats 4000000 in
theorem p21 (p : Prog) (ds : List Decl_) (hd : ∀ d ∈ ds, d.fields.length ≤ 1000) : Pure Try.prog 21 [p.av, .vs 5 (ds.map Decl_.row)] (.tup [.int .i64 (checkP p ds).1, .int .i64 (checkP p ds).2]) := by
  refine pure_intro mo Try.func21 c21 fun H => ?_
  unfold e21 r21
  simp only [initEnv, initFrom]
  repeat' first|(apply Sp.go;·constructor<;>first|exact ss|(change _=_;first|(simp only[go_sem,Nat.reduceBEq,Nat.reduceAdd,Nat.reduceLeDiff,reduceIte]<;>rfl)|rfl)|exact Nat.le_of_ble_eq_true rfl|decide|(repeat' first|(apply Lk.go;constructor)|assumption|exact nb ‹_› ‹_›|exact nt ‹_› ‹_›))|(intro b hb;repeat first|(refine fe hb ?_;intro _ _ hb)|(refine fT hb ?_;intro hb))|refine rt ?_|refine gA rfl ?_|refine gB rfl ?_|apply cT rfl|apply cF rfl|(apply DM.gbT;rfl)|(apply DM.gbF;rfl)|intro h
  rename Nat => b2
  (apply DM.pcs (p43 p); (· simp only [go_sem, Nat.reduceBEq, Nat.reduceAdd] <;> rfl); (· exact AVLes.refl _))
  repeat' first|(apply Sp.go;·constructor<;>first|exact ss|(change _=_;first|(simp only[go_sem,Nat.reduceBEq,Nat.reduceAdd,Nat.reduceLeDiff,reduceIte]<;>rfl)|rfl)|exact Nat.le_of_ble_eq_true rfl|decide|(repeat' first|(apply Lk.go;constructor)|assumption|exact nb ‹_› ‹_›|exact nt ‹_› ‹_›))|(intro b hb;repeat first|(refine fe hb ?_;intro _ _ hb)|(refine fT hb ?_;intro hb))|refine rt ?_|refine gA rfl ?_|refine gB rfl ?_|apply cT rfl|apply cF rfl|(apply DM.gbT;rfl)|(apply DM.gbF;rfl)|intro h
  (apply AM.cond; (· rfl))
  · intro h
    have hv : validP p = false := by simpa using h
    rw [show checkP p ds = (0, 1) by simp [checkP, hv]]
    repeat' first|(apply Sp.go;·constructor<;>first|exact ss|(change _=_;first|(simp only[go_sem,Nat.reduceBEq,Nat.reduceAdd,Nat.reduceLeDiff,reduceIte]<;>rfl)|rfl)|exact Nat.le_of_ble_eq_true rfl|decide|(repeat' first|(apply Lk.go;constructor)|assumption|exact nb ‹_› ‹_›|exact nt ‹_› ‹_›))|(intro b hb;repeat first|(refine fe hb ?_;intro _ _ hb)|(refine fT hb ?_;intro hb))|refine rt ?_|refine gA rfl ?_|refine gB rfl ?_|apply cT rfl|apply cF rfl|(apply DM.gbT;rfl)|(apply DM.gbF;rfl)|intro h
    (apply Sr.go;·constructor<;>first|(apply Lk.go;constructor<;>first|exact ss|(change _=_;first|(simp only[go_sem,Nat.reduceBEq,Nat.reduceAdd,Nat.reduceLeDiff,reduceIte]<;>rfl)|rfl)|exact Nat.le_of_ble_eq_true rfl|decide|(repeat' first|(apply Lk.go;constructor)|assumption|exact nb ‹_› ‹_›|exact nt ‹_› ‹_›))|assumption)
    exact AVLe.refl _
  · intro h
    have hv : validP p = true := by simpa using h
    rw [show checkP p ds = checkF p ds (partsP p) by simp [checkP, hv]]
    obtain ⟨⟨hh, ho⟩, hpo⟩ := parts_ok hv
    have c46 := p46 p (by omega) (by omega)
    repeat' first|(apply Sp.go;·constructor<;>first|exact ss|(change _=_;first|(simp only[go_sem,Nat.reduceBEq,Nat.reduceAdd,Nat.reduceLeDiff,reduceIte]<;>rfl)|rfl)|exact Nat.le_of_ble_eq_true rfl|decide|(repeat' first|(apply Lk.go;constructor)|assumption|exact nb ‹_› ‹_›|exact nt ‹_› ‹_›))|(intro b hb;repeat first|(refine fe hb ?_;intro _ _ hb)|(refine fT hb ?_;intro hb))|refine rt ?_|refine gA rfl ?_|refine gB rfl ?_|apply cT rfl|apply cF rfl|(apply DM.gbT;rfl)|(apply DM.gbF;rfl)|intro h
    (apply DM.pcs (c46); (· simp only [go_sem, Nat.reduceBEq, Nat.reduceAdd] <;> rfl); (· exact AVLes.refl _))
    have hpl : (partsP p).length ≤ 120 := by
      have := oParts_len p.os
      simp only [partsP, List.length_append, List.length_map]; omega
    generalize partsP p = PS at *
    have hsub0 : HSub H (H.setB b2 41 p.cells) := HSub.setB (HSub.refl _) hb
    have hbp : (H.setB b2 41 p.cells).blk b2 = some (41, p.cells) := g_same
    generalize H.setB b2 41 p.cells = G at hsub0 hbp ⊢
    repeat' first|(apply Sp.go;·constructor<;>first|exact ss|(change _=_;first|(simp only[go_sem,Nat.reduceBEq,Nat.reduceAdd,Nat.reduceLeDiff,reduceIte]<;>rfl)|rfl)|exact Nat.le_of_ble_eq_true rfl|decide|(repeat' first|(apply Lk.go;constructor)|assumption|exact nb ‹_› ‹_›|exact nt ‹_› ‹_›))|(intro b hb;repeat first|(refine fe hb ?_;intro _ _ hb)|(refine fT hb ?_;intro hb))|refine rt ?_|refine gA rfl ?_|refine gB rfl ?_|apply cT rfl|apply cF rfl|(apply DM.gbT;rfl)|(apply DM.gbF;rfl)|intro h
    refine AM.loopX (X := Nat) 0 (fun i => [(1, .vs 5 (ds.map Decl_.row)), (2, .ptr b2 0), (17, .vs 3 (PS.map Part.row)), (18, .int .i64 PS.length), (19, .int .i64 i)]) (fun i H' => H' = G ∧ i ≤ PS.length ∧ checkF p ds PS = checkF p ds (PS.drop i)) (fun i => PS.length - i) ⟨rfl, by omega, rfl⟩ ?_ ?_
    · refine envle_cons ?_ (envle_cons ?_ (envle_cons ?_ (envle_cons ?_ (envle_cons ?_ (envle_nil _)))))
      · simp only [Env.get, Nat.reduceBEq, cond_true, cond_false, beq_self_eq_true]; exact AVLe.refl _
      · simp only [Env.get, Nat.reduceBEq, cond_true, cond_false, beq_self_eq_true]; exact AVLe.refl _
      · simp only [Env.get, Nat.reduceBEq, cond_true, cond_false, beq_self_eq_true]; exact AVLe.refl _
      · simp only [Env.get, Nat.reduceBEq, cond_true, cond_false, beq_self_eq_true]; exact avle_int (by simp)
      · simp only [Env.get, Nat.reduceBEq, cond_true, cond_false, beq_self_eq_true]; exact AVLe.refl _
    · intro i H' ⟨e, hi, he⟩
      subst e
      repeat' first|(apply Sp.go;·constructor<;>first|exact ss|(change _=_;first|(simp only[go_sem,Nat.reduceBEq,Nat.reduceAdd,Nat.reduceLeDiff,reduceIte]<;>rfl)|rfl)|exact Nat.le_of_ble_eq_true rfl|decide|(repeat' first|(apply Lk.go;constructor)|assumption|exact nb ‹_› ‹_›|exact nt ‹_› ‹_›))|(intro b hb;repeat first|(refine fe hb ?_;intro _ _ hb)|(refine fT hb ?_;intro hb))|refine rt ?_|refine gA rfl ?_|refine gB rfl ?_|apply cT rfl|apply cF rfl|(apply DM.gbT;rfl)|(apply DM.gbF;rfl)|intro h
      (apply AM.cond; (· rfl))
      · intro h3
        simp at h3
        obtain ⟨x, hx⟩ := some_of h3
        have hxo := hpo x (List.mem_of_getElem? hx)
        rw [drop_of hx, checkF] at he
        repeat' first|(apply Sp.go;·constructor<;>first|exact ss|(change _=_;first|(simp only[go_sem,Nat.reduceBEq,Nat.reduceAdd,Nat.reduceLeDiff,reduceIte]<;>rfl)|rfl)|exact Nat.le_of_ble_eq_true rfl|decide|(repeat' first|(apply Lk.go;constructor)|assumption|exact nb ‹_› ‹_›|exact nt ‹_› ‹_›))|(intro b hb;repeat first|(refine fe hb ?_;intro _ _ hb)|(refine fT hb ?_;intro hb))|refine rt ?_|refine gA rfl ?_|refine gB rfl ?_|apply cT rfl|apply cF rfl|(apply DM.gbT;rfl)|(apply DM.gbF;rfl)|intro h
        (apply DM.ixV (row := x.row) (z := (i : Int)) (by omega) (row_get Part.row hx); (· rfl); (· rfl))
        repeat' first|(apply Sp.go;·constructor<;>first|exact ss|(change _=_;first|(simp only[go_sem,Nat.reduceBEq,Nat.reduceAdd,Nat.reduceLeDiff,reduceIte]<;>rfl)|rfl)|exact Nat.le_of_ble_eq_true rfl|decide|(repeat' first|(apply Lk.go;constructor)|assumption|exact nb ‹_› ‹_›|exact nt ‹_› ‹_›))|(intro b hb;repeat first|(refine fe hb ?_;intro _ _ hb)|(refine fT hb ?_;intro hb))|refine rt ?_|refine gA rfl ?_|refine gB rfl ?_|apply cT rfl|apply cF rfl|(apply DM.gbT;rfl)|(apply DM.gbF;rfl)|intro h
        rename Nat => b7
        (apply AM.cond; (· rfl))
        · intro h4
          simp at h4
          repeat' first|(apply Sp.go;·constructor<;>first|exact ss|(change _=_;first|(simp only[go_sem,Nat.reduceBEq,Nat.reduceAdd,Nat.reduceLeDiff,reduceIte]<;>rfl)|rfl)|exact Nat.le_of_ble_eq_true rfl|decide|(repeat' first|(apply Lk.go;constructor)|assumption|exact nb ‹_› ‹_›|exact nt ‹_› ‹_›))|(intro b hb;repeat first|(refine fe hb ?_;intro _ _ hb)|(refine fT hb ?_;intro hb))|refine rt ?_|refine gA rfl ?_|refine gB rfl ?_|apply cT rfl|apply cF rfl|(apply DM.gbT;rfl)|(apply DM.gbF;rfl)|intro h
          rw [he, if_pos h4]
          exact AM.ret (v := .tup [.int .i64 x.at_, .int .i64 10]) rfl ⟨_, rfl, AVLe.refl _, hsub0.trans (HSub.setB (HSub.refl _) hb)⟩
        · intro h4
          simp at h4
          rw [if_neg (by omega)] at he
          obtain ⟨d, hdd⟩ := some_of (show x.label.toNat < ds.length by have := hxo.lab; omega)
          have hkl : kindsL ds x.label = kindsD d := by simp [kindsL, hdd]
          have hdl := hd d (List.mem_of_getElem? hdd)
          have hG7 : (H'.setB b7 138 x.row).blk b7 = some (138, x.row) := g_same
          have hG2 : (H'.setB b7 138 x.row).blk b2 = some (41, p.cells) := g_fresh hb hbp
          have hGs : HSub H' (H'.setB b7 138 x.row) := HSub.setB (HSub.refl _) hb
          have c17 := p17 p x.at_ (psOf ds x) (rsOf ds x) (by unfold psOf; split; exact kindsL_len hd _; simp)
          have hsub1 := hsub0.trans hGs
          generalize H'.setB b7 138 x.row = H2 at hG7 hG2 hGs hsub1 ⊢
          rcases hxo.kind with hk | hk | hk
          rw [show psOf ds x = kindsD d by simp [psOf, hk, hkl], show rsOf ds x = [] by simp [rsOf, hk]] at *
          repeat' first|(apply Sp.go;·constructor<;>first|exact ss|(change _=_;first|(simp only[go_sem,Nat.reduceBEq,Nat.reduceAdd,Nat.reduceLeDiff,reduceIte]<;>rfl)|rfl)|exact Nat.le_of_ble_eq_true rfl|decide|(repeat' first|(apply Lk.go;constructor)|assumption|exact nb ‹_› ‹_›|exact nt ‹_› ‹_›))|(intro b hb;repeat first|(refine fe hb ?_;intro _ _ hb)|(refine fT hb ?_;intro hb))|refine rt ?_|refine gA rfl ?_|refine gB rfl ?_|apply cT rfl|apply cF rfl|(apply DM.gbT;rfl)|(apply DM.gbF;rfl)|intro h
          simp only [hk]
          repeat' first|(apply Sp.go;·constructor<;>first|exact ss|(change _=_;first|(simp only[go_sem,Nat.reduceBEq,Nat.reduceAdd,Nat.reduceLeDiff,reduceIte]<;>rfl)|rfl)|exact Nat.le_of_ble_eq_true rfl|decide|(repeat' first|(apply Lk.go;constructor)|assumption|exact nb ‹_› ‹_›|exact nt ‹_› ‹_›))|(intro b hb;repeat first|(refine fe hb ?_;intro _ _ hb)|(refine fT hb ?_;intro hb))|refine rt ?_|refine gA rfl ?_|refine gB rfl ?_|apply cT rfl|apply cF rfl|(apply DM.gbT;rfl)|(apply DM.gbF;rfl)|intro h
          (apply DM.ixV (row := d.row) (z := x.label) hxo.lab.1 (by rw [List.getElem?_map, hdd]; rfl); (· rfl); (· rfl))
          repeat' first|(apply Sp.go;·constructor<;>first|exact ss|(change _=_;first|(simp only[go_sem,Nat.reduceBEq,Nat.reduceAdd,Nat.reduceLeDiff,reduceIte]<;>rfl)|rfl)|exact Nat.le_of_ble_eq_true rfl|decide|(repeat' first|(apply Lk.go;constructor)|assumption|exact nb ‹_› ‹_›|exact nt ‹_› ‹_›))|(intro b hb;repeat first|(refine fe hb ?_;intro _ _ hb)|(refine fT hb ?_;intro hb))|refine rt ?_|refine gA rfl ?_|refine gB rfl ?_|apply cT rfl|apply cF rfl|(apply DM.gbT;rfl)|(apply DM.gbF;rfl)|intro h
          (apply DM.pcs (p47 d hdl); (· simp only [go_sem, Nat.reduceBEq, Nat.reduceAdd] <;> rfl); (· exact AVLes.refl _))
          repeat' first|(apply Sp.go;·constructor<;>first|exact ss|(change _=_;first|(simp only[go_sem,Nat.reduceBEq,Nat.reduceAdd,Nat.reduceLeDiff,reduceIte]<;>rfl)|rfl)|exact Nat.le_of_ble_eq_true rfl|decide|(repeat' first|(apply Lk.go;constructor)|assumption|exact nb ‹_› ‹_›|exact nt ‹_› ‹_›))|(intro b hb;repeat first|(refine fe hb ?_;intro _ _ hb)|(refine fT hb ?_;intro hb))|refine rt ?_|refine gA rfl ?_|refine gB rfl ?_|apply cT rfl|apply cF rfl|(apply DM.gbT;rfl)|(apply DM.gbF;rfl)|intro h
          apply DM.pcs c17
          · simp only [go_sem, Nat.reduceBEq, Nat.reduceAdd] <;> rfl
          · exact avles_cons (AVLe.refl _) (avles_cons (AVLe.refl _) (avles_cons (by first | exact AVLe.refl _ | exact AVLe.nil) (avles_cons (by first | exact AVLe.refl _ | exact AVLe.nil) avles_nil)))
          rotate_left
          rw [show psOf ds x = [] by simp [psOf, hk], show rsOf ds x = [1] by simp [rsOf, hk]] at *
          repeat' first|(apply Sp.go;·constructor<;>first|exact ss|(change _=_;first|(simp only[go_sem,Nat.reduceBEq,Nat.reduceAdd,Nat.reduceLeDiff,reduceIte]<;>rfl)|rfl)|exact Nat.le_of_ble_eq_true rfl|decide|(repeat' first|(apply Lk.go;constructor)|assumption|exact nb ‹_› ‹_›|exact nt ‹_› ‹_›))|(intro b hb;repeat first|(refine fe hb ?_;intro _ _ hb)|(refine fT hb ?_;intro hb))|refine rt ?_|refine gA rfl ?_|refine gB rfl ?_|apply cT rfl|apply cF rfl|(apply DM.gbT;rfl)|(apply DM.gbF;rfl)|intro h
          simp only [hk]
          repeat' first|(apply Sp.go;·constructor<;>first|exact ss|(change _=_;first|(simp only[go_sem,Nat.reduceBEq,Nat.reduceAdd,Nat.reduceLeDiff,reduceIte]<;>rfl)|rfl)|exact Nat.le_of_ble_eq_true rfl|decide|(repeat' first|(apply Lk.go;constructor)|assumption|exact nb ‹_› ‹_›|exact nt ‹_› ‹_›))|(intro b hb;repeat first|(refine fe hb ?_;intro _ _ hb)|(refine fT hb ?_;intro hb))|refine rt ?_|refine gA rfl ?_|refine gB rfl ?_|apply cT rfl|apply cF rfl|(apply DM.gbT;rfl)|(apply DM.gbF;rfl)|intro h
          apply DM.pcs c17
          · simp only [go_sem, Nat.reduceBEq, Nat.reduceAdd] <;> rfl
          · exact avles_cons (AVLe.refl _) (avles_cons (AVLe.refl _) (avles_cons (by first | exact AVLe.refl _ | exact AVLe.nil) (avles_cons (by first | exact AVLe.refl _ | exact AVLe.nil) avles_nil)))
          rotate_left
          rw [show psOf ds x = [] by simp [psOf, hk], show rsOf ds x = kindsD d by simp [rsOf, hk, hkl]] at *
          repeat' first|(apply Sp.go;·constructor<;>first|exact ss|(change _=_;first|(simp only[go_sem,Nat.reduceBEq,Nat.reduceAdd,Nat.reduceLeDiff,reduceIte]<;>rfl)|rfl)|exact Nat.le_of_ble_eq_true rfl|decide|(repeat' first|(apply Lk.go;constructor)|assumption|exact nb ‹_› ‹_›|exact nt ‹_› ‹_›))|(intro b hb;repeat first|(refine fe hb ?_;intro _ _ hb)|(refine fT hb ?_;intro hb))|refine rt ?_|refine gA rfl ?_|refine gB rfl ?_|apply cT rfl|apply cF rfl|(apply DM.gbT;rfl)|(apply DM.gbF;rfl)|intro h
          simp only [hk]
          repeat' first|(apply Sp.go;·constructor<;>first|exact ss|(change _=_;first|(simp only[go_sem,Nat.reduceBEq,Nat.reduceAdd,Nat.reduceLeDiff,reduceIte]<;>rfl)|rfl)|exact Nat.le_of_ble_eq_true rfl|decide|(repeat' first|(apply Lk.go;constructor)|assumption|exact nb ‹_› ‹_›|exact nt ‹_› ‹_›))|(intro b hb;repeat first|(refine fe hb ?_;intro _ _ hb)|(refine fT hb ?_;intro hb))|refine rt ?_|refine gA rfl ?_|refine gB rfl ?_|apply cT rfl|apply cF rfl|(apply DM.gbT;rfl)|(apply DM.gbF;rfl)|intro h
          (apply DM.ixV (row := d.row) (z := x.label) hxo.lab.1 (by rw [List.getElem?_map, hdd]; rfl); (· rfl); (· rfl))
          repeat' first|(apply Sp.go;·constructor<;>first|exact ss|(change _=_;first|(simp only[go_sem,Nat.reduceBEq,Nat.reduceAdd,Nat.reduceLeDiff,reduceIte]<;>rfl)|rfl)|exact Nat.le_of_ble_eq_true rfl|decide|(repeat' first|(apply Lk.go;constructor)|assumption|exact nb ‹_› ‹_›|exact nt ‹_› ‹_›))|(intro b hb;repeat first|(refine fe hb ?_;intro _ _ hb)|(refine fT hb ?_;intro hb))|refine rt ?_|refine gA rfl ?_|refine gB rfl ?_|apply cT rfl|apply cF rfl|(apply DM.gbT;rfl)|(apply DM.gbF;rfl)|intro h
          (apply DM.pcs (p47 d hdl); (· simp only [go_sem, Nat.reduceBEq, Nat.reduceAdd] <;> rfl); (· exact AVLes.refl _))
          repeat' first|(apply Sp.go;·constructor<;>first|exact ss|(change _=_;first|(simp only[go_sem,Nat.reduceBEq,Nat.reduceAdd,Nat.reduceLeDiff,reduceIte]<;>rfl)|rfl)|exact Nat.le_of_ble_eq_true rfl|decide|(repeat' first|(apply Lk.go;constructor)|assumption|exact nb ‹_› ‹_›|exact nt ‹_› ‹_›))|(intro b hb;repeat first|(refine fe hb ?_;intro _ _ hb)|(refine fT hb ?_;intro hb))|refine rt ?_|refine gA rfl ?_|refine gB rfl ?_|apply cT rfl|apply cF rfl|(apply DM.gbT;rfl)|(apply DM.gbF;rfl)|intro h
          apply DM.pcs c17
          · simp only [go_sem, Nat.reduceBEq, Nat.reduceAdd] <;> rfl
          · exact avles_cons (AVLe.refl _) (avles_cons (AVLe.refl _) (avles_cons (by first | exact AVLe.refl _ | exact AVLe.nil) (avles_cons (by first | exact AVLe.refl _ | exact AVLe.nil) avles_nil)))
          rotate_left
          all_goals
            generalize costP p x.at_ _ _ = c at he ⊢
            repeat' first|(apply Sp.go;·constructor<;>first|exact ss|(change _=_;first|(simp only[go_sem,Nat.reduceBEq,Nat.reduceAdd,Nat.reduceLeDiff,reduceIte]<;>rfl)|rfl)|exact Nat.le_of_ble_eq_true rfl|decide|(repeat' first|(apply Lk.go;constructor)|assumption|exact nb ‹_› ‹_›|exact nt ‹_› ‹_›))|(intro b hb;repeat first|(refine fe hb ?_;intro _ _ hb)|(refine fT hb ?_;intro hb))|refine rt ?_|refine gA rfl ?_|refine gB rfl ?_|apply cT rfl|apply cF rfl|(apply DM.gbT;rfl)|(apply DM.gbF;rfl)|intro h
            by_cases z : c.2.2 = 0
            · have dz : (!decide (c.2.2 = 0)) = false := by simp [z]
              simp only [dz]
              repeat' first|(apply Sp.go;·constructor<;>first|exact ss|(change _=_;first|(simp only[go_sem,Nat.reduceBEq,Nat.reduceAdd,Nat.reduceLeDiff,reduceIte]<;>rfl)|rfl)|exact Nat.le_of_ble_eq_true rfl|decide|(repeat' first|(apply Lk.go;constructor)|assumption|exact nb ‹_› ‹_›|exact nt ‹_› ‹_›))|(intro b hb;repeat first|(refine fe hb ?_;intro _ _ hb)|(refine fT hb ?_;intro hb))|refine rt ?_|refine gA rfl ?_|refine gB rfl ?_|apply cT rfl|apply cF rfl|(apply DM.gbT;rfl)|(apply DM.gbF;rfl)|intro h
              rw [if_neg (fun h => h z)] at he
              by_cases y : 5000 < c.1
              · have dy : decide (5000 < c.1) = true := decide_eq_true y
                rw [if_pos y] at he
                simp only [dy]
                repeat' first|(apply Sp.go;·constructor<;>first|exact ss|(change _=_;first|(simp only[go_sem,Nat.reduceBEq,Nat.reduceAdd,Nat.reduceLeDiff,reduceIte]<;>rfl)|rfl)|exact Nat.le_of_ble_eq_true rfl|decide|(repeat' first|(apply Lk.go;constructor)|assumption|exact nb ‹_› ‹_›|exact nt ‹_› ‹_›))|(intro b hb;repeat first|(refine fe hb ?_;intro _ _ hb)|(refine fT hb ?_;intro hb))|refine rt ?_|refine gA rfl ?_|refine gB rfl ?_|apply cT rfl|apply cF rfl|(apply DM.gbT;rfl)|(apply DM.gbF;rfl)|intro h
                rw [he]
                exact AM.ret (v := .tup [.int .i64 x.at_, .int .i64 6]) rfl ⟨_, rfl, AVLe.refl _, hsub1⟩
              · have dy : decide (5000 < c.1) = false := decide_eq_false y
                rw [if_neg y] at he
                simp only [dy]
                repeat' first|(apply Sp.go;·constructor<;>first|exact ss|(change _=_;first|(simp only[go_sem,Nat.reduceBEq,Nat.reduceAdd,Nat.reduceLeDiff,reduceIte]<;>rfl)|rfl)|exact Nat.le_of_ble_eq_true rfl|decide|(repeat' first|(apply Lk.go;constructor)|assumption|exact nb ‹_› ‹_›|exact nt ‹_› ‹_›))|(intro b hb;repeat first|(refine fe hb ?_;intro _ _ hb)|(refine fT hb ?_;intro hb))|refine rt ?_|refine gA rfl ?_|refine gB rfl ?_|apply cT rfl|apply cF rfl|(apply DM.gbT;rfl)|(apply DM.gbF;rfl)|intro h
                refine AM.forget H' hGs ?_
                refine AM.roundX (i + 1) ⟨rfl, by omega, he⟩ ?_ ?_
                · (repeat first | exact envle_nil _ | (refine envle_cons ?_ ?_; · (simp only [go_sem, Nat.reduceBEq, Nat.reduceAdd]; exact AVLe.refl _)))
                  refine envle_cons ?_ ?_
                  · simp only [go_sem, Nat.reduceBEq, Nat.reduceAdd]
                    refine avle_int ?_
                    rw [inc64 h3 (by unfold maxLen; omega)]
                  exact envle_nil _
                · show PS.length - (i + 1) < PS.length - i
                  omega
            · have dz : (!decide (c.2.2 = 0)) = true := by simp [z]
              simp only [dz]
              repeat' first|(apply Sp.go;·constructor<;>first|exact ss|(change _=_;first|(simp only[go_sem,Nat.reduceBEq,Nat.reduceAdd,Nat.reduceLeDiff,reduceIte]<;>rfl)|rfl)|exact Nat.le_of_ble_eq_true rfl|decide|(repeat' first|(apply Lk.go;constructor)|assumption|exact nb ‹_› ‹_›|exact nt ‹_› ‹_›))|(intro b hb;repeat first|(refine fe hb ?_;intro _ _ hb)|(refine fT hb ?_;intro hb))|refine rt ?_|refine gA rfl ?_|refine gB rfl ?_|apply cT rfl|apply cF rfl|(apply DM.gbT;rfl)|(apply DM.gbF;rfl)|intro h
              rw [if_pos z] at he
              rw [he]
              exact AM.ret (v := .tup [.int .i64 c.2.1, .int .i64 c.2.2]) rfl ⟨_, rfl, AVLe.refl _, hsub1⟩
      · intro h3
        simp at h3
        rw [List.drop_eq_nil_of_le h3] at he
        repeat' first|(apply Sp.go;·constructor<;>first|exact ss|(change _=_;first|(simp only[go_sem,Nat.reduceBEq,Nat.reduceAdd,Nat.reduceLeDiff,reduceIte]<;>rfl)|rfl)|exact Nat.le_of_ble_eq_true rfl|decide|(repeat' first|(apply Lk.go;constructor)|assumption|exact nb ‹_› ‹_›|exact nt ‹_› ‹_›))|(intro b hb;repeat first|(refine fe hb ?_;intro _ _ hb)|(refine fT hb ?_;intro hb))|refine rt ?_|refine gA rfl ?_|refine gB rfl ?_|apply cT rfl|apply cF rfl|(apply DM.gbT;rfl)|(apply DM.gbF;rfl)|intro h
        (apply Sr.go;·constructor<;>first|(apply Lk.go;constructor<;>first|exact ss|(change _=_;first|(simp only[go_sem,Nat.reduceBEq,Nat.reduceAdd,Nat.reduceLeDiff,reduceIte]<;>rfl)|rfl)|exact Nat.le_of_ble_eq_true rfl|decide|(repeat' first|(apply Lk.go;constructor)|assumption|exact nb ‹_› ‹_›|exact nt ‹_› ‹_›))|assumption)
        rw [he]
        exact AVLe.refl _
end Go.Aw.T
namespace Go.Aw.T
open Go Go.Aw Go.Proofs Go.RowKit
set_option maxRecDepth 100000
attribute [local irreducible] Go.Aw.DM Go.Aw.AHeap.setB Go.Aw.AHeap.setT
attribute [local go_sem] peval EOpd.ev Env.get binInt binStr binBool buildParts AV.cells AV.okc setRange minmaxAV AV.one AV.ofCells eqCells eqCell bslRows cond_true cond_false beq_self_eq_true Bool.not_true Bool.not_false beq_true beq_false eq_self if_true Option.some.injEq List.length_cons List.length_nil List.take_succ_cons List.take_zero List.drop_succ_cons List.drop_zero List.set_cons_succ List.set_cons_zero List.nil_append List.cons_append List.append_nil and_self Option.map_some List.map_cons List.map_nil Bool.false_eq_true if_false Nat.zero_add Nat.add_zero true_and and_true Bool.and_true Bool.true_and List.getElem?_cons_zero List.getElem?_cons_succ Nat.zero_le Nat.le_refl
set_option linter.unusedSimpArgs false
set_option linter.unusedVariables false
theorem rvC_le {m : Mem} : ∀ {az bs : List AV} {b o : Nat}, AVLes az bs → RvC m az b o → RvC m bs b o
  | [], bs, _, _, h, _ => by simp only [AVLes] at h; subst h; simp only [RvC]
  | a :: az, _, b, o, h, k => by
    obtain ⟨c, cs, rfl, h1, h2⟩ := h
    simp only [RvC] at k ⊢
    obtain ⟨⟨v, g1, g2, g3, g4⟩, g5⟩ := k
    exact ⟨⟨v, g1, g2, g3, h1 _ _ g4⟩, rvC_le h2 g5⟩
theorem avles_len : ∀ {az bs : List AV}, AVLes az bs → bs.length = az.length
  | [], _, h => by simp only [AVLes] at h; subst h; rfl
  | _ :: _, _, h => by obtain ⟨c, cs, rfl, _, h2⟩ := h; simp [avles_len h2]
def AVLr : List (List AV) → List (List AV) → Prop
  | [], l => l = []
  | r :: rs, l => ∃ r' rs', l = r' :: rs' ∧ AVLes r r' ∧ AVLr rs rs'
theorem avlr_nil : AVLr [] [] := rfl
theorem avlr_cons {r r' : List AV} {rs rs' : List (List AV)} (h : AVLes r r') (k : AVLr rs rs') : AVLr (r :: rs) (r' :: rs') := ⟨r', rs', rfl, h, k⟩
theorem avlr_len : ∀ {az bs : List (List AV)}, AVLr az bs → bs.length = az.length
  | [], _, h => by simp only [AVLr] at h; subst h; rfl
  | _ :: _, _, h => by obtain ⟨c, cs, rfl, _, h2⟩ := h; simp [avlr_len h2]
theorem rvR_le {m : Mem} {n : Nat} : ∀ {az bs : List (List AV)} {b o : Nat}, AVLr az bs → RvR m n az b o → RvR m n bs b o
  | [], bs, _, _, h, _ => by simp only [AVLr] at h; subst h; simp only [RvR]
  | a :: az, _, b, o, h, k => by
    obtain ⟨c, cs, rfl, h1, h2⟩ := h
    simp only [RvR] at k ⊢
    exact ⟨(avles_len h1).trans k.1, rvC_le h1 k.2.1, rvR_le h2 k.2.2⟩
theorem avle_vs {n : Nat} {az bs : List (List AV)} (h : AVLr az bs) : AVLe (.vs n az) (.vs n bs) := fun m v k => by
  have e := avlr_len h
  simp only [Rv] at k ⊢
  obtain ⟨a, len, cap, h1, h2, h3, h4⟩ := k
  refine ⟨a, len, cap, h1, h2.trans e.symm, h3, ?_⟩
  rcases h4 with h4 | ⟨b, o, g1, g2⟩
  · exact .inl (e.trans h4)
  · exact .inr ⟨b, o, g1, rvR_le h g2⟩
def pA : Prog := ⟨[115], 0, [⟨[110], ⟨1, 0, 9⟩, ⟨1, 0, []⟩⟩], [], [⟨1, 0, -1, 0⟩], [⟨3, 0, []⟩, ⟨24, 0, []⟩]⟩
def qA : Prog := ⟨[115], 0, [⟨[110], ⟨1, 0, 9⟩, ⟨1, 0, []⟩⟩], [], [⟨1, 0, -1, 0⟩], [⟨2, 0, [97]⟩, ⟨11, 0, []⟩, ⟨24, 0, []⟩]⟩
def dsA : List Decl_ := [⟨[109], [⟨[120], ⟨1, 0, 9⟩⟩], 0, [], []⟩]
theorem checkA : checkP pA dsA = (0, 0) := by decide +kernel
theorem checkB : checkP qA dsA = (1, 11) := by decide +kernel
theorem costA : costP pA 0 [] [1] = (2, 0, 0) := by decide +kernel
theorem le_dsA : AVLe (.vs 5 [[.str [109], .vs 4 [[.str [120], .int .i64 1, .int .i64 0, .int .i64 9]], .int .i64 0, .nilS, .nilS]]) (.vs 5 (dsA.map Decl_.row)) :=
  avle_vs (avlr_cons (avles_cons (AVLe.refl _) (avles_cons (AVLe.refl _) (avles_cons (AVLe.refl _) (avles_cons AVLe.nil (avles_cons AVLe.nil avles_nil))))) avlr_nil)
theorem le_prog {nm : List UInt8} {rl : Int} {vs : List Var_} {os : List Of_} {cs : List Ins_} : AVLe (.agg [.str nm, .int .i64 rl, .vs 7 (vs.map Var_.row), .nilS, .vs 4 (os.map Of_.row), .vs 3 (cs.map Ins_.row)]) (Prog.av ⟨nm, rl, vs, [], os, cs⟩) :=
  avle_agg (avles_cons (AVLe.refl _) (avles_cons (AVLe.refl _) (avles_cons (AVLe.refl _) (avles_cons AVLe.nil (avles_cons (AVLe.refl _) (avles_cons (AVLe.refl _) avles_nil))))))
set_option maxHeartbeats 4000000 in
theorem p15 : Pure Try.prog 15 [] (.bool true) := by
  have hd : ∀ d ∈ dsA, d.fields.length ≤ 1000 := fun d h => by simp [dsA] at h; subst h; simp
  have c1 := p21 pA dsA hd
  have c2 := p21 qA dsA hd
  have c3 := p17 pA 0 [] [1] (by simp)
  rw [checkA] at c1
  rw [checkB] at c2
  rw [costA] at c3
  refine pure_intro mo Try.func15 c15 fun H => ?_
  unfold e15 r15
  simp only [initEnv, initFrom]
  repeat' first|(apply Sp.go;·constructor<;>first|exact ss|(change _=_;first|(simp only[go_sem,Nat.reduceBEq,Nat.reduceAdd,Nat.reduceLeDiff,reduceIte]<;>rfl)|rfl)|exact Nat.le_of_ble_eq_true rfl|decide|(repeat' first|(apply Lk.go;constructor)|assumption|exact nb ‹_› ‹_›|exact nt ‹_› ‹_›))|(intro b hb;repeat first|(refine fe hb ?_;intro _ _ hb)|(refine fT hb ?_;intro hb))|refine gA rfl ?_|refine gB rfl ?_|apply cT rfl|apply cF rfl|(apply DM.gbT;rfl)|(apply DM.gbF;rfl)|intro h
  (refine AM.reg [.agg [.int .i64 1, .int .i64 0, .str []]] ?_; simp only [annotate, AV.rows])
  repeat' first|(apply Sp.go;·constructor<;>first|exact ss|(change _=_;first|(simp only[go_sem,Nat.reduceBEq,Nat.reduceAdd,Nat.reduceLeDiff,reduceIte]<;>rfl)|rfl)|exact Nat.le_of_ble_eq_true rfl|decide|(repeat' first|(apply Lk.go;constructor)|assumption|exact nb ‹_› ‹_›|exact nt ‹_› ‹_›))|(intro b hb;repeat first|(refine fe hb ?_;intro _ _ hb)|(refine fT hb ?_;intro hb))|refine rt ?_|refine gA rfl ?_|refine gB rfl ?_|apply cT rfl|apply cF rfl|(apply DM.gbT;rfl)|(apply DM.gbF;rfl)|intro h
  (apply DM.pcRs (p29 0); (· simp only [go_sem, Nat.reduceBEq, Nat.reduceAdd] <;> rfl); (· exact AVLes.refl _))
  repeat' first|(apply Sp.go;·constructor<;>first|exact ss|(change _=_;first|(simp only[go_sem,Nat.reduceBEq,Nat.reduceAdd,Nat.reduceLeDiff,reduceIte]<;>rfl)|rfl)|exact Nat.le_of_ble_eq_true rfl|decide|(repeat' first|(apply Lk.go;constructor)|assumption|exact nb ‹_› ‹_›|exact nt ‹_› ‹_›))|(intro b hb;repeat first|(refine fe hb ?_;intro _ _ hb)|(refine fT hb ?_;intro hb))|refine rt ?_|refine gA rfl ?_|refine gB rfl ?_|apply cT rfl|apply cF rfl|(apply DM.gbT;rfl)|(apply DM.gbF;rfl)|intro h
  apply DM.pcs c1
  · simp only [go_sem, Nat.reduceBEq, Nat.reduceAdd] <;> rfl
  · exact avles_cons (le_prog (nm := [115]) (rl := 0) (vs := pA.vars) (os := pA.os) (cs := pA.code)) (avles_cons le_dsA avles_nil)
  repeat' first|(apply Sp.go;·constructor<;>first|exact ss|(change _=_;first|(simp only[go_sem,Nat.reduceBEq,Nat.reduceAdd,Nat.reduceLeDiff,reduceIte]<;>rfl)|rfl)|exact Nat.le_of_ble_eq_true rfl|decide|(repeat' first|(apply Lk.go;constructor)|assumption|exact nb ‹_› ‹_›|exact nt ‹_› ‹_›))|(intro b hb;repeat first|(refine fe hb ?_;intro _ _ hb)|(refine fT hb ?_;intro hb))|refine rt ?_|refine gA rfl ?_|refine gB rfl ?_|apply cT rfl|apply cF rfl|(apply DM.gbT;rfl)|(apply DM.gbF;rfl)|intro h
  apply DM.pcs c2
  · simp only [go_sem, Nat.reduceBEq, Nat.reduceAdd] <;> rfl
  · exact avles_cons (le_prog (nm := [115]) (rl := 0) (vs := qA.vars) (os := qA.os) (cs := qA.code)) (avles_cons le_dsA avles_nil)
  repeat' first|(apply Sp.go;·constructor<;>first|exact ss|(change _=_;first|(simp only[go_sem,Nat.reduceBEq,Nat.reduceAdd,Nat.reduceLeDiff,reduceIte]<;>rfl)|rfl)|exact Nat.le_of_ble_eq_true rfl|decide|(repeat' first|(apply Lk.go;constructor)|assumption|exact nb ‹_› ‹_›|exact nt ‹_› ‹_›))|(intro b hb;repeat first|(refine fe hb ?_;intro _ _ hb)|(refine fT hb ?_;intro hb))|refine rt ?_|refine gA rfl ?_|refine gB rfl ?_|apply cT rfl|apply cF rfl|(apply DM.gbT;rfl)|(apply DM.gbF;rfl)|intro h
  apply DM.pcs c3
  · simp only [go_sem, Nat.reduceBEq, Nat.reduceAdd] <;> rfl
  · exact avles_cons (le_prog (nm := [115]) (rl := 0) (vs := pA.vars) (os := pA.os) (cs := pA.code)) (avles_cons (AVLe.refl _) (avles_cons AVLe.nil (avles_cons (AVLe.refl _) avles_nil)))
  repeat' first|(apply Sp.go;·constructor<;>first|exact ss|(change _=_;first|(simp only[go_sem,Nat.reduceBEq,Nat.reduceAdd,Nat.reduceLeDiff,reduceIte]<;>rfl)|rfl)|exact Nat.le_of_ble_eq_true rfl|decide|(repeat' first|(apply Lk.go;constructor)|assumption|exact nb ‹_› ‹_›|exact nt ‹_› ‹_›))|(intro b hb;repeat first|(refine fe hb ?_;intro _ _ hb)|(refine fT hb ?_;intro hb))|refine rt ?_|refine gA rfl ?_|refine gB rfl ?_|apply cT rfl|apply cF rfl|(apply DM.gbT;rfl)|(apply DM.gbF;rfl)|intro h
  (apply Sr.go;·constructor<;>first|(apply Lk.go;constructor<;>first|exact ss|(change _=_;first|(simp only[go_sem,Nat.reduceBEq,Nat.reduceAdd,Nat.reduceLeDiff,reduceIte]<;>rfl)|rfl)|exact Nat.le_of_ble_eq_true rfl|decide|(repeat' first|(apply Lk.go;constructor)|assumption|exact nb ‹_› ‹_›|exact nt ‹_› ‹_›))|assumption)
  exact AVLe.refl _
theorem few_len {p : Prog} (h : fewP p = true) : p.vars.length ≤ 1000 ∧ p.hs.length ≤ 1000 ∧ p.os.length ≤ 1000 ∧ p.code.length ≤ 1000 := by
  simp [fewP] at h; omega
abbrev kindsAv (e : Int) (ps rr : List Int) : AV := .agg [.int .i64 e, .vs 1 (ps.map irow), .vs 1 (rr.map irow)]
set_option maxHeartbeats 4000000 in
theorem p3 (p : Prog) (e : Int) (ps rr : List Int) : Pure Try.prog 3 [p.av, kindsAv e ps rr] (.bool true) := by
  refine pure_intro mo Try.func3 c3 fun H => ?_
  unfold e3 r3
  simp only [initEnv, initFrom]
  repeat' first|(apply Sp.go;·constructor<;>first|exact ss|(change _=_;first|(simp only[go_sem,Nat.reduceBEq,Nat.reduceAdd,Nat.reduceLeDiff,reduceIte]<;>rfl)|rfl)|exact Nat.le_of_ble_eq_true rfl|decide|(repeat' first|(apply Lk.go;constructor)|assumption|exact nb ‹_› ‹_›|exact nt ‹_› ‹_›))|(intro b hb;repeat first|(refine fe hb ?_;intro _ _ hb)|(refine fT hb ?_;intro hb))|refine rt ?_|refine gA rfl ?_|refine gB rfl ?_|apply cT rfl|apply cF rfl|(apply DM.gbT;rfl)|(apply DM.gbF;rfl)|intro h
  (apply DM.pcs (p15); (· simp only [go_sem, Nat.reduceBEq, Nat.reduceAdd] <;> rfl); (· exact AVLes.refl _))
  repeat' first|(apply Sp.go;·constructor<;>first|exact ss|(change _=_;first|(simp only[go_sem,Nat.reduceBEq,Nat.reduceAdd,Nat.reduceLeDiff,reduceIte]<;>rfl)|rfl)|exact Nat.le_of_ble_eq_true rfl|decide|(repeat' first|(apply Lk.go;constructor)|assumption|exact nb ‹_› ‹_›|exact nt ‹_› ‹_›))|(intro b hb;repeat first|(refine fe hb ?_;intro _ _ hb)|(refine fT hb ?_;intro hb))|refine rt ?_|refine gA rfl ?_|refine gB rfl ?_|apply cT rfl|apply cF rfl|(apply DM.gbT;rfl)|(apply DM.gbF;rfl)|intro h
  (apply DM.pcs (p16 p); (· simp only [go_sem, Nat.reduceBEq, Nat.reduceAdd] <;> rfl); (· exact AVLes.refl _))
  cases hf : fewP p with
  | false =>
    repeat' first|(apply Sp.go;·constructor<;>first|exact ss|(change _=_;first|(simp only[go_sem,Nat.reduceBEq,Nat.reduceAdd,Nat.reduceLeDiff,reduceIte]<;>rfl)|rfl)|exact Nat.le_of_ble_eq_true rfl|decide|(repeat' first|(apply Lk.go;constructor)|assumption|exact nb ‹_› ‹_›|exact nt ‹_› ‹_›))|(intro b hb;repeat first|(refine fe hb ?_;intro _ _ hb)|(refine fT hb ?_;intro hb))|refine rt ?_|refine gA rfl ?_|refine gB rfl ?_|apply cT rfl|apply cF rfl|(apply DM.gbT;rfl)|(apply DM.gbF;rfl)|intro h
    (apply Sr.go;·constructor<;>first|(apply Lk.go;constructor<;>first|exact ss|(change _=_;first|(simp only[go_sem,Nat.reduceBEq,Nat.reduceAdd,Nat.reduceLeDiff,reduceIte]<;>rfl)|rfl)|exact Nat.le_of_ble_eq_true rfl|decide|(repeat' first|(apply Lk.go;constructor)|assumption|exact nb ‹_› ‹_›|exact nt ‹_› ‹_›))|assumption)
    exact AVLe.refl _
  | true =>
    have hl := few_len hf
    by_cases h1 : 8 < ps.length
    · have e1 : decide ((8 : Int) < ((ps.map irow).length : Int)) = true := decide_eq_true (by rw [List.length_map]; omega)
      repeat' first|(apply Sp.go;·constructor<;>first|exact ss|(change _=_;first|(simp only[go_sem,Nat.reduceBEq,Nat.reduceAdd,Nat.reduceLeDiff,reduceIte, e1]<;>rfl)|rfl)|exact Nat.le_of_ble_eq_true rfl|decide|(repeat' first|(apply Lk.go;constructor)|assumption|exact nb ‹_› ‹_›|exact nt ‹_› ‹_›))|(intro b hb;repeat first|(refine fe hb ?_;intro _ _ hb)|(refine fT hb ?_;intro hb))|refine rt ?_|refine gA rfl ?_|refine gB rfl ?_|apply cT rfl|apply cF rfl|(apply DM.gbT;rfl)|(apply DM.gbF;rfl)|intro h
      (apply Sr.go;·constructor<;>first|(apply Lk.go;constructor<;>first|exact ss|(change _=_;first|(simp only[go_sem,Nat.reduceBEq,Nat.reduceAdd,Nat.reduceLeDiff,reduceIte]<;>rfl)|rfl)|exact Nat.le_of_ble_eq_true rfl|decide|(repeat' first|(apply Lk.go;constructor)|assumption|exact nb ‹_› ‹_›|exact nt ‹_› ‹_›))|assumption)
      exact AVLe.refl _
    have e1 : decide ((8 : Int) < ((ps.map irow).length : Int)) = false := decide_eq_false (by rw [List.length_map]; omega)
    by_cases h2 : 8 < rr.length
    · have e2 : decide ((8 : Int) < ((rr.map irow).length : Int)) = true := decide_eq_true (by rw [List.length_map]; omega)
      repeat' first|(apply Sp.go;·constructor<;>first|exact ss|(change _=_;first|(simp only[go_sem,Nat.reduceBEq,Nat.reduceAdd,Nat.reduceLeDiff,reduceIte, e1, e2]<;>rfl)|rfl)|exact Nat.le_of_ble_eq_true rfl|decide|(repeat' first|(apply Lk.go;constructor)|assumption|exact nb ‹_› ‹_›|exact nt ‹_› ‹_›))|(intro b hb;repeat first|(refine fe hb ?_;intro _ _ hb)|(refine fT hb ?_;intro hb))|refine rt ?_|refine gA rfl ?_|refine gB rfl ?_|apply cT rfl|apply cF rfl|(apply DM.gbT;rfl)|(apply DM.gbF;rfl)|intro h
      (apply Sr.go;·constructor<;>first|(apply Lk.go;constructor<;>first|exact ss|(change _=_;first|(simp only[go_sem,Nat.reduceBEq,Nat.reduceAdd,Nat.reduceLeDiff,reduceIte]<;>rfl)|rfl)|exact Nat.le_of_ble_eq_true rfl|decide|(repeat' first|(apply Lk.go;constructor)|assumption|exact nb ‹_› ‹_›|exact nt ‹_› ‹_›))|assumption)
      exact AVLe.refl _
    have e2 : decide ((8 : Int) < ((rr.map irow).length : Int)) = false := decide_eq_false (by rw [List.length_map]; omega)
    have c17 := p17 p e ps rr (by omega)
    have c19 := p19 p e ps rr (by omega)
    generalize costP p e ps rr = c at c17 c19
    repeat' first|(apply Sp.go;·constructor<;>first|exact ss|(change _=_;first|(simp only[go_sem,Nat.reduceBEq,Nat.reduceAdd,Nat.reduceLeDiff,reduceIte, e1, e2]<;>rfl)|rfl)|exact Nat.le_of_ble_eq_true rfl|decide|(repeat' first|(apply Lk.go;constructor)|assumption|exact nb ‹_› ‹_›|exact nt ‹_› ‹_›))|(intro b hb;repeat first|(refine fe hb ?_;intro _ _ hb)|(refine fT hb ?_;intro hb))|refine gA rfl ?_|refine gB rfl ?_|apply cT rfl|apply cF rfl|(apply DM.gbT;rfl)|(apply DM.gbF;rfl)|intro h
    (refine AM.reg [p.av, .tup [.int .i64 c.1, .int .i64 c.2.1, .int .i64 c.2.2]] ?_; simp only [annotate, AV.rows])
    repeat' first|(apply Sp.go;·constructor<;>first|exact ss|(change _=_;first|(simp only[go_sem,Nat.reduceBEq,Nat.reduceAdd,Nat.reduceLeDiff,reduceIte]<;>rfl)|rfl)|exact Nat.le_of_ble_eq_true rfl|decide|(repeat' first|(apply Lk.go;constructor)|assumption|exact nb ‹_› ‹_›|exact nt ‹_› ‹_›))|(intro b hb;repeat first|(refine fe hb ?_;intro _ _ hb)|(refine fT hb ?_;intro hb))|refine rt ?_|refine gA rfl ?_|refine gB rfl ?_|apply cT rfl|apply cF rfl|(apply DM.gbT;rfl)|(apply DM.gbF;rfl)|intro h
    (apply DM.pcRs (p18 p hl); (· simp only [go_sem, Nat.reduceBEq, Nat.reduceAdd] <;> rfl); (· exact AVLes.refl _))
    repeat' first|(apply Sp.go;·constructor<;>first|exact ss|(change _=_;first|(simp only[go_sem,Nat.reduceBEq,Nat.reduceAdd,Nat.reduceLeDiff,reduceIte]<;>rfl)|rfl)|exact Nat.le_of_ble_eq_true rfl|decide|(repeat' first|(apply Lk.go;constructor)|assumption|exact nb ‹_› ‹_›|exact nt ‹_› ‹_›))|(intro b hb;repeat first|(refine fe hb ?_;intro _ _ hb)|(refine fT hb ?_;intro hb))|refine rt ?_|refine gA rfl ?_|refine gB rfl ?_|apply cT rfl|apply cF rfl|(apply DM.gbT;rfl)|(apply DM.gbF;rfl)|intro h
    (apply DM.pcRs (c17); (· simp only [go_sem, Nat.reduceBEq, Nat.reduceAdd] <;> rfl); (· exact AVLes.refl _))
    repeat' first|(apply Sp.go;·constructor<;>first|exact ss|(change _=_;first|(simp only[go_sem,Nat.reduceBEq,Nat.reduceAdd,Nat.reduceLeDiff,reduceIte]<;>rfl)|rfl)|exact Nat.le_of_ble_eq_true rfl|decide|(repeat' first|(apply Lk.go;constructor)|assumption|exact nb ‹_› ‹_›|exact nt ‹_› ‹_›))|(intro b hb;repeat first|(refine fe hb ?_;intro _ _ hb)|(refine fT hb ?_;intro hb))|refine rt ?_|refine gA rfl ?_|refine gB rfl ?_|apply cT rfl|apply cF rfl|(apply DM.gbT;rfl)|(apply DM.gbF;rfl)|intro h
    (apply DM.pcs (c19); (· simp only [go_sem, Nat.reduceBEq, Nat.reduceAdd] <;> rfl); (· exact AVLes.refl _))
    repeat' first|(apply Sp.go;·constructor<;>first|exact ss|(change _=_;first|(simp only[go_sem,Nat.reduceBEq,Nat.reduceAdd,Nat.reduceLeDiff,reduceIte, decide_true]<;>rfl)|rfl)|exact Nat.le_of_ble_eq_true rfl|decide|(repeat' first|(apply Lk.go;constructor)|assumption|exact nb ‹_› ‹_›|exact nt ‹_› ‹_›))|(intro b hb;repeat first|(refine fe hb ?_;intro _ _ hb)|(refine fT hb ?_;intro hb))|refine rt ?_|refine gA rfl ?_|refine gB rfl ?_|apply cT rfl|apply cF rfl|(apply DM.gbT;rfl)|(apply DM.gbF;rfl)|intro h
    (apply Sr.go;·constructor<;>first|(apply Lk.go;constructor<;>first|exact ss|(change _=_;first|(simp only[go_sem,Nat.reduceBEq,Nat.reduceAdd,Nat.reduceLeDiff,reduceIte]<;>rfl)|rfl)|exact Nat.le_of_ble_eq_true rfl|decide|(repeat' first|(apply Lk.go;constructor)|assumption|exact nb ‹_› ‹_›|exact nt ‹_› ‹_›))|assumption)
    exact AVLe.refl _
def Prog.more (p : Prog) (cs : List Ins_) : Prog := ⟨p.name, p.role, p.vars, p.hs, p.os, p.code ++ cs⟩
end Go.Aw.T
