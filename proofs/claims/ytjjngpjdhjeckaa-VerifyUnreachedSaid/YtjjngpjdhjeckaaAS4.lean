/- Part of a proof; own work. -/
import Derived.Test.YtjjngpjdhjeckaaAS3
namespace Go.Aw.T
open Go Go.Aw Go.Proofs Go.RowKit
set_option maxRecDepth 100000
attribute [local irreducible] Go.Aw.DM Go.Aw.AHeap.setB Go.Aw.AHeap.setT
attribute [local go_sem] peval EOpd.ev Env.get binInt binStr binBool buildParts AV.cells AV.okc setRange minmaxAV AV.one AV.ofCells eqCells eqCell bslRows cond_true cond_false beq_self_eq_true Bool.not_true Bool.not_false beq_true beq_false eq_self if_true Option.some.injEq List.length_cons List.length_nil List.take_succ_cons List.take_zero List.drop_succ_cons List.drop_zero List.set_cons_succ List.set_cons_zero List.nil_append List.cons_append List.append_nil and_self Option.map_some List.map_cons List.map_nil Bool.false_eq_true if_false Nat.zero_add Nat.add_zero true_and and_true Bool.and_true Bool.true_and List.getElem?_cons_zero List.getElem?_cons_succ Nat.zero_le Nat.le_refl
set_option linter.unusedSimpArgs false
set_option linter.unusedVariables false
def okHd (p : Prog) (i : Nat) : Bool := match p.hs[i]? with
  | none => false
  | some v => p.party v.peer v.label && p.target v.entry && decide (idxP (fun w : Hd => decide (w.peer = v.peer) && decide (w.label = v.label)) p.hs 0 = (i : Int))
def okOf (p : Prog) (i : Nat) : Bool := match p.os[i]? with
  | none => false
  | some v => p.party v.peer v.label && p.target v.args && (decide (v.cond = -1) || p.target v.cond)
def partsOk (p : Prog) : Bool := allI p.hs.length (okHd p) && allI p.os.length (okOf p) && decide (p.hs.length ≤ 40) && decide (p.os.length ≤ 40)
theorem p70 (p : Prog) : Pure Try.prog 70 [p.av] (.bool (partsOk p)) := by
  refine ok_args fun ok => ?_
  refine pure_intro mo Try.func70 c70 fun H => ?_
  unfold e70 r70
  simp only [initEnv, initFrom]
  repeat' first|(apply Sp.go;·constructor<;>first|exact ss|(change _=_;first|(simp only[go_sem,Nat.reduceBEq,Nat.reduceAdd,Nat.reduceLeDiff,reduceIte]<;>rfl)|rfl)|exact Nat.le_of_ble_eq_true rfl|decide|(repeat' first|(apply Lk.go;constructor)|assumption|exact nb ‹_› ‹_›|exact nt ‹_› ‹_›))|(intro b hb;repeat first|(refine fe hb ?_;intro _ _ hb)|(refine fT hb ?_;intro hb))|refine rt ?_|refine gA rfl ?_|refine gB rfl ?_|apply cT rfl|apply cF rfl|(apply DM.gbT;rfl)|(apply DM.gbF;rfl)|intro h
  rename Nat => b1
  refine AM.loopX (X := Nat) 0 (fun i => [(1, .ptr b1 0), (9, .vs 3 (p.hs.map Hd.row)), (10, .int .i64 p.hs.length), (11, .int .i64 i)]) (fun i H' => H' = H.setB b1 41 p.cells ∧ i ≤ p.hs.length ∧ ∀ j, j < i → okHd p j = true) (fun i => p.hs.length - i) ⟨rfl, by omega, fun j hj => by omega⟩ ?_ ?_
  · (repeat first | exact envle_nil _ | (refine envle_cons ?_ ?_; · (simp only [go_sem, Nat.reduceBEq, Nat.reduceAdd]; exact AVLe.refl _)))
    refine envle_cons ?_ (envle_cons ?_ (envle_nil _))
    · simp only [Env.get, Nat.reduceBEq, cond_true, cond_false, beq_self_eq_true]
      exact avle_int (by simp)
    · simp only [Env.get, Nat.reduceBEq, cond_true, cond_false, beq_self_eq_true]
      exact AVLe.refl _
  · intro i H' ⟨e, hi, he⟩
    subst e
    repeat' first|(apply Sp.go;·constructor<;>first|exact ss|(change _=_;first|(simp only[go_sem,Nat.reduceBEq,Nat.reduceAdd,Nat.reduceLeDiff,reduceIte]<;>rfl)|rfl)|exact Nat.le_of_ble_eq_true rfl|decide|(repeat' first|(apply Lk.go;constructor)|assumption|exact nb ‹_› ‹_›|exact nt ‹_› ‹_›))|(intro b hb;repeat first|(refine fe hb ?_;intro _ _ hb)|(refine fT hb ?_;intro hb))|refine rt ?_|refine gA rfl ?_|refine gB rfl ?_|apply cT rfl|apply cF rfl|(apply DM.gbT;rfl)|(apply DM.gbF;rfl)|intro h
    (apply AM.cond; (· rfl))
    · intro h3
      simp at h3
      obtain ⟨v, hv⟩ : ∃ v, p.hs[i]? = some v := ⟨_, List.getElem?_eq_getElem h3⟩
      have hok : okHd p i = (p.party v.peer v.label && p.target v.entry && decide (idxP (fun w : Hd => decide (w.peer = v.peer) && decide (w.label = v.label)) p.hs 0 = (i : Int))) := by simp [okHd, hv]
      repeat' first|(apply Sp.go;·constructor<;>first|exact ss|(change _=_;first|(simp only[go_sem,Nat.reduceBEq,Nat.reduceAdd,Nat.reduceLeDiff,reduceIte]<;>rfl)|rfl)|exact Nat.le_of_ble_eq_true rfl|decide|(repeat' first|(apply Lk.go;constructor)|assumption|exact nb ‹_› ‹_›|exact nt ‹_› ‹_›))|(intro b hb;repeat first|(refine fe hb ?_;intro _ _ hb)|(refine fT hb ?_;intro hb))|refine rt ?_|refine gA rfl ?_|refine gB rfl ?_|apply cT rfl|apply cF rfl|(apply DM.gbT;rfl)|(apply DM.gbF;rfl)|intro h
      (apply DM.ixV (row := v.row) (z := (i : Int)) (by omega) (row_get Hd.row hv); (· rfl); (· rfl))
      repeat' first|(apply Sp.go;·constructor<;>first|exact ss|(change _=_;first|(simp only[go_sem,Nat.reduceBEq,Nat.reduceAdd,Nat.reduceLeDiff,reduceIte]<;>rfl)|rfl)|exact Nat.le_of_ble_eq_true rfl|decide|(repeat' first|(apply Lk.go;constructor)|assumption|exact nb ‹_› ‹_›|exact nt ‹_› ‹_›))|(intro b hb;repeat first|(refine fe hb ?_;intro _ _ hb)|(refine fT hb ?_;intro hb))|refine rt ?_|refine gA rfl ?_|refine gB rfl ?_|apply cT rfl|apply cF rfl|(apply DM.gbT;rfl)|(apply DM.gbF;rfl)|intro h
      (apply DM.pcs (p111 p _ _); (· simp only [go_sem, Nat.reduceBEq, Nat.reduceAdd] <;> rfl); (· exact AVLes.refl _))
      repeat' first|(apply Sp.go;·constructor<;>first|exact ss|(change _=_;first|(simp only[go_sem,Nat.reduceBEq,Nat.reduceAdd,Nat.reduceLeDiff,reduceIte]<;>rfl)|rfl)|exact Nat.le_of_ble_eq_true rfl|decide|(repeat' first|(apply Lk.go;constructor)|assumption|exact nb ‹_› ‹_›|exact nt ‹_› ‹_›))|(intro b hb;repeat first|(refine fe hb ?_;intro _ _ hb)|(refine fT hb ?_;intro hb))|refine rt ?_|refine gA rfl ?_|refine gB rfl ?_|apply cT rfl|apply cF rfl|(apply DM.gbT;rfl)|(apply DM.gbF;rfl)|intro h
      · (apply DM.pcs (p72 p _); (· simp only [go_sem, Nat.reduceBEq, Nat.reduceAdd] <;> rfl); (· exact AVLes.refl _))
        repeat' first|(apply Sp.go;·constructor<;>first|exact ss|(change _=_;first|(simp only[go_sem,Nat.reduceBEq,Nat.reduceAdd,Nat.reduceLeDiff,reduceIte]<;>rfl)|rfl)|exact Nat.le_of_ble_eq_true rfl|decide|(repeat' first|(apply Lk.go;constructor)|assumption|exact nb ‹_› ‹_›|exact nt ‹_› ‹_›))|(intro b hb;repeat first|(refine fe hb ?_;intro _ _ hb)|(refine fT hb ?_;intro hb))|refine rt ?_|refine gA rfl ?_|refine gB rfl ?_|apply cT rfl|apply cF rfl|(apply DM.gbT;rfl)|(apply DM.gbF;rfl)|intro h
        · (apply DM.pcat (p112 _ 110 _ p.hs (fun w => decide (w.peer = v.peer) && decide (w.label = v.label)) call110 (fun w _ => p110 w v _ _ g_same)); (· simp only [go_sem, Nat.reduceBEq, Nat.reduceAdd] <;> rfl); (· exact AVLes.refl _))
          repeat' first|(apply Sp.go;·constructor<;>first|exact ss|(change _=_;first|(simp only[go_sem,Nat.reduceBEq,Nat.reduceAdd,Nat.reduceLeDiff,reduceIte]<;>rfl)|rfl)|exact Nat.le_of_ble_eq_true rfl|decide|(repeat' first|(apply Lk.go;constructor)|assumption|exact nb ‹_› ‹_›|exact nt ‹_› ‹_›))|(intro b hb;repeat first|(refine fe hb ?_;intro _ _ hb)|(refine fT hb ?_;intro hb))|refine rt ?_|refine gA rfl ?_|refine gB rfl ?_|apply cT rfl|apply cF rfl|(apply DM.gbT;rfl)|(apply DM.gbF;rfl)|intro h
          (apply AM.cond; (· rfl))
          · intro h4
            repeat' first|(apply Sp.go;·constructor<;>first|exact ss|(change _=_;first|(simp only[go_sem,Nat.reduceBEq,Nat.reduceAdd,Nat.reduceLeDiff,reduceIte]<;>rfl)|rfl)|exact Nat.le_of_ble_eq_true rfl|decide|(repeat' first|(apply Lk.go;constructor)|assumption|exact nb ‹_› ‹_›|exact nt ‹_› ‹_›))|(intro b hb;repeat first|(refine fe hb ?_;intro _ _ hb)|(refine fT hb ?_;intro hb))|refine rt ?_|refine gA rfl ?_|refine gB rfl ?_|apply cT rfl|apply cF rfl|(apply DM.gbT;rfl)|(apply DM.gbF;rfl)|intro h
            (apply Sr.go;·constructor<;>first|(apply Lk.go;constructor<;>first|exact ss|(change _=_;first|(simp only[go_sem,Nat.reduceBEq,Nat.reduceAdd,Nat.reduceLeDiff,reduceIte]<;>rfl)|rfl)|exact Nat.le_of_ble_eq_true rfl|decide|(repeat' first|(apply Lk.go;constructor)|assumption|exact nb ‹_› ‹_›|exact nt ‹_› ‹_›))|assumption)
            refine avle_eq ?_; rw [AV.bool.injEq]
            simp only [partsOk]
            rw [allI_false h3]
            · simp
            · rw [hok]; simp at *; simp [*]
          · intro h4
            repeat' first|(apply Sp.go;·constructor<;>first|exact ss|(change _=_;first|(simp only[go_sem,Nat.reduceBEq,Nat.reduceAdd,Nat.reduceLeDiff,reduceIte]<;>rfl)|rfl)|exact Nat.le_of_ble_eq_true rfl|decide|(repeat' first|(apply Lk.go;constructor)|assumption|exact nb ‹_› ‹_›|exact nt ‹_› ‹_›))|(intro b hb;repeat first|(refine fe hb ?_;intro _ _ hb)|(refine fT hb ?_;intro hb))|refine rt ?_|refine gA rfl ?_|refine gB rfl ?_|apply cT rfl|apply cF rfl|(apply DM.gbT;rfl)|(apply DM.gbF;rfl)|intro h
            refine AM.forget (H.setB b1 41 p.cells) ?_ ?_
            · (repeat' first|assumption|(apply Lk.go;constructor))
            refine AM.roundX (i + 1) ⟨rfl, by omega, fun j hj => ?_⟩ ?_ ?_
            · by_cases e : j = i
              · subst e; rw [hok]; simp at *; simp [*]
              · exact he j (by omega)
            · (repeat first | exact envle_nil _ | (refine envle_cons ?_ ?_; · (simp only [go_sem, Nat.reduceBEq, Nat.reduceAdd]; exact AVLe.refl _)))
              refine envle_cons ?_ ?_
              · simp only [go_sem, Nat.reduceBEq, Nat.reduceAdd]
                refine avle_int ?_
                rw [inc64 h3 ok.hs]
              exact envle_nil _
            · show p.hs.length - (i + 1) < p.hs.length - i
              omega
        · (apply Sr.go;·constructor<;>first|(apply Lk.go;constructor<;>first|exact ss|(change _=_;first|(simp only[go_sem,Nat.reduceBEq,Nat.reduceAdd,Nat.reduceLeDiff,reduceIte]<;>rfl)|rfl)|exact Nat.le_of_ble_eq_true rfl|decide|(repeat' first|(apply Lk.go;constructor)|assumption|exact nb ‹_› ‹_›|exact nt ‹_› ‹_›))|assumption)
          refine avle_eq ?_; rw [AV.bool.injEq]
          simp only [partsOk]
          rw [allI_false h3]
          · simp
          · rw [hok]; simp at *; simp [*]
      · (apply Sr.go;·constructor<;>first|(apply Lk.go;constructor<;>first|exact ss|(change _=_;first|(simp only[go_sem,Nat.reduceBEq,Nat.reduceAdd,Nat.reduceLeDiff,reduceIte]<;>rfl)|rfl)|exact Nat.le_of_ble_eq_true rfl|decide|(repeat' first|(apply Lk.go;constructor)|assumption|exact nb ‹_› ‹_›|exact nt ‹_› ‹_›))|assumption)
        refine avle_eq ?_; rw [AV.bool.injEq]
        simp only [partsOk]
        rw [allI_false h3]
        · simp
        · rw [hok]; simp at *; simp [*]
    · intro h3
      simp at h3
      have hall : allI p.hs.length (okHd p) = true := allI_true fun j hj => he j (by omega)
      repeat' first|(apply Sp.go;·constructor<;>first|exact ss|(change _=_;first|(simp only[go_sem,Nat.reduceBEq,Nat.reduceAdd,Nat.reduceLeDiff,reduceIte]<;>rfl)|rfl)|exact Nat.le_of_ble_eq_true rfl|decide|(repeat' first|(apply Lk.go;constructor)|assumption|exact nb ‹_› ‹_›|exact nt ‹_› ‹_›))|(intro b hb;repeat first|(refine fe hb ?_;intro _ _ hb)|(refine fT hb ?_;intro hb))|refine rt ?_|refine gA rfl ?_|refine gB rfl ?_|apply cT rfl|apply cF rfl|(apply DM.gbT;rfl)|(apply DM.gbF;rfl)|intro h
      refine AM.loopX (X := Nat) 0 (fun i => [(1, .ptr b1 0), (41, .vs 4 (p.os.map Of_.row)), (42, .int .i64 p.os.length), (43, .int .i64 i)]) (fun i H' => H' = H.setB b1 41 p.cells ∧ i ≤ p.os.length ∧ ∀ j, j < i → okOf p j = true) (fun i => p.os.length - i) ⟨rfl, by omega, fun j hj => by omega⟩ ?_ ?_
      · (repeat first | exact envle_nil _ | (refine envle_cons ?_ ?_; · (simp only [go_sem, Nat.reduceBEq, Nat.reduceAdd]; exact AVLe.refl _)))
        refine envle_cons ?_ (envle_cons ?_ (envle_nil _))
        · simp only [Env.get, Nat.reduceBEq, cond_true, cond_false, beq_self_eq_true]
          exact avle_int (by simp)
        · simp only [Env.get, Nat.reduceBEq, cond_true, cond_false, beq_self_eq_true]
          exact AVLe.refl _
      · clear he hi h3
        intro i H' ⟨e, hi, he⟩
        subst e
        repeat' first|(apply Sp.go;·constructor<;>first|exact ss|(change _=_;first|(simp only[go_sem,Nat.reduceBEq,Nat.reduceAdd,Nat.reduceLeDiff,reduceIte]<;>rfl)|rfl)|exact Nat.le_of_ble_eq_true rfl|decide|(repeat' first|(apply Lk.go;constructor)|assumption|exact nb ‹_› ‹_›|exact nt ‹_› ‹_›))|(intro b hb;repeat first|(refine fe hb ?_;intro _ _ hb)|(refine fT hb ?_;intro hb))|refine rt ?_|refine gA rfl ?_|refine gB rfl ?_|apply cT rfl|apply cF rfl|(apply DM.gbT;rfl)|(apply DM.gbF;rfl)|intro h
        (apply AM.cond; (· rfl))
        · intro h3
          simp at h3
          obtain ⟨v, hv⟩ : ∃ v, p.os[i]? = some v := ⟨_, List.getElem?_eq_getElem h3⟩
          have hok : okOf p i = (p.party v.peer v.label && p.target v.args && (decide (v.cond = -1) || p.target v.cond)) := by simp [okOf, hv]
          have fin : okOf p i = false → partsOk p = false := fun h => by simp only [partsOk]; rw [allI_false h3 h]; simp
          repeat' first|(apply Sp.go;·constructor<;>first|exact ss|(change _=_;first|(simp only[go_sem,Nat.reduceBEq,Nat.reduceAdd,Nat.reduceLeDiff,reduceIte]<;>rfl)|rfl)|exact Nat.le_of_ble_eq_true rfl|decide|(repeat' first|(apply Lk.go;constructor)|assumption|exact nb ‹_› ‹_›|exact nt ‹_› ‹_›))|(intro b hb;repeat first|(refine fe hb ?_;intro _ _ hb)|(refine fT hb ?_;intro hb))|refine rt ?_|refine gA rfl ?_|refine gB rfl ?_|apply cT rfl|apply cF rfl|(apply DM.gbT;rfl)|(apply DM.gbF;rfl)|intro h
          (apply DM.ixV (row := v.row) (z := (i : Int)) (by omega) (row_get Of_.row hv); (· rfl); (· rfl))
          repeat' first|(apply Sp.go;·constructor<;>first|exact ss|(change _=_;first|(simp only[go_sem,Nat.reduceBEq,Nat.reduceAdd,Nat.reduceLeDiff,reduceIte]<;>rfl)|rfl)|exact Nat.le_of_ble_eq_true rfl|decide|(repeat' first|(apply Lk.go;constructor)|assumption|exact nb ‹_› ‹_›|exact nt ‹_› ‹_›))|(intro b hb;repeat first|(refine fe hb ?_;intro _ _ hb)|(refine fT hb ?_;intro hb))|refine rt ?_|refine gA rfl ?_|refine gB rfl ?_|apply cT rfl|apply cF rfl|(apply DM.gbT;rfl)|(apply DM.gbF;rfl)|intro h
          (apply DM.pcs (p111 p _ _); (· simp only [go_sem, Nat.reduceBEq, Nat.reduceAdd] <;> rfl); (· exact AVLes.refl _))
          repeat' first|(apply Sp.go;·constructor<;>first|exact ss|(change _=_;first|(simp only[go_sem,Nat.reduceBEq,Nat.reduceAdd,Nat.reduceLeDiff,reduceIte]<;>rfl)|rfl)|exact Nat.le_of_ble_eq_true rfl|decide|(repeat' first|(apply Lk.go;constructor)|assumption|exact nb ‹_› ‹_›|exact nt ‹_› ‹_›))|(intro b hb;repeat first|(refine fe hb ?_;intro _ _ hb)|(refine fT hb ?_;intro hb))|refine rt ?_|refine gA rfl ?_|refine gB rfl ?_|apply cT rfl|apply cF rfl|(apply DM.gbT;rfl)|(apply DM.gbF;rfl)|intro h
          · (apply DM.pcs (p72 p _); (· simp only [go_sem, Nat.reduceBEq, Nat.reduceAdd] <;> rfl); (· exact AVLes.refl _))
            repeat' first|(apply Sp.go;·constructor<;>first|exact ss|(change _=_;first|(simp only[go_sem,Nat.reduceBEq,Nat.reduceAdd,Nat.reduceLeDiff,reduceIte]<;>rfl)|rfl)|exact Nat.le_of_ble_eq_true rfl|decide|(repeat' first|(apply Lk.go;constructor)|assumption|exact nb ‹_› ‹_›|exact nt ‹_› ‹_›))|(intro b hb;repeat first|(refine fe hb ?_;intro _ _ hb)|(refine fT hb ?_;intro hb))|refine rt ?_|refine gA rfl ?_|refine gB rfl ?_|apply cT rfl|apply cF rfl|(apply DM.gbT;rfl)|(apply DM.gbF;rfl)|intro h
            · (apply DM.pcs (p72 p _); (· simp only [go_sem, Nat.reduceBEq, Nat.reduceAdd] <;> rfl); (· exact AVLes.refl _))
              repeat' first|(apply Sp.go;·constructor<;>first|exact ss|(change _=_;first|(simp only[go_sem,Nat.reduceBEq,Nat.reduceAdd,Nat.reduceLeDiff,reduceIte]<;>rfl)|rfl)|exact Nat.le_of_ble_eq_true rfl|decide|(repeat' first|(apply Lk.go;constructor)|assumption|exact nb ‹_› ‹_›|exact nt ‹_› ‹_›))|(intro b hb;repeat first|(refine fe hb ?_;intro _ _ hb)|(refine fT hb ?_;intro hb))|refine rt ?_|refine gA rfl ?_|refine gB rfl ?_|apply cT rfl|apply cF rfl|(apply DM.gbT;rfl)|(apply DM.gbF;rfl)|intro h
              (apply AM.cond; (· rfl))
              · intro h4
                repeat' first|(apply Sp.go;·constructor<;>first|exact ss|(change _=_;first|(simp only[go_sem,Nat.reduceBEq,Nat.reduceAdd,Nat.reduceLeDiff,reduceIte]<;>rfl)|rfl)|exact Nat.le_of_ble_eq_true rfl|decide|(repeat' first|(apply Lk.go;constructor)|assumption|exact nb ‹_› ‹_›|exact nt ‹_› ‹_›))|(intro b hb;repeat first|(refine fe hb ?_;intro _ _ hb)|(refine fT hb ?_;intro hb))|refine rt ?_|refine gA rfl ?_|refine gB rfl ?_|apply cT rfl|apply cF rfl|(apply DM.gbT;rfl)|(apply DM.gbF;rfl)|intro h
                (apply Sr.go;·constructor<;>first|(apply Lk.go;constructor<;>first|exact ss|(change _=_;first|(simp only[go_sem,Nat.reduceBEq,Nat.reduceAdd,Nat.reduceLeDiff,reduceIte]<;>rfl)|rfl)|exact Nat.le_of_ble_eq_true rfl|decide|(repeat' first|(apply Lk.go;constructor)|assumption|exact nb ‹_› ‹_›|exact nt ‹_› ‹_›))|assumption)
                refine avle_eq ?_; rw [AV.bool.injEq, fin]
                rw [hok]; simp at *; simp [*]
              · intro h4
                repeat' first|(apply Sp.go;·constructor<;>first|exact ss|(change _=_;first|(simp only[go_sem,Nat.reduceBEq,Nat.reduceAdd,Nat.reduceLeDiff,reduceIte]<;>rfl)|rfl)|exact Nat.le_of_ble_eq_true rfl|decide|(repeat' first|(apply Lk.go;constructor)|assumption|exact nb ‹_› ‹_›|exact nt ‹_› ‹_›))|(intro b hb;repeat first|(refine fe hb ?_;intro _ _ hb)|(refine fT hb ?_;intro hb))|refine rt ?_|refine gA rfl ?_|refine gB rfl ?_|apply cT rfl|apply cF rfl|(apply DM.gbT;rfl)|(apply DM.gbF;rfl)|intro h
                refine AM.forget (H.setB b1 41 p.cells) ?_ ?_
                · (repeat' first|assumption|(apply Lk.go;constructor))
                refine AM.roundX (i + 1) ⟨rfl, by omega, fun j hj => ?_⟩ ?_ ?_
                · by_cases e : j = i
                  · subst e; rw [hok]; simp at *; simp [*]
                  · exact he j (by omega)
                · (repeat first | exact envle_nil _ | (refine envle_cons ?_ ?_; · (simp only [go_sem, Nat.reduceBEq, Nat.reduceAdd]; exact AVLe.refl _)))
                  refine envle_cons ?_ ?_
                  · simp only [go_sem, Nat.reduceBEq, Nat.reduceAdd]
                    refine avle_int ?_
                    rw [inc64 h3 ok.os]
                  exact envle_nil _
                · show p.os.length - (i + 1) < p.os.length - i
                  omega
            · refine AM.forget (H.setB b1 41 p.cells) ?_ ?_
              · (repeat' first|assumption|(apply Lk.go;constructor))
              refine AM.roundX (i + 1) ⟨rfl, by omega, fun j hj => ?_⟩ ?_ ?_
              · by_cases e : j = i
                · subst e; rw [hok]; simp at *; simp [*]
                · exact he j (by omega)
              · (repeat first | exact envle_nil _ | (refine envle_cons ?_ ?_; · (simp only [go_sem, Nat.reduceBEq, Nat.reduceAdd]; exact AVLe.refl _)))
                refine envle_cons ?_ ?_
                · simp only [go_sem, Nat.reduceBEq, Nat.reduceAdd]
                  refine avle_int ?_
                  rw [inc64 h3 ok.os]
                exact envle_nil _
              · show p.os.length - (i + 1) < p.os.length - i
                omega
            · (apply Sr.go;·constructor<;>first|(apply Lk.go;constructor<;>first|exact ss|(change _=_;first|(simp only[go_sem,Nat.reduceBEq,Nat.reduceAdd,Nat.reduceLeDiff,reduceIte]<;>rfl)|rfl)|exact Nat.le_of_ble_eq_true rfl|decide|(repeat' first|(apply Lk.go;constructor)|assumption|exact nb ‹_› ‹_›|exact nt ‹_› ‹_›))|assumption)
              refine avle_eq ?_; rw [AV.bool.injEq, fin]
              rw [hok]; simp at *; simp [*]
          · (apply Sr.go;·constructor<;>first|(apply Lk.go;constructor<;>first|exact ss|(change _=_;first|(simp only[go_sem,Nat.reduceBEq,Nat.reduceAdd,Nat.reduceLeDiff,reduceIte]<;>rfl)|rfl)|exact Nat.le_of_ble_eq_true rfl|decide|(repeat' first|(apply Lk.go;constructor)|assumption|exact nb ‹_› ‹_›|exact nt ‹_› ‹_›))|assumption)
            refine avle_eq ?_; rw [AV.bool.injEq, fin]
            rw [hok]; simp at *; simp [*]
        · intro h3
          simp at h3
          have hall2 : allI p.os.length (okOf p) = true := allI_true fun j hj => he j (by omega)
          repeat' first|(apply Sp.go;·constructor<;>first|exact ss|(change _=_;first|(simp only[go_sem,Nat.reduceBEq,Nat.reduceAdd,Nat.reduceLeDiff,reduceIte]<;>rfl)|rfl)|exact Nat.le_of_ble_eq_true rfl|decide|(repeat' first|(apply Lk.go;constructor)|assumption|exact nb ‹_› ‹_›|exact nt ‹_› ‹_›))|(intro b hb;repeat first|(refine fe hb ?_;intro _ _ hb)|(refine fT hb ?_;intro hb))|refine rt ?_|refine gA rfl ?_|refine gB rfl ?_|apply cT rfl|apply cF rfl|(apply DM.gbT;rfl)|(apply DM.gbF;rfl)|intro h
          all_goals ((apply Sr.go;·constructor<;>first|(apply Lk.go;constructor<;>first|exact ss|(change _=_;first|(simp only[go_sem,Nat.reduceBEq,Nat.reduceAdd,Nat.reduceLeDiff,reduceIte]<;>rfl)|rfl)|exact Nat.le_of_ble_eq_true rfl|decide|(repeat' first|(apply Lk.go;constructor)|assumption|exact nb ‹_› ‹_›|exact nt ‹_› ‹_›))|assumption))
          all_goals (refine avle_eq ?_; rw [AV.bool.injEq, partsOk, hall, hall2, Bool.true_and, Bool.true_and, Bool.eq_iff_iff]; simp at *; omega)
def okIns (p : Prog) (x : Ins_) : Bool := formed x && (if x.op = 3 ∨ x.op = 5 then decide (x.n < p.vars.length) else if x.op = 19 ∨ x.op = 20 ∨ x.op = 22 then p.target x.n else true)
def okIx (p : Prog) (i : Nat) : Bool := match p.code[i]? with
  | none => false
  | some x => okIns p x
def validP (p : Prog) : Bool := isName p.name && inB p.role 0 5 && inB p.code.length 1 1000 && varsOk p.vars && partsOk p && allI p.code.length (okIx p)
theorem p43 (p : Prog) : Pure Try.prog 43 [p.av] (.bool (validP p)) := by
  refine ok_args fun ok => ?_
  refine pure_intro mo Try.func43 c43 fun H => ?_
  unfold e43 r43
  simp only [initEnv, initFrom]
  repeat' first|(apply Sp.go;·constructor<;>first|exact ss|(change _=_;first|(simp only[go_sem,Nat.reduceBEq,Nat.reduceAdd,Nat.reduceLeDiff,reduceIte]<;>rfl)|rfl)|exact Nat.le_of_ble_eq_true rfl|decide|(repeat' first|(apply Lk.go;constructor)|assumption|exact nb ‹_› ‹_›|exact nt ‹_› ‹_›))|(intro b hb;repeat first|(refine fe hb ?_;intro _ _ hb)|(refine fT hb ?_;intro hb))|refine rt ?_|refine gA rfl ?_|refine gB rfl ?_|apply cT rfl|apply cF rfl|(apply DM.gbT;rfl)|(apply DM.gbF;rfl)|intro h
  (apply DM.pcs (p67' _); (· simp only [go_sem, Nat.reduceBEq, Nat.reduceAdd] <;> rfl); (· exact AVLes.refl _))
  repeat' first|(apply Sp.go;·constructor<;>first|exact ss|(change _=_;first|(simp only[go_sem,Nat.reduceBEq,Nat.reduceAdd,Nat.reduceLeDiff,reduceIte]<;>rfl)|rfl)|exact Nat.le_of_ble_eq_true rfl|decide|(repeat' first|(apply Lk.go;constructor)|assumption|exact nb ‹_› ‹_›|exact nt ‹_› ‹_›))|(intro b hb;repeat first|(refine fe hb ?_;intro _ _ hb)|(refine fT hb ?_;intro hb))|refine rt ?_|refine gA rfl ?_|refine gB rfl ?_|apply cT rfl|apply cF rfl|(apply DM.gbT;rfl)|(apply DM.gbF;rfl)|intro h
  · (apply DM.pcs (p68 _ _ _); (· simp only [go_sem, Nat.reduceBEq, Nat.reduceAdd] <;> rfl); (· exact AVLes.refl _))
    repeat' first|(apply Sp.go;·constructor<;>first|exact ss|(change _=_;first|(simp only[go_sem,Nat.reduceBEq,Nat.reduceAdd,Nat.reduceLeDiff,reduceIte]<;>rfl)|rfl)|exact Nat.le_of_ble_eq_true rfl|decide|(repeat' first|(apply Lk.go;constructor)|assumption|exact nb ‹_› ‹_›|exact nt ‹_› ‹_›))|(intro b hb;repeat first|(refine fe hb ?_;intro _ _ hb)|(refine fT hb ?_;intro hb))|refine rt ?_|refine gA rfl ?_|refine gB rfl ?_|apply cT rfl|apply cF rfl|(apply DM.gbT;rfl)|(apply DM.gbF;rfl)|intro h
    · (apply DM.pcs (p68 _ _ _); (· simp only [go_sem, Nat.reduceBEq, Nat.reduceAdd] <;> rfl); (· exact AVLes.refl _))
      repeat' first|(apply Sp.go;·constructor<;>first|exact ss|(change _=_;first|(simp only[go_sem,Nat.reduceBEq,Nat.reduceAdd,Nat.reduceLeDiff,reduceIte]<;>rfl)|rfl)|exact Nat.le_of_ble_eq_true rfl|decide|(repeat' first|(apply Lk.go;constructor)|assumption|exact nb ‹_› ‹_›|exact nt ‹_› ‹_›))|(intro b hb;repeat first|(refine fe hb ?_;intro _ _ hb)|(refine fT hb ?_;intro hb))|refine rt ?_|refine gA rfl ?_|refine gB rfl ?_|apply cT rfl|apply cF rfl|(apply DM.gbT;rfl)|(apply DM.gbF;rfl)|intro h
      · (apply DM.pcs (p69 p); (· simp only [go_sem, Nat.reduceBEq, Nat.reduceAdd] <;> rfl); (· exact AVLes.refl _))
        repeat' first|(apply Sp.go;·constructor<;>first|exact ss|(change _=_;first|(simp only[go_sem,Nat.reduceBEq,Nat.reduceAdd,Nat.reduceLeDiff,reduceIte]<;>rfl)|rfl)|exact Nat.le_of_ble_eq_true rfl|decide|(repeat' first|(apply Lk.go;constructor)|assumption|exact nb ‹_› ‹_›|exact nt ‹_› ‹_›))|(intro b hb;repeat first|(refine fe hb ?_;intro _ _ hb)|(refine fT hb ?_;intro hb))|refine rt ?_|refine gA rfl ?_|refine gB rfl ?_|apply cT rfl|apply cF rfl|(apply DM.gbT;rfl)|(apply DM.gbF;rfl)|intro h
        · (apply DM.pcs (p70 p); (· simp only [go_sem, Nat.reduceBEq, Nat.reduceAdd] <;> rfl); (· exact AVLes.refl _))
          repeat' first|(apply Sp.go;·constructor<;>first|exact ss|(change _=_;first|(simp only[go_sem,Nat.reduceBEq,Nat.reduceAdd,Nat.reduceLeDiff,reduceIte]<;>rfl)|rfl)|exact Nat.le_of_ble_eq_true rfl|decide|(repeat' first|(apply Lk.go;constructor)|assumption|exact nb ‹_› ‹_›|exact nt ‹_› ‹_›))|(intro b hb;repeat first|(refine fe hb ?_;intro _ _ hb)|(refine fT hb ?_;intro hb))|refine rt ?_|refine gA rfl ?_|refine gB rfl ?_|apply cT rfl|apply cF rfl|(apply DM.gbT;rfl)|(apply DM.gbF;rfl)|intro h
          · (apply AM.cond; (· rfl))
            · intro h
              repeat' first|(apply Sp.go;·constructor<;>first|exact ss|(change _=_;first|(simp only[go_sem,Nat.reduceBEq,Nat.reduceAdd,Nat.reduceLeDiff,reduceIte]<;>rfl)|rfl)|exact Nat.le_of_ble_eq_true rfl|decide|(repeat' first|(apply Lk.go;constructor)|assumption|exact nb ‹_› ‹_›|exact nt ‹_› ‹_›))|(intro b hb;repeat first|(refine fe hb ?_;intro _ _ hb)|(refine fT hb ?_;intro hb))|refine rt ?_|refine gA rfl ?_|refine gB rfl ?_|apply cT rfl|apply cF rfl|(apply DM.gbT;rfl)|(apply DM.gbF;rfl)|intro h
              (apply Sr.go;·constructor<;>first|(apply Lk.go;constructor<;>first|exact ss|(change _=_;first|(simp only[go_sem,Nat.reduceBEq,Nat.reduceAdd,Nat.reduceLeDiff,reduceIte]<;>rfl)|rfl)|exact Nat.le_of_ble_eq_true rfl|decide|(repeat' first|(apply Lk.go;constructor)|assumption|exact nb ‹_› ‹_›|exact nt ‹_› ‹_›))|assumption)
              refine avle_eq ?_; rw [AV.bool.injEq]; simp at *; simp [validP, *]
            · intro h
              have hpre : (isName p.name && inB p.role 0 5 && inB p.code.length 1 1000 && varsOk p.vars && partsOk p) = true := by simp at *; simp [*]
              rename Nat => b1
              repeat' first|(apply Sp.go;·constructor<;>first|exact ss|(change _=_;first|(simp only[go_sem,Nat.reduceBEq,Nat.reduceAdd,Nat.reduceLeDiff,reduceIte]<;>rfl)|rfl)|exact Nat.le_of_ble_eq_true rfl|decide|(repeat' first|(apply Lk.go;constructor)|assumption|exact nb ‹_› ‹_›|exact nt ‹_› ‹_›))|(intro b hb;repeat first|(refine fe hb ?_;intro _ _ hb)|(refine fT hb ?_;intro hb))|refine rt ?_|refine gA rfl ?_|refine gB rfl ?_|apply cT rfl|apply cF rfl|(apply DM.gbT;rfl)|(apply DM.gbF;rfl)|intro h
              refine AM.loopX (X := Nat) 0 (fun i => [(1, .ptr b1 0), (33, .vs 3 (p.code.map Ins_.row)), (34, .int .i64 p.code.length), (35, .int .i64 i)]) (fun i H' => H' = H.setB b1 41 p.cells ∧ i ≤ p.code.length ∧ ∀ j, j < i → okIx p j = true) (fun i => p.code.length - i) ⟨rfl, by omega, fun j hj => by omega⟩ ?_ ?_
              · (repeat first | exact envle_nil _ | (refine envle_cons ?_ ?_; · (simp only [go_sem, Nat.reduceBEq, Nat.reduceAdd]; exact AVLe.refl _)))
                refine envle_cons ?_ (envle_cons ?_ (envle_nil _))
                · simp only [Env.get, Nat.reduceBEq, cond_true, cond_false, beq_self_eq_true]
                  exact avle_int (by simp)
                · simp only [Env.get, Nat.reduceBEq, cond_true, cond_false, beq_self_eq_true]
                  exact AVLe.refl _
              · intro i H' ⟨e, hi, he⟩
                subst e
                repeat' first|(apply Sp.go;·constructor<;>first|exact ss|(change _=_;first|(simp only[go_sem,Nat.reduceBEq,Nat.reduceAdd,Nat.reduceLeDiff,reduceIte]<;>rfl)|rfl)|exact Nat.le_of_ble_eq_true rfl|decide|(repeat' first|(apply Lk.go;constructor)|assumption|exact nb ‹_› ‹_›|exact nt ‹_› ‹_›))|(intro b hb;repeat first|(refine fe hb ?_;intro _ _ hb)|(refine fT hb ?_;intro hb))|refine rt ?_|refine gA rfl ?_|refine gB rfl ?_|apply cT rfl|apply cF rfl|(apply DM.gbT;rfl)|(apply DM.gbF;rfl)|intro h
                (apply AM.cond; (· rfl))
                · intro h3
                  simp at h3
                  obtain ⟨x, hx⟩ : ∃ v, p.code[i]? = some v := ⟨_, List.getElem?_eq_getElem h3⟩
                  have hok : okIx p i = okIns p x := by simp [okIx, hx]
                  have fin : okIx p i = false → validP p = false := fun h => by simp only [validP]; rw [allI_false h3 h]; simp
                  repeat' first|(apply Sp.go;·constructor<;>first|exact ss|(change _=_;first|(simp only[go_sem,Nat.reduceBEq,Nat.reduceAdd,Nat.reduceLeDiff,reduceIte]<;>rfl)|rfl)|exact Nat.le_of_ble_eq_true rfl|decide|(repeat' first|(apply Lk.go;constructor)|assumption|exact nb ‹_› ‹_›|exact nt ‹_› ‹_›))|(intro b hb;repeat first|(refine fe hb ?_;intro _ _ hb)|(refine fT hb ?_;intro hb))|refine rt ?_|refine gA rfl ?_|refine gB rfl ?_|apply cT rfl|apply cF rfl|(apply DM.gbT;rfl)|(apply DM.gbF;rfl)|intro h
                  (apply DM.ixV (row := x.row) (z := (i : Int)) (by omega) (row_get Ins_.row hx); (· rfl); (· rfl))
                  repeat' first|(apply Sp.go;·constructor<;>first|exact ss|(change _=_;first|(simp only[go_sem,Nat.reduceBEq,Nat.reduceAdd,Nat.reduceLeDiff,reduceIte]<;>rfl)|rfl)|exact Nat.le_of_ble_eq_true rfl|decide|(repeat' first|(apply Lk.go;constructor)|assumption|exact nb ‹_› ‹_›|exact nt ‹_› ‹_›))|(intro b hb;repeat first|(refine fe hb ?_;intro _ _ hb)|(refine fT hb ?_;intro hb))|refine rt ?_|refine gA rfl ?_|refine gB rfl ?_|apply cT rfl|apply cF rfl|(apply DM.gbT;rfl)|(apply DM.gbF;rfl)|intro h
                  (apply DM.pcs (p71 x); (· simp only [go_sem, Nat.reduceBEq, Nat.reduceAdd] <;> rfl); (· exact AVLes.refl _))
                  repeat' first|(apply Sp.go;·constructor<;>first|exact ss|(change _=_;first|(simp only[go_sem,Nat.reduceBEq,Nat.reduceAdd,Nat.reduceLeDiff,reduceIte]<;>rfl)|rfl)|exact Nat.le_of_ble_eq_true rfl|decide|(repeat' first|(apply Lk.go;constructor)|assumption|exact nb ‹_› ‹_›|exact nt ‹_› ‹_›))|(intro b hb;repeat first|(refine fe hb ?_;intro _ _ hb)|(refine fT hb ?_;intro hb))|refine rt ?_|refine gA rfl ?_|refine gB rfl ?_|apply cT rfl|apply cF rfl|(apply DM.gbT;rfl)|(apply DM.gbF;rfl)|(apply AM.condS;rfl)|intro h
                  all_goals try (apply DM.pcs (p72 p _); (· (simp only [List.map_cons, List.map_nil, EOpd.ev, Env.get, Nat.reduceBEq, cond_true, cond_false, beq_self_eq_true] <;> rfl)); (· exact AVLes.refl _))
                  all_goals (repeat' first|(apply Sp.go;·constructor<;>first|exact ss|(change _=_;first|(simp only[go_sem,Nat.reduceBEq,Nat.reduceAdd,Nat.reduceLeDiff,reduceIte]<;>rfl)|rfl)|exact Nat.le_of_ble_eq_true rfl|decide|(repeat' first|(apply Lk.go;constructor)|assumption|exact nb ‹_› ‹_›|exact nt ‹_› ‹_›))|(intro b hb;repeat first|(refine fe hb ?_;intro _ _ hb)|(refine fT hb ?_;intro hb))|refine rt ?_|refine gA rfl ?_|refine gB rfl ?_|apply cT rfl|apply cF rfl|(apply DM.gbT;rfl)|(apply DM.gbF;rfl)|(apply AM.condS;rfl)|intro h)
                  all_goals first
                    | (skip
                       (apply Sr.go;·constructor<;>first|(apply Lk.go;constructor<;>first|exact ss|(change _=_;first|(simp only[go_sem,Nat.reduceBEq,Nat.reduceAdd,Nat.reduceLeDiff,reduceIte]<;>rfl)|rfl)|exact Nat.le_of_ble_eq_true rfl|decide|(repeat' first|(apply Lk.go;constructor)|assumption|exact nb ‹_› ‹_›|exact nt ‹_› ‹_›))|assumption)
                       refine avle_eq ?_
                       rw [AV.bool.injEq, fin]
                       rw [hok]
                       simp at *
                       simp [okIns, *]
                       done)
                    | (skip
                       (apply Sr.go;·constructor<;>first|(apply Lk.go;constructor<;>first|exact ss|(change _=_;first|(simp only[go_sem,Nat.reduceBEq,Nat.reduceAdd,Nat.reduceLeDiff,reduceIte]<;>rfl)|rfl)|exact Nat.le_of_ble_eq_true rfl|decide|(repeat' first|(apply Lk.go;constructor)|assumption|exact nb ‹_› ‹_›|exact nt ‹_› ‹_›))|assumption)
                       refine avle_eq ?_
                       rw [AV.bool.injEq, fin]
                       rw [hok]
                       simp at *
                       simp [okIns, *]
                       omega)
                    | (skip
                       refine AM.forget (H.setB b1 41 p.cells) ?_ ?_
                       · (repeat' first|assumption|(apply Lk.go;constructor))
                       refine AM.roundX (i + 1) ⟨rfl, by omega, fun j hj => ?_⟩ ?_ ?_
                       · by_cases e : j = i
                         · subst e
                           rw [hok]
                           simp at *
                           simp [okIns, *]
                           try omega
                         · exact he j (by omega)
                       · (repeat first | exact envle_nil _ | (refine envle_cons ?_ ?_; · (simp only [go_sem, Nat.reduceBEq, Nat.reduceAdd]; exact AVLe.refl _)))
                         refine envle_cons ?_ ?_
                         · simp only [go_sem, Nat.reduceBEq, Nat.reduceAdd]
                           refine avle_int ?_
                           rw [inc64 h3 ok.code]
                         exact envle_nil _
                       · show p.code.length - (i + 1) < p.code.length - i
                         omega)
                · intro h3
                  simp at h3
                  repeat' first|(apply Sp.go;·constructor<;>first|exact ss|(change _=_;first|(simp only[go_sem,Nat.reduceBEq,Nat.reduceAdd,Nat.reduceLeDiff,reduceIte]<;>rfl)|rfl)|exact Nat.le_of_ble_eq_true rfl|decide|(repeat' first|(apply Lk.go;constructor)|assumption|exact nb ‹_› ‹_›|exact nt ‹_› ‹_›))|(intro b hb;repeat first|(refine fe hb ?_;intro _ _ hb)|(refine fT hb ?_;intro hb))|refine rt ?_|refine gA rfl ?_|refine gB rfl ?_|apply cT rfl|apply cF rfl|(apply DM.gbT;rfl)|(apply DM.gbF;rfl)|intro h
                  (apply Sr.go;·constructor<;>first|(apply Lk.go;constructor<;>first|exact ss|(change _=_;first|(simp only[go_sem,Nat.reduceBEq,Nat.reduceAdd,Nat.reduceLeDiff,reduceIte]<;>rfl)|rfl)|exact Nat.le_of_ble_eq_true rfl|decide|(repeat' first|(apply Lk.go;constructor)|assumption|exact nb ‹_› ‹_›|exact nt ‹_› ‹_›))|assumption)
                  refine avle_eq ?_; rw [AV.bool.injEq, validP, hpre, Bool.true_and, allI_true fun j hj => he j (by omega)]
        · (apply Sr.go;·constructor<;>first|(apply Lk.go;constructor<;>first|exact ss|(change _=_;first|(simp only[go_sem,Nat.reduceBEq,Nat.reduceAdd,Nat.reduceLeDiff,reduceIte]<;>rfl)|rfl)|exact Nat.le_of_ble_eq_true rfl|decide|(repeat' first|(apply Lk.go;constructor)|assumption|exact nb ‹_› ‹_›|exact nt ‹_› ‹_›))|assumption)
          refine avle_eq ?_; rw [AV.bool.injEq]; simp at *; simp [validP, *]
      · (apply Sr.go;·constructor<;>first|(apply Lk.go;constructor<;>first|exact ss|(change _=_;first|(simp only[go_sem,Nat.reduceBEq,Nat.reduceAdd,Nat.reduceLeDiff,reduceIte]<;>rfl)|rfl)|exact Nat.le_of_ble_eq_true rfl|decide|(repeat' first|(apply Lk.go;constructor)|assumption|exact nb ‹_› ‹_›|exact nt ‹_› ‹_›))|assumption)
        refine avle_eq ?_; rw [AV.bool.injEq]; simp at *; simp [validP, *]
    · (apply Sr.go;·constructor<;>first|(apply Lk.go;constructor<;>first|exact ss|(change _=_;first|(simp only[go_sem,Nat.reduceBEq,Nat.reduceAdd,Nat.reduceLeDiff,reduceIte]<;>rfl)|rfl)|exact Nat.le_of_ble_eq_true rfl|decide|(repeat' first|(apply Lk.go;constructor)|assumption|exact nb ‹_› ‹_›|exact nt ‹_› ‹_›))|assumption)
      refine avle_eq ?_; rw [AV.bool.injEq]; simp at *; simp [validP, *]
  · (apply Sr.go;·constructor<;>first|(apply Lk.go;constructor<;>first|exact ss|(change _=_;first|(simp only[go_sem,Nat.reduceBEq,Nat.reduceAdd,Nat.reduceLeDiff,reduceIte]<;>rfl)|rfl)|exact Nat.le_of_ble_eq_true rfl|decide|(repeat' first|(apply Lk.go;constructor)|assumption|exact nb ‹_› ‹_›|exact nt ‹_› ‹_›))|assumption)
    refine avle_eq ?_; rw [AV.bool.injEq]; simp at *; simp [validP, *]
theorem drop_of {α : Type} {l : List α} {i : Nat} {v : α} (h : l[i]? = some v) : l.drop i = v :: l.drop (i + 1) := by
  obtain ⟨h3, e⟩ := List.getElem?_eq_some_iff.1 h
  rw [List.drop_eq_getElem_cons h3, e]
theorem some_of {α : Type} {l : List α} {i : Nat} (h : i < l.length) : ∃ v, l[i]? = some v := ⟨_, List.getElem?_eq_getElem h⟩
structure Mach where
  stack : List Val
  vars : List Val
  loops : List Int
  pc : Int
  tr : Bool
  dn : Bool
structure Ref where
  b : Nat
  tv : Nat
  ts : Nat
  tl : Nat
structure Ref.Ok (ρ : Ref) : Prop where
  vs : ρ.tv ≠ ρ.ts
  vl : ρ.tv ≠ ρ.tl
  ls : ρ.tl ≠ ρ.ts
abbrev irow (n : Int) : List AV := [.int .i64 n]
abbrev mcells (ρ : Ref) (p : Prog) (ps : List Val) (M : Mach) (vs vl : Nat) : List AV :=
  [.str p.name, .int .i64 p.role, .vs 7 (p.vars.map Var_.row), .vs 3 (p.hs.map Hd.row), .vs 4 (p.os.map Of_.row), .vs 3 (p.code.map Ins_.row), .ms ρ.tv 0, .vs 3 (ps.map Val.row), .ms ρ.ts vs, .ms ρ.tl vl, .int .i64 M.pc, .bool M.tr, .bool M.dn]
def HM (H0 : AHeap) (ρ : Ref) (p : Prog) (ps : List Val) (M : Mach) (vs vl : Nat) : AHeap :=
  ⟨fun x => if x = ρ.b then some (149, mcells ρ p ps M vs vl) else H0.blk x, fun x => if x = ρ.ts then some (.mu 70 3 vs (M.stack.map Val.row)) else if x = ρ.tl then some (.mu 3 1 vl (M.loops.map irow)) else if x = ρ.tv then some (.mu 70 3 0 (M.vars.map Val.row)) else H0.tok x⟩
section
variable {H0 H : AHeap} {ρ : Ref} {p : Prog} {ps : List Val} {M : Mach} {vs vl : Nat}
theorem hm_blk : (HM H0 ρ p ps M vs vl).blk ρ.b = some (149, mcells ρ p ps M vs vl) := by simp [HM]
theorem hm_ts : (HM H0 ρ p ps M vs vl).tok ρ.ts = some (.mu 70 3 vs (M.stack.map Val.row)) := by simp [HM]
theorem hm_tl (d : ρ.Ok) : (HM H0 ρ p ps M vs vl).tok ρ.tl = some (.mu 3 1 vl (M.loops.map irow)) := by simp [HM, d.ls]
theorem hm_tv (d : ρ.Ok) : (HM H0 ρ p ps M vs vl).tok ρ.tv = some (.mu 70 3 0 (M.vars.map Val.row)) := by simp [HM, d.vl, d.vs]
theorem hm_look {x : Nat} {y : Option (TypeId × List AV)} (hx : x ≠ ρ.b) (h : H0.blk x = y) : (HM H0 ρ p ps M vs vl).blk x = y := by simp [HM, hx, h]
end
section
inductive Lm : Prop → Prop
  | bk {H0 : AHeap} {ρ : Ref} {p : Prog} {ps : List Val} {M : Mach} {vs vl : Nat} : Lm ((HM H0 ρ p ps M vs vl).blk ρ.b = some (149, mcells ρ p ps M vs vl))
  | lk {H0 : AHeap} {ρ : Ref} {p : Prog} {ps : List Val} {M : Mach} {vs vl x : Nat} {y : Option (TypeId × List AV)} (hx : x ≠ ρ.b) (h : H0.blk x = y) : Lm ((HM H0 ρ p ps M vs vl).blk x = y)
  | ts {H0 : AHeap} {ρ : Ref} {p : Prog} {ps : List Val} {M : Mach} {vs vl : Nat} : Lm ((HM H0 ρ p ps M vs vl).tok ρ.ts = some (.mu 70 3 vs (M.stack.map Val.row)))
  | tl {H0 : AHeap} {ρ : Ref} {p : Prog} {ps : List Val} {M : Mach} {vs vl : Nat} (d : ρ.Ok) : Lm ((HM H0 ρ p ps M vs vl).tok ρ.tl = some (.mu 3 1 vl (M.loops.map irow)))
  | tv {H0 : AHeap} {ρ : Ref} {p : Prog} {ps : List Val} {M : Mach} {vs vl : Nat} (d : ρ.Ok) : Lm ((HM H0 ρ p ps M vs vl).tok ρ.tv = some (.mu 70 3 0 (M.vars.map Val.row)))
theorem Lm.go {G : Prop} (h : Lm G) : G := by
  cases h with
  | bk => exact hm_blk
  | lk hx h => exact hm_look hx h
  | ts => exact hm_ts
  | tl d => exact hm_tl d
  | tv d => exact hm_tv d
end
def push (v : Val) (M : Mach) : Mach := if 16 ≤ M.stack.length then { M with tr := true } else { M with stack := M.stack ++ [v] }
abbrev val0 : Val := ⟨0, 0, []⟩
def popTrap (k : Int) (M : Mach) : Bool := M.tr || (match M.stack.getLast? with | none => true | some v => decide (k ≠ 0) && decide (v.k ≠ k))
def pop (k : Int) (M : Mach) : Val × Mach := if popTrap k M then (val0, { M with tr := true }) else ((M.stack.getLast?).getD val0, { M with stack := M.stack.dropLast })
theorem last_ix {α : Type} {l : List α} {n : Nat} (h : l.length = n + 1) : l[n]? = l.getLast? := by
  rw [List.getLast?_eq_getElem?, h]; rfl
def W (n : Int) : Int := IntKind.i64.wrap n
end Go.Aw.T
namespace Go.Aw.T
open Go Go.Aw Go.Proofs Go.RowKit
set_option maxRecDepth 100000
attribute [local irreducible] Go.Aw.DM Go.Aw.AHeap.setB Go.Aw.AHeap.setT
attribute [local go_sem] peval EOpd.ev Env.get binInt binStr binBool buildParts AV.cells AV.okc setRange minmaxAV AV.one AV.ofCells eqCells eqCell bslRows cond_true cond_false beq_self_eq_true Bool.not_true Bool.not_false beq_true beq_false eq_self if_true Option.some.injEq List.length_cons List.length_nil List.take_succ_cons List.take_zero List.drop_succ_cons List.drop_zero List.set_cons_succ List.set_cons_zero List.nil_append List.cons_append List.append_nil and_self Option.map_some List.map_cons List.map_nil Bool.false_eq_true if_false Nat.zero_add Nat.add_zero true_and and_true Bool.and_true Bool.true_and List.getElem?_cons_zero List.getElem?_cons_succ Nat.zero_le Nat.le_refl
set_option linter.unusedSimpArgs false
set_option linter.unusedVariables false
def clampText (lo hi : Int) (s : List UInt8) : List UInt8 := (s.take hi.toNat) ++ List.replicate (lo - (s.take hi.toNat).length).toNat 97
def clampV (s : Sort_) (v : Val) : Val × Int :=
  if (validS s && validV v) = false then (val0, 1) else if s.k ≠ v.k then (val0, 11)
  else if v.k = 1 then (⟨v.k, max s.lo (min s.hi v.n), v.s⟩, 0) else (⟨v.k, v.n, clampText s.lo s.hi v.s⟩, 0)
def clampN (v : Val) : Val := ⟨v.k, max (-1000) (min 1000 v.n), v.s⟩
def storeM (s : Sort_) (n : Nat) (M : Mach) : Mach :=
  if (pop s.k M).2.tr then (pop s.k M).2
  else if (clampV s (clampN (pop s.k M).1)).2 = 0 then { (pop s.k M).2 with vars := M.vars.set n (clampV s (clampN (pop s.k M).1)).1 }
  else { (pop s.k M).2 with tr := true }
def isArith (op : Int) : Bool := decide (op = 6) || decide (op = 7) || decide (op = 8) || decide (op = 9) || decide (op = 10) || decide (op = 13) || decide (op = 15) || decide (op = 16)
/-- What a step may rely on. -/
structure Good (p : Prog) (M : Mach) : Prop where
  st : M.stack.length ≤ 16
  str : ∀ v ∈ M.stack, v.s.length ≤ 1000
  ll : M.loops.length ≤ maxLen
  vl : M.vars.length = p.vars.length
structure InsOk (p : Prog) (x : Ins_) : Prop where
  var : x.op = 3 ∨ x.op = 5 → 0 ≤ x.n ∧ x.n < p.vars.length
  par : x.op = 4 → 0 ≤ x.n
end Go.Aw.T
namespace Go.Aw.T
open Go Go.Aw Go.Proofs Go.RowKit
set_option maxRecDepth 100000
attribute [local irreducible] Go.Aw.DM Go.Aw.AHeap.setB Go.Aw.AHeap.setT
attribute [local go_sem] peval EOpd.ev Env.get binInt binStr binBool buildParts AV.cells AV.okc setRange minmaxAV AV.one AV.ofCells eqCells eqCell bslRows cond_true cond_false beq_self_eq_true Bool.not_true Bool.not_false beq_true beq_false eq_self if_true Option.some.injEq List.length_cons List.length_nil List.take_succ_cons List.take_zero List.drop_succ_cons List.drop_zero List.set_cons_succ List.set_cons_zero List.nil_append List.cons_append List.append_nil and_self Option.map_some List.map_cons List.map_nil Bool.false_eq_true if_false Nat.zero_add Nat.add_zero true_and and_true Bool.and_true Bool.true_and List.getElem?_cons_zero List.getElem?_cons_succ Nat.zero_le Nat.le_refl
set_option linter.unusedSimpArgs false
set_option linter.unusedVariables false
structure Res where
  stack : List Val
  vars : List Val
  used : Int
  err : Int
abbrev Res.av (r : Res) : AV := .tup [.agg [.vs 3 (r.stack.map Val.row), .vs 3 (r.vars.map Val.row), .int .i64 r.used], .int .i64 r.err]
structure Inv (p : Prog) (M : Mach) : Prop where
  st : M.stack.length ≤ 16
  str : ∀ v ∈ M.stack, v.s.length ≤ 1000
  vstr : ∀ v ∈ M.vars, v.s.length ≤ 1000
  ll : M.loops.length ≤ 4
  vl : M.vars.length = p.vars.length
  p0 : 0 ≤ M.pc
  p1 : M.pc ≤ p.code.length
theorem jump_ok {p : Prog} {x : Ins_} (hv : validP p = true) (hx : x ∈ p.code) : okIns p x = true := by
  obtain ⟨i, hi⟩ := List.getElem?_of_mem hx
  have hlt := (List.getElem?_eq_some_iff.1 hi).1
  simp only [validP, Bool.and_eq_true] at hv
  have := hv.2
  simp only [allI, List.all_eq_true, List.mem_range] at this
  have := this i hlt
  simpa [okIx, hi] using this
theorem code_len {p : Prog} (hv : validP p = true) : p.code.length ≤ 1000 := by
  simp [validP, inB] at hv
  omega
theorem insOk {p : Prog} {x : Ins_} (hv : validP p = true) (hx : x ∈ p.code) : InsOk p x := by
  have hok := jump_ok hv hx
  simp only [okIns, Bool.and_eq_true] at hok
  obtain ⟨h1, h2⟩ := hok
  refine ⟨fun hop => ?_, fun hop => ?_⟩
  · rw [if_pos hop] at h2
    have : (numd x.op) = (0, 11, true) := by rcases hop with h | h <;> simp [numd, h]
    rw [formed, if_neg (by omega), this] at h1
    simp [inB] at h1 h2
    omega
  · have : (numd x.op) = (0, 3, true) := by simp [numd, hop]
    rw [formed, if_neg (by omega), this] at h1
    simp [inB] at h1
    omega
theorem AM.retF {P : Program} {rs : List ERes} {k : List Item} {env : Env} {H0 H : AHeap} {q r : AV} (hv : Aw.results rs env H = some q) (hs : HSub H0 H) (hf : Frz H H0 q r) : AM P rs (fun o H' => ∃ a, o = .ret a ∧ HSub H0 H' ∧ Frz H' H0 a r) (.c .ret :: k) env H :=
  AM.ret hv ⟨_, rfl, hs, hf⟩
end Go.Aw.T
namespace Go.Aw.T
open Go Go.Aw Go.Proofs Go.RowKit
set_option maxRecDepth 100000
attribute [local irreducible] Go.Aw.DM Go.Aw.AHeap.setB Go.Aw.AHeap.setT
attribute [local go_sem] peval EOpd.ev Env.get binInt binStr binBool buildParts AV.cells AV.okc setRange minmaxAV AV.one AV.ofCells eqCells eqCell bslRows cond_true cond_false beq_self_eq_true Bool.not_true Bool.not_false beq_true beq_false eq_self if_true Option.some.injEq List.length_cons List.length_nil List.take_succ_cons List.take_zero List.drop_succ_cons List.drop_zero List.set_cons_succ List.set_cons_zero List.nil_append List.cons_append List.append_nil and_self Option.map_some List.map_cons List.map_nil Bool.false_eq_true if_false Nat.zero_add Nat.add_zero true_and and_true Bool.and_true Bool.true_and List.getElem?_cons_zero List.getElem?_cons_succ Nat.zero_le Nat.le_refl
set_option linter.unusedSimpArgs false
set_option linter.unusedVariables false
abbrev tv (s : List UInt8) : Val := ⟨2, 0, s⟩
end Go.Aw.T
namespace Go.Aw.T
open Go Go.Aw Go.Proofs Go.RowKit
set_option maxRecDepth 100000
attribute [local irreducible] Go.Aw.DM Go.Aw.AHeap.setB Go.Aw.AHeap.setT
attribute [local go_sem] peval EOpd.ev Env.get binInt binStr binBool buildParts AV.cells AV.okc setRange minmaxAV AV.one AV.ofCells eqCells eqCell bslRows cond_true cond_false beq_self_eq_true Bool.not_true Bool.not_false beq_true beq_false eq_self if_true Option.some.injEq List.length_cons List.length_nil List.take_succ_cons List.take_zero List.drop_succ_cons List.drop_zero List.set_cons_succ List.set_cons_zero List.nil_append List.cons_append List.append_nil and_self Option.map_some List.map_cons List.map_nil Bool.false_eq_true if_false Nat.zero_add Nat.add_zero true_and and_true Bool.and_true Bool.true_and List.getElem?_cons_zero List.getElem?_cons_succ Nat.zero_le Nat.le_refl
set_option linter.unusedSimpArgs false
set_option linter.unusedVariables false
def fewP (p : Prog) : Bool := p.code.all (fun x => decide (x.s.length ≤ 100)) && p.vars.all (fun v => decide (v.name.length ≤ 100) && decide (v.init.s.length ≤ 100)) && decide (p.name.length ≤ 100) && decide (p.vars.length ≤ 20) && decide (p.hs.length ≤ 60) && decide (p.os.length ≤ 60) && decide (p.code.length ≤ 300)
theorem p16 (p : Prog) : Pure Try.prog 16 [p.av] (.bool (fewP p)) := by
  refine ok_args fun ok => ?_
  refine pure_intro mo Try.func16 c16 fun H => ?_
  unfold e16 r16
  simp only [initEnv, initFrom]
  repeat' first|(apply Sp.go;·constructor<;>first|exact ss|(change _=_;first|(simp only[go_sem,Nat.reduceBEq,Nat.reduceAdd,Nat.reduceLeDiff,reduceIte]<;>rfl)|rfl)|exact Nat.le_of_ble_eq_true rfl|decide|(repeat' first|(apply Lk.go;constructor)|assumption|exact nb ‹_› ‹_›|exact nt ‹_› ‹_›))|(intro b hb;repeat first|(refine fe hb ?_;intro _ _ hb)|(refine fT hb ?_;intro hb))|refine rt ?_|refine gA rfl ?_|refine gB rfl ?_|apply cT rfl|apply cF rfl|(apply DM.gbT;rfl)|(apply DM.gbF;rfl)|intro h
  rename Nat => b1
  refine AM.loopX (X := Nat) 0 (fun i => [(1, .ptr b1 0), (3, .int .i64 (i : Int))]) (fun i H' => H' = H.setB b1 27 p.cells ∧ i ≤ p.code.length ∧ p.code.all (fun x => decide (x.s.length ≤ 100)) = (p.code.drop i).all (fun x => decide (x.s.length ≤ 100))) (fun i => p.code.length - i) ⟨rfl, by omega, by simp⟩ ?_ ?_
  · (repeat first | exact envle_nil _ | (refine envle_cons ?_ ?_; · (simp only [go_sem, Nat.reduceBEq, Nat.reduceAdd]; exact AVLe.refl _)))
  rintro i H' ⟨rfl, hi, he⟩
  repeat' first|(apply Sp.go;·constructor<;>first|exact ss|(change _=_;first|(simp only[go_sem,Nat.reduceBEq,Nat.reduceAdd,Nat.reduceLeDiff,reduceIte]<;>rfl)|rfl)|exact Nat.le_of_ble_eq_true rfl|decide|(repeat' first|(apply Lk.go;constructor)|assumption|exact nb ‹_› ‹_›|exact nt ‹_› ‹_›))|(intro b hb;repeat first|(refine fe hb ?_;intro _ _ hb)|(refine fT hb ?_;intro hb))|refine rt ?_|refine gA rfl ?_|refine gB rfl ?_|apply cT rfl|apply cF rfl|(apply DM.gbT;rfl)|(apply DM.gbF;rfl)|intro h
  (apply AM.cond; (· rfl))
  · intro h3
    simp at h3
    obtain ⟨v, hv⟩ := some_of h3
    rw [drop_of hv] at he
    simp only [List.all_cons] at he
    repeat' first|(apply Sp.go;·constructor<;>first|exact ss|(change _=_;first|(simp only[go_sem,Nat.reduceBEq,Nat.reduceAdd,Nat.reduceLeDiff,reduceIte]<;>rfl)|rfl)|exact Nat.le_of_ble_eq_true rfl|decide|(repeat' first|(apply Lk.go;constructor)|assumption|exact nb ‹_› ‹_›|exact nt ‹_› ‹_›))|(intro b hb;repeat first|(refine fe hb ?_;intro _ _ hb)|(refine fT hb ?_;intro hb))|refine rt ?_|refine gA rfl ?_|refine gB rfl ?_|apply cT rfl|apply cF rfl|(apply DM.gbT;rfl)|(apply DM.gbF;rfl)|intro h
    (apply DM.ixV (row := v.row) (z := (i : Int)) (by omega) (row_get Ins_.row hv); (· rfl); (· rfl))
    repeat' first|(apply Sp.go;·constructor<;>first|exact ss|(change _=_;first|(simp only[go_sem,Nat.reduceBEq,Nat.reduceAdd,Nat.reduceLeDiff,reduceIte]<;>rfl)|rfl)|exact Nat.le_of_ble_eq_true rfl|decide|(repeat' first|(apply Lk.go;constructor)|assumption|exact nb ‹_› ‹_›|exact nt ‹_› ‹_›))|(intro b hb;repeat first|(refine fe hb ?_;intro _ _ hb)|(refine fT hb ?_;intro hb))|refine rt ?_|refine gA rfl ?_|refine gB rfl ?_|apply cT rfl|apply cF rfl|(apply DM.gbT;rfl)|(apply DM.gbF;rfl)|intro h
    (apply AM.cond; (· rfl))
    · intro h4
      simp at h4
      repeat' first|(apply Sp.go;·constructor<;>first|exact ss|(change _=_;first|(simp only[go_sem,Nat.reduceBEq,Nat.reduceAdd,Nat.reduceLeDiff,reduceIte]<;>rfl)|rfl)|exact Nat.le_of_ble_eq_true rfl|decide|(repeat' first|(apply Lk.go;constructor)|assumption|exact nb ‹_› ‹_›|exact nt ‹_› ‹_›))|(intro b hb;repeat first|(refine fe hb ?_;intro _ _ hb)|(refine fT hb ?_;intro hb))|refine rt ?_|refine gA rfl ?_|refine gB rfl ?_|apply cT rfl|apply cF rfl|(apply DM.gbT;rfl)|(apply DM.gbF;rfl)|intro h
      (apply Sr.go;·constructor<;>first|(apply Lk.go;constructor<;>first|exact ss|(change _=_;first|(simp only[go_sem,Nat.reduceBEq,Nat.reduceAdd,Nat.reduceLeDiff,reduceIte]<;>rfl)|rfl)|exact Nat.le_of_ble_eq_true rfl|decide|(repeat' first|(apply Lk.go;constructor)|assumption|exact nb ‹_› ‹_›|exact nt ‹_› ‹_›))|assumption)
      refine avle_eq ?_; rw [AV.bool.injEq, fewP, he]
      rw [show decide (v.s.length ≤ 100) = false by simp; omega]; simp
    · intro h4
      simp at h4
      rw [show decide (v.s.length ≤ 100) = true by simp; omega, Bool.true_and] at he
      repeat' first|(apply Sp.go;·constructor<;>first|exact ss|(change _=_;first|(simp only[go_sem,Nat.reduceBEq,Nat.reduceAdd,Nat.reduceLeDiff,reduceIte]<;>rfl)|rfl)|exact Nat.le_of_ble_eq_true rfl|decide|(repeat' first|(apply Lk.go;constructor)|assumption|exact nb ‹_› ‹_›|exact nt ‹_› ‹_›))|(intro b hb;repeat first|(refine fe hb ?_;intro _ _ hb)|(refine fT hb ?_;intro hb))|refine rt ?_|refine gA rfl ?_|refine gB rfl ?_|apply cT rfl|apply cF rfl|(apply DM.gbT;rfl)|(apply DM.gbF;rfl)|intro h
      refine AM.roundX (i + 1) ⟨rfl, by omega, he⟩ ?_ (show p.code.length - (i + 1) < p.code.length - i by omega)
      (repeat first | exact envle_nil _ | (refine envle_cons ?_ ?_; · (simp only [go_sem, Nat.reduceBEq, Nat.reduceAdd]; exact AVLe.refl _)))
      refine envle_cons ?_ ?_
      · simp only [go_sem, Nat.reduceBEq, Nat.reduceAdd]
        refine avle_int ?_
        rw [inc64 h3 ok.code]
      exact envle_nil _
  · intro h3
    simp at h3
    rw [List.drop_eq_nil_of_le (by omega)] at he
    have hc : p.code.all (fun x => decide (x.s.length ≤ 100)) = true := he
    clear he hi h3
    repeat' first|(apply Sp.go;·constructor<;>first|exact ss|(change _=_;first|(simp only[go_sem,Nat.reduceBEq,Nat.reduceAdd,Nat.reduceLeDiff,reduceIte]<;>rfl)|rfl)|exact Nat.le_of_ble_eq_true rfl|decide|(repeat' first|(apply Lk.go;constructor)|assumption|exact nb ‹_› ‹_›|exact nt ‹_› ‹_›))|(intro b hb;repeat first|(refine fe hb ?_;intro _ _ hb)|(refine fT hb ?_;intro hb))|refine rt ?_|refine gA rfl ?_|refine gB rfl ?_|apply cT rfl|apply cF rfl|(apply DM.gbT;rfl)|(apply DM.gbF;rfl)|intro h
    refine AM.loopX (X := Nat) 0 (fun i => [(1, .ptr b1 0), (4, .int .i64 (i : Int))]) (fun i H' => H' = H.setB b1 27 p.cells ∧ i ≤ p.vars.length ∧ p.vars.all (fun v => decide (v.name.length ≤ 100) && decide (v.init.s.length ≤ 100)) = (p.vars.drop i).all (fun v => decide (v.name.length ≤ 100) && decide (v.init.s.length ≤ 100))) (fun i => p.vars.length - i) ⟨rfl, by omega, by simp⟩ ?_ ?_
    · (repeat first | exact envle_nil _ | (refine envle_cons ?_ ?_; · (simp only [go_sem, Nat.reduceBEq, Nat.reduceAdd]; exact AVLe.refl _)))
    rintro i H' ⟨rfl, hi, he⟩
    repeat' first|(apply Sp.go;·constructor<;>first|exact ss|(change _=_;first|(simp only[go_sem,Nat.reduceBEq,Nat.reduceAdd,Nat.reduceLeDiff,reduceIte]<;>rfl)|rfl)|exact Nat.le_of_ble_eq_true rfl|decide|(repeat' first|(apply Lk.go;constructor)|assumption|exact nb ‹_› ‹_›|exact nt ‹_› ‹_›))|(intro b hb;repeat first|(refine fe hb ?_;intro _ _ hb)|(refine fT hb ?_;intro hb))|refine rt ?_|refine gA rfl ?_|refine gB rfl ?_|apply cT rfl|apply cF rfl|(apply DM.gbT;rfl)|(apply DM.gbF;rfl)|intro h
    (apply AM.cond; (· rfl))
    · intro h3
      simp at h3
      obtain ⟨v, hv⟩ := some_of h3
      rw [drop_of hv] at he
      simp only [List.all_cons] at he
      repeat' first|(apply Sp.go;·constructor<;>first|exact ss|(change _=_;first|(simp only[go_sem,Nat.reduceBEq,Nat.reduceAdd,Nat.reduceLeDiff,reduceIte]<;>rfl)|rfl)|exact Nat.le_of_ble_eq_true rfl|decide|(repeat' first|(apply Lk.go;constructor)|assumption|exact nb ‹_› ‹_›|exact nt ‹_› ‹_›))|(intro b hb;repeat first|(refine fe hb ?_;intro _ _ hb)|(refine fT hb ?_;intro hb))|refine rt ?_|refine gA rfl ?_|refine gB rfl ?_|apply cT rfl|apply cF rfl|(apply DM.gbT;rfl)|(apply DM.gbF;rfl)|intro h
      (apply DM.ixV (row := v.row) (z := (i : Int)) (by omega) (row_get Var_.row hv); (· rfl); (· rfl))
      repeat' first|(apply Sp.go;·constructor<;>first|exact ss|(change _=_;first|(simp only[go_sem,Nat.reduceBEq,Nat.reduceAdd,Nat.reduceLeDiff,reduceIte]<;>rfl)|rfl)|exact Nat.le_of_ble_eq_true rfl|decide|(repeat' first|(apply Lk.go;constructor)|assumption|exact nb ‹_› ‹_›|exact nt ‹_› ‹_›))|(intro b hb;repeat first|(refine fe hb ?_;intro _ _ hb)|(refine fT hb ?_;intro hb))|refine rt ?_|refine gA rfl ?_|refine gB rfl ?_|apply cT rfl|apply cF rfl|(apply DM.gbT;rfl)|(apply DM.gbF;rfl)|intro h
      · (apply DM.ixV (row := v.row) (z := (i : Int)) (by omega) (row_get Var_.row hv); (· rfl); (· rfl))
        repeat' first|(apply Sp.go;·constructor<;>first|exact ss|(change _=_;first|(simp only[go_sem,Nat.reduceBEq,Nat.reduceAdd,Nat.reduceLeDiff,reduceIte]<;>rfl)|rfl)|exact Nat.le_of_ble_eq_true rfl|decide|(repeat' first|(apply Lk.go;constructor)|assumption|exact nb ‹_› ‹_›|exact nt ‹_› ‹_›))|(intro b hb;repeat first|(refine fe hb ?_;intro _ _ hb)|(refine fT hb ?_;intro hb))|refine rt ?_|refine gA rfl ?_|refine gB rfl ?_|apply cT rfl|apply cF rfl|(apply DM.gbT;rfl)|(apply DM.gbF;rfl)|intro h
        (apply AM.cond; (· rfl))
        · intro h4
          repeat' first|(apply Sp.go;·constructor<;>first|exact ss|(change _=_;first|(simp only[go_sem,Nat.reduceBEq,Nat.reduceAdd,Nat.reduceLeDiff,reduceIte]<;>rfl)|rfl)|exact Nat.le_of_ble_eq_true rfl|decide|(repeat' first|(apply Lk.go;constructor)|assumption|exact nb ‹_› ‹_›|exact nt ‹_› ‹_›))|(intro b hb;repeat first|(refine fe hb ?_;intro _ _ hb)|(refine fT hb ?_;intro hb))|refine rt ?_|refine gA rfl ?_|refine gB rfl ?_|apply cT rfl|apply cF rfl|(apply DM.gbT;rfl)|(apply DM.gbF;rfl)|intro h
          (apply Sr.go;·constructor<;>first|(apply Lk.go;constructor<;>first|exact ss|(change _=_;first|(simp only[go_sem,Nat.reduceBEq,Nat.reduceAdd,Nat.reduceLeDiff,reduceIte]<;>rfl)|rfl)|exact Nat.le_of_ble_eq_true rfl|decide|(repeat' first|(apply Lk.go;constructor)|assumption|exact nb ‹_› ‹_›|exact nt ‹_› ‹_›))|assumption)
          refine avle_eq ?_; rw [AV.bool.injEq, fewP, he]
          simp at h h4
          rw [show decide (v.init.s.length ≤ 100) = false by simp; omega]; simp
        · intro h4
          simp at h h4
          rw [show decide (v.init.s.length ≤ 100) = true by simp; omega, show decide (v.name.length ≤ 100) = true by simp; omega, Bool.true_and, Bool.true_and] at he
          repeat' first|(apply Sp.go;·constructor<;>first|exact ss|(change _=_;first|(simp only[go_sem,Nat.reduceBEq,Nat.reduceAdd,Nat.reduceLeDiff,reduceIte]<;>rfl)|rfl)|exact Nat.le_of_ble_eq_true rfl|decide|(repeat' first|(apply Lk.go;constructor)|assumption|exact nb ‹_› ‹_›|exact nt ‹_› ‹_›))|(intro b hb;repeat first|(refine fe hb ?_;intro _ _ hb)|(refine fT hb ?_;intro hb))|refine rt ?_|refine gA rfl ?_|refine gB rfl ?_|apply cT rfl|apply cF rfl|(apply DM.gbT;rfl)|(apply DM.gbF;rfl)|intro h
          refine AM.roundX (i + 1) ⟨rfl, by omega, he⟩ ?_ (show p.vars.length - (i + 1) < p.vars.length - i by omega)
          (repeat first | exact envle_nil _ | (refine envle_cons ?_ ?_; · (simp only [go_sem, Nat.reduceBEq, Nat.reduceAdd]; exact AVLe.refl _)))
          refine envle_cons ?_ ?_
          · simp only [go_sem, Nat.reduceBEq, Nat.reduceAdd]
            refine avle_int ?_
            rw [inc64 h3 ok.vars]
          exact envle_nil _
      · (apply Sr.go;·constructor<;>first|(apply Lk.go;constructor<;>first|exact ss|(change _=_;first|(simp only[go_sem,Nat.reduceBEq,Nat.reduceAdd,Nat.reduceLeDiff,reduceIte]<;>rfl)|rfl)|exact Nat.le_of_ble_eq_true rfl|decide|(repeat' first|(apply Lk.go;constructor)|assumption|exact nb ‹_› ‹_›|exact nt ‹_› ‹_›))|assumption)
        refine avle_eq ?_; rw [AV.bool.injEq, fewP, he]
        simp at h
        rw [show decide (v.name.length ≤ 100) = false by simp; omega]; simp
    · intro h3
      simp at h3
      rw [List.drop_eq_nil_of_le (by omega)] at he
      have hv : p.vars.all (fun v => decide (v.name.length ≤ 100) && decide (v.init.s.length ≤ 100)) = true := he
      repeat' first|(apply Sp.go;·constructor<;>first|exact ss|(change _=_;first|(simp only[go_sem,Nat.reduceBEq,Nat.reduceAdd,Nat.reduceLeDiff,reduceIte]<;>rfl)|rfl)|exact Nat.le_of_ble_eq_true rfl|decide|(repeat' first|(apply Lk.go;constructor)|assumption|exact nb ‹_› ‹_›|exact nt ‹_› ‹_›))|(intro b hb;repeat first|(refine fe hb ?_;intro _ _ hb)|(refine fT hb ?_;intro hb))|refine rt ?_|refine gA rfl ?_|refine gB rfl ?_|apply cT rfl|apply cF rfl|(apply DM.gbT;rfl)|(apply DM.gbF;rfl)|intro h
      all_goals ((apply Sr.go;·constructor<;>first|(apply Lk.go;constructor<;>first|exact ss|(change _=_;first|(simp only[go_sem,Nat.reduceBEq,Nat.reduceAdd,Nat.reduceLeDiff,reduceIte]<;>rfl)|rfl)|exact Nat.le_of_ble_eq_true rfl|decide|(repeat' first|(apply Lk.go;constructor)|assumption|exact nb ‹_› ‹_›|exact nt ‹_› ‹_›))|assumption))
      all_goals (refine avle_eq ?_; rw [AV.bool.injEq, fewP, hc, hv, Bool.eq_iff_iff]; simp at *; omega)
structure Dst (ta tb tc td : Nat) : Prop where
  ba : tb ≠ ta
  ca : tc ≠ ta
  cb : tc ≠ tb
  da : td ≠ ta
  db : td ≠ tb
  dc : td ≠ tc
def HO (G : AHeap) (b ta tb tc td : Nat) (nm : List UInt8) (rl : Int) (A B C D : List (List AV)) (va vb vc vd : Nat) : AHeap :=
  ⟨fun q => if q = b then some (41, [.str nm, .int .i64 rl, .ms ta va, .ms tb vb, .ms tc vc, .ms td vd]) else G.blk q,
   fun q => if q = ta then some (.mu 87 7 va A) else if q = tb then some (.mu 128 3 vb B) else if q = tc then some (.mu 117 4 vc C) else if q = td then some (.mu 88 3 vd D) else G.tok q⟩
section
variable {G : AHeap} {b ta tb tc td : Nat} {nm : List UInt8} {rl : Int} {A B C D : List (List AV)} {va vb vc vd : Nat}
theorem ho_blk : (HO G b ta tb tc td nm rl A B C D va vb vc vd).blk b = some (41, [.str nm, .int .i64 rl, .ms ta va, .ms tb vb, .ms tc vc, .ms td vd]) := by simp [HO]
theorem ho_look {x : Nat} {y : Option (TypeId × List AV)} (hx : x ≠ b) (h : G.blk x = y) : (HO G b ta tb tc td nm rl A B C D va vb vc vd).blk x = y := by simp [HO, hx, h]
theorem ho_ta : (HO G b ta tb tc td nm rl A B C D va vb vc vd).tok ta = some (.mu 87 7 va A) := by simp [HO]
theorem ho_tb (d : Dst ta tb tc td) : (HO G b ta tb tc td nm rl A B C D va vb vc vd).tok tb = some (.mu 128 3 vb B) := by simp [HO, d.ba]
theorem ho_tc (d : Dst ta tb tc td) : (HO G b ta tb tc td nm rl A B C D va vb vc vd).tok tc = some (.mu 117 4 vc C) := by simp [HO, d.ca, d.cb]
theorem ho_td (d : Dst ta tb tc td) : (HO G b ta tb tc td nm rl A B C D va vb vc vd).tok td = some (.mu 88 3 vd D) := by simp [HO, d.da, d.db, d.dc]
theorem ho_sub {H : AHeap} (h : HSub H G) (hb : H.blk b = none) (ha : H.tok ta = none) (hb' : H.tok tb = none) (hc : H.tok tc = none) (hd : H.tok td = none) : HSub H (HO G b ta tb tc td nm rl A B C D va vb vc vd) where
  blk := fun x y hx => by
    have e : x ≠ b := fun e => by subst e; rw [hb] at hx; cases hx
    simp only [HO, if_neg e]; exact h.blk x y hx
  tok := fun x y hx => by
    have e1 : x ≠ ta := fun e => by subst e; rw [ha] at hx; cases hx
    have e2 : x ≠ tb := fun e => by subst e; rw [hb'] at hx; cases hx
    have e3 : x ≠ tc := fun e => by subst e; rw [hc] at hx; cases hx
    have e4 : x ≠ td := fun e => by subst e; rw [hd] at hx; cases hx
    simp only [HO, if_neg e1, if_neg e2, if_neg e3, if_neg e4]; exact h.tok x y hx
theorem ho_set_a (d : Dst ta tb tc td) {R : List (List AV)} : ((HO G b ta tb tc td nm rl A B C D va vb vc vd).setT ta (.mu 87 7 (va + 1) R)).setB b 41 [.str nm, .int .i64 rl, .ms ta (va + 1), .ms tb vb, .ms tc vc, .ms td vd] = HO G b ta tb tc td nm rl R B C D (va + 1) vb vc vd := by
  have h1 := d.ba; have h2 := d.ca; have h3 := d.cb; have h4 := d.da; have h5 := d.db; have h6 := d.dc
  simp only [HO, AHeap.setT, AHeap.setB, AHeap.mk.injEq]
  refine ⟨?_, ?_⟩
  · funext q
    by_cases e : q = b <;> simp [e]
  · funext q
    by_cases e : q = ta
    · subst e; simp [*]
    · simp [e]
theorem ho_set_b (d : Dst ta tb tc td) {R : List (List AV)} : ((HO G b ta tb tc td nm rl A B C D va vb vc vd).setT tb (.mu 128 3 (vb + 1) R)).setB b 41 [.str nm, .int .i64 rl, .ms ta va, .ms tb (vb + 1), .ms tc vc, .ms td vd] = HO G b ta tb tc td nm rl A R C D va (vb + 1) vc vd := by
  have h1 := d.ba; have h2 := d.ca; have h3 := d.cb; have h4 := d.da; have h5 := d.db; have h6 := d.dc
  simp only [HO, AHeap.setT, AHeap.setB, AHeap.mk.injEq]
  refine ⟨?_, ?_⟩
  · funext q
    by_cases e : q = b <;> simp [e]
  · funext q
    by_cases e : q = tb
    · subst e; simp [*]
    · simp [e]
theorem ho_set_c (d : Dst ta tb tc td) {R : List (List AV)} : ((HO G b ta tb tc td nm rl A B C D va vb vc vd).setT tc (.mu 117 4 (vc + 1) R)).setB b 41 [.str nm, .int .i64 rl, .ms ta va, .ms tb vb, .ms tc (vc + 1), .ms td vd] = HO G b ta tb tc td nm rl A B R D va vb (vc + 1) vd := by
  have h1 := d.ba; have h2 := d.ca; have h3 := d.cb; have h4 := d.da; have h5 := d.db; have h6 := d.dc
  simp only [HO, AHeap.setT, AHeap.setB, AHeap.mk.injEq]
  refine ⟨?_, ?_⟩
  · funext q
    by_cases e : q = b <;> simp [e]
  · funext q
    by_cases e : q = tc
    · subst e; simp [*]
    · simp [e]
theorem ho_set_d (d : Dst ta tb tc td) {R : List (List AV)} : ((HO G b ta tb tc td nm rl A B C D va vb vc vd).setT td (.mu 88 3 (vd + 1) R)).setB b 41 [.str nm, .int .i64 rl, .ms ta va, .ms tb vb, .ms tc vc, .ms td (vd + 1)] = HO G b ta tb tc td nm rl A B C R va vb vc (vd + 1) := by
  have h1 := d.ba; have h2 := d.ca; have h3 := d.cb; have h4 := d.da; have h5 := d.db; have h6 := d.dc
  simp only [HO, AHeap.setT, AHeap.setB, AHeap.mk.injEq]
  refine ⟨?_, ?_⟩
  · funext q
    by_cases e : q = b <;> simp [e]
  · funext q
    by_cases e : q = td
    · subst e; simp [*]
    · simp [e]
end
theorem take_succ_map {α β : Type} (f : α → β) {l : List α} {i : Nat} {v : α} (h : l[i]? = some v) : (l.take i).map f ++ [f v] = (l.take (i + 1)).map f := by
  rw [List.take_add_one, h]; simp
theorem p18 (p : Prog) (hl : p.vars.length ≤ 1000 ∧ p.hs.length ≤ 1000 ∧ p.os.length ≤ 1000 ∧ p.code.length ≤ 1000) : Pure Try.prog 18 [p.av] p.av := by
  refine pure_introF mo Try.func18 c18 fun H => ?_
  unfold e18 r18
  simp only [initEnv, initFrom]
  repeat' first|(apply Sp.go;·constructor<;>first|exact ss|(change _=_;first|(simp only[go_sem,Nat.reduceBEq,Nat.reduceAdd,Nat.reduceLeDiff,reduceIte]<;>rfl)|rfl)|exact Nat.le_of_ble_eq_true rfl|decide|(repeat' first|(apply Lk.go;constructor)|assumption|exact nb ‹_› ‹_›|exact nt ‹_› ‹_›))|(intro b hb;repeat first|(refine fe hb ?_;intro _ _ hb)|(refine fT hb ?_;intro hb))|refine rt ?_|refine gA rfl ?_|refine gB rfl ?_|apply cT rfl|apply cF rfl|(apply DM.gbT;rfl)|(apply DM.gbF;rfl)|intro h
  rename_i b1 h1 b2 h2 n1 n2 h3 h4 n3 n4 h5 n5 n6
  rename Nat => b
  have hG : ∃ G : AHeap, HSub H G ∧ G.blk b = none ∧ G.blk b1 = some (27, p.cells) ∧ (G.blk b2 = some (41, [.str [], .int .i64 0, .nilS, .nilS, .nilS, .nilS])) ∧ G = (H.setB b1 27 p.cells).setB b2 41 [.str [], .int .i64 0, .nilS, .nilS, .nilS, .nilS] := ⟨_, HSub.setB (HSub.setB (HSub.refl _) h1) h3, by assumption, g_ne n2 g_same, g_same, rfl⟩
  obtain ⟨G, hGs, hGb, hG1, hG2, hGe⟩ := hG
  have hHb : H.blk b = none := by assumption
  have e1 : b1 ≠ b := (ne_blk hGb hG1).2
  have e2 : b2 ≠ b := (ne_blk hGb hG2).2
  refine AM.eqH (H2 := G.setB b 41 [.str p.name, .int .i64 p.role, .nilS, .nilS, .nilS, .nilS]) (by rw [hGe]) ?_
  apply AM.ghostB b 2 87 7 (by decide) g_same rfl
  intro ta hta
  apply AM.ghostB b 3 128 3 (by decide) g_same rfl
  intro tb htb
  apply AM.ghostB b 4 117 4 (by decide) g_same rfl
  intro tc htc
  apply AM.ghostB b 5 88 3 (by decide) g_same rfl
  intro td htd
  have ha0 : G.tok ta = none := freshT_setB hta
  obtain ⟨nba, _, htb⟩ := freshT_setT (freshT_setB htb)
  have hb0 : G.tok tb = none := freshT_setB htb
  obtain ⟨ncb, _, htc⟩ := freshT_setT (freshT_setB htc)
  obtain ⟨nca, _, htc⟩ := freshT_setT (freshT_setB htc)
  have hc0 : G.tok tc = none := freshT_setB htc
  obtain ⟨ndc, _, htd⟩ := freshT_setT (freshT_setB htd)
  obtain ⟨ndb, _, htd⟩ := freshT_setT (freshT_setB htd)
  obtain ⟨nda, _, htd⟩ := freshT_setT (freshT_setB htd)
  have hd0 : G.tok td = none := freshT_setB htd
  have d : Dst ta tb tc td := ⟨nba, nca, ncb, nda, ndb, ndc⟩
  have fa := hGs.none_tok ha0; have fb := hGs.none_tok hb0; have fc := hGs.none_tok hc0; have fd := hGs.none_tok hd0
  have hsubO : ∀ A B C D va vb vc vd c, HSub H ((HO G b ta tb tc td p.name p.role A B C D va vb vc vd).setB b2 41 c) := fun A B C D va vb vc vd c => HSub.setB (ho_sub hGs hHb fa fb fc fd) h3
  refine AM.eqH (H2 := HO G b ta tb tc td p.name p.role [] [] [] [] 0 0 0 0) ?_ ?_
  · have q1 := d.ba; have q2 := d.ca; have q3 := d.cb; have q4 := d.da; have q5 := d.db; have q6 := d.dc
    simp only [HO, AHeap.setT, AHeap.setB, AHeap.mk.injEq]
    refine ⟨?_, ?_⟩
    · funext q
      by_cases e : q = b <;> simp [e]
    · funext q
      by_cases e3 : q = ta
      · subst e3; simp [*, Ne.symm q1, Ne.symm q2, Ne.symm q4]
      · by_cases e4 : q = tb
        · subst e4; simp [*, Ne.symm q3, Ne.symm q5]
        · by_cases e5 : q = tc
          · subst e5; simp [*, Ne.symm q6]
          · simp [*]
  clear hGe hta htb htc htd
  refine AM.loopX (X := Nat) 0 (fun i => [(1, .ptr b1 0), (2, .ptr b2 0), (3, .ptr b 0), (4, .int .i64 (i : Int))]) (fun i H' => H' = HO G b ta tb tc td p.name p.role ((p.vars.take i).map Var_.row) [] [] [] i 0 0 0 ∧ i ≤ p.vars.length) (fun i => p.vars.length - i) ⟨rfl, Nat.zero_le _⟩ ?_ ?_
  · (repeat first | exact envle_nil _ | (refine envle_cons ?_ ?_; · (simp only [go_sem, Nat.reduceBEq, Nat.reduceAdd]; exact AVLe.refl _)))
  rintro i H' ⟨rfl, hi⟩
  repeat' first|(apply Sp.go;·constructor<;>first|exact ss|(change _=_;first|(simp only[go_sem,Nat.reduceBEq,Nat.reduceAdd,Nat.reduceLeDiff,reduceIte]<;>rfl)|rfl)|exact Nat.le_of_ble_eq_true rfl|decide|(repeat' first|(apply Lk.go;constructor)|assumption|exact nb ‹_› ‹_›|exact nt ‹_› ‹_›| refine ho_look ‹_› ?_ | exact ho_blk | exact ho_ta | exact ho_tb ‹_› | exact ho_tc ‹_› | exact ho_td ‹_›))|(intro b hb;repeat first|(refine fe hb ?_;intro _ _ hb)|(refine fT hb ?_;intro hb))|refine rt ?_|refine gA rfl ?_|refine gB rfl ?_|apply cT rfl|apply cF rfl|(apply DM.gbT;rfl)|(apply DM.gbF;rfl)|intro h
  (apply AM.cond; (· rfl))
  · intro hlt
    simp at hlt
    obtain ⟨v, hv⟩ := some_of hlt
    repeat' first|(apply Sp.go;·constructor<;>first|exact ss|(change _=_;first|(simp only[go_sem,Nat.reduceBEq,Nat.reduceAdd,Nat.reduceLeDiff,reduceIte]<;>rfl)|rfl)|exact Nat.le_of_ble_eq_true rfl|decide|(repeat' first|(apply Lk.go;constructor)|assumption|exact nb ‹_› ‹_›|exact nt ‹_› ‹_›| refine ho_look ‹_› ?_ | exact ho_blk | exact ho_ta | exact ho_tb ‹_› | exact ho_tc ‹_› | exact ho_td ‹_›))|(intro b hb;repeat first|(refine fe hb ?_;intro _ _ hb)|(refine fT hb ?_;intro hb))|refine rt ?_|refine gA rfl ?_|refine gB rfl ?_|apply cT rfl|apply cF rfl|(apply DM.gbT;rfl)|(apply DM.gbF;rfl)|intro h
    (apply DM.ixV (row := v.row) (z := (i : Int)) (by omega) (row_get Var_.row hv); (· rfl); (· rfl))
    repeat' first|(apply Sp.go;·constructor<;>first|exact ss|(change _=_;first|(simp only[go_sem,Nat.reduceBEq,Nat.reduceAdd,Nat.reduceLeDiff,reduceIte]<;>rfl)|rfl)|exact Nat.le_of_ble_eq_true rfl|decide|(repeat' first|(apply Lk.go;constructor)|assumption|exact nb ‹_› ‹_›|exact nt ‹_› ‹_›| refine ho_look ‹_› ?_ | exact ho_blk | exact ho_ta | exact ho_tb ‹_› | exact ho_tc ‹_› | exact ho_td ‹_›))|(intro b hb;repeat first|(refine fe hb ?_;intro _ _ hb)|(refine fT hb ?_;intro hb))|refine rt ?_|refine gA rfl ?_|refine gB rfl ?_|apply cT rfl|apply cF rfl|(apply DM.gbT;rfl)|(apply DM.gbF;rfl)|intro h
    (apply DM.apM; (· rfl); (· repeat' first|(apply Lk.go;constructor)|assumption|exact nb ‹_› ‹_›|exact nt ‹_› ‹_›| refine ho_look ‹_› ?_ | exact ho_blk | exact ho_ta | exact ho_tb ‹_› | exact ho_tc ‹_› | exact ho_td ‹_›); (· simp only [rowsOf, if_true, eq_self, go_sem, Nat.reduceBEq, reduceIte] <;> rfl); (· (simp only [List.length_map, List.length_cons, List.length_nil, List.length_take, maxLen]; omega)); (· (simp only [List.length_map, List.length_cons, List.length_nil, List.length_take, maxLen]; omega)))
    rw [show (p.vars.take i).map Var_.row ++ [v.row] = (p.vars.take (i + 1)).map Var_.row from take_succ_map Var_.row hv]
    repeat' first|(apply Sp.go;·constructor<;>first|exact ss|(change _=_;first|(simp only[go_sem,Nat.reduceBEq,Nat.reduceAdd,Nat.reduceLeDiff,reduceIte]<;>rfl)|rfl)|exact Nat.le_of_ble_eq_true rfl|decide|(repeat' first|(apply Lk.go;constructor)|assumption|exact nb ‹_› ‹_›|exact nt ‹_› ‹_›| refine ho_look ‹_› ?_ | exact ho_blk | exact ho_ta | exact ho_tb ‹_› | exact ho_tc ‹_› | exact ho_td ‹_›))|(intro b hb;repeat first|(refine fe hb ?_;intro _ _ hb)|(refine fT hb ?_;intro hb))|refine rt ?_|refine gA rfl ?_|refine gB rfl ?_|apply cT rfl|apply cF rfl|(apply DM.gbT;rfl)|(apply DM.gbF;rfl)|intro h
    refine AM.eqH (ho_set_a d) ?_
    refine AM.roundX (i + 1) ⟨rfl, by omega⟩ ?_ (show p.vars.length - (i + 1) < p.vars.length - i by omega)
    (repeat first | exact envle_nil _ | (refine envle_cons ?_ ?_; · (simp only [go_sem, Nat.reduceBEq, Nat.reduceAdd]; exact AVLe.refl _)))
    refine envle_cons ?_ ?_
    · simp only [go_sem, Nat.reduceBEq, Nat.reduceAdd]
      refine avle_int ?_
      rw [inc64 hlt (show p.vars.length ≤ maxLen by unfold maxLen; omega)]
    exact envle_nil _
  intro hlt
  simp at hlt
  have hi0 : i = p.vars.length := by omega
  subst hi0
  rw [List.take_length]
  clear hi hlt
  repeat' first|(apply Sp.go;·constructor<;>first|exact ss|(change _=_;first|(simp only[go_sem,Nat.reduceBEq,Nat.reduceAdd,Nat.reduceLeDiff,reduceIte]<;>rfl)|rfl)|exact Nat.le_of_ble_eq_true rfl|decide|(repeat' first|(apply Lk.go;constructor)|assumption|exact nb ‹_› ‹_›|exact nt ‹_› ‹_›| refine ho_look ‹_› ?_ | exact ho_blk | exact ho_ta | exact ho_tb ‹_› | exact ho_tc ‹_› | exact ho_td ‹_›))|(intro b hb;repeat first|(refine fe hb ?_;intro _ _ hb)|(refine fT hb ?_;intro hb))|refine rt ?_|refine gA rfl ?_|refine gB rfl ?_|apply cT rfl|apply cF rfl|(apply DM.gbT;rfl)|(apply DM.gbF;rfl)|intro h
  refine AM.loopX (X := Nat) 0 (fun i => [(1, .ptr b1 0), (2, .ptr b2 0), (3, .ptr b 0), (5, .int .i64 (i : Int))]) (fun i H' => H' = HO G b ta tb tc td p.name p.role (p.vars.map Var_.row) ((p.hs.take i).map Hd.row) [] [] p.vars.length i 0 0 ∧ i ≤ p.hs.length) (fun i => p.hs.length - i) ⟨rfl, Nat.zero_le _⟩ ?_ ?_
  · (repeat first | exact envle_nil _ | (refine envle_cons ?_ ?_; · (simp only [go_sem, Nat.reduceBEq, Nat.reduceAdd]; exact AVLe.refl _)))
  rintro i H' ⟨rfl, hi⟩
  repeat' first|(apply Sp.go;·constructor<;>first|exact ss|(change _=_;first|(simp only[go_sem,Nat.reduceBEq,Nat.reduceAdd,Nat.reduceLeDiff,reduceIte]<;>rfl)|rfl)|exact Nat.le_of_ble_eq_true rfl|decide|(repeat' first|(apply Lk.go;constructor)|assumption|exact nb ‹_› ‹_›|exact nt ‹_› ‹_›| refine ho_look ‹_› ?_ | exact ho_blk | exact ho_ta | exact ho_tb ‹_› | exact ho_tc ‹_› | exact ho_td ‹_›))|(intro b hb;repeat first|(refine fe hb ?_;intro _ _ hb)|(refine fT hb ?_;intro hb))|refine rt ?_|refine gA rfl ?_|refine gB rfl ?_|apply cT rfl|apply cF rfl|(apply DM.gbT;rfl)|(apply DM.gbF;rfl)|intro h
  (apply AM.cond; (· rfl))
  · intro hlt
    simp at hlt
    obtain ⟨v, hv⟩ := some_of hlt
    repeat' first|(apply Sp.go;·constructor<;>first|exact ss|(change _=_;first|(simp only[go_sem,Nat.reduceBEq,Nat.reduceAdd,Nat.reduceLeDiff,reduceIte]<;>rfl)|rfl)|exact Nat.le_of_ble_eq_true rfl|decide|(repeat' first|(apply Lk.go;constructor)|assumption|exact nb ‹_› ‹_›|exact nt ‹_› ‹_›| refine ho_look ‹_› ?_ | exact ho_blk | exact ho_ta | exact ho_tb ‹_› | exact ho_tc ‹_› | exact ho_td ‹_›))|(intro b hb;repeat first|(refine fe hb ?_;intro _ _ hb)|(refine fT hb ?_;intro hb))|refine rt ?_|refine gA rfl ?_|refine gB rfl ?_|apply cT rfl|apply cF rfl|(apply DM.gbT;rfl)|(apply DM.gbF;rfl)|intro h
    (apply DM.ixV (row := v.row) (z := (i : Int)) (by omega) (row_get Hd.row hv); (· rfl); (· rfl))
    repeat' first|(apply Sp.go;·constructor<;>first|exact ss|(change _=_;first|(simp only[go_sem,Nat.reduceBEq,Nat.reduceAdd,Nat.reduceLeDiff,reduceIte]<;>rfl)|rfl)|exact Nat.le_of_ble_eq_true rfl|decide|(repeat' first|(apply Lk.go;constructor)|assumption|exact nb ‹_› ‹_›|exact nt ‹_› ‹_›| refine ho_look ‹_› ?_ | exact ho_blk | exact ho_ta | exact ho_tb ‹_› | exact ho_tc ‹_› | exact ho_td ‹_›))|(intro b hb;repeat first|(refine fe hb ?_;intro _ _ hb)|(refine fT hb ?_;intro hb))|refine rt ?_|refine gA rfl ?_|refine gB rfl ?_|apply cT rfl|apply cF rfl|(apply DM.gbT;rfl)|(apply DM.gbF;rfl)|intro h
    (apply DM.apM; (· rfl); (· repeat' first|(apply Lk.go;constructor)|assumption|exact nb ‹_› ‹_›|exact nt ‹_› ‹_›| refine ho_look ‹_› ?_ | exact ho_blk | exact ho_ta | exact ho_tb ‹_› | exact ho_tc ‹_› | exact ho_td ‹_›); (· simp only [rowsOf, if_true, eq_self, go_sem, Nat.reduceBEq, reduceIte] <;> rfl); (· (simp only [List.length_map, List.length_cons, List.length_nil, List.length_take, maxLen]; omega)); (· (simp only [List.length_map, List.length_cons, List.length_nil, List.length_take, maxLen]; omega)))
    rw [show (p.hs.take i).map Hd.row ++ [v.row] = (p.hs.take (i + 1)).map Hd.row from take_succ_map Hd.row hv]
    repeat' first|(apply Sp.go;·constructor<;>first|exact ss|(change _=_;first|(simp only[go_sem,Nat.reduceBEq,Nat.reduceAdd,Nat.reduceLeDiff,reduceIte]<;>rfl)|rfl)|exact Nat.le_of_ble_eq_true rfl|decide|(repeat' first|(apply Lk.go;constructor)|assumption|exact nb ‹_› ‹_›|exact nt ‹_› ‹_›| refine ho_look ‹_› ?_ | exact ho_blk | exact ho_ta | exact ho_tb ‹_› | exact ho_tc ‹_› | exact ho_td ‹_›))|(intro b hb;repeat first|(refine fe hb ?_;intro _ _ hb)|(refine fT hb ?_;intro hb))|refine rt ?_|refine gA rfl ?_|refine gB rfl ?_|apply cT rfl|apply cF rfl|(apply DM.gbT;rfl)|(apply DM.gbF;rfl)|intro h
    refine AM.eqH (ho_set_b d) ?_
    refine AM.roundX (i + 1) ⟨rfl, by omega⟩ ?_ (show p.hs.length - (i + 1) < p.hs.length - i by omega)
    (repeat first | exact envle_nil _ | (refine envle_cons ?_ ?_; · (simp only [go_sem, Nat.reduceBEq, Nat.reduceAdd]; exact AVLe.refl _)))
    refine envle_cons ?_ ?_
    · simp only [go_sem, Nat.reduceBEq, Nat.reduceAdd]
      refine avle_int ?_
      rw [inc64 hlt (show p.hs.length ≤ maxLen by unfold maxLen; omega)]
    exact envle_nil _
  intro hlt
  simp at hlt
  have hi1 : i = p.hs.length := by omega
  subst hi1
  rw [List.take_length]
  clear hi hlt
  repeat' first|(apply Sp.go;·constructor<;>first|exact ss|(change _=_;first|(simp only[go_sem,Nat.reduceBEq,Nat.reduceAdd,Nat.reduceLeDiff,reduceIte]<;>rfl)|rfl)|exact Nat.le_of_ble_eq_true rfl|decide|(repeat' first|(apply Lk.go;constructor)|assumption|exact nb ‹_› ‹_›|exact nt ‹_› ‹_›| refine ho_look ‹_› ?_ | exact ho_blk | exact ho_ta | exact ho_tb ‹_› | exact ho_tc ‹_› | exact ho_td ‹_›))|(intro b hb;repeat first|(refine fe hb ?_;intro _ _ hb)|(refine fT hb ?_;intro hb))|refine rt ?_|refine gA rfl ?_|refine gB rfl ?_|apply cT rfl|apply cF rfl|(apply DM.gbT;rfl)|(apply DM.gbF;rfl)|intro h
  refine AM.loopX (X := Nat) 0 (fun i => [(1, .ptr b1 0), (2, .ptr b2 0), (3, .ptr b 0), (6, .int .i64 (i : Int))]) (fun i H' => H' = HO G b ta tb tc td p.name p.role (p.vars.map Var_.row) (p.hs.map Hd.row) ((p.os.take i).map Of_.row) [] p.vars.length p.hs.length i 0 ∧ i ≤ p.os.length) (fun i => p.os.length - i) ⟨rfl, Nat.zero_le _⟩ ?_ ?_
  · (repeat first | exact envle_nil _ | (refine envle_cons ?_ ?_; · (simp only [go_sem, Nat.reduceBEq, Nat.reduceAdd]; exact AVLe.refl _)))
  rintro i H' ⟨rfl, hi⟩
  repeat' first|(apply Sp.go;·constructor<;>first|exact ss|(change _=_;first|(simp only[go_sem,Nat.reduceBEq,Nat.reduceAdd,Nat.reduceLeDiff,reduceIte]<;>rfl)|rfl)|exact Nat.le_of_ble_eq_true rfl|decide|(repeat' first|(apply Lk.go;constructor)|assumption|exact nb ‹_› ‹_›|exact nt ‹_› ‹_›| refine ho_look ‹_› ?_ | exact ho_blk | exact ho_ta | exact ho_tb ‹_› | exact ho_tc ‹_› | exact ho_td ‹_›))|(intro b hb;repeat first|(refine fe hb ?_;intro _ _ hb)|(refine fT hb ?_;intro hb))|refine rt ?_|refine gA rfl ?_|refine gB rfl ?_|apply cT rfl|apply cF rfl|(apply DM.gbT;rfl)|(apply DM.gbF;rfl)|intro h
  (apply AM.cond; (· rfl))
  · intro hlt
    simp at hlt
    obtain ⟨v, hv⟩ := some_of hlt
    repeat' first|(apply Sp.go;·constructor<;>first|exact ss|(change _=_;first|(simp only[go_sem,Nat.reduceBEq,Nat.reduceAdd,Nat.reduceLeDiff,reduceIte]<;>rfl)|rfl)|exact Nat.le_of_ble_eq_true rfl|decide|(repeat' first|(apply Lk.go;constructor)|assumption|exact nb ‹_› ‹_›|exact nt ‹_› ‹_›| refine ho_look ‹_› ?_ | exact ho_blk | exact ho_ta | exact ho_tb ‹_› | exact ho_tc ‹_› | exact ho_td ‹_›))|(intro b hb;repeat first|(refine fe hb ?_;intro _ _ hb)|(refine fT hb ?_;intro hb))|refine rt ?_|refine gA rfl ?_|refine gB rfl ?_|apply cT rfl|apply cF rfl|(apply DM.gbT;rfl)|(apply DM.gbF;rfl)|intro h
    (apply DM.ixV (row := v.row) (z := (i : Int)) (by omega) (row_get Of_.row hv); (· rfl); (· rfl))
    repeat' first|(apply Sp.go;·constructor<;>first|exact ss|(change _=_;first|(simp only[go_sem,Nat.reduceBEq,Nat.reduceAdd,Nat.reduceLeDiff,reduceIte]<;>rfl)|rfl)|exact Nat.le_of_ble_eq_true rfl|decide|(repeat' first|(apply Lk.go;constructor)|assumption|exact nb ‹_› ‹_›|exact nt ‹_› ‹_›| refine ho_look ‹_› ?_ | exact ho_blk | exact ho_ta | exact ho_tb ‹_› | exact ho_tc ‹_› | exact ho_td ‹_›))|(intro b hb;repeat first|(refine fe hb ?_;intro _ _ hb)|(refine fT hb ?_;intro hb))|refine rt ?_|refine gA rfl ?_|refine gB rfl ?_|apply cT rfl|apply cF rfl|(apply DM.gbT;rfl)|(apply DM.gbF;rfl)|intro h
    (apply DM.apM; (· rfl); (· repeat' first|(apply Lk.go;constructor)|assumption|exact nb ‹_› ‹_›|exact nt ‹_› ‹_›| refine ho_look ‹_› ?_ | exact ho_blk | exact ho_ta | exact ho_tb ‹_› | exact ho_tc ‹_› | exact ho_td ‹_›); (· simp only [rowsOf, if_true, eq_self, go_sem, Nat.reduceBEq, reduceIte] <;> rfl); (· (simp only [List.length_map, List.length_cons, List.length_nil, List.length_take, maxLen]; omega)); (· (simp only [List.length_map, List.length_cons, List.length_nil, List.length_take, maxLen]; omega)))
    rw [show (p.os.take i).map Of_.row ++ [v.row] = (p.os.take (i + 1)).map Of_.row from take_succ_map Of_.row hv]
    repeat' first|(apply Sp.go;·constructor<;>first|exact ss|(change _=_;first|(simp only[go_sem,Nat.reduceBEq,Nat.reduceAdd,Nat.reduceLeDiff,reduceIte]<;>rfl)|rfl)|exact Nat.le_of_ble_eq_true rfl|decide|(repeat' first|(apply Lk.go;constructor)|assumption|exact nb ‹_› ‹_›|exact nt ‹_› ‹_›| refine ho_look ‹_› ?_ | exact ho_blk | exact ho_ta | exact ho_tb ‹_› | exact ho_tc ‹_› | exact ho_td ‹_›))|(intro b hb;repeat first|(refine fe hb ?_;intro _ _ hb)|(refine fT hb ?_;intro hb))|refine rt ?_|refine gA rfl ?_|refine gB rfl ?_|apply cT rfl|apply cF rfl|(apply DM.gbT;rfl)|(apply DM.gbF;rfl)|intro h
    refine AM.eqH (ho_set_c d) ?_
    refine AM.roundX (i + 1) ⟨rfl, by omega⟩ ?_ (show p.os.length - (i + 1) < p.os.length - i by omega)
    (repeat first | exact envle_nil _ | (refine envle_cons ?_ ?_; · (simp only [go_sem, Nat.reduceBEq, Nat.reduceAdd]; exact AVLe.refl _)))
    refine envle_cons ?_ ?_
    · simp only [go_sem, Nat.reduceBEq, Nat.reduceAdd]
      refine avle_int ?_
      rw [inc64 hlt (show p.os.length ≤ maxLen by unfold maxLen; omega)]
    exact envle_nil _
  intro hlt
  simp at hlt
  have hi2 : i = p.os.length := by omega
  subst hi2
  rw [List.take_length]
  clear hi hlt
  repeat' first|(apply Sp.go;·constructor<;>first|exact ss|(change _=_;first|(simp only[go_sem,Nat.reduceBEq,Nat.reduceAdd,Nat.reduceLeDiff,reduceIte]<;>rfl)|rfl)|exact Nat.le_of_ble_eq_true rfl|decide|(repeat' first|(apply Lk.go;constructor)|assumption|exact nb ‹_› ‹_›|exact nt ‹_› ‹_›| refine ho_look ‹_› ?_ | exact ho_blk | exact ho_ta | exact ho_tb ‹_› | exact ho_tc ‹_› | exact ho_td ‹_›))|(intro b hb;repeat first|(refine fe hb ?_;intro _ _ hb)|(refine fT hb ?_;intro hb))|refine rt ?_|refine gA rfl ?_|refine gB rfl ?_|apply cT rfl|apply cF rfl|(apply DM.gbT;rfl)|(apply DM.gbF;rfl)|intro h
  refine AM.loopX (X := Nat) 0 (fun i => [(1, .ptr b1 0), (2, .ptr b2 0), (3, .ptr b 0), (7, .int .i64 (i : Int))]) (fun i H' => H' = HO G b ta tb tc td p.name p.role (p.vars.map Var_.row) (p.hs.map Hd.row) (p.os.map Of_.row) ((p.code.take i).map Ins_.row) p.vars.length p.hs.length p.os.length i ∧ i ≤ p.code.length) (fun i => p.code.length - i) ⟨rfl, Nat.zero_le _⟩ ?_ ?_
  · (repeat first | exact envle_nil _ | (refine envle_cons ?_ ?_; · (simp only [go_sem, Nat.reduceBEq, Nat.reduceAdd]; exact AVLe.refl _)))
  rintro i H' ⟨rfl, hi⟩
  repeat' first|(apply Sp.go;·constructor<;>first|exact ss|(change _=_;first|(simp only[go_sem,Nat.reduceBEq,Nat.reduceAdd,Nat.reduceLeDiff,reduceIte]<;>rfl)|rfl)|exact Nat.le_of_ble_eq_true rfl|decide|(repeat' first|(apply Lk.go;constructor)|assumption|exact nb ‹_› ‹_›|exact nt ‹_› ‹_›| refine ho_look ‹_› ?_ | exact ho_blk | exact ho_ta | exact ho_tb ‹_› | exact ho_tc ‹_› | exact ho_td ‹_›))|(intro b hb;repeat first|(refine fe hb ?_;intro _ _ hb)|(refine fT hb ?_;intro hb))|refine rt ?_|refine gA rfl ?_|refine gB rfl ?_|apply cT rfl|apply cF rfl|(apply DM.gbT;rfl)|(apply DM.gbF;rfl)|intro h
  (apply AM.cond; (· rfl))
  · intro hlt
    simp at hlt
    obtain ⟨v, hv⟩ := some_of hlt
    repeat' first|(apply Sp.go;·constructor<;>first|exact ss|(change _=_;first|(simp only[go_sem,Nat.reduceBEq,Nat.reduceAdd,Nat.reduceLeDiff,reduceIte]<;>rfl)|rfl)|exact Nat.le_of_ble_eq_true rfl|decide|(repeat' first|(apply Lk.go;constructor)|assumption|exact nb ‹_› ‹_›|exact nt ‹_› ‹_›| refine ho_look ‹_› ?_ | exact ho_blk | exact ho_ta | exact ho_tb ‹_› | exact ho_tc ‹_› | exact ho_td ‹_›))|(intro b hb;repeat first|(refine fe hb ?_;intro _ _ hb)|(refine fT hb ?_;intro hb))|refine rt ?_|refine gA rfl ?_|refine gB rfl ?_|apply cT rfl|apply cF rfl|(apply DM.gbT;rfl)|(apply DM.gbF;rfl)|intro h
    (apply DM.ixV (row := v.row) (z := (i : Int)) (by omega) (row_get Ins_.row hv); (· rfl); (· rfl))
    repeat' first|(apply Sp.go;·constructor<;>first|exact ss|(change _=_;first|(simp only[go_sem,Nat.reduceBEq,Nat.reduceAdd,Nat.reduceLeDiff,reduceIte]<;>rfl)|rfl)|exact Nat.le_of_ble_eq_true rfl|decide|(repeat' first|(apply Lk.go;constructor)|assumption|exact nb ‹_› ‹_›|exact nt ‹_› ‹_›| refine ho_look ‹_› ?_ | exact ho_blk | exact ho_ta | exact ho_tb ‹_› | exact ho_tc ‹_› | exact ho_td ‹_›))|(intro b hb;repeat first|(refine fe hb ?_;intro _ _ hb)|(refine fT hb ?_;intro hb))|refine rt ?_|refine gA rfl ?_|refine gB rfl ?_|apply cT rfl|apply cF rfl|(apply DM.gbT;rfl)|(apply DM.gbF;rfl)|intro h
    (apply DM.apM; (· rfl); (· repeat' first|(apply Lk.go;constructor)|assumption|exact nb ‹_› ‹_›|exact nt ‹_› ‹_›| refine ho_look ‹_› ?_ | exact ho_blk | exact ho_ta | exact ho_tb ‹_› | exact ho_tc ‹_› | exact ho_td ‹_›); (· simp only [rowsOf, if_true, eq_self, go_sem, Nat.reduceBEq, reduceIte] <;> rfl); (· (simp only [List.length_map, List.length_cons, List.length_nil, List.length_take, maxLen]; omega)); (· (simp only [List.length_map, List.length_cons, List.length_nil, List.length_take, maxLen]; omega)))
    rw [show (p.code.take i).map Ins_.row ++ [v.row] = (p.code.take (i + 1)).map Ins_.row from take_succ_map Ins_.row hv]
    repeat' first|(apply Sp.go;·constructor<;>first|exact ss|(change _=_;first|(simp only[go_sem,Nat.reduceBEq,Nat.reduceAdd,Nat.reduceLeDiff,reduceIte]<;>rfl)|rfl)|exact Nat.le_of_ble_eq_true rfl|decide|(repeat' first|(apply Lk.go;constructor)|assumption|exact nb ‹_› ‹_›|exact nt ‹_› ‹_›| refine ho_look ‹_› ?_ | exact ho_blk | exact ho_ta | exact ho_tb ‹_› | exact ho_tc ‹_› | exact ho_td ‹_›))|(intro b hb;repeat first|(refine fe hb ?_;intro _ _ hb)|(refine fT hb ?_;intro hb))|refine rt ?_|refine gA rfl ?_|refine gB rfl ?_|apply cT rfl|apply cF rfl|(apply DM.gbT;rfl)|(apply DM.gbF;rfl)|intro h
    refine AM.eqH (ho_set_d d) ?_
    refine AM.roundX (i + 1) ⟨rfl, by omega⟩ ?_ (show p.code.length - (i + 1) < p.code.length - i by omega)
    (repeat first | exact envle_nil _ | (refine envle_cons ?_ ?_; · (simp only [go_sem, Nat.reduceBEq, Nat.reduceAdd]; exact AVLe.refl _)))
    refine envle_cons ?_ ?_
    · simp only [go_sem, Nat.reduceBEq, Nat.reduceAdd]
      refine avle_int ?_
      rw [inc64 hlt (show p.code.length ≤ maxLen by unfold maxLen; omega)]
    exact envle_nil _
  intro hlt
  simp at hlt
  have hi3 : i = p.code.length := by omega
  subst hi3
  rw [List.take_length]
  clear hi hlt
  repeat' first|(apply Sp.go;·constructor<;>first|exact ss|(change _=_;first|(simp only[go_sem,Nat.reduceBEq,Nat.reduceAdd,Nat.reduceLeDiff,reduceIte]<;>rfl)|rfl)|exact Nat.le_of_ble_eq_true rfl|decide|(repeat' first|(apply Lk.go;constructor)|assumption|exact nb ‹_› ‹_›|exact nt ‹_› ‹_›| refine ho_look ‹_› ?_ | exact ho_blk | exact ho_ta | exact ho_tb ‹_› | exact ho_tc ‹_› | exact ho_td ‹_›))|(intro b hb;repeat first|(refine fe hb ?_;intro _ _ hb)|(refine fT hb ?_;intro hb))|refine rt ?_|refine gA rfl ?_|refine gB rfl ?_|apply cT rfl|apply cF rfl|(apply DM.gbT;rfl)|(apply DM.gbF;rfl)|intro h
  apply AM.retF
  · simp only [Aw.results, ERes.ev, peval, EOpd.ev, Env.get, Nat.reduceBEq, cond_true, cond_false]
    rw [g_same]
    rfl
  · exact hsubO _ _ _ _ _ _ _ _ _
  · exact Frz.agg (FrzL.cons (Frz.same (hsubO _ _ _ _ _ _ _ _ _)) (FrzL.cons (Frz.same (hsubO _ _ _ _ _ _ _ _ _)) (FrzL.cons (Frz.ms (hsubO _ _ _ _ _ _ _ _ _) (t_B ho_ta) fa) (FrzL.cons (Frz.ms (hsubO _ _ _ _ _ _ _ _ _) (t_B (ho_tb d)) fb) (FrzL.cons (Frz.ms (hsubO _ _ _ _ _ _ _ _ _) (t_B (ho_tc d)) fc) (FrzL.cons (Frz.ms (hsubO _ _ _ _ _ _ _ _ _) (t_B (ho_td d)) fd) FrzL.nil))))))
structure RefV where
  b : Nat
  ts : Nat
  tl : Nat
structure RefV.Ok (ρ : RefV) (H0 : AHeap) : Prop where
  sl : ρ.ts ≠ ρ.tl
  fb : H0.blk ρ.b = none
  fs : H0.tok ρ.ts = none
  fl : H0.tok ρ.tl = none
def HV (H0 : AHeap) (ρ : RefV) (st lo : List Int) (vs vl : Nat) : AHeap :=
  ⟨fun x => if x = ρ.b then some (125, [.ms ρ.ts vs, .ms ρ.tl vl]) else H0.blk x, fun x => if x = ρ.ts then some (.mu 3 1 vs (st.map irow)) else if x = ρ.tl then some (.mu 3 1 vl (lo.map irow)) else H0.tok x⟩
section
variable {H0 H : AHeap} {ρ : RefV} {st lo : List Int} {vs vl : Nat}
theorem hv_blk : (HV H0 ρ st lo vs vl).blk ρ.b = some (125, [.ms ρ.ts vs, .ms ρ.tl vl]) := by simp [HV]
theorem hv_ts : (HV H0 ρ st lo vs vl).tok ρ.ts = some (.mu 3 1 vs (st.map irow)) := by simp [HV]
theorem hv_tl (d : ρ.Ok H0) : (HV H0 ρ st lo vs vl).tok ρ.tl = some (.mu 3 1 vl (lo.map irow)) := by simp [HV, Ne.symm d.sl]
theorem hv_look {x : Nat} {y : Option (TypeId × List AV)} (hx : x ≠ ρ.b) (h : H0.blk x = y) : (HV H0 ρ st lo vs vl).blk x = y := by simp [HV, hx, h]
theorem hv_old {x : Nat} {y : TypeId × List AV} (hx : x ≠ ρ.b) (h : H0.blk x = some y) : (HV H0 ρ st lo vs vl).blk x = some y := by simp [HV, hx, h]
theorem hv_oldT {x : Nat} {y : Own} (h1 : x ≠ ρ.ts) (h2 : x ≠ ρ.tl) (h : H0.tok x = some y) : (HV H0 ρ st lo vs vl).tok x = some y := by simp [HV, h1, h2, h]
theorem fresh_elimV {G : Prop} {x : Nat} (h : (HV H0 ρ st lo vs vl).blk x = none) (k : x ≠ ρ.b → ρ.b ≠ x → H0.blk x = none → G) : G := by
  simp only [HV] at h
  by_cases e : x = ρ.b
  · rw [if_pos e] at h; cases h
  · rw [if_neg e] at h; exact k e (Ne.symm e) h
theorem hv_setB {x : Nat} {T : TypeId} {c : List AV} (hx : x ≠ ρ.b) : (HV H0 ρ st lo vs vl).setB x T c = HV (H0.setB x T c) ρ st lo vs vl := by
  simp only [HV, AHeap.setB, AHeap.mk.injEq, and_true]
  funext y
  by_cases e : y = x
  · subst e; simp [hx]
  · simp [e]
theorem hsub_hv (hb : H.blk ρ.b = some (125, [.ms ρ.ts vs, .ms ρ.tl vl])) (ho : ∀ x y, x ≠ ρ.b → H0.blk x = some y → H.blk x = some y) (hs : H.tok ρ.ts = some (.mu 3 1 vs (st.map irow))) (hl : H.tok ρ.tl = some (.mu 3 1 vl (lo.map irow)))
    (hq : ∀ x y, x ≠ ρ.ts → x ≠ ρ.tl → H0.tok x = some y → H.tok x = some y) : HSub (HV H0 ρ st lo vs vl) H where
  blk := fun x y h => by
    simp only [HV] at h
    by_cases e : x = ρ.b
    · subst e; rw [if_pos rfl] at h; rw [hb]; exact h
    · rw [if_neg e] at h; exact ho x y e h
  tok := fun x y h => by
    simp only [HV] at h
    by_cases e : x = ρ.ts
    · subst e; rw [if_pos rfl] at h; rw [hs]; exact h
    · rw [if_neg e] at h
      by_cases e2 : x = ρ.tl
      · subst e2; rw [if_pos rfl] at h; rw [hl]; exact h
      · rw [if_neg e2] at h; exact hq x y e e2 h
theorem hv_base (d : ρ.Ok H0) : HSub H0 (HV H0 ρ st lo vs vl) where
  blk := fun x y h => hv_old (fun e => by subst e; rw [d.fb] at h; cases h) h
  tok := fun x y h => hv_oldT (fun e => by subst e; rw [d.fs] at h; cases h) (fun e => by subst e; rw [d.fl] at h; cases h) h
inductive Lv : Prop → Prop
  | bk {H0 : AHeap} {ρ : RefV} {st lo : List Int} {vs vl : Nat} : Lv ((HV H0 ρ st lo vs vl).blk ρ.b = some (125, [.ms ρ.ts vs, .ms ρ.tl vl]))
  | lk {H0 : AHeap} {ρ : RefV} {st lo : List Int} {vs vl x : Nat} {y : Option (TypeId × List AV)} (hx : x ≠ ρ.b) (h : H0.blk x = y) : Lv ((HV H0 ρ st lo vs vl).blk x = y)
  | ts {H0 : AHeap} {ρ : RefV} {st lo : List Int} {vs vl : Nat} : Lv ((HV H0 ρ st lo vs vl).tok ρ.ts = some (.mu 3 1 vs (st.map irow)))
  | tl {H0 : AHeap} {ρ : RefV} {st lo : List Int} {vs vl : Nat} (d : ρ.Ok H0) : Lv ((HV H0 ρ st lo vs vl).tok ρ.tl = some (.mu 3 1 vl (lo.map irow)))
theorem Lv.go {G : Prop} (h : Lv G) : G := by
  cases h with
  | bk => exact hv_blk
  | lk hx h => exact hv_look hx h
  | ts => exact hv_ts
  | tl d => exact hv_tl d
end
abbrev stopv (e : Int) : AV := .ifc 162 (.agg [.int .i64 e])
/-- How a method of a state ends: with another state, or with a panic. -/
def MVR (H0 : AHeap) (ρ : RefV) (e : Int) : Option (List Int × List Int) → Out → AHeap → Prop
  | some s, o, H' => o = .ret (.tup []) ∧ ∃ vs' vl', H' = HV H0 ρ s.1 s.2 vs' vl'
  | none, o, H' => o = .pan (stopv e) ∧ HSub H0 H'
def MV (f : FuncId) (args : List AV) (H0 : AHeap) (ρ : RefV) (st lo : List Int) (e : Int) (out : Option (List Int × List Int)) : Prop :=
  ∀ vs vl, ACalls Try.prog f args (HV H0 ρ st lo vs vl) (MVR H0 ρ e out)
/-- What the walk shows. -/
def MVW (H0 : AHeap) (ρ : RefV) (e : Int) : Option (List Int × List Int) → Out → AHeap → Prop
  | some s, o, H' => o = .ret (.tup []) ∧ ∃ vs' vl', HSub (HV H0 ρ s.1 s.2 vs' vl') H'
  | none, o, H' => o = .pan (stopv e) ∧ HSub H0 H'
theorem mvw_ok {H0 H : AHeap} {ρ : RefV} {e : Int} {s : List Int × List Int} {vs' vl' : Nat} (h : HSub (HV H0 ρ s.1 s.2 vs' vl') H) : MVW H0 ρ e (some s) (.ret (.tup [])) H := ⟨rfl, vs', vl', h⟩
theorem mvw_pan {H0 H : AHeap} {ρ : RefV} {e : Int} (h : HSub H0 H) : MVW H0 ρ e none (.pan (stopv e)) H := ⟨rfl, h⟩
theorem hv_mono {H0 H1 : AHeap} {ρ : RefV} {st lo : List Int} {vs vl : Nat} (h : HSub H0 H1) : HSub (HV H0 ρ st lo vs vl) (HV H1 ρ st lo vs vl) where
  blk := fun x y e => by
    simp only [HV] at e ⊢
    by_cases k : x = ρ.b
    · rw [if_pos k] at e ⊢; exact e
    · rw [if_neg k] at e ⊢; exact h.blk x y e
  tok := fun x y e => by
    simp only [HV] at e ⊢
    by_cases k : x = ρ.ts
    · rw [if_pos k] at e ⊢; exact e
    · rw [if_neg k] at e ⊢
      by_cases k2 : x = ρ.tl
      · rw [if_pos k2] at e ⊢; exact e
      · rw [if_neg k2] at e ⊢; exact h.tok x y e
theorem mv_intro {f : FuncId} {fn : Func} {args : List AV} {ec : EC} {rs : List ERes} {H0 : AHeap} {ρ : RefV} {st lo : List Int} {e : Int} {out : Option (List Int × List Int)} (hf : Try.prog.funcs[f]? = some fn) (hc : chkF Try.prog fn args.length ec rs = true)
    (h : ∀ vs vl, AM Try.prog rs (MVW H0 ρ e out) [.c ec] (initEnv args) (HV H0 ρ st lo vs vl)) : MV f args H0 ρ st lo e out := by
  intro vs vl
  refine (acalls_of mo hf hc (h vs vl)).mono fun o H' hr => ?_
  cases out with
  | none => obtain ⟨rfl, hs⟩ := hr; exact ⟨.pan _, H', AVLe.refl _, HSub.refl _, rfl, hs⟩
  | some s => obtain ⟨rfl, vs', vl', hs⟩ := hr; exact ⟨.ret _, _, AVLe.refl _, hs, rfl, vs', vl', rfl⟩
section
variable {P : Program} {d? : Option Nat} {l : List EI} {env : Env} {K : Env → AHeap → Prop} {Rp : AV → AHeap → Prop} {f : FuncId} {args : List EOpd} {aa az' : List AV} {H0 : AHeap} {ρ : RefV} {st lo st' lo' : List Int} {e : Int} {vs vl : Nat}
theorem DM.mvO (hc : MV f aa H0 ρ st lo e (some (st', lo'))) (hm : args.map (EOpd.ev env) = az') (ha : AVLes az' aa) (h : ∀ vs' vl', DM Try.prog l (env.put d? (.tup [])) (HV H0 ρ st' lo' vs' vl') K Rp) : DM Try.prog (⟨d?, none, .call f args⟩ :: l) env (HV H0 ρ st lo vs vl) K Rp := by
  simp only [DM, wanted]
  exact IStep.call _ (hm ▸ ha) (hc vs vl) fun o H' ⟨e, vs', vl', e2⟩ => by subst e; subst e2; exact h vs' vl'
theorem DM.mvX (hc : MV f aa H0 ρ st lo e none) (hm : args.map (EOpd.ev env) = az') (ha : AVLes az' aa) (h : ∀ H', HSub H0 H' → Rp (stopv e) H') : DM Try.prog (⟨d?, none, .call f args⟩ :: l) env (HV H0 ρ st lo vs vl) K Rp := by
  simp only [DM, wanted]
  exact IStep.call _ (hm ▸ ha) (hc vs vl) fun o H' ⟨e, e2⟩ => by subst e; exact h H' e2
theorem DM.pan {t : TypeId} {v : AV} {x : EOpd} {H : AHeap} (hx : x.ev env = .ifc t v) (h : Rp (.ifc t v) H) : DM P (⟨d?, none, .panic x⟩ :: l) env H K Rp := DM.step rfl (IStep.panic hx h)
end
theorem p115t (e : Int) : Pure Try.prog 115 [.bool true, .int .i64 e] (.tup []) := by
  refine pure_intro mo Try.func115 c115 fun H => ?_
  unfold e115 r115
  simp only [initEnv, initFrom]
  repeat' first|(apply Sp.go;·constructor<;>first|exact ss|(change _=_;first|(simp only[go_sem,Nat.reduceBEq,Nat.reduceAdd,Nat.reduceLeDiff,reduceIte]<;>rfl)|rfl)|exact Nat.le_of_ble_eq_true rfl|decide|(repeat' first|(apply Lk.go;constructor)|assumption|exact nb ‹_› ‹_›|exact nt ‹_› ‹_›))|(intro b hb;repeat first|(refine fe hb ?_;intro _ _ hb)|(refine fT hb ?_;intro hb))|refine rt ?_|refine gA rfl ?_|refine gB rfl ?_|apply cT rfl|apply cF rfl|(apply DM.gbT;rfl)|(apply DM.gbF;rfl)|intro h
  (apply Sr.go;·constructor<;>first|(apply Lk.go;constructor<;>first|exact ss|(change _=_;first|(simp only[go_sem,Nat.reduceBEq,Nat.reduceAdd,Nat.reduceLeDiff,reduceIte]<;>rfl)|rfl)|exact Nat.le_of_ble_eq_true rfl|decide|(repeat' first|(apply Lk.go;constructor)|assumption|exact nb ‹_› ‹_›|exact nt ‹_› ‹_›))|assumption)
  exact AVLe.refl _
theorem p115f (e : Int) (H : AHeap) : ACalls Try.prog 115 [.bool false, .int .i64 e] H fun o H' => ∃ v, o = .pan v ∧ (v = stopv e ∧ H' = H) := by
  refine acalls_of mo Try.func115 c115 ?_
  unfold e115 r115
  simp only [initEnv, initFrom]
  repeat' first|(apply Sp.go;·constructor<;>first|exact ss|(change _=_;first|(simp only[go_sem,Nat.reduceBEq,Nat.reduceAdd,Nat.reduceLeDiff,reduceIte]<;>rfl)|rfl)|exact Nat.le_of_ble_eq_true rfl|decide|(repeat' first|(apply Lk.go;constructor)|assumption|exact nb ‹_› ‹_›|exact nt ‹_› ‹_›))|(intro b hb;repeat first|(refine fe hb ?_;intro _ _ hb)|(refine fT hb ?_;intro hb))|refine rt ?_|refine gA rfl ?_|refine gB rfl ?_|apply cT rfl|apply cF rfl|(apply DM.gbT;rfl)|(apply DM.gbF;rfl)|intro h
  refine DM.pan (by simp only [go_sem, Nat.reduceBEq] <;> rfl) ?_
  exact ⟨_, rfl, rfl, rfl⟩
theorem rows1 (l : List Int) : ∀ r ∈ l.map irow, r.length = 1 := fun r h => by obtain ⟨v, _, rfl⟩ := List.mem_map.1 h; rfl
def pushK (k : Int) (st : List Int) : Option (List Int) := if st.length < 16 then some (st ++ [k]) else none
theorem p114 {H0 : AHeap} {ρ : RefV} (d : ρ.Ok H0) (st lo : List Int) (k : Int) : MV 114 [.ptr ρ.b 0, .int .i64 k] H0 ρ st lo 11 ((pushK k st).map fun s => (s, lo)) := by
  refine mv_intro Try.func114 c114 fun vs vl => ?_
  have d1 := d.sl; have d2 := Ne.symm d.sl
  unfold e114 r114
  simp only [initEnv, initFrom]
  repeat' first|(apply Sp.go;·constructor<;>first|exact ss|(change _=_;first|(simp only[go_sem,Nat.reduceBEq,Nat.reduceAdd,Nat.reduceLeDiff,reduceIte]<;>rfl)|rfl)|exact Nat.le_of_ble_eq_true rfl|decide|(repeat' first|(apply Lk.go;constructor)|assumption|exact nb ‹_› ‹_›|exact nt ‹_› ‹_›|(apply Lv.go;constructor)))|(intro b hb;repeat first|(refine fe hb ?_;intro _ _ hb)|(refine fT hb ?_;intro hb)|(refine fresh_elimV hb ?_;intro _ _ hb))|refine rt ?_|refine gA rfl ?_|refine gB rfl ?_|apply cT rfl|apply cF rfl|(apply DM.gbT;rfl)|(apply DM.gbF;rfl)|intro h
  by_cases h : st.length < 16
  · have e1 : decide (((st.map irow).length : Int) < 16) = true := by rw [List.length_map]; exact decide_eq_true (by omega)
    simp only [e1]
    rw [show pushK k st = some (st ++ [k]) by simp [pushK, h]]
    (apply DM.pcs (p115t 11); (· simp only [go_sem, Nat.reduceBEq, Nat.reduceAdd] <;> rfl); (· exact AVLes.refl _))
    repeat' first|(apply Sp.go;·constructor<;>first|exact ss|(change _=_;first|(simp only[go_sem,Nat.reduceBEq,Nat.reduceAdd,Nat.reduceLeDiff,reduceIte]<;>rfl)|rfl)|exact Nat.le_of_ble_eq_true rfl|decide|(repeat' first|(apply Lk.go;constructor)|assumption|exact nb ‹_› ‹_›|exact nt ‹_› ‹_›|(apply Lv.go;constructor)))|(intro b hb;repeat first|(refine fe hb ?_;intro _ _ hb)|(refine fT hb ?_;intro hb)|(refine fresh_elimV hb ?_;intro _ _ hb))|refine rt ?_|refine gA rfl ?_|refine gB rfl ?_|apply cT rfl|apply cF rfl|(apply DM.gbT;rfl)|(apply DM.gbF;rfl)|intro h
    (apply DM.apM; (· rfl); (· repeat' first|(apply Lk.go;constructor)|assumption|exact nb ‹_› ‹_›|exact nt ‹_› ‹_›|(apply Lv.go;constructor)); (· simp only [rowsOf, if_true, eq_self, go_sem, Nat.reduceBEq, reduceIte] <;> rfl); (· (simp only [List.length_map, List.length_cons, List.length_nil]; first | (unfold maxLen; omega) | omega)); (· (simp only [List.length_map, List.length_cons, List.length_nil]; first | (unfold maxLen; omega) | omega)))
    repeat' first|(apply Sp.go;·constructor<;>first|exact ss|(change _=_;first|(simp only[go_sem,Nat.reduceBEq,Nat.reduceAdd,Nat.reduceLeDiff,reduceIte]<;>rfl)|rfl)|exact Nat.le_of_ble_eq_true rfl|decide|(repeat' first|(apply Lk.go;constructor)|assumption|exact nb ‹_› ‹_›|exact nt ‹_› ‹_›|(apply Lv.go;constructor)))|(intro b hb;repeat first|(refine fe hb ?_;intro _ _ hb)|(refine fT hb ?_;intro hb)|(refine fresh_elimV hb ?_;intro _ _ hb))|refine rt ?_|refine gA rfl ?_|refine gB rfl ?_|apply cT rfl|apply cF rfl|(apply DM.gbT;rfl)|(apply DM.gbF;rfl)|intro h
    (first|refine AM.ret (v := .tup []) results_nil ?_|refine AM.done (v := .tup []) results_nil ?_)
    refine mvw_ok (vs' := vs + 1) (vl' := vl) ?_
    dsimp only
    rw [show List.map irow st ++ [[AV.int IntKind.i64 k]] = (st ++ [k]).map irow by simp]
    (refine hsub_hv ?_ ?_ ?_ ?_ ?_<;>first|(intro x y h1 h2 h;repeat first|exact h|refine hv_oldT h1 h2 ?_|refine t_ne ‹_› ?_|refine t_fresh ‹_› ?_|refine t_B ?_)|(intro x y hx h;repeat first|exact h|refine hv_old hx ?_|refine g_ne hx ?_|refine g_ne (nb ‹_› h) ?_|refine g_fresh ‹_› ?_|refine g_T ?_)|(repeat' first|(apply Lk.go;constructor)|assumption|exact nb ‹_› ‹_›|exact nt ‹_› ‹_›|(apply Lv.go;constructor)))
  · have e1 : decide (((st.map irow).length : Int) < 16) = false := by rw [List.length_map]; exact decide_eq_false (by omega)
    simp only [e1]
    rw [show pushK k st = none by simp [pushK, h]]
    refine DM.calX (p115f 11 _) (by simp only [go_sem, Nat.reduceBEq, Nat.reduceAdd] <;> rfl) (AVLes.refl _) ?_
    rintro v H' ⟨rfl, rfl⟩
    exact mvw_pan (hv_base d)
theorem p74 (xs : List Int) (hl : xs.length ≤ 1000) : PureM Try.prog 74 [.vs 1 (xs.map irow)] 3 1 (xs.map irow) := by
  refine pureM_intro mo Try.func74 c74 (by decide) fun H => ?_
  have tail : ∀ (env : Env), env.get 0 = .vs 1 (xs.map irow) → AM Try.prog r74 (fun o H' => HSub H H' ∧ ((∃ t ver, o = .ret (.ms t ver) ∧ H'.tok t = some (.mu 3 1 ver (xs.map irow)) ∧ H.tok t = none) ∨ (o = .ret .nilS ∧ xs.map irow = [])))
      [.c (.region [⟨some 5, none, .bsliceM 3 1 0 [.int .i64 0] []⟩, ⟨some 6, none, .mv (.t 0)⟩, ⟨some 7, none, .appendM 3 1 8 (.t 5) (.t 6)⟩, ⟨some 2, none, .mv (.t 7)⟩] false), .c .ret] env H := by
    intro env he
    unfold r74
    repeat' first|(apply Sp.go;·constructor<;>first|exact ss|(change _=_;first|(simp only[go_sem,Nat.reduceBEq,Nat.reduceAdd,Nat.reduceLeDiff,reduceIte]<;>rfl)|rfl)|exact Nat.le_of_ble_eq_true rfl|decide|(repeat' first|(apply Lk.go;constructor)|assumption|exact nb ‹_› ‹_›|exact nt ‹_› ‹_›))|(intro b hb;repeat first|(refine fe hb ?_;intro _ _ hb)|(refine fT hb ?_;intro hb))|refine rt ?_|refine gA rfl ?_|refine gB rfl ?_|apply cT rfl|apply cF rfl|(apply DM.gbT;rfl)|(apply DM.gbF;rfl)|intro h
    apply DM.bslM (rows := [])
    · rfl
    · rfl
    · rfl
    · decide
    intro t ht
    apply DM.p
    · simp only [peval, EOpd.ev, Env.get, Nat.reduceBEq, cond_true, cond_false, beq_self_eq_true, he] <;> rfl
    apply DM.apM
    · simp only [EOpd.ev, Env.get, Nat.reduceBEq, cond_true, cond_false, beq_self_eq_true] <;> rfl
    · exact t_same
    · simp only [rowsOf, reduceIte, if_true, eq_self, EOpd.ev, Env.get, Nat.reduceBEq, cond_true, cond_false, beq_self_eq_true] <;> rfl
    · simp only [List.length_map, List.length_nil]; omega
    · simp only [List.length_map, List.length_nil, maxLen]; omega
    rw [setT_setT]
    repeat' first|(apply Sp.go;·constructor<;>first|exact ss|(change _=_;first|(simp only[go_sem,Nat.reduceBEq,Nat.reduceAdd,Nat.reduceLeDiff,reduceIte]<;>rfl)|rfl)|exact Nat.le_of_ble_eq_true rfl|decide|(repeat' first|(apply Lk.go;constructor)|assumption|exact nb ‹_› ‹_›|exact nt ‹_› ‹_›))|(intro b hb;repeat first|(refine fe hb ?_;intro _ _ hb)|(refine fT hb ?_;intro hb))|refine rt ?_|refine gA rfl ?_|refine gB rfl ?_|apply cT rfl|apply cF rfl|(apply DM.gbT;rfl)|(apply DM.gbF;rfl)|intro h
    refine AM.ret (v := .ms t 1) (by simp only [Aw.results, ERes.ev, Env.get, Nat.reduceBEq, cond_true, cond_false, beq_self_eq_true]) ⟨HSub.setT (HSub.refl _) ht, .inl ⟨t, 1, rfl, t_same, ht⟩⟩
  unfold e74
  simp only [initEnv, initFrom]
  repeat' first|(apply Sp.go;·constructor<;>first|exact ss|(change _=_;first|(simp only[go_sem,Nat.reduceBEq,Nat.reduceAdd,Nat.reduceLeDiff,reduceIte]<;>rfl)|rfl)|exact Nat.le_of_ble_eq_true rfl|decide|(repeat' first|(apply Lk.go;constructor)|assumption|exact nb ‹_› ‹_›|exact nt ‹_› ‹_›))|(intro b hb;repeat first|(refine fe hb ?_;intro _ _ hb)|(refine fT hb ?_;intro hb))|refine rt ?_|refine gA rfl ?_|refine gB rfl ?_|apply cT rfl|apply cF rfl|(apply DM.gbT;rfl)|(apply DM.gbF;rfl)|intro h
  cases xs with
  | cons a xs =>
    apply DM.isF
    · simp only [EOpd.ev, Env.get, Nat.reduceBEq, cond_true, cond_false, beq_self_eq_true] <;> rfl
    · simp
    refine DM.nil ?_
    refine AM.condF ?_ ?_
    · simp only [EOpd.ev, Env.get, Nat.reduceBEq, cond_true, cond_false, beq_self_eq_true]
    refine AM.skip ?_
    refine AM.seq ?_
    refine tail _ ?_
    simp only [Env.get, Nat.reduceBEq, cond_true, cond_false, beq_self_eq_true]
  | nil =>
    apply DM.isU
    · simp only [EOpd.ev, Env.get, Nat.reduceBEq, cond_true, cond_false, beq_self_eq_true] <;> rfl
    intro b
    refine DM.nil ?_
    cases b with
    | true =>
      refine AM.condT ?_ ?_
      · simp only [EOpd.ev, Env.get, Nat.reduceBEq, cond_true, cond_false, beq_self_eq_true]
      unfold r74
      repeat' first|(apply Sp.go;·constructor<;>first|exact ss|(change _=_;first|(simp only[go_sem,Nat.reduceBEq,Nat.reduceAdd,Nat.reduceLeDiff,reduceIte]<;>rfl)|rfl)|exact Nat.le_of_ble_eq_true rfl|decide|(repeat' first|(apply Lk.go;constructor)|assumption|exact nb ‹_› ‹_›|exact nt ‹_› ‹_›))|(intro b hb;repeat first|(refine fe hb ?_;intro _ _ hb)|(refine fT hb ?_;intro hb))|refine rt ?_|refine gA rfl ?_|refine gB rfl ?_|apply cT rfl|apply cF rfl|(apply DM.gbT;rfl)|(apply DM.gbF;rfl)|intro h
      exact AM.ret (v := .nilS) (by simp only [Aw.results, ERes.ev, Env.get, Nat.reduceBEq, cond_true, cond_false, beq_self_eq_true]) ⟨HSub.refl _, .inr ⟨rfl, rfl⟩⟩
    | false =>
      refine AM.condF ?_ ?_
      · simp only [EOpd.ev, Env.get, Nat.reduceBEq, cond_true, cond_false, beq_self_eq_true]
      refine AM.skip ?_
      refine AM.seq ?_
      refine tail _ ?_
      simp only [Env.get, Nat.reduceBEq, cond_true, cond_false, beq_self_eq_true]
theorem row_getI {l : List Int} {i : Nat} {v : Int} (h : l[i]? = some v) : (l.map irow)[((i : Int)).toNat]? = some (irow v) := by
  rw [Int.toNat_natCast, List.getElem?_map, h]; rfl
def popK (k : Int) (st : List Int) : Option (List Int) := match st.getLast? with
  | some x => if x = k then some st.dropLast else none
  | none => none
def popsK : List Int → List Int → Option (List Int)
  | [], st => some st
  | k :: ks, st => (popK k st).bind (popsK ks)
theorem drop_consI {l : List Int} {i : Nat} {v : Int} (h : l[i]? = some v) : l.drop i = v :: l.drop (i + 1) := by
  obtain ⟨h1, h2⟩ := List.getElem?_eq_some_iff.1 h
  rw [List.drop_eq_getElem_cons h1, h2]
set_option maxHeartbeats 1000000 in
theorem p116 {H0 : AHeap} {ρ : RefV} (d : ρ.Ok H0) (st lo ks : List Int) (hst : st.length ≤ 1000) (hks : ks.length ≤ 1000) : MV 116 [.ptr ρ.b 0, .vs 1 (ks.map irow)] H0 ρ st lo 11 ((popsK ks st).map fun s => (s, lo)) := by
  refine mv_intro Try.func116 c116 fun vs vl => ?_
  have d1 := d.sl; have d2 := Ne.symm d.sl
  unfold e116 r116
  simp only [initEnv, initFrom]
  repeat' first|(apply Sp.go;·constructor<;>first|exact ss|(change _=_;first|(simp only[go_sem,Nat.reduceBEq,Nat.reduceAdd,Nat.reduceLeDiff,reduceIte]<;>rfl)|rfl)|exact Nat.le_of_ble_eq_true rfl|decide|(repeat' first|(apply Lk.go;constructor)|assumption|exact nb ‹_› ‹_›|exact nt ‹_› ‹_›|(apply Lv.go;constructor)))|(intro b hb;repeat first|(refine fe hb ?_;intro _ _ hb)|(refine fT hb ?_;intro hb)|(refine fresh_elimV hb ?_;intro _ _ hb))|refine rt ?_|refine gA rfl ?_|refine gB rfl ?_|apply cT rfl|apply cF rfl|(apply DM.gbT;rfl)|(apply DM.gbF;rfl)|intro h
  refine AM.loopX (X := Nat × List Int) (0, st) (fun x => [(0, .ptr ρ.b 0), (7, .vs 1 (ks.map irow)), (8, .int .i64 ks.length), (9, .int .i64 x.1)]) (fun x H' => (∃ vs', H' = HV H0 ρ x.2 lo vs' vl) ∧ x.1 ≤ ks.length ∧ x.2.length ≤ 1000 ∧ popsK ks st = popsK (ks.drop x.1) x.2) (fun x => ks.length - x.1) ⟨⟨vs, rfl⟩, by simp, hst, by simp⟩ ?_ ?_
  · refine envle_cons ?_ ?_
    · (simp only [go_sem, Nat.reduceBEq]; exact AVLe.refl _)
    refine envle_cons ?_ ?_
    · (simp only [go_sem, Nat.reduceBEq]; exact AVLe.refl _)
    refine envle_cons ?_ ?_
    · simp only [go_sem, Nat.reduceBEq]
      exact avle_int (by simp)
    (repeat first | exact envle_nil _ | (refine envle_cons ?_ ?_; · (simp only [go_sem, Nat.reduceBEq, Nat.reduceAdd]; exact AVLe.refl _)))
  · rintro ⟨i, s⟩ H' ⟨⟨vs', e⟩, hi, hs, hp⟩
    subst e
    dsimp only at hi hs hp ⊢
    repeat' first|(apply Sp.go;·constructor<;>first|exact ss|(change _=_;first|(simp only[go_sem,Nat.reduceBEq,Nat.reduceAdd,Nat.reduceLeDiff,reduceIte]<;>rfl)|rfl)|exact Nat.le_of_ble_eq_true rfl|decide|(repeat' first|(apply Lk.go;constructor)|assumption|exact nb ‹_› ‹_›|exact nt ‹_› ‹_›|(apply Lv.go;constructor)))|(intro b hb;repeat first|(refine fe hb ?_;intro _ _ hb)|(refine fT hb ?_;intro hb)|(refine fresh_elimV hb ?_;intro _ _ hb))|refine rt ?_|refine gA rfl ?_|refine gB rfl ?_|apply cT rfl|apply cF rfl|(apply DM.gbT;rfl)|(apply DM.gbF;rfl)|intro h
    (apply AM.cond; (· rfl))
    · intro h1
      simp at h1
      obtain ⟨k, hk⟩ := some_of (show i < ks.length by omega)
      rw [drop_consI hk] at hp
      repeat' first|(apply Sp.go;·constructor<;>first|exact ss|(change _=_;first|(simp only[go_sem,Nat.reduceBEq,Nat.reduceAdd,Nat.reduceLeDiff,reduceIte]<;>rfl)|rfl)|exact Nat.le_of_ble_eq_true rfl|decide|(repeat' first|(apply Lk.go;constructor)|assumption|exact nb ‹_› ‹_›|exact nt ‹_› ‹_›|(apply Lv.go;constructor)))|(intro b hb;repeat first|(refine fe hb ?_;intro _ _ hb)|(refine fT hb ?_;intro hb)|(refine fresh_elimV hb ?_;intro _ _ hb))|refine rt ?_|refine gA rfl ?_|refine gB rfl ?_|apply cT rfl|apply cF rfl|(apply DM.gbT;rfl)|(apply DM.gbF;rfl)|intro h
      (apply DM.ixV (row := irow k) (z := (i : Int)) (by omega) (row_getI hk); (· rfl); (· rfl))
      repeat' first|(apply Sp.go;·constructor<;>first|exact ss|(change _=_;first|(simp only[go_sem,Nat.reduceBEq,Nat.reduceAdd,Nat.reduceLeDiff,reduceIte]<;>rfl)|rfl)|exact Nat.le_of_ble_eq_true rfl|decide|(repeat' first|(apply Lk.go;constructor)|assumption|exact nb ‹_› ‹_›|exact nt ‹_› ‹_›|(apply Lv.go;constructor)))|(intro b hb;repeat first|(refine fe hb ?_;intro _ _ hb)|(refine fT hb ?_;intro hb)|(refine fresh_elimV hb ?_;intro _ _ hb))|refine rt ?_|refine gA rfl ?_|refine gB rfl ?_|apply cT rfl|apply cF rfl|(apply DM.gbT;rfl)|(apply DM.gbF;rfl)|intro h
      · have h0 : decide (0 < ((s.map irow).length : Int)) = true := by assumption
        obtain ⟨n, hn⟩ : ∃ n, s.length = n + 1 := by simp only [List.length_map, decide_eq_true_eq] at h0; exact ⟨s.length - 1, by omega⟩
        obtain ⟨v, hv⟩ := some_of (show n < s.length by omega)
        have hl : s.getLast? = some v := by rw [← last_ix hn]; exact hv
        have hw : IntKind.i64.wrap (((s.map irow).length : Int) - 1) = (n : Int) := by rw [List.length_map, hn, wrap64 (by omega) (by omega)]; omega
        simp only [hw]
        (apply DM.ixM; (· rfl); (· repeat' first|(apply Lk.go;constructor)|assumption|exact nb ‹_› ‹_›|exact nt ‹_› ‹_›|(apply Lv.go;constructor)); (· rfl); (· (first | omega | (simp only [List.length_map]; omega))); (· (first | omega | (simp only [List.length_map]; omega))))
        repeat' first|(apply Sp.go;·constructor<;>first|exact ss|(change _=_;first|(simp only[go_sem,Nat.reduceBEq,Nat.reduceAdd,Nat.reduceLeDiff,reduceIte]<;>rfl)|rfl)|exact Nat.le_of_ble_eq_true rfl|decide|(repeat' first|(apply Lk.go;constructor)|assumption|exact nb ‹_› ‹_›|exact nt ‹_› ‹_›|(apply Lv.go;constructor)))|(intro b hb;repeat first|(refine fe hb ?_;intro _ _ hb)|(refine fT hb ?_;intro hb)|(refine fresh_elimV hb ?_;intro _ _ hb))|refine rt ?_|refine gA rfl ?_|refine gB rfl ?_|apply cT rfl|apply cF rfl|(apply DM.gbT;rfl)|(apply DM.gbF;rfl)|intro h
        (apply DM.ldM1 (i := n) (j := 0); (· rfl); (· repeat' first|(apply Lk.go;constructor)|assumption|exact nb ‹_› ‹_›|exact nt ‹_› ‹_›|(apply Lv.go;constructor)); (· exact rows1 _); (· (rw [List.getElem?_map, hv]; rfl)); (· simp); (· rfl))
        repeat' first|(apply Sp.go;·constructor<;>first|exact ss|(change _=_;first|(simp only[go_sem,Nat.reduceBEq,Nat.reduceAdd,Nat.reduceLeDiff,reduceIte]<;>rfl)|rfl)|exact Nat.le_of_ble_eq_true rfl|decide|(repeat' first|(apply Lk.go;constructor)|assumption|exact nb ‹_› ‹_›|exact nt ‹_› ‹_›|(apply Lv.go;constructor)))|(intro b hb;repeat first|(refine fe hb ?_;intro _ _ hb)|(refine fT hb ?_;intro hb)|(refine fresh_elimV hb ?_;intro _ _ hb))|refine rt ?_|refine gA rfl ?_|refine gB rfl ?_|apply cT rfl|apply cF rfl|(apply DM.gbT;rfl)|(apply DM.gbF;rfl)|intro h
        by_cases hvk : v = k
        · simp only [decide_eq_true hvk]
          (apply DM.pcs (p115t 11); (· simp only [go_sem, Nat.reduceBEq, Nat.reduceAdd] <;> rfl); (· exact AVLes.refl _))
          repeat' first|(apply Sp.go;·constructor<;>first|exact ss|(change _=_;first|(simp only[go_sem,Nat.reduceBEq,Nat.reduceAdd,Nat.reduceLeDiff,reduceIte]<;>rfl)|rfl)|exact Nat.le_of_ble_eq_true rfl|decide|(repeat' first|(apply Lk.go;constructor)|assumption|exact nb ‹_› ‹_›|exact nt ‹_› ‹_›|(apply Lv.go;constructor)))|(intro b hb;repeat first|(refine fe hb ?_;intro _ _ hb)|(refine fT hb ?_;intro hb)|(refine fresh_elimV hb ?_;intro _ _ hb))|refine rt ?_|refine gA rfl ?_|refine gB rfl ?_|apply cT rfl|apply cF rfl|(apply DM.gbT;rfl)|(apply DM.gbF;rfl)|intro h
          simp only [hw]
          (apply DM.sM; (· rfl); (· repeat' first|(apply Lk.go;constructor)|assumption|exact nb ‹_› ‹_›|exact nt ‹_› ‹_›|(apply Lv.go;constructor)); (· rfl); (· (simp only [List.length_map]; omega)))
          repeat' first|(apply Sp.go;·constructor<;>first|exact ss|(change _=_;first|(simp only[go_sem,Nat.reduceBEq,Nat.reduceAdd,Nat.reduceLeDiff,reduceIte]<;>rfl)|rfl)|exact Nat.le_of_ble_eq_true rfl|decide|(repeat' first|(apply Lk.go;constructor)|assumption|exact nb ‹_› ‹_›|exact nt ‹_› ‹_›|(apply Lv.go;constructor)))|(intro b hb;repeat first|(refine fe hb ?_;intro _ _ hb)|(refine fT hb ?_;intro hb)|(refine fresh_elimV hb ?_;intro _ _ hb))|refine rt ?_|refine gA rfl ?_|refine gB rfl ?_|apply cT rfl|apply cF rfl|(apply DM.gbT;rfl)|(apply DM.gbF;rfl)|intro h
          have hpk : popK k s = some s.dropLast := by simp [popK, hl, hvk]
          have htk : (s.map irow).take n = s.dropLast.map irow := by rw [← List.map_take, List.dropLast_eq_take, hn]; rfl
          refine AM.forget (HV H0 ρ s.dropLast lo (vs' + 1) vl) ?_ ?_
          · rw [htk]
            (refine hsub_hv ?_ ?_ ?_ ?_ ?_<;>first|(intro x y h1 h2 h;repeat first|exact h|refine hv_oldT h1 h2 ?_|refine t_ne ‹_› ?_|refine t_fresh ‹_› ?_|refine t_B ?_)|(intro x y hx h;repeat first|exact h|refine hv_old hx ?_|refine g_ne hx ?_|refine g_ne (nb ‹_› h) ?_|refine g_fresh ‹_› ?_|refine g_T ?_)|(repeat' first|(apply Lk.go;constructor)|assumption|exact nb ‹_› ‹_›|exact nt ‹_› ‹_›|(apply Lv.go;constructor)))
          refine AM.roundX (i + 1, s.dropLast) ⟨⟨_, rfl⟩, by dsimp only; omega, by simp; omega, ?_⟩ ?_ ?_
          · rw [hp]
            simp only [popsK, hpk, Option.bind_some]
          · (repeat first | exact envle_nil _ | (refine envle_cons ?_ ?_; · (simp only [go_sem, Nat.reduceBEq, Nat.reduceAdd]; exact AVLe.refl _)))
            refine envle_cons ?_ ?_
            · simp only [go_sem, Nat.reduceBEq, Nat.reduceAdd]
              refine avle_int ?_
              rw [inc64 h1 (by unfold maxLen; omega)]
            exact envle_nil _
          · show ks.length - (i + 1) < ks.length - i
            omega
        · simp only [decide_eq_false hvk]
          have hpk : popK k s = none := by simp [popK, hl, hvk]
          rw [hp]
          simp only [popsK, hpk, Option.bind_none, Option.map_none]
          refine DM.calX (p115f 11 _) (by simp only [go_sem, Nat.reduceBEq, Nat.reduceAdd] <;> rfl) (AVLes.refl _) ?_
          rintro v H' ⟨rfl, rfl⟩
          exact mvw_pan (hv_base d)
      · have h0 : decide (0 < ((s.map irow).length : Int)) = false := by assumption
        have hn : s = [] := by simp only [List.length_map, decide_eq_false_iff_not] at h0; exact List.eq_nil_of_length_eq_zero (by omega)
        have hpk : popK k s = none := by simp [popK, hn]
        rw [hp]
        simp only [popsK, hpk, Option.bind_none, Option.map_none]
        refine DM.calX (p115f 11 _) (by simp only [go_sem, Nat.reduceBEq, Nat.reduceAdd] <;> rfl) (AVLes.refl _) ?_
        rintro v H' ⟨rfl, rfl⟩
        exact mvw_pan (hv_base d)
    · intro h1
      simp at h1
      rw [hp, List.drop_eq_nil_of_le (by omega)]
      repeat' first|(apply Sp.go;·constructor<;>first|exact ss|(change _=_;first|(simp only[go_sem,Nat.reduceBEq,Nat.reduceAdd,Nat.reduceLeDiff,reduceIte]<;>rfl)|rfl)|exact Nat.le_of_ble_eq_true rfl|decide|(repeat' first|(apply Lk.go;constructor)|assumption|exact nb ‹_› ‹_›|exact nt ‹_› ‹_›|(apply Lv.go;constructor)))|(intro b hb;repeat first|(refine fe hb ?_;intro _ _ hb)|(refine fT hb ?_;intro hb)|(refine fresh_elimV hb ?_;intro _ _ hb))|refine rt ?_|refine gA rfl ?_|refine gB rfl ?_|apply cT rfl|apply cF rfl|(apply DM.gbT;rfl)|(apply DM.gbF;rfl)|intro h
      (first|refine AM.ret (v := .tup []) results_nil ?_|refine AM.done (v := .tup []) results_nil ?_)
      exact mvw_ok (HSub.refl _)
def valuesP (p : Prog) (ps rs : List Int) (x : Ins_) (st : List Int) : Option (List Int) :=
  if x.op = 1 then pushK 1 st
  else if x.op = 2 then pushK 2 st
  else if x.op = 3 then (p.vars[x.n.toNat]?).bind fun v => pushK v.sort.k st
  else if x.op = 4 then (if x.n < ps.length then (ps[x.n.toNat]?).bind fun k => pushK k st else none)
  else if x.op = 5 then (p.vars[x.n.toNat]?).bind fun v => popsK [v.sort.k] st
  else if isArith x.op then (popsK [1, 1] st).bind (pushK 1)
  else if x.op = 11 ∨ x.op = 14 then (popsK [1] st).bind (pushK 1)
  else if x.op = 12 then (match st.getLast? with
    | none => none
    | some k => if k = 1 ∨ k = 2 then (popsK [k, k] st).bind (pushK 1) else none)
  else if x.op = 17 then (popsK [2, 2] st).bind (pushK 2)
  else if x.op = 18 then (popsK [2] st).bind (pushK 1)
  else if x.op = 20 then popsK [1] st
  else if x.op = 24 then (if st = rs then some st else none)
  else some st
abbrev ccells (p : Prog) (ps rs : List Int) (a : AV) : List AV := [.str p.name, .int .i64 p.role, .vs 7 (p.vars.map Var_.row), .vs 3 (p.hs.map Hd.row), .vs 4 (p.os.map Of_.row), .vs 3 (p.code.map Ins_.row), .vs 1 (ps.map irow), .vs 1 (rs.map irow), a]
set_option maxHeartbeats 4000000 in
theorem p75 {H0 : AHeap} {ρ : RefV} (d : ρ.Ok H0) (cb : Nat) (p : Prog) (ps rr : List Int) (a : AV) (hcb : H0.blk cb = some (122, ccells p ps rr a)) (x : Ins_) (st lo : List Int) (hst : st.length ≤ 1000) (hps : ps.length ≤ 1000)
    (hv : x.op = 3 ∨ x.op = 5 → 0 ≤ x.n ∧ x.n < p.vars.length) (hpa : x.op = 4 → 0 ≤ x.n) (heq : ∀ H : AHeap, ∀ t v, H.tok t = some (.mu 3 1 v (st.map irow)) → PureAt Try.prog 117 [.ms t v, .vs 1 (rr.map irow)] H (.bool (decide (st = rr)))) :
    MV 75 [.ptr cb 0, .ptr ρ.b 0, x.av] H0 ρ st lo 11 ((valuesP p ps rr x st).map fun s => (s, lo)) := by
  refine mv_intro Try.func75 c75 fun vs vl => ?_
  have d1 := d.sl; have d2 := Ne.symm d.sl
  have hne : cb ≠ ρ.b := fun e => by subst e; rw [d.fb] at hcb; cases hcb
  unfold e75 r75
  simp only [initEnv, initFrom]
  repeat' first|(apply Sp.go;·constructor<;>first|exact ss|(change _=_;first|(simp only[go_sem,Nat.reduceBEq,Nat.reduceAdd,Nat.reduceLeDiff,reduceIte]<;>rfl)|rfl)|exact Nat.le_of_ble_eq_true rfl|decide|(repeat' first|(apply Lk.go;constructor)|assumption|exact nb ‹_› ‹_›|exact nt ‹_› ‹_›|(apply Lv.go;constructor)))|(intro b hb;repeat first|(refine fe hb ?_;intro _ _ hb)|(refine fT hb ?_;intro hb)|(refine fresh_elimV hb ?_;intro _ _ hb))|refine rt ?_|refine gA rfl ?_|refine gB rfl ?_|apply cT rfl|apply cF rfl|(apply DM.gbT;rfl)|(apply DM.gbF;rfl)|intro h
  rw [hv_setB (by assumption)]
  have hbne : b ≠ ρ.b := by assumption
  have hcbb : cb ≠ b := (ne_blk hb hcb).2
  have hH : HSub H0 (H0.setB b 88 x.row) := HSub.setB (HSub.refl _) hb
  have dd : ρ.Ok (H0.setB b 88 x.row) := ⟨d.sl, g_ne (Ne.symm hbne) d.fb, t_B d.fs, t_B d.fl⟩
  have hcb1 : (H0.setB b 88 x.row).blk cb = some (122, ccells p ps rr a) := g_ne hcbb hcb
  have hb1 : (H0.setB b 88 x.row).blk b = some (88, x.row) := g_same
  generalize H0.setB b 88 x.row = H1 at *
  (apply AM.cond; (· rfl))
  · intro h1
    simp at h1
    repeat' first|(apply Sp.go;·constructor<;>first|exact ss|(change _=_;first|(simp only[go_sem,Nat.reduceBEq,Nat.reduceAdd,Nat.reduceLeDiff,reduceIte]<;>rfl)|rfl)|exact Nat.le_of_ble_eq_true rfl|decide|(repeat' first|(apply Lk.go;constructor)|assumption|exact nb ‹_› ‹_›|exact nt ‹_› ‹_›|(apply Lv.go;constructor)))|(intro b hb;repeat first|(refine fe hb ?_;intro _ _ hb)|(refine fT hb ?_;intro hb)|(refine fresh_elimV hb ?_;intro _ _ hb))|refine rt ?_|refine gA rfl ?_|refine gB rfl ?_|apply cT rfl|apply cF rfl|(apply DM.gbT;rfl)|(apply DM.gbF;rfl)|intro h
    cases hq : pushK 1 st with
    | none =>
      have c := p114 dd st lo 1
      rw [hq] at c
      refine DM.mvX (c) (by simp only [go_sem, Nat.reduceBEq, Nat.reduceAdd] <;> rfl) (AVLes.refl _) fun H' hh => ?_
      rw [show valuesP p ps rr x st = none by simp [valuesP, isArith, hq, h1]]
      exact mvw_pan (hH.trans hh)
    | some s2 =>
      have c := p114 dd st lo 1
      rw [hq] at c
      refine DM.mvO (c) (by simp only [go_sem, Nat.reduceBEq, Nat.reduceAdd] <;> rfl) (AVLes.refl _) fun vs' vl' => ?_
      simp only [put_some]
      repeat' first|(apply Sp.go;·constructor<;>first|exact ss|(change _=_;first|(simp only[go_sem,Nat.reduceBEq,Nat.reduceAdd,Nat.reduceLeDiff,reduceIte]<;>rfl)|rfl)|exact Nat.le_of_ble_eq_true rfl|decide|(repeat' first|(apply Lk.go;constructor)|assumption|exact nb ‹_› ‹_›|exact nt ‹_› ‹_›|(apply Lv.go;constructor)))|(intro b hb;repeat first|(refine fe hb ?_;intro _ _ hb)|(refine fT hb ?_;intro hb)|(refine fresh_elimV hb ?_;intro _ _ hb))|refine rt ?_|refine gA rfl ?_|refine gB rfl ?_|apply cT rfl|apply cF rfl|(apply DM.gbT;rfl)|(apply DM.gbF;rfl)|intro h
      (first|refine AM.ret (v := .tup []) results_nil ?_|refine AM.done (v := .tup []) results_nil ?_)
      rw [show valuesP p ps rr x st = some s2 by simp [valuesP, isArith, hq, h1]]
      exact mvw_ok (s := (s2, lo)) (hv_mono hH)
  · intro h1
    simp at h1
    repeat' first|(apply Sp.go;·constructor<;>first|exact ss|(change _=_;first|(simp only[go_sem,Nat.reduceBEq,Nat.reduceAdd,Nat.reduceLeDiff,reduceIte]<;>rfl)|rfl)|exact Nat.le_of_ble_eq_true rfl|decide|(repeat' first|(apply Lk.go;constructor)|assumption|exact nb ‹_› ‹_›|exact nt ‹_› ‹_›|(apply Lv.go;constructor)))|(intro b hb;repeat first|(refine fe hb ?_;intro _ _ hb)|(refine fT hb ?_;intro hb)|(refine fresh_elimV hb ?_;intro _ _ hb))|refine rt ?_|refine gA rfl ?_|refine gB rfl ?_|apply cT rfl|apply cF rfl|(apply DM.gbT;rfl)|(apply DM.gbF;rfl)|intro h
    (apply AM.cond; (· rfl))
    · intro h2
      simp at h2
      repeat' first|(apply Sp.go;·constructor<;>first|exact ss|(change _=_;first|(simp only[go_sem,Nat.reduceBEq,Nat.reduceAdd,Nat.reduceLeDiff,reduceIte]<;>rfl)|rfl)|exact Nat.le_of_ble_eq_true rfl|decide|(repeat' first|(apply Lk.go;constructor)|assumption|exact nb ‹_› ‹_›|exact nt ‹_› ‹_›|(apply Lv.go;constructor)))|(intro b hb;repeat first|(refine fe hb ?_;intro _ _ hb)|(refine fT hb ?_;intro hb)|(refine fresh_elimV hb ?_;intro _ _ hb))|refine rt ?_|refine gA rfl ?_|refine gB rfl ?_|apply cT rfl|apply cF rfl|(apply DM.gbT;rfl)|(apply DM.gbF;rfl)|intro h
      cases hq : pushK 2 st with
      | none =>
        have c := p114 dd st lo 2
        rw [hq] at c
        refine DM.mvX (c) (by simp only [go_sem, Nat.reduceBEq, Nat.reduceAdd] <;> rfl) (AVLes.refl _) fun H' hh => ?_
        rw [show valuesP p ps rr x st = none by simp [valuesP, isArith, hq, h2]]
        exact mvw_pan (hH.trans hh)
      | some s2 =>
        have c := p114 dd st lo 2
        rw [hq] at c
        refine DM.mvO (c) (by simp only [go_sem, Nat.reduceBEq, Nat.reduceAdd] <;> rfl) (AVLes.refl _) fun vs' vl' => ?_
        simp only [put_some]
        repeat' first|(apply Sp.go;·constructor<;>first|exact ss|(change _=_;first|(simp only[go_sem,Nat.reduceBEq,Nat.reduceAdd,Nat.reduceLeDiff,reduceIte]<;>rfl)|rfl)|exact Nat.le_of_ble_eq_true rfl|decide|(repeat' first|(apply Lk.go;constructor)|assumption|exact nb ‹_› ‹_›|exact nt ‹_› ‹_›|(apply Lv.go;constructor)))|(intro b hb;repeat first|(refine fe hb ?_;intro _ _ hb)|(refine fT hb ?_;intro hb)|(refine fresh_elimV hb ?_;intro _ _ hb))|refine rt ?_|refine gA rfl ?_|refine gB rfl ?_|apply cT rfl|apply cF rfl|(apply DM.gbT;rfl)|(apply DM.gbF;rfl)|intro h
        (first|refine AM.ret (v := .tup []) results_nil ?_|refine AM.done (v := .tup []) results_nil ?_)
        rw [show valuesP p ps rr x st = some s2 by simp [valuesP, isArith, hq, h2]]
        exact mvw_ok (s := (s2, lo)) (hv_mono hH)
    · intro h2
      simp at h2
      repeat' first|(apply Sp.go;·constructor<;>first|exact ss|(change _=_;first|(simp only[go_sem,Nat.reduceBEq,Nat.reduceAdd,Nat.reduceLeDiff,reduceIte]<;>rfl)|rfl)|exact Nat.le_of_ble_eq_true rfl|decide|(repeat' first|(apply Lk.go;constructor)|assumption|exact nb ‹_› ‹_›|exact nt ‹_› ‹_›|(apply Lv.go;constructor)))|(intro b hb;repeat first|(refine fe hb ?_;intro _ _ hb)|(refine fT hb ?_;intro hb)|(refine fresh_elimV hb ?_;intro _ _ hb))|refine rt ?_|refine gA rfl ?_|refine gB rfl ?_|apply cT rfl|apply cF rfl|(apply DM.gbT;rfl)|(apply DM.gbF;rfl)|intro h
      (apply AM.cond; (· rfl))
      · intro h3
        simp at h3
        obtain ⟨q1, q2⟩ := hv (.inl h3)
        obtain ⟨v, hvv⟩ := some_of (show x.n.toNat < p.vars.length by omega)
        repeat' first|(apply Sp.go;·constructor<;>first|exact ss|(change _=_;first|(simp only[go_sem,Nat.reduceBEq,Nat.reduceAdd,Nat.reduceLeDiff,reduceIte]<;>rfl)|rfl)|exact Nat.le_of_ble_eq_true rfl|decide|(repeat' first|(apply Lk.go;constructor)|assumption|exact nb ‹_› ‹_›|exact nt ‹_› ‹_›|(apply Lv.go;constructor)))|(intro b hb;repeat first|(refine fe hb ?_;intro _ _ hb)|(refine fT hb ?_;intro hb)|(refine fresh_elimV hb ?_;intro _ _ hb))|refine rt ?_|refine gA rfl ?_|refine gB rfl ?_|apply cT rfl|apply cF rfl|(apply DM.gbT;rfl)|(apply DM.gbF;rfl)|intro h
        (apply DM.ixV (row := v.row) (z := x.n) q1 (by rw [List.getElem?_map, hvv]; rfl); (· rfl); (· rfl))
        repeat' first|(apply Sp.go;·constructor<;>first|exact ss|(change _=_;first|(simp only[go_sem,Nat.reduceBEq,Nat.reduceAdd,Nat.reduceLeDiff,reduceIte]<;>rfl)|rfl)|exact Nat.le_of_ble_eq_true rfl|decide|(repeat' first|(apply Lk.go;constructor)|assumption|exact nb ‹_› ‹_›|exact nt ‹_› ‹_›|(apply Lv.go;constructor)))|(intro b hb;repeat first|(refine fe hb ?_;intro _ _ hb)|(refine fT hb ?_;intro hb)|(refine fresh_elimV hb ?_;intro _ _ hb))|refine rt ?_|refine gA rfl ?_|refine gB rfl ?_|apply cT rfl|apply cF rfl|(apply DM.gbT;rfl)|(apply DM.gbF;rfl)|intro h
        cases hq : pushK v.sort.k st with
        | none =>
          have c := p114 dd st lo v.sort.k
          rw [hq] at c
          refine DM.mvX (c) (by simp only [go_sem, Nat.reduceBEq, Nat.reduceAdd] <;> rfl) (AVLes.refl _) fun H' hh => ?_
          rw [show valuesP p ps rr x st = none by simp [valuesP, isArith, hq, h3, hvv]]
          exact mvw_pan (hH.trans hh)
        | some s2 =>
          have c := p114 dd st lo v.sort.k
          rw [hq] at c
          refine DM.mvO (c) (by simp only [go_sem, Nat.reduceBEq, Nat.reduceAdd] <;> rfl) (AVLes.refl _) fun vs' vl' => ?_
          simp only [put_some]
          repeat' first|(apply Sp.go;·constructor<;>first|exact ss|(change _=_;first|(simp only[go_sem,Nat.reduceBEq,Nat.reduceAdd,Nat.reduceLeDiff,reduceIte]<;>rfl)|rfl)|exact Nat.le_of_ble_eq_true rfl|decide|(repeat' first|(apply Lk.go;constructor)|assumption|exact nb ‹_› ‹_›|exact nt ‹_› ‹_›|(apply Lv.go;constructor)))|(intro b hb;repeat first|(refine fe hb ?_;intro _ _ hb)|(refine fT hb ?_;intro hb)|(refine fresh_elimV hb ?_;intro _ _ hb))|refine rt ?_|refine gA rfl ?_|refine gB rfl ?_|apply cT rfl|apply cF rfl|(apply DM.gbT;rfl)|(apply DM.gbF;rfl)|intro h
          (first|refine AM.ret (v := .tup []) results_nil ?_|refine AM.done (v := .tup []) results_nil ?_)
          rw [show valuesP p ps rr x st = some s2 by simp [valuesP, isArith, hq, h3, hvv]]
          exact mvw_ok (s := (s2, lo)) (hv_mono hH)
      · intro h3
        simp at h3
        repeat' first|(apply Sp.go;·constructor<;>first|exact ss|(change _=_;first|(simp only[go_sem,Nat.reduceBEq,Nat.reduceAdd,Nat.reduceLeDiff,reduceIte]<;>rfl)|rfl)|exact Nat.le_of_ble_eq_true rfl|decide|(repeat' first|(apply Lk.go;constructor)|assumption|exact nb ‹_› ‹_›|exact nt ‹_› ‹_›|(apply Lv.go;constructor)))|(intro b hb;repeat first|(refine fe hb ?_;intro _ _ hb)|(refine fT hb ?_;intro hb)|(refine fresh_elimV hb ?_;intro _ _ hb))|refine rt ?_|refine gA rfl ?_|refine gB rfl ?_|apply cT rfl|apply cF rfl|(apply DM.gbT;rfl)|(apply DM.gbF;rfl)|intro h
        (apply AM.cond; (· rfl))
        · intro h4
          simp at h4
          have q1 := hpa h4
          repeat' first|(apply Sp.go;·constructor<;>first|exact ss|(change _=_;first|(simp only[go_sem,Nat.reduceBEq,Nat.reduceAdd,Nat.reduceLeDiff,reduceIte]<;>rfl)|rfl)|exact Nat.le_of_ble_eq_true rfl|decide|(repeat' first|(apply Lk.go;constructor)|assumption|exact nb ‹_› ‹_›|exact nt ‹_› ‹_›|(apply Lv.go;constructor)))|(intro b hb;repeat first|(refine fe hb ?_;intro _ _ hb)|(refine fT hb ?_;intro hb)|(refine fresh_elimV hb ?_;intro _ _ hb))|refine rt ?_|refine gA rfl ?_|refine gB rfl ?_|apply cT rfl|apply cF rfl|(apply DM.gbT;rfl)|(apply DM.gbF;rfl)|intro h
          by_cases hlt : x.n < ps.length
          · have e1 : decide (x.n < ((ps.map irow).length : Int)) = true := by rw [List.length_map]; exact decide_eq_true hlt
            simp only [e1]
            obtain ⟨k, hk⟩ := some_of (show x.n.toNat < ps.length by omega)
            (apply DM.pcs (p115t 11); (· simp only [go_sem, Nat.reduceBEq, Nat.reduceAdd] <;> rfl); (· exact AVLes.refl _))
            repeat' first|(apply Sp.go;·constructor<;>first|exact ss|(change _=_;first|(simp only[go_sem,Nat.reduceBEq,Nat.reduceAdd,Nat.reduceLeDiff,reduceIte]<;>rfl)|rfl)|exact Nat.le_of_ble_eq_true rfl|decide|(repeat' first|(apply Lk.go;constructor)|assumption|exact nb ‹_› ‹_›|exact nt ‹_› ‹_›|(apply Lv.go;constructor)))|(intro b hb;repeat first|(refine fe hb ?_;intro _ _ hb)|(refine fT hb ?_;intro hb)|(refine fresh_elimV hb ?_;intro _ _ hb))|refine rt ?_|refine gA rfl ?_|refine gB rfl ?_|apply cT rfl|apply cF rfl|(apply DM.gbT;rfl)|(apply DM.gbF;rfl)|intro h
            (apply DM.ixV (row := irow k) (z := x.n) q1 (by rw [List.getElem?_map, hk]; rfl); (· rfl); (· rfl))
            repeat' first|(apply Sp.go;·constructor<;>first|exact ss|(change _=_;first|(simp only[go_sem,Nat.reduceBEq,Nat.reduceAdd,Nat.reduceLeDiff,reduceIte]<;>rfl)|rfl)|exact Nat.le_of_ble_eq_true rfl|decide|(repeat' first|(apply Lk.go;constructor)|assumption|exact nb ‹_› ‹_›|exact nt ‹_› ‹_›|(apply Lv.go;constructor)))|(intro b hb;repeat first|(refine fe hb ?_;intro _ _ hb)|(refine fT hb ?_;intro hb)|(refine fresh_elimV hb ?_;intro _ _ hb))|refine rt ?_|refine gA rfl ?_|refine gB rfl ?_|apply cT rfl|apply cF rfl|(apply DM.gbT;rfl)|(apply DM.gbF;rfl)|intro h
            cases hq : pushK k st with
            | none =>
              have c := p114 dd st lo k
              rw [hq] at c
              refine DM.mvX (c) (by simp only [go_sem, Nat.reduceBEq, Nat.reduceAdd] <;> rfl) (AVLes.refl _) fun H' hh => ?_
              rw [show valuesP p ps rr x st = none by simp [valuesP, isArith, hq, h4, hlt, hk]]
              exact mvw_pan (hH.trans hh)
            | some s2 =>
              have c := p114 dd st lo k
              rw [hq] at c
              refine DM.mvO (c) (by simp only [go_sem, Nat.reduceBEq, Nat.reduceAdd] <;> rfl) (AVLes.refl _) fun vs' vl' => ?_
              simp only [put_some]
              repeat' first|(apply Sp.go;·constructor<;>first|exact ss|(change _=_;first|(simp only[go_sem,Nat.reduceBEq,Nat.reduceAdd,Nat.reduceLeDiff,reduceIte]<;>rfl)|rfl)|exact Nat.le_of_ble_eq_true rfl|decide|(repeat' first|(apply Lk.go;constructor)|assumption|exact nb ‹_› ‹_›|exact nt ‹_› ‹_›|(apply Lv.go;constructor)))|(intro b hb;repeat first|(refine fe hb ?_;intro _ _ hb)|(refine fT hb ?_;intro hb)|(refine fresh_elimV hb ?_;intro _ _ hb))|refine rt ?_|refine gA rfl ?_|refine gB rfl ?_|apply cT rfl|apply cF rfl|(apply DM.gbT;rfl)|(apply DM.gbF;rfl)|intro h
              (first|refine AM.ret (v := .tup []) results_nil ?_|refine AM.done (v := .tup []) results_nil ?_)
              rw [show valuesP p ps rr x st = some s2 by simp [valuesP, isArith, hq, h4, hlt, hk]]
              exact mvw_ok (s := (s2, lo)) (hv_mono hH)
          · have e1 : decide (x.n < ((ps.map irow).length : Int)) = false := by rw [List.length_map]; exact decide_eq_false hlt
            simp only [e1]
            rw [show valuesP p ps rr x st = none by simp [valuesP, h4, hlt]]
            refine DM.calX (p115f 11 _) (by simp only [go_sem, Nat.reduceBEq, Nat.reduceAdd] <;> rfl) (AVLes.refl _) ?_
            rintro v H' ⟨rfl, rfl⟩
            exact mvw_pan (hH.trans (hv_base dd))
        · intro h4
          simp at h4
          repeat' first|(apply Sp.go;·constructor<;>first|exact ss|(change _=_;first|(simp only[go_sem,Nat.reduceBEq,Nat.reduceAdd,Nat.reduceLeDiff,reduceIte]<;>rfl)|rfl)|exact Nat.le_of_ble_eq_true rfl|decide|(repeat' first|(apply Lk.go;constructor)|assumption|exact nb ‹_› ‹_›|exact nt ‹_› ‹_›|(apply Lv.go;constructor)))|(intro b hb;repeat first|(refine fe hb ?_;intro _ _ hb)|(refine fT hb ?_;intro hb)|(refine fresh_elimV hb ?_;intro _ _ hb))|refine rt ?_|refine gA rfl ?_|refine gB rfl ?_|apply cT rfl|apply cF rfl|(apply DM.gbT;rfl)|(apply DM.gbF;rfl)|intro h
          (apply AM.cond; (· rfl))
          · intro h5
            simp at h5
            obtain ⟨q1, q2⟩ := hv (.inr h5)
            obtain ⟨v, hvv⟩ := some_of (show x.n.toNat < p.vars.length by omega)
            repeat' first|(apply Sp.go;·constructor<;>first|exact ss|(change _=_;first|(simp only[go_sem,Nat.reduceBEq,Nat.reduceAdd,Nat.reduceLeDiff,reduceIte]<;>rfl)|rfl)|exact Nat.le_of_ble_eq_true rfl|decide|(repeat' first|(apply Lk.go;constructor)|assumption|exact nb ‹_› ‹_›|exact nt ‹_› ‹_›|(apply Lv.go;constructor)))|(intro b hb;repeat first|(refine fe hb ?_;intro _ _ hb)|(refine fT hb ?_;intro hb)|(refine fresh_elimV hb ?_;intro _ _ hb))|refine rt ?_|refine gA rfl ?_|refine gB rfl ?_|apply cT rfl|apply cF rfl|(apply DM.gbT;rfl)|(apply DM.gbF;rfl)|intro h
            (apply DM.ixV (row := v.row) (z := x.n) q1 (by rw [List.getElem?_map, hvv]; rfl); (· rfl); (· rfl))
            repeat' first|(apply Sp.go;·constructor<;>first|exact ss|(change _=_;first|(simp only[go_sem,Nat.reduceBEq,Nat.reduceAdd,Nat.reduceLeDiff,reduceIte]<;>rfl)|rfl)|exact Nat.le_of_ble_eq_true rfl|decide|(repeat' first|(apply Lk.go;constructor)|assumption|exact nb ‹_› ‹_›|exact nt ‹_› ‹_›|(apply Lv.go;constructor)))|(intro b hb;repeat first|(refine fe hb ?_;intro _ _ hb)|(refine fT hb ?_;intro hb)|(refine fresh_elimV hb ?_;intro _ _ hb))|refine rt ?_|refine gA rfl ?_|refine gB rfl ?_|apply cT rfl|apply cF rfl|(apply DM.gbT;rfl)|(apply DM.gbF;rfl)|intro h
            cases hp : popsK [v.sort.k] st with
            | none =>
              have c := p116 dd st lo [v.sort.k] hst (by simp)
              rw [hp] at c
              refine DM.mvX (c) (by simp only [go_sem, Nat.reduceBEq, Nat.reduceAdd] <;> rfl) (AVLes.refl _) fun H' hh => ?_
              rw [show valuesP p ps rr x st = none by simp [valuesP, isArith, hp, h5, hvv]]
              exact mvw_pan (hH.trans hh)
            | some s1 =>
              have c := p116 dd st lo [v.sort.k] hst (by simp)
              rw [hp] at c
              refine DM.mvO (c) (by simp only [go_sem, Nat.reduceBEq, Nat.reduceAdd] <;> rfl) (AVLes.refl _) fun vs' vl' => ?_
              simp only [put_some]
              repeat' first|(apply Sp.go;·constructor<;>first|exact ss|(change _=_;first|(simp only[go_sem,Nat.reduceBEq,Nat.reduceAdd,Nat.reduceLeDiff,reduceIte]<;>rfl)|rfl)|exact Nat.le_of_ble_eq_true rfl|decide|(repeat' first|(apply Lk.go;constructor)|assumption|exact nb ‹_› ‹_›|exact nt ‹_› ‹_›|(apply Lv.go;constructor)))|(intro b hb;repeat first|(refine fe hb ?_;intro _ _ hb)|(refine fT hb ?_;intro hb)|(refine fresh_elimV hb ?_;intro _ _ hb))|refine rt ?_|refine gA rfl ?_|refine gB rfl ?_|apply cT rfl|apply cF rfl|(apply DM.gbT;rfl)|(apply DM.gbF;rfl)|intro h
              (first|refine AM.ret (v := .tup []) results_nil ?_|refine AM.done (v := .tup []) results_nil ?_)
              rw [show valuesP p ps rr x st = some s1 by simp [valuesP, isArith, hp, h5, hvv]]
              exact mvw_ok (s := (s1, lo)) (hv_mono hH)
          · intro h5
            simp at h5
            repeat' first|(apply Sp.go;·constructor<;>first|exact ss|(change _=_;first|(simp only[go_sem,Nat.reduceBEq,Nat.reduceAdd,Nat.reduceLeDiff,reduceIte]<;>rfl)|rfl)|exact Nat.le_of_ble_eq_true rfl|decide|(repeat' first|(apply Lk.go;constructor)|assumption|exact nb ‹_› ‹_›|exact nt ‹_› ‹_›|(apply Lv.go;constructor)))|(intro b hb;repeat first|(refine fe hb ?_;intro _ _ hb)|(refine fT hb ?_;intro hb)|(refine fresh_elimV hb ?_;intro _ _ hb))|refine rt ?_|refine gA rfl ?_|refine gB rfl ?_|apply cT rfl|apply cF rfl|(apply DM.gbT;rfl)|(apply DM.gbF;rfl)|(apply AM.condS;rfl)|intro h
            · have ho : x.op = 6 := of_decide_eq_true ‹decide (x.op = 6) = true›
              repeat' first|(apply Sp.go;·constructor<;>first|exact ss|(change _=_;first|(simp only[go_sem,Nat.reduceBEq,Nat.reduceAdd,Nat.reduceLeDiff,reduceIte]<;>rfl)|rfl)|exact Nat.le_of_ble_eq_true rfl|decide|(repeat' first|(apply Lk.go;constructor)|assumption|exact nb ‹_› ‹_›|exact nt ‹_› ‹_›|(apply Lv.go;constructor)))|(intro b hb;repeat first|(refine fe hb ?_;intro _ _ hb)|(refine fT hb ?_;intro hb)|(refine fresh_elimV hb ?_;intro _ _ hb))|refine rt ?_|refine gA rfl ?_|refine gB rfl ?_|apply cT rfl|apply cF rfl|(apply DM.gbT;rfl)|(apply DM.gbF;rfl)|intro h
              cases hp : popsK [1, 1] st with
              | none =>
                have c := p116 dd st lo [1, 1] hst (by simp)
                rw [hp] at c
                refine DM.mvX (c) (by simp only [go_sem, Nat.reduceBEq, Nat.reduceAdd] <;> rfl) (AVLes.refl _) fun H' hh => ?_
                rw [show valuesP p ps rr x st = none by simp [valuesP, isArith, hp, ho]]
                exact mvw_pan (hH.trans hh)
              | some s1 =>
                have c := p116 dd st lo [1, 1] hst (by simp)
                rw [hp] at c
                refine DM.mvO (c) (by simp only [go_sem, Nat.reduceBEq, Nat.reduceAdd] <;> rfl) (AVLes.refl _) fun vs' vl' => ?_
                simp only [put_some]
                repeat' first|(apply Sp.go;·constructor<;>first|exact ss|(change _=_;first|(simp only[go_sem,Nat.reduceBEq,Nat.reduceAdd,Nat.reduceLeDiff,reduceIte]<;>rfl)|rfl)|exact Nat.le_of_ble_eq_true rfl|decide|(repeat' first|(apply Lk.go;constructor)|assumption|exact nb ‹_› ‹_›|exact nt ‹_› ‹_›|(apply Lv.go;constructor)))|(intro b hb;repeat first|(refine fe hb ?_;intro _ _ hb)|(refine fT hb ?_;intro hb)|(refine fresh_elimV hb ?_;intro _ _ hb))|refine rt ?_|refine gA rfl ?_|refine gB rfl ?_|apply cT rfl|apply cF rfl|(apply DM.gbT;rfl)|(apply DM.gbF;rfl)|intro h
                cases hq : pushK 1 s1 with
                | none =>
                  have c := p114 dd s1 lo 1
                  rw [hq] at c
                  refine DM.mvX (c) (by simp only [go_sem, Nat.reduceBEq, Nat.reduceAdd] <;> rfl) (AVLes.refl _) fun H' hh => ?_
                  rw [show valuesP p ps rr x st = none by simp [valuesP, isArith, hp, hq, ho]]
                  exact mvw_pan (hH.trans hh)
                | some s2 =>
                  have c := p114 dd s1 lo 1
                  rw [hq] at c
                  refine DM.mvO (c) (by simp only [go_sem, Nat.reduceBEq, Nat.reduceAdd] <;> rfl) (AVLes.refl _) fun vs' vl' => ?_
                  simp only [put_some]
                  repeat' first|(apply Sp.go;·constructor<;>first|exact ss|(change _=_;first|(simp only[go_sem,Nat.reduceBEq,Nat.reduceAdd,Nat.reduceLeDiff,reduceIte]<;>rfl)|rfl)|exact Nat.le_of_ble_eq_true rfl|decide|(repeat' first|(apply Lk.go;constructor)|assumption|exact nb ‹_› ‹_›|exact nt ‹_› ‹_›|(apply Lv.go;constructor)))|(intro b hb;repeat first|(refine fe hb ?_;intro _ _ hb)|(refine fT hb ?_;intro hb)|(refine fresh_elimV hb ?_;intro _ _ hb))|refine rt ?_|refine gA rfl ?_|refine gB rfl ?_|apply cT rfl|apply cF rfl|(apply DM.gbT;rfl)|(apply DM.gbF;rfl)|intro h
                  (first|refine AM.ret (v := .tup []) results_nil ?_|refine AM.done (v := .tup []) results_nil ?_)
                  rw [show valuesP p ps rr x st = some s2 by simp [valuesP, isArith, hp, hq, ho]]
                  exact mvw_ok (s := (s2, lo)) (hv_mono hH)
            · have ho : x.op = 7 := of_decide_eq_true ‹decide (x.op = 7) = true›
              repeat' first|(apply Sp.go;·constructor<;>first|exact ss|(change _=_;first|(simp only[go_sem,Nat.reduceBEq,Nat.reduceAdd,Nat.reduceLeDiff,reduceIte]<;>rfl)|rfl)|exact Nat.le_of_ble_eq_true rfl|decide|(repeat' first|(apply Lk.go;constructor)|assumption|exact nb ‹_› ‹_›|exact nt ‹_› ‹_›|(apply Lv.go;constructor)))|(intro b hb;repeat first|(refine fe hb ?_;intro _ _ hb)|(refine fT hb ?_;intro hb)|(refine fresh_elimV hb ?_;intro _ _ hb))|refine rt ?_|refine gA rfl ?_|refine gB rfl ?_|apply cT rfl|apply cF rfl|(apply DM.gbT;rfl)|(apply DM.gbF;rfl)|intro h
              cases hp : popsK [1, 1] st with
              | none =>
                have c := p116 dd st lo [1, 1] hst (by simp)
                rw [hp] at c
                refine DM.mvX (c) (by simp only [go_sem, Nat.reduceBEq, Nat.reduceAdd] <;> rfl) (AVLes.refl _) fun H' hh => ?_
                rw [show valuesP p ps rr x st = none by simp [valuesP, isArith, hp, ho]]
                exact mvw_pan (hH.trans hh)
              | some s1 =>
                have c := p116 dd st lo [1, 1] hst (by simp)
                rw [hp] at c
                refine DM.mvO (c) (by simp only [go_sem, Nat.reduceBEq, Nat.reduceAdd] <;> rfl) (AVLes.refl _) fun vs' vl' => ?_
                simp only [put_some]
                repeat' first|(apply Sp.go;·constructor<;>first|exact ss|(change _=_;first|(simp only[go_sem,Nat.reduceBEq,Nat.reduceAdd,Nat.reduceLeDiff,reduceIte]<;>rfl)|rfl)|exact Nat.le_of_ble_eq_true rfl|decide|(repeat' first|(apply Lk.go;constructor)|assumption|exact nb ‹_› ‹_›|exact nt ‹_› ‹_›|(apply Lv.go;constructor)))|(intro b hb;repeat first|(refine fe hb ?_;intro _ _ hb)|(refine fT hb ?_;intro hb)|(refine fresh_elimV hb ?_;intro _ _ hb))|refine rt ?_|refine gA rfl ?_|refine gB rfl ?_|apply cT rfl|apply cF rfl|(apply DM.gbT;rfl)|(apply DM.gbF;rfl)|intro h
                cases hq : pushK 1 s1 with
                | none =>
                  have c := p114 dd s1 lo 1
                  rw [hq] at c
                  refine DM.mvX (c) (by simp only [go_sem, Nat.reduceBEq, Nat.reduceAdd] <;> rfl) (AVLes.refl _) fun H' hh => ?_
                  rw [show valuesP p ps rr x st = none by simp [valuesP, isArith, hp, hq, ho]]
                  exact mvw_pan (hH.trans hh)
                | some s2 =>
                  have c := p114 dd s1 lo 1
                  rw [hq] at c
                  refine DM.mvO (c) (by simp only [go_sem, Nat.reduceBEq, Nat.reduceAdd] <;> rfl) (AVLes.refl _) fun vs' vl' => ?_
                  simp only [put_some]
                  repeat' first|(apply Sp.go;·constructor<;>first|exact ss|(change _=_;first|(simp only[go_sem,Nat.reduceBEq,Nat.reduceAdd,Nat.reduceLeDiff,reduceIte]<;>rfl)|rfl)|exact Nat.le_of_ble_eq_true rfl|decide|(repeat' first|(apply Lk.go;constructor)|assumption|exact nb ‹_› ‹_›|exact nt ‹_› ‹_›|(apply Lv.go;constructor)))|(intro b hb;repeat first|(refine fe hb ?_;intro _ _ hb)|(refine fT hb ?_;intro hb)|(refine fresh_elimV hb ?_;intro _ _ hb))|refine rt ?_|refine gA rfl ?_|refine gB rfl ?_|apply cT rfl|apply cF rfl|(apply DM.gbT;rfl)|(apply DM.gbF;rfl)|intro h
                  (first|refine AM.ret (v := .tup []) results_nil ?_|refine AM.done (v := .tup []) results_nil ?_)
                  rw [show valuesP p ps rr x st = some s2 by simp [valuesP, isArith, hp, hq, ho]]
                  exact mvw_ok (s := (s2, lo)) (hv_mono hH)
            · have ho : x.op = 8 := of_decide_eq_true ‹decide (x.op = 8) = true›
              repeat' first|(apply Sp.go;·constructor<;>first|exact ss|(change _=_;first|(simp only[go_sem,Nat.reduceBEq,Nat.reduceAdd,Nat.reduceLeDiff,reduceIte]<;>rfl)|rfl)|exact Nat.le_of_ble_eq_true rfl|decide|(repeat' first|(apply Lk.go;constructor)|assumption|exact nb ‹_› ‹_›|exact nt ‹_› ‹_›|(apply Lv.go;constructor)))|(intro b hb;repeat first|(refine fe hb ?_;intro _ _ hb)|(refine fT hb ?_;intro hb)|(refine fresh_elimV hb ?_;intro _ _ hb))|refine rt ?_|refine gA rfl ?_|refine gB rfl ?_|apply cT rfl|apply cF rfl|(apply DM.gbT;rfl)|(apply DM.gbF;rfl)|intro h
              cases hp : popsK [1, 1] st with
              | none =>
                have c := p116 dd st lo [1, 1] hst (by simp)
                rw [hp] at c
                refine DM.mvX (c) (by simp only [go_sem, Nat.reduceBEq, Nat.reduceAdd] <;> rfl) (AVLes.refl _) fun H' hh => ?_
                rw [show valuesP p ps rr x st = none by simp [valuesP, isArith, hp, ho]]
                exact mvw_pan (hH.trans hh)
              | some s1 =>
                have c := p116 dd st lo [1, 1] hst (by simp)
                rw [hp] at c
                refine DM.mvO (c) (by simp only [go_sem, Nat.reduceBEq, Nat.reduceAdd] <;> rfl) (AVLes.refl _) fun vs' vl' => ?_
                simp only [put_some]
                repeat' first|(apply Sp.go;·constructor<;>first|exact ss|(change _=_;first|(simp only[go_sem,Nat.reduceBEq,Nat.reduceAdd,Nat.reduceLeDiff,reduceIte]<;>rfl)|rfl)|exact Nat.le_of_ble_eq_true rfl|decide|(repeat' first|(apply Lk.go;constructor)|assumption|exact nb ‹_› ‹_›|exact nt ‹_› ‹_›|(apply Lv.go;constructor)))|(intro b hb;repeat first|(refine fe hb ?_;intro _ _ hb)|(refine fT hb ?_;intro hb)|(refine fresh_elimV hb ?_;intro _ _ hb))|refine rt ?_|refine gA rfl ?_|refine gB rfl ?_|apply cT rfl|apply cF rfl|(apply DM.gbT;rfl)|(apply DM.gbF;rfl)|intro h
                cases hq : pushK 1 s1 with
                | none =>
                  have c := p114 dd s1 lo 1
                  rw [hq] at c
                  refine DM.mvX (c) (by simp only [go_sem, Nat.reduceBEq, Nat.reduceAdd] <;> rfl) (AVLes.refl _) fun H' hh => ?_
                  rw [show valuesP p ps rr x st = none by simp [valuesP, isArith, hp, hq, ho]]
                  exact mvw_pan (hH.trans hh)
                | some s2 =>
                  have c := p114 dd s1 lo 1
                  rw [hq] at c
                  refine DM.mvO (c) (by simp only [go_sem, Nat.reduceBEq, Nat.reduceAdd] <;> rfl) (AVLes.refl _) fun vs' vl' => ?_
                  simp only [put_some]
                  repeat' first|(apply Sp.go;·constructor<;>first|exact ss|(change _=_;first|(simp only[go_sem,Nat.reduceBEq,Nat.reduceAdd,Nat.reduceLeDiff,reduceIte]<;>rfl)|rfl)|exact Nat.le_of_ble_eq_true rfl|decide|(repeat' first|(apply Lk.go;constructor)|assumption|exact nb ‹_› ‹_›|exact nt ‹_› ‹_›|(apply Lv.go;constructor)))|(intro b hb;repeat first|(refine fe hb ?_;intro _ _ hb)|(refine fT hb ?_;intro hb)|(refine fresh_elimV hb ?_;intro _ _ hb))|refine rt ?_|refine gA rfl ?_|refine gB rfl ?_|apply cT rfl|apply cF rfl|(apply DM.gbT;rfl)|(apply DM.gbF;rfl)|intro h
                  (first|refine AM.ret (v := .tup []) results_nil ?_|refine AM.done (v := .tup []) results_nil ?_)
                  rw [show valuesP p ps rr x st = some s2 by simp [valuesP, isArith, hp, hq, ho]]
                  exact mvw_ok (s := (s2, lo)) (hv_mono hH)
            · have ho : x.op = 9 := of_decide_eq_true ‹decide (x.op = 9) = true›
              repeat' first|(apply Sp.go;·constructor<;>first|exact ss|(change _=_;first|(simp only[go_sem,Nat.reduceBEq,Nat.reduceAdd,Nat.reduceLeDiff,reduceIte]<;>rfl)|rfl)|exact Nat.le_of_ble_eq_true rfl|decide|(repeat' first|(apply Lk.go;constructor)|assumption|exact nb ‹_› ‹_›|exact nt ‹_› ‹_›|(apply Lv.go;constructor)))|(intro b hb;repeat first|(refine fe hb ?_;intro _ _ hb)|(refine fT hb ?_;intro hb)|(refine fresh_elimV hb ?_;intro _ _ hb))|refine rt ?_|refine gA rfl ?_|refine gB rfl ?_|apply cT rfl|apply cF rfl|(apply DM.gbT;rfl)|(apply DM.gbF;rfl)|intro h
              cases hp : popsK [1, 1] st with
              | none =>
                have c := p116 dd st lo [1, 1] hst (by simp)
                rw [hp] at c
                refine DM.mvX (c) (by simp only [go_sem, Nat.reduceBEq, Nat.reduceAdd] <;> rfl) (AVLes.refl _) fun H' hh => ?_
                rw [show valuesP p ps rr x st = none by simp [valuesP, isArith, hp, ho]]
                exact mvw_pan (hH.trans hh)
              | some s1 =>
                have c := p116 dd st lo [1, 1] hst (by simp)
                rw [hp] at c
                refine DM.mvO (c) (by simp only [go_sem, Nat.reduceBEq, Nat.reduceAdd] <;> rfl) (AVLes.refl _) fun vs' vl' => ?_
                simp only [put_some]
                repeat' first|(apply Sp.go;·constructor<;>first|exact ss|(change _=_;first|(simp only[go_sem,Nat.reduceBEq,Nat.reduceAdd,Nat.reduceLeDiff,reduceIte]<;>rfl)|rfl)|exact Nat.le_of_ble_eq_true rfl|decide|(repeat' first|(apply Lk.go;constructor)|assumption|exact nb ‹_› ‹_›|exact nt ‹_› ‹_›|(apply Lv.go;constructor)))|(intro b hb;repeat first|(refine fe hb ?_;intro _ _ hb)|(refine fT hb ?_;intro hb)|(refine fresh_elimV hb ?_;intro _ _ hb))|refine rt ?_|refine gA rfl ?_|refine gB rfl ?_|apply cT rfl|apply cF rfl|(apply DM.gbT;rfl)|(apply DM.gbF;rfl)|intro h
                cases hq : pushK 1 s1 with
                | none =>
                  have c := p114 dd s1 lo 1
                  rw [hq] at c
                  refine DM.mvX (c) (by simp only [go_sem, Nat.reduceBEq, Nat.reduceAdd] <;> rfl) (AVLes.refl _) fun H' hh => ?_
                  rw [show valuesP p ps rr x st = none by simp [valuesP, isArith, hp, hq, ho]]
                  exact mvw_pan (hH.trans hh)
                | some s2 =>
                  have c := p114 dd s1 lo 1
                  rw [hq] at c
                  refine DM.mvO (c) (by simp only [go_sem, Nat.reduceBEq, Nat.reduceAdd] <;> rfl) (AVLes.refl _) fun vs' vl' => ?_
                  simp only [put_some]
                  repeat' first|(apply Sp.go;·constructor<;>first|exact ss|(change _=_;first|(simp only[go_sem,Nat.reduceBEq,Nat.reduceAdd,Nat.reduceLeDiff,reduceIte]<;>rfl)|rfl)|exact Nat.le_of_ble_eq_true rfl|decide|(repeat' first|(apply Lk.go;constructor)|assumption|exact nb ‹_› ‹_›|exact nt ‹_› ‹_›|(apply Lv.go;constructor)))|(intro b hb;repeat first|(refine fe hb ?_;intro _ _ hb)|(refine fT hb ?_;intro hb)|(refine fresh_elimV hb ?_;intro _ _ hb))|refine rt ?_|refine gA rfl ?_|refine gB rfl ?_|apply cT rfl|apply cF rfl|(apply DM.gbT;rfl)|(apply DM.gbF;rfl)|intro h
                  (first|refine AM.ret (v := .tup []) results_nil ?_|refine AM.done (v := .tup []) results_nil ?_)
                  rw [show valuesP p ps rr x st = some s2 by simp [valuesP, isArith, hp, hq, ho]]
                  exact mvw_ok (s := (s2, lo)) (hv_mono hH)
            · have ho : x.op = 10 := of_decide_eq_true ‹decide (x.op = 10) = true›
              repeat' first|(apply Sp.go;·constructor<;>first|exact ss|(change _=_;first|(simp only[go_sem,Nat.reduceBEq,Nat.reduceAdd,Nat.reduceLeDiff,reduceIte]<;>rfl)|rfl)|exact Nat.le_of_ble_eq_true rfl|decide|(repeat' first|(apply Lk.go;constructor)|assumption|exact nb ‹_› ‹_›|exact nt ‹_› ‹_›|(apply Lv.go;constructor)))|(intro b hb;repeat first|(refine fe hb ?_;intro _ _ hb)|(refine fT hb ?_;intro hb)|(refine fresh_elimV hb ?_;intro _ _ hb))|refine rt ?_|refine gA rfl ?_|refine gB rfl ?_|apply cT rfl|apply cF rfl|(apply DM.gbT;rfl)|(apply DM.gbF;rfl)|intro h
              cases hp : popsK [1, 1] st with
              | none =>
                have c := p116 dd st lo [1, 1] hst (by simp)
                rw [hp] at c
                refine DM.mvX (c) (by simp only [go_sem, Nat.reduceBEq, Nat.reduceAdd] <;> rfl) (AVLes.refl _) fun H' hh => ?_
                rw [show valuesP p ps rr x st = none by simp [valuesP, isArith, hp, ho]]
                exact mvw_pan (hH.trans hh)
              | some s1 =>
                have c := p116 dd st lo [1, 1] hst (by simp)
                rw [hp] at c
                refine DM.mvO (c) (by simp only [go_sem, Nat.reduceBEq, Nat.reduceAdd] <;> rfl) (AVLes.refl _) fun vs' vl' => ?_
                simp only [put_some]
                repeat' first|(apply Sp.go;·constructor<;>first|exact ss|(change _=_;first|(simp only[go_sem,Nat.reduceBEq,Nat.reduceAdd,Nat.reduceLeDiff,reduceIte]<;>rfl)|rfl)|exact Nat.le_of_ble_eq_true rfl|decide|(repeat' first|(apply Lk.go;constructor)|assumption|exact nb ‹_› ‹_›|exact nt ‹_› ‹_›|(apply Lv.go;constructor)))|(intro b hb;repeat first|(refine fe hb ?_;intro _ _ hb)|(refine fT hb ?_;intro hb)|(refine fresh_elimV hb ?_;intro _ _ hb))|refine rt ?_|refine gA rfl ?_|refine gB rfl ?_|apply cT rfl|apply cF rfl|(apply DM.gbT;rfl)|(apply DM.gbF;rfl)|intro h
                cases hq : pushK 1 s1 with
                | none =>
                  have c := p114 dd s1 lo 1
                  rw [hq] at c
                  refine DM.mvX (c) (by simp only [go_sem, Nat.reduceBEq, Nat.reduceAdd] <;> rfl) (AVLes.refl _) fun H' hh => ?_
                  rw [show valuesP p ps rr x st = none by simp [valuesP, isArith, hp, hq, ho]]
                  exact mvw_pan (hH.trans hh)
                | some s2 =>
                  have c := p114 dd s1 lo 1
                  rw [hq] at c
                  refine DM.mvO (c) (by simp only [go_sem, Nat.reduceBEq, Nat.reduceAdd] <;> rfl) (AVLes.refl _) fun vs' vl' => ?_
                  simp only [put_some]
                  repeat' first|(apply Sp.go;·constructor<;>first|exact ss|(change _=_;first|(simp only[go_sem,Nat.reduceBEq,Nat.reduceAdd,Nat.reduceLeDiff,reduceIte]<;>rfl)|rfl)|exact Nat.le_of_ble_eq_true rfl|decide|(repeat' first|(apply Lk.go;constructor)|assumption|exact nb ‹_› ‹_›|exact nt ‹_› ‹_›|(apply Lv.go;constructor)))|(intro b hb;repeat first|(refine fe hb ?_;intro _ _ hb)|(refine fT hb ?_;intro hb)|(refine fresh_elimV hb ?_;intro _ _ hb))|refine rt ?_|refine gA rfl ?_|refine gB rfl ?_|apply cT rfl|apply cF rfl|(apply DM.gbT;rfl)|(apply DM.gbF;rfl)|intro h
                  (first|refine AM.ret (v := .tup []) results_nil ?_|refine AM.done (v := .tup []) results_nil ?_)
                  rw [show valuesP p ps rr x st = some s2 by simp [valuesP, isArith, hp, hq, ho]]
                  exact mvw_ok (s := (s2, lo)) (hv_mono hH)
            · have ho : x.op = 13 := of_decide_eq_true ‹decide (x.op = 13) = true›
              repeat' first|(apply Sp.go;·constructor<;>first|exact ss|(change _=_;first|(simp only[go_sem,Nat.reduceBEq,Nat.reduceAdd,Nat.reduceLeDiff,reduceIte]<;>rfl)|rfl)|exact Nat.le_of_ble_eq_true rfl|decide|(repeat' first|(apply Lk.go;constructor)|assumption|exact nb ‹_› ‹_›|exact nt ‹_› ‹_›|(apply Lv.go;constructor)))|(intro b hb;repeat first|(refine fe hb ?_;intro _ _ hb)|(refine fT hb ?_;intro hb)|(refine fresh_elimV hb ?_;intro _ _ hb))|refine rt ?_|refine gA rfl ?_|refine gB rfl ?_|apply cT rfl|apply cF rfl|(apply DM.gbT;rfl)|(apply DM.gbF;rfl)|intro h
              cases hp : popsK [1, 1] st with
              | none =>
                have c := p116 dd st lo [1, 1] hst (by simp)
                rw [hp] at c
                refine DM.mvX (c) (by simp only [go_sem, Nat.reduceBEq, Nat.reduceAdd] <;> rfl) (AVLes.refl _) fun H' hh => ?_
                rw [show valuesP p ps rr x st = none by simp [valuesP, isArith, hp, ho]]
                exact mvw_pan (hH.trans hh)
              | some s1 =>
                have c := p116 dd st lo [1, 1] hst (by simp)
                rw [hp] at c
                refine DM.mvO (c) (by simp only [go_sem, Nat.reduceBEq, Nat.reduceAdd] <;> rfl) (AVLes.refl _) fun vs' vl' => ?_
                simp only [put_some]
                repeat' first|(apply Sp.go;·constructor<;>first|exact ss|(change _=_;first|(simp only[go_sem,Nat.reduceBEq,Nat.reduceAdd,Nat.reduceLeDiff,reduceIte]<;>rfl)|rfl)|exact Nat.le_of_ble_eq_true rfl|decide|(repeat' first|(apply Lk.go;constructor)|assumption|exact nb ‹_› ‹_›|exact nt ‹_› ‹_›|(apply Lv.go;constructor)))|(intro b hb;repeat first|(refine fe hb ?_;intro _ _ hb)|(refine fT hb ?_;intro hb)|(refine fresh_elimV hb ?_;intro _ _ hb))|refine rt ?_|refine gA rfl ?_|refine gB rfl ?_|apply cT rfl|apply cF rfl|(apply DM.gbT;rfl)|(apply DM.gbF;rfl)|intro h
                cases hq : pushK 1 s1 with
                | none =>
                  have c := p114 dd s1 lo 1
                  rw [hq] at c
                  refine DM.mvX (c) (by simp only [go_sem, Nat.reduceBEq, Nat.reduceAdd] <;> rfl) (AVLes.refl _) fun H' hh => ?_
                  rw [show valuesP p ps rr x st = none by simp [valuesP, isArith, hp, hq, ho]]
                  exact mvw_pan (hH.trans hh)
                | some s2 =>
                  have c := p114 dd s1 lo 1
                  rw [hq] at c
                  refine DM.mvO (c) (by simp only [go_sem, Nat.reduceBEq, Nat.reduceAdd] <;> rfl) (AVLes.refl _) fun vs' vl' => ?_
                  simp only [put_some]
                  repeat' first|(apply Sp.go;·constructor<;>first|exact ss|(change _=_;first|(simp only[go_sem,Nat.reduceBEq,Nat.reduceAdd,Nat.reduceLeDiff,reduceIte]<;>rfl)|rfl)|exact Nat.le_of_ble_eq_true rfl|decide|(repeat' first|(apply Lk.go;constructor)|assumption|exact nb ‹_› ‹_›|exact nt ‹_› ‹_›|(apply Lv.go;constructor)))|(intro b hb;repeat first|(refine fe hb ?_;intro _ _ hb)|(refine fT hb ?_;intro hb)|(refine fresh_elimV hb ?_;intro _ _ hb))|refine rt ?_|refine gA rfl ?_|refine gB rfl ?_|apply cT rfl|apply cF rfl|(apply DM.gbT;rfl)|(apply DM.gbF;rfl)|intro h
                  (first|refine AM.ret (v := .tup []) results_nil ?_|refine AM.done (v := .tup []) results_nil ?_)
                  rw [show valuesP p ps rr x st = some s2 by simp [valuesP, isArith, hp, hq, ho]]
                  exact mvw_ok (s := (s2, lo)) (hv_mono hH)
            · have ho : x.op = 15 := of_decide_eq_true ‹decide (x.op = 15) = true›
              repeat' first|(apply Sp.go;·constructor<;>first|exact ss|(change _=_;first|(simp only[go_sem,Nat.reduceBEq,Nat.reduceAdd,Nat.reduceLeDiff,reduceIte]<;>rfl)|rfl)|exact Nat.le_of_ble_eq_true rfl|decide|(repeat' first|(apply Lk.go;constructor)|assumption|exact nb ‹_› ‹_›|exact nt ‹_› ‹_›|(apply Lv.go;constructor)))|(intro b hb;repeat first|(refine fe hb ?_;intro _ _ hb)|(refine fT hb ?_;intro hb)|(refine fresh_elimV hb ?_;intro _ _ hb))|refine rt ?_|refine gA rfl ?_|refine gB rfl ?_|apply cT rfl|apply cF rfl|(apply DM.gbT;rfl)|(apply DM.gbF;rfl)|intro h
              cases hp : popsK [1, 1] st with
              | none =>
                have c := p116 dd st lo [1, 1] hst (by simp)
                rw [hp] at c
                refine DM.mvX (c) (by simp only [go_sem, Nat.reduceBEq, Nat.reduceAdd] <;> rfl) (AVLes.refl _) fun H' hh => ?_
                rw [show valuesP p ps rr x st = none by simp [valuesP, isArith, hp, ho]]
                exact mvw_pan (hH.trans hh)
              | some s1 =>
                have c := p116 dd st lo [1, 1] hst (by simp)
                rw [hp] at c
                refine DM.mvO (c) (by simp only [go_sem, Nat.reduceBEq, Nat.reduceAdd] <;> rfl) (AVLes.refl _) fun vs' vl' => ?_
                simp only [put_some]
                repeat' first|(apply Sp.go;·constructor<;>first|exact ss|(change _=_;first|(simp only[go_sem,Nat.reduceBEq,Nat.reduceAdd,Nat.reduceLeDiff,reduceIte]<;>rfl)|rfl)|exact Nat.le_of_ble_eq_true rfl|decide|(repeat' first|(apply Lk.go;constructor)|assumption|exact nb ‹_› ‹_›|exact nt ‹_› ‹_›|(apply Lv.go;constructor)))|(intro b hb;repeat first|(refine fe hb ?_;intro _ _ hb)|(refine fT hb ?_;intro hb)|(refine fresh_elimV hb ?_;intro _ _ hb))|refine rt ?_|refine gA rfl ?_|refine gB rfl ?_|apply cT rfl|apply cF rfl|(apply DM.gbT;rfl)|(apply DM.gbF;rfl)|intro h
                cases hq : pushK 1 s1 with
                | none =>
                  have c := p114 dd s1 lo 1
                  rw [hq] at c
                  refine DM.mvX (c) (by simp only [go_sem, Nat.reduceBEq, Nat.reduceAdd] <;> rfl) (AVLes.refl _) fun H' hh => ?_
                  rw [show valuesP p ps rr x st = none by simp [valuesP, isArith, hp, hq, ho]]
                  exact mvw_pan (hH.trans hh)
                | some s2 =>
                  have c := p114 dd s1 lo 1
                  rw [hq] at c
                  refine DM.mvO (c) (by simp only [go_sem, Nat.reduceBEq, Nat.reduceAdd] <;> rfl) (AVLes.refl _) fun vs' vl' => ?_
                  simp only [put_some]
                  repeat' first|(apply Sp.go;·constructor<;>first|exact ss|(change _=_;first|(simp only[go_sem,Nat.reduceBEq,Nat.reduceAdd,Nat.reduceLeDiff,reduceIte]<;>rfl)|rfl)|exact Nat.le_of_ble_eq_true rfl|decide|(repeat' first|(apply Lk.go;constructor)|assumption|exact nb ‹_› ‹_›|exact nt ‹_› ‹_›|(apply Lv.go;constructor)))|(intro b hb;repeat first|(refine fe hb ?_;intro _ _ hb)|(refine fT hb ?_;intro hb)|(refine fresh_elimV hb ?_;intro _ _ hb))|refine rt ?_|refine gA rfl ?_|refine gB rfl ?_|apply cT rfl|apply cF rfl|(apply DM.gbT;rfl)|(apply DM.gbF;rfl)|intro h
                  (first|refine AM.ret (v := .tup []) results_nil ?_|refine AM.done (v := .tup []) results_nil ?_)
                  rw [show valuesP p ps rr x st = some s2 by simp [valuesP, isArith, hp, hq, ho]]
                  exact mvw_ok (s := (s2, lo)) (hv_mono hH)
            · have ho : x.op = 16 := of_decide_eq_true ‹decide (x.op = 16) = true›
              repeat' first|(apply Sp.go;·constructor<;>first|exact ss|(change _=_;first|(simp only[go_sem,Nat.reduceBEq,Nat.reduceAdd,Nat.reduceLeDiff,reduceIte]<;>rfl)|rfl)|exact Nat.le_of_ble_eq_true rfl|decide|(repeat' first|(apply Lk.go;constructor)|assumption|exact nb ‹_› ‹_›|exact nt ‹_› ‹_›|(apply Lv.go;constructor)))|(intro b hb;repeat first|(refine fe hb ?_;intro _ _ hb)|(refine fT hb ?_;intro hb)|(refine fresh_elimV hb ?_;intro _ _ hb))|refine rt ?_|refine gA rfl ?_|refine gB rfl ?_|apply cT rfl|apply cF rfl|(apply DM.gbT;rfl)|(apply DM.gbF;rfl)|intro h
              cases hp : popsK [1, 1] st with
              | none =>
                have c := p116 dd st lo [1, 1] hst (by simp)
                rw [hp] at c
                refine DM.mvX (c) (by simp only [go_sem, Nat.reduceBEq, Nat.reduceAdd] <;> rfl) (AVLes.refl _) fun H' hh => ?_
                rw [show valuesP p ps rr x st = none by simp [valuesP, isArith, hp, ho]]
                exact mvw_pan (hH.trans hh)
              | some s1 =>
                have c := p116 dd st lo [1, 1] hst (by simp)
                rw [hp] at c
                refine DM.mvO (c) (by simp only [go_sem, Nat.reduceBEq, Nat.reduceAdd] <;> rfl) (AVLes.refl _) fun vs' vl' => ?_
                simp only [put_some]
                repeat' first|(apply Sp.go;·constructor<;>first|exact ss|(change _=_;first|(simp only[go_sem,Nat.reduceBEq,Nat.reduceAdd,Nat.reduceLeDiff,reduceIte]<;>rfl)|rfl)|exact Nat.le_of_ble_eq_true rfl|decide|(repeat' first|(apply Lk.go;constructor)|assumption|exact nb ‹_› ‹_›|exact nt ‹_› ‹_›|(apply Lv.go;constructor)))|(intro b hb;repeat first|(refine fe hb ?_;intro _ _ hb)|(refine fT hb ?_;intro hb)|(refine fresh_elimV hb ?_;intro _ _ hb))|refine rt ?_|refine gA rfl ?_|refine gB rfl ?_|apply cT rfl|apply cF rfl|(apply DM.gbT;rfl)|(apply DM.gbF;rfl)|intro h
                cases hq : pushK 1 s1 with
                | none =>
                  have c := p114 dd s1 lo 1
                  rw [hq] at c
                  refine DM.mvX (c) (by simp only [go_sem, Nat.reduceBEq, Nat.reduceAdd] <;> rfl) (AVLes.refl _) fun H' hh => ?_
                  rw [show valuesP p ps rr x st = none by simp [valuesP, isArith, hp, hq, ho]]
                  exact mvw_pan (hH.trans hh)
                | some s2 =>
                  have c := p114 dd s1 lo 1
                  rw [hq] at c
                  refine DM.mvO (c) (by simp only [go_sem, Nat.reduceBEq, Nat.reduceAdd] <;> rfl) (AVLes.refl _) fun vs' vl' => ?_
                  simp only [put_some]
                  repeat' first|(apply Sp.go;·constructor<;>first|exact ss|(change _=_;first|(simp only[go_sem,Nat.reduceBEq,Nat.reduceAdd,Nat.reduceLeDiff,reduceIte]<;>rfl)|rfl)|exact Nat.le_of_ble_eq_true rfl|decide|(repeat' first|(apply Lk.go;constructor)|assumption|exact nb ‹_› ‹_›|exact nt ‹_› ‹_›|(apply Lv.go;constructor)))|(intro b hb;repeat first|(refine fe hb ?_;intro _ _ hb)|(refine fT hb ?_;intro hb)|(refine fresh_elimV hb ?_;intro _ _ hb))|refine rt ?_|refine gA rfl ?_|refine gB rfl ?_|apply cT rfl|apply cF rfl|(apply DM.gbT;rfl)|(apply DM.gbF;rfl)|intro h
                  (first|refine AM.ret (v := .tup []) results_nil ?_|refine AM.done (v := .tup []) results_nil ?_)
                  rw [show valuesP p ps rr x st = some s2 by simp [valuesP, isArith, hp, hq, ho]]
                  exact mvw_ok (s := (s2, lo)) (hv_mono hH)
            · have ho : x.op = 11 := of_decide_eq_true ‹decide (x.op = 11) = true›
              repeat' first|(apply Sp.go;·constructor<;>first|exact ss|(change _=_;first|(simp only[go_sem,Nat.reduceBEq,Nat.reduceAdd,Nat.reduceLeDiff,reduceIte]<;>rfl)|rfl)|exact Nat.le_of_ble_eq_true rfl|decide|(repeat' first|(apply Lk.go;constructor)|assumption|exact nb ‹_› ‹_›|exact nt ‹_› ‹_›|(apply Lv.go;constructor)))|(intro b hb;repeat first|(refine fe hb ?_;intro _ _ hb)|(refine fT hb ?_;intro hb)|(refine fresh_elimV hb ?_;intro _ _ hb))|refine rt ?_|refine gA rfl ?_|refine gB rfl ?_|apply cT rfl|apply cF rfl|(apply DM.gbT;rfl)|(apply DM.gbF;rfl)|intro h
              cases hp : popsK [1] st with
              | none =>
                have c := p116 dd st lo [1] hst (by simp)
                rw [hp] at c
                refine DM.mvX (c) (by simp only [go_sem, Nat.reduceBEq, Nat.reduceAdd] <;> rfl) (AVLes.refl _) fun H' hh => ?_
                rw [show valuesP p ps rr x st = none by simp [valuesP, isArith, hp, ho]]
                exact mvw_pan (hH.trans hh)
              | some s1 =>
                have c := p116 dd st lo [1] hst (by simp)
                rw [hp] at c
                refine DM.mvO (c) (by simp only [go_sem, Nat.reduceBEq, Nat.reduceAdd] <;> rfl) (AVLes.refl _) fun vs' vl' => ?_
                simp only [put_some]
                repeat' first|(apply Sp.go;·constructor<;>first|exact ss|(change _=_;first|(simp only[go_sem,Nat.reduceBEq,Nat.reduceAdd,Nat.reduceLeDiff,reduceIte]<;>rfl)|rfl)|exact Nat.le_of_ble_eq_true rfl|decide|(repeat' first|(apply Lk.go;constructor)|assumption|exact nb ‹_› ‹_›|exact nt ‹_› ‹_›|(apply Lv.go;constructor)))|(intro b hb;repeat first|(refine fe hb ?_;intro _ _ hb)|(refine fT hb ?_;intro hb)|(refine fresh_elimV hb ?_;intro _ _ hb))|refine rt ?_|refine gA rfl ?_|refine gB rfl ?_|apply cT rfl|apply cF rfl|(apply DM.gbT;rfl)|(apply DM.gbF;rfl)|intro h
                cases hq : pushK 1 s1 with
                | none =>
                  have c := p114 dd s1 lo 1
                  rw [hq] at c
                  refine DM.mvX (c) (by simp only [go_sem, Nat.reduceBEq, Nat.reduceAdd] <;> rfl) (AVLes.refl _) fun H' hh => ?_
                  rw [show valuesP p ps rr x st = none by simp [valuesP, isArith, hp, hq, ho]]
                  exact mvw_pan (hH.trans hh)
                | some s2 =>
                  have c := p114 dd s1 lo 1
                  rw [hq] at c
                  refine DM.mvO (c) (by simp only [go_sem, Nat.reduceBEq, Nat.reduceAdd] <;> rfl) (AVLes.refl _) fun vs' vl' => ?_
                  simp only [put_some]
                  repeat' first|(apply Sp.go;·constructor<;>first|exact ss|(change _=_;first|(simp only[go_sem,Nat.reduceBEq,Nat.reduceAdd,Nat.reduceLeDiff,reduceIte]<;>rfl)|rfl)|exact Nat.le_of_ble_eq_true rfl|decide|(repeat' first|(apply Lk.go;constructor)|assumption|exact nb ‹_› ‹_›|exact nt ‹_› ‹_›|(apply Lv.go;constructor)))|(intro b hb;repeat first|(refine fe hb ?_;intro _ _ hb)|(refine fT hb ?_;intro hb)|(refine fresh_elimV hb ?_;intro _ _ hb))|refine rt ?_|refine gA rfl ?_|refine gB rfl ?_|apply cT rfl|apply cF rfl|(apply DM.gbT;rfl)|(apply DM.gbF;rfl)|intro h
                  (first|refine AM.ret (v := .tup []) results_nil ?_|refine AM.done (v := .tup []) results_nil ?_)
                  rw [show valuesP p ps rr x st = some s2 by simp [valuesP, isArith, hp, hq, ho]]
                  exact mvw_ok (s := (s2, lo)) (hv_mono hH)
            · have ho : x.op = 14 := of_decide_eq_true ‹decide (x.op = 14) = true›
              repeat' first|(apply Sp.go;·constructor<;>first|exact ss|(change _=_;first|(simp only[go_sem,Nat.reduceBEq,Nat.reduceAdd,Nat.reduceLeDiff,reduceIte]<;>rfl)|rfl)|exact Nat.le_of_ble_eq_true rfl|decide|(repeat' first|(apply Lk.go;constructor)|assumption|exact nb ‹_› ‹_›|exact nt ‹_› ‹_›|(apply Lv.go;constructor)))|(intro b hb;repeat first|(refine fe hb ?_;intro _ _ hb)|(refine fT hb ?_;intro hb)|(refine fresh_elimV hb ?_;intro _ _ hb))|refine rt ?_|refine gA rfl ?_|refine gB rfl ?_|apply cT rfl|apply cF rfl|(apply DM.gbT;rfl)|(apply DM.gbF;rfl)|intro h
              cases hp : popsK [1] st with
              | none =>
                have c := p116 dd st lo [1] hst (by simp)
                rw [hp] at c
                refine DM.mvX (c) (by simp only [go_sem, Nat.reduceBEq, Nat.reduceAdd] <;> rfl) (AVLes.refl _) fun H' hh => ?_
                rw [show valuesP p ps rr x st = none by simp [valuesP, isArith, hp, ho]]
                exact mvw_pan (hH.trans hh)
              | some s1 =>
                have c := p116 dd st lo [1] hst (by simp)
                rw [hp] at c
                refine DM.mvO (c) (by simp only [go_sem, Nat.reduceBEq, Nat.reduceAdd] <;> rfl) (AVLes.refl _) fun vs' vl' => ?_
                simp only [put_some]
                repeat' first|(apply Sp.go;·constructor<;>first|exact ss|(change _=_;first|(simp only[go_sem,Nat.reduceBEq,Nat.reduceAdd,Nat.reduceLeDiff,reduceIte]<;>rfl)|rfl)|exact Nat.le_of_ble_eq_true rfl|decide|(repeat' first|(apply Lk.go;constructor)|assumption|exact nb ‹_› ‹_›|exact nt ‹_› ‹_›|(apply Lv.go;constructor)))|(intro b hb;repeat first|(refine fe hb ?_;intro _ _ hb)|(refine fT hb ?_;intro hb)|(refine fresh_elimV hb ?_;intro _ _ hb))|refine rt ?_|refine gA rfl ?_|refine gB rfl ?_|apply cT rfl|apply cF rfl|(apply DM.gbT;rfl)|(apply DM.gbF;rfl)|intro h
                cases hq : pushK 1 s1 with
                | none =>
                  have c := p114 dd s1 lo 1
                  rw [hq] at c
                  refine DM.mvX (c) (by simp only [go_sem, Nat.reduceBEq, Nat.reduceAdd] <;> rfl) (AVLes.refl _) fun H' hh => ?_
                  rw [show valuesP p ps rr x st = none by simp [valuesP, isArith, hp, hq, ho]]
                  exact mvw_pan (hH.trans hh)
                | some s2 =>
                  have c := p114 dd s1 lo 1
                  rw [hq] at c
                  refine DM.mvO (c) (by simp only [go_sem, Nat.reduceBEq, Nat.reduceAdd] <;> rfl) (AVLes.refl _) fun vs' vl' => ?_
                  simp only [put_some]
                  repeat' first|(apply Sp.go;·constructor<;>first|exact ss|(change _=_;first|(simp only[go_sem,Nat.reduceBEq,Nat.reduceAdd,Nat.reduceLeDiff,reduceIte]<;>rfl)|rfl)|exact Nat.le_of_ble_eq_true rfl|decide|(repeat' first|(apply Lk.go;constructor)|assumption|exact nb ‹_› ‹_›|exact nt ‹_› ‹_›|(apply Lv.go;constructor)))|(intro b hb;repeat first|(refine fe hb ?_;intro _ _ hb)|(refine fT hb ?_;intro hb)|(refine fresh_elimV hb ?_;intro _ _ hb))|refine rt ?_|refine gA rfl ?_|refine gB rfl ?_|apply cT rfl|apply cF rfl|(apply DM.gbT;rfl)|(apply DM.gbF;rfl)|intro h
                  (first|refine AM.ret (v := .tup []) results_nil ?_|refine AM.done (v := .tup []) results_nil ?_)
                  rw [show valuesP p ps rr x st = some s2 by simp [valuesP, isArith, hp, hq, ho]]
                  exact mvw_ok (s := (s2, lo)) (hv_mono hH)
            · have ho : x.op = 12 := of_decide_eq_true ‹decide (x.op = 12) = true›
              by_cases h0 : 0 < st.length
              · have e1 : decide (0 < ((st.map irow).length : Int)) = true := by rw [List.length_map]; exact decide_eq_true (by omega)
                simp only [e1]
                obtain ⟨n, hn⟩ : ∃ n, st.length = n + 1 := ⟨st.length - 1, by omega⟩
                obtain ⟨v, hvv⟩ := some_of (show n < st.length by omega)
                have hl : st.getLast? = some v := by rw [← last_ix hn]; exact hvv
                have hw : IntKind.i64.wrap (((st.map irow).length : Int) - 1) = (n : Int) := by rw [List.length_map, hn, wrap64 (by omega) (by omega)]; omega
                (apply DM.pcs (p115t 11); (· simp only [go_sem, Nat.reduceBEq, Nat.reduceAdd] <;> rfl); (· exact AVLes.refl _))
                repeat' first|(apply Sp.go;·constructor<;>first|exact ss|(change _=_;first|(simp only[go_sem,Nat.reduceBEq,Nat.reduceAdd,Nat.reduceLeDiff,reduceIte]<;>rfl)|rfl)|exact Nat.le_of_ble_eq_true rfl|decide|(repeat' first|(apply Lk.go;constructor)|assumption|exact nb ‹_› ‹_›|exact nt ‹_› ‹_›|(apply Lv.go;constructor)))|(intro b hb;repeat first|(refine fe hb ?_;intro _ _ hb)|(refine fT hb ?_;intro hb)|(refine fresh_elimV hb ?_;intro _ _ hb))|refine rt ?_|refine gA rfl ?_|refine gB rfl ?_|apply cT rfl|apply cF rfl|(apply DM.gbT;rfl)|(apply DM.gbF;rfl)|intro h
                simp only [hw]
                (apply DM.ixM; (· rfl); (· repeat' first|(apply Lk.go;constructor)|assumption|exact nb ‹_› ‹_›|exact nt ‹_› ‹_›|(apply Lv.go;constructor)); (· rfl); (· (first | omega | (simp only [List.length_map]; omega))); (· (first | omega | (simp only [List.length_map]; omega))))
                repeat' first|(apply Sp.go;·constructor<;>first|exact ss|(change _=_;first|(simp only[go_sem,Nat.reduceBEq,Nat.reduceAdd,Nat.reduceLeDiff,reduceIte]<;>rfl)|rfl)|exact Nat.le_of_ble_eq_true rfl|decide|(repeat' first|(apply Lk.go;constructor)|assumption|exact nb ‹_› ‹_›|exact nt ‹_› ‹_›|(apply Lv.go;constructor)))|(intro b hb;repeat first|(refine fe hb ?_;intro _ _ hb)|(refine fT hb ?_;intro hb)|(refine fresh_elimV hb ?_;intro _ _ hb))|refine rt ?_|refine gA rfl ?_|refine gB rfl ?_|apply cT rfl|apply cF rfl|(apply DM.gbT;rfl)|(apply DM.gbF;rfl)|intro h
                (apply DM.ldM1 (i := n) (j := 0); (· rfl); (· repeat' first|(apply Lk.go;constructor)|assumption|exact nb ‹_› ‹_›|exact nt ‹_› ‹_›|(apply Lv.go;constructor)); (· exact rows1 _); (· (rw [List.getElem?_map, hvv]; rfl)); (· simp); (· rfl))
                repeat' first|(apply Sp.go;·constructor<;>first|exact ss|(change _=_;first|(simp only[go_sem,Nat.reduceBEq,Nat.reduceAdd,Nat.reduceLeDiff,reduceIte]<;>rfl)|rfl)|exact Nat.le_of_ble_eq_true rfl|decide|(repeat' first|(apply Lk.go;constructor)|assumption|exact nb ‹_› ‹_›|exact nt ‹_› ‹_›|(apply Lv.go;constructor)))|(intro b hb;repeat first|(refine fe hb ?_;intro _ _ hb)|(refine fT hb ?_;intro hb)|(refine fresh_elimV hb ?_;intro _ _ hb))|refine rt ?_|refine gA rfl ?_|refine gB rfl ?_|apply cT rfl|apply cF rfl|(apply DM.gbT;rfl)|(apply DM.gbF;rfl)|intro h
                all_goals (
                  try (
                    have hk1 : v = 1 := of_decide_eq_true ‹decide (v = 1) = true›
                    have hk : v = 1 ∨ v = 2 := .inl hk1
                    (apply DM.pcs (p115t 11); (· simp only [go_sem, Nat.reduceBEq, Nat.reduceAdd] <;> rfl); (· exact AVLes.refl _))
                    repeat' first|(apply Sp.go;·constructor<;>first|exact ss|(change _=_;first|(simp only[go_sem,Nat.reduceBEq,Nat.reduceAdd,Nat.reduceLeDiff,reduceIte]<;>rfl)|rfl)|exact Nat.le_of_ble_eq_true rfl|decide|(repeat' first|(apply Lk.go;constructor)|assumption|exact nb ‹_› ‹_›|exact nt ‹_› ‹_›|(apply Lv.go;constructor)))|(intro b hb;repeat first|(refine fe hb ?_;intro _ _ hb)|(refine fT hb ?_;intro hb)|(refine fresh_elimV hb ?_;intro _ _ hb))|refine rt ?_|refine gA rfl ?_|refine gB rfl ?_|apply cT rfl|apply cF rfl|(apply DM.gbT;rfl)|(apply DM.gbF;rfl)|intro h
                    cases hp : popsK [v, v] st with
                    | none =>
                      have c := p116 dd st lo [v, v] hst (by simp)
                      rw [hp] at c
                      refine DM.mvX (c) (by simp only [go_sem, Nat.reduceBEq, Nat.reduceAdd] <;> rfl) (AVLes.refl _) fun H' hh => ?_
                      rw [show valuesP p ps rr x st = none by simp [valuesP, isArith, hp, ho, hl, hk]]
                      exact mvw_pan (hH.trans hh)
                    | some s1 =>
                      have c := p116 dd st lo [v, v] hst (by simp)
                      rw [hp] at c
                      refine DM.mvO (c) (by simp only [go_sem, Nat.reduceBEq, Nat.reduceAdd] <;> rfl) (AVLes.refl _) fun vs' vl' => ?_
                      simp only [put_some]
                      repeat' first|(apply Sp.go;·constructor<;>first|exact ss|(change _=_;first|(simp only[go_sem,Nat.reduceBEq,Nat.reduceAdd,Nat.reduceLeDiff,reduceIte]<;>rfl)|rfl)|exact Nat.le_of_ble_eq_true rfl|decide|(repeat' first|(apply Lk.go;constructor)|assumption|exact nb ‹_› ‹_›|exact nt ‹_› ‹_›|(apply Lv.go;constructor)))|(intro b hb;repeat first|(refine fe hb ?_;intro _ _ hb)|(refine fT hb ?_;intro hb)|(refine fresh_elimV hb ?_;intro _ _ hb))|refine rt ?_|refine gA rfl ?_|refine gB rfl ?_|apply cT rfl|apply cF rfl|(apply DM.gbT;rfl)|(apply DM.gbF;rfl)|intro h
                      cases hq : pushK 1 s1 with
                      | none =>
                        have c := p114 dd s1 lo 1
                        rw [hq] at c
                        refine DM.mvX (c) (by simp only [go_sem, Nat.reduceBEq, Nat.reduceAdd] <;> rfl) (AVLes.refl _) fun H' hh => ?_
                        rw [show valuesP p ps rr x st = none by simp [valuesP, isArith, hp, hq, ho, hl, hk]]
                        exact mvw_pan (hH.trans hh)
                      | some s2 =>
                        have c := p114 dd s1 lo 1
                        rw [hq] at c
                        refine DM.mvO (c) (by simp only [go_sem, Nat.reduceBEq, Nat.reduceAdd] <;> rfl) (AVLes.refl _) fun vs' vl' => ?_
                        simp only [put_some]
                        repeat' first|(apply Sp.go;·constructor<;>first|exact ss|(change _=_;first|(simp only[go_sem,Nat.reduceBEq,Nat.reduceAdd,Nat.reduceLeDiff,reduceIte]<;>rfl)|rfl)|exact Nat.le_of_ble_eq_true rfl|decide|(repeat' first|(apply Lk.go;constructor)|assumption|exact nb ‹_› ‹_›|exact nt ‹_› ‹_›|(apply Lv.go;constructor)))|(intro b hb;repeat first|(refine fe hb ?_;intro _ _ hb)|(refine fT hb ?_;intro hb)|(refine fresh_elimV hb ?_;intro _ _ hb))|refine rt ?_|refine gA rfl ?_|refine gB rfl ?_|apply cT rfl|apply cF rfl|(apply DM.gbT;rfl)|(apply DM.gbF;rfl)|intro h
                        (first|refine AM.ret (v := .tup []) results_nil ?_|refine AM.done (v := .tup []) results_nil ?_)
                        rw [show valuesP p ps rr x st = some s2 by simp [valuesP, isArith, hp, hq, ho, hl, hk]]
                        exact mvw_ok (s := (s2, lo)) (hv_mono hH)
                    )
                  try (
                    have hk1 : ¬ v = 1 := of_decide_eq_false ‹decide (v = 1) = false›
                    by_cases hk2 : v = 2
                    · simp only [decide_eq_true hk2]
                      have hk : v = 1 ∨ v = 2 := .inr hk2
                      (apply DM.pcs (p115t 11); (· simp only [go_sem, Nat.reduceBEq, Nat.reduceAdd] <;> rfl); (· exact AVLes.refl _))
                      repeat' first|(apply Sp.go;·constructor<;>first|exact ss|(change _=_;first|(simp only[go_sem,Nat.reduceBEq,Nat.reduceAdd,Nat.reduceLeDiff,reduceIte]<;>rfl)|rfl)|exact Nat.le_of_ble_eq_true rfl|decide|(repeat' first|(apply Lk.go;constructor)|assumption|exact nb ‹_› ‹_›|exact nt ‹_› ‹_›|(apply Lv.go;constructor)))|(intro b hb;repeat first|(refine fe hb ?_;intro _ _ hb)|(refine fT hb ?_;intro hb)|(refine fresh_elimV hb ?_;intro _ _ hb))|refine rt ?_|refine gA rfl ?_|refine gB rfl ?_|apply cT rfl|apply cF rfl|(apply DM.gbT;rfl)|(apply DM.gbF;rfl)|intro h
                      cases hp : popsK [v, v] st with
                      | none =>
                        have c := p116 dd st lo [v, v] hst (by simp)
                        rw [hp] at c
                        refine DM.mvX (c) (by simp only [go_sem, Nat.reduceBEq, Nat.reduceAdd] <;> rfl) (AVLes.refl _) fun H' hh => ?_
                        rw [show valuesP p ps rr x st = none by simp [valuesP, isArith, hp, ho, hl, hk]]
                        exact mvw_pan (hH.trans hh)
                      | some s1 =>
                        have c := p116 dd st lo [v, v] hst (by simp)
                        rw [hp] at c
                        refine DM.mvO (c) (by simp only [go_sem, Nat.reduceBEq, Nat.reduceAdd] <;> rfl) (AVLes.refl _) fun vs' vl' => ?_
                        simp only [put_some]
                        repeat' first|(apply Sp.go;·constructor<;>first|exact ss|(change _=_;first|(simp only[go_sem,Nat.reduceBEq,Nat.reduceAdd,Nat.reduceLeDiff,reduceIte]<;>rfl)|rfl)|exact Nat.le_of_ble_eq_true rfl|decide|(repeat' first|(apply Lk.go;constructor)|assumption|exact nb ‹_› ‹_›|exact nt ‹_› ‹_›|(apply Lv.go;constructor)))|(intro b hb;repeat first|(refine fe hb ?_;intro _ _ hb)|(refine fT hb ?_;intro hb)|(refine fresh_elimV hb ?_;intro _ _ hb))|refine rt ?_|refine gA rfl ?_|refine gB rfl ?_|apply cT rfl|apply cF rfl|(apply DM.gbT;rfl)|(apply DM.gbF;rfl)|intro h
                        cases hq : pushK 1 s1 with
                        | none =>
                          have c := p114 dd s1 lo 1
                          rw [hq] at c
                          refine DM.mvX (c) (by simp only [go_sem, Nat.reduceBEq, Nat.reduceAdd] <;> rfl) (AVLes.refl _) fun H' hh => ?_
                          rw [show valuesP p ps rr x st = none by simp [valuesP, isArith, hp, hq, ho, hl, hk]]
                          exact mvw_pan (hH.trans hh)
                        | some s2 =>
                          have c := p114 dd s1 lo 1
                          rw [hq] at c
                          refine DM.mvO (c) (by simp only [go_sem, Nat.reduceBEq, Nat.reduceAdd] <;> rfl) (AVLes.refl _) fun vs' vl' => ?_
                          simp only [put_some]
                          repeat' first|(apply Sp.go;·constructor<;>first|exact ss|(change _=_;first|(simp only[go_sem,Nat.reduceBEq,Nat.reduceAdd,Nat.reduceLeDiff,reduceIte]<;>rfl)|rfl)|exact Nat.le_of_ble_eq_true rfl|decide|(repeat' first|(apply Lk.go;constructor)|assumption|exact nb ‹_› ‹_›|exact nt ‹_› ‹_›|(apply Lv.go;constructor)))|(intro b hb;repeat first|(refine fe hb ?_;intro _ _ hb)|(refine fT hb ?_;intro hb)|(refine fresh_elimV hb ?_;intro _ _ hb))|refine rt ?_|refine gA rfl ?_|refine gB rfl ?_|apply cT rfl|apply cF rfl|(apply DM.gbT;rfl)|(apply DM.gbF;rfl)|intro h
                          (first|refine AM.ret (v := .tup []) results_nil ?_|refine AM.done (v := .tup []) results_nil ?_)
                          rw [show valuesP p ps rr x st = some s2 by simp [valuesP, isArith, hp, hq, ho, hl, hk]]
                          exact mvw_ok (s := (s2, lo)) (hv_mono hH)
                    · simp only [decide_eq_false hk2]
                      rw [show valuesP p ps rr x st = none by simp [valuesP, isArith, ho, hl, hk1, hk2]]
                      refine DM.calX (p115f 11 _) (by simp only [go_sem, Nat.reduceBEq, Nat.reduceAdd] <;> rfl) (AVLes.refl _) ?_
                      rintro v H' ⟨rfl, rfl⟩
                      exact mvw_pan (hH.trans (hv_base dd))
                    )
                  )
              · have e1 : decide (0 < ((st.map irow).length : Int)) = false := by rw [List.length_map]; exact decide_eq_false (by omega)
                simp only [e1]
                have hl : st = [] := List.eq_nil_of_length_eq_zero (by omega)
                rw [show valuesP p ps rr x st = none by simp [valuesP, isArith, ho, hl]]
                refine DM.calX (p115f 11 _) (by simp only [go_sem, Nat.reduceBEq, Nat.reduceAdd] <;> rfl) (AVLes.refl _) ?_
                rintro v H' ⟨rfl, rfl⟩
                exact mvw_pan (hH.trans (hv_base dd))
            · have ho : x.op = 17 := of_decide_eq_true ‹decide (x.op = 17) = true›
              repeat' first|(apply Sp.go;·constructor<;>first|exact ss|(change _=_;first|(simp only[go_sem,Nat.reduceBEq,Nat.reduceAdd,Nat.reduceLeDiff,reduceIte]<;>rfl)|rfl)|exact Nat.le_of_ble_eq_true rfl|decide|(repeat' first|(apply Lk.go;constructor)|assumption|exact nb ‹_› ‹_›|exact nt ‹_› ‹_›|(apply Lv.go;constructor)))|(intro b hb;repeat first|(refine fe hb ?_;intro _ _ hb)|(refine fT hb ?_;intro hb)|(refine fresh_elimV hb ?_;intro _ _ hb))|refine rt ?_|refine gA rfl ?_|refine gB rfl ?_|apply cT rfl|apply cF rfl|(apply DM.gbT;rfl)|(apply DM.gbF;rfl)|intro h
              cases hp : popsK [2, 2] st with
              | none =>
                have c := p116 dd st lo [2, 2] hst (by simp)
                rw [hp] at c
                refine DM.mvX (c) (by simp only [go_sem, Nat.reduceBEq, Nat.reduceAdd] <;> rfl) (AVLes.refl _) fun H' hh => ?_
                rw [show valuesP p ps rr x st = none by simp [valuesP, isArith, hp, ho]]
                exact mvw_pan (hH.trans hh)
              | some s1 =>
                have c := p116 dd st lo [2, 2] hst (by simp)
                rw [hp] at c
                refine DM.mvO (c) (by simp only [go_sem, Nat.reduceBEq, Nat.reduceAdd] <;> rfl) (AVLes.refl _) fun vs' vl' => ?_
                simp only [put_some]
                repeat' first|(apply Sp.go;·constructor<;>first|exact ss|(change _=_;first|(simp only[go_sem,Nat.reduceBEq,Nat.reduceAdd,Nat.reduceLeDiff,reduceIte]<;>rfl)|rfl)|exact Nat.le_of_ble_eq_true rfl|decide|(repeat' first|(apply Lk.go;constructor)|assumption|exact nb ‹_› ‹_›|exact nt ‹_› ‹_›|(apply Lv.go;constructor)))|(intro b hb;repeat first|(refine fe hb ?_;intro _ _ hb)|(refine fT hb ?_;intro hb)|(refine fresh_elimV hb ?_;intro _ _ hb))|refine rt ?_|refine gA rfl ?_|refine gB rfl ?_|apply cT rfl|apply cF rfl|(apply DM.gbT;rfl)|(apply DM.gbF;rfl)|intro h
                cases hq : pushK 2 s1 with
                | none =>
                  have c := p114 dd s1 lo 2
                  rw [hq] at c
                  refine DM.mvX (c) (by simp only [go_sem, Nat.reduceBEq, Nat.reduceAdd] <;> rfl) (AVLes.refl _) fun H' hh => ?_
                  rw [show valuesP p ps rr x st = none by simp [valuesP, isArith, hp, hq, ho]]
                  exact mvw_pan (hH.trans hh)
                | some s2 =>
                  have c := p114 dd s1 lo 2
                  rw [hq] at c
                  refine DM.mvO (c) (by simp only [go_sem, Nat.reduceBEq, Nat.reduceAdd] <;> rfl) (AVLes.refl _) fun vs' vl' => ?_
                  simp only [put_some]
                  repeat' first|(apply Sp.go;·constructor<;>first|exact ss|(change _=_;first|(simp only[go_sem,Nat.reduceBEq,Nat.reduceAdd,Nat.reduceLeDiff,reduceIte]<;>rfl)|rfl)|exact Nat.le_of_ble_eq_true rfl|decide|(repeat' first|(apply Lk.go;constructor)|assumption|exact nb ‹_› ‹_›|exact nt ‹_› ‹_›|(apply Lv.go;constructor)))|(intro b hb;repeat first|(refine fe hb ?_;intro _ _ hb)|(refine fT hb ?_;intro hb)|(refine fresh_elimV hb ?_;intro _ _ hb))|refine rt ?_|refine gA rfl ?_|refine gB rfl ?_|apply cT rfl|apply cF rfl|(apply DM.gbT;rfl)|(apply DM.gbF;rfl)|intro h
                  (first|refine AM.ret (v := .tup []) results_nil ?_|refine AM.done (v := .tup []) results_nil ?_)
                  rw [show valuesP p ps rr x st = some s2 by simp [valuesP, isArith, hp, hq, ho]]
                  exact mvw_ok (s := (s2, lo)) (hv_mono hH)
            · have ho : x.op = 18 := of_decide_eq_true ‹decide (x.op = 18) = true›
              repeat' first|(apply Sp.go;·constructor<;>first|exact ss|(change _=_;first|(simp only[go_sem,Nat.reduceBEq,Nat.reduceAdd,Nat.reduceLeDiff,reduceIte]<;>rfl)|rfl)|exact Nat.le_of_ble_eq_true rfl|decide|(repeat' first|(apply Lk.go;constructor)|assumption|exact nb ‹_› ‹_›|exact nt ‹_› ‹_›|(apply Lv.go;constructor)))|(intro b hb;repeat first|(refine fe hb ?_;intro _ _ hb)|(refine fT hb ?_;intro hb)|(refine fresh_elimV hb ?_;intro _ _ hb))|refine rt ?_|refine gA rfl ?_|refine gB rfl ?_|apply cT rfl|apply cF rfl|(apply DM.gbT;rfl)|(apply DM.gbF;rfl)|intro h
              cases hp : popsK [2] st with
              | none =>
                have c := p116 dd st lo [2] hst (by simp)
                rw [hp] at c
                refine DM.mvX (c) (by simp only [go_sem, Nat.reduceBEq, Nat.reduceAdd] <;> rfl) (AVLes.refl _) fun H' hh => ?_
                rw [show valuesP p ps rr x st = none by simp [valuesP, isArith, hp, ho]]
                exact mvw_pan (hH.trans hh)
              | some s1 =>
                have c := p116 dd st lo [2] hst (by simp)
                rw [hp] at c
                refine DM.mvO (c) (by simp only [go_sem, Nat.reduceBEq, Nat.reduceAdd] <;> rfl) (AVLes.refl _) fun vs' vl' => ?_
                simp only [put_some]
                repeat' first|(apply Sp.go;·constructor<;>first|exact ss|(change _=_;first|(simp only[go_sem,Nat.reduceBEq,Nat.reduceAdd,Nat.reduceLeDiff,reduceIte]<;>rfl)|rfl)|exact Nat.le_of_ble_eq_true rfl|decide|(repeat' first|(apply Lk.go;constructor)|assumption|exact nb ‹_› ‹_›|exact nt ‹_› ‹_›|(apply Lv.go;constructor)))|(intro b hb;repeat first|(refine fe hb ?_;intro _ _ hb)|(refine fT hb ?_;intro hb)|(refine fresh_elimV hb ?_;intro _ _ hb))|refine rt ?_|refine gA rfl ?_|refine gB rfl ?_|apply cT rfl|apply cF rfl|(apply DM.gbT;rfl)|(apply DM.gbF;rfl)|intro h
                cases hq : pushK 1 s1 with
                | none =>
                  have c := p114 dd s1 lo 1
                  rw [hq] at c
                  refine DM.mvX (c) (by simp only [go_sem, Nat.reduceBEq, Nat.reduceAdd] <;> rfl) (AVLes.refl _) fun H' hh => ?_
                  rw [show valuesP p ps rr x st = none by simp [valuesP, isArith, hp, hq, ho]]
                  exact mvw_pan (hH.trans hh)
                | some s2 =>
                  have c := p114 dd s1 lo 1
                  rw [hq] at c
                  refine DM.mvO (c) (by simp only [go_sem, Nat.reduceBEq, Nat.reduceAdd] <;> rfl) (AVLes.refl _) fun vs' vl' => ?_
                  simp only [put_some]
                  repeat' first|(apply Sp.go;·constructor<;>first|exact ss|(change _=_;first|(simp only[go_sem,Nat.reduceBEq,Nat.reduceAdd,Nat.reduceLeDiff,reduceIte]<;>rfl)|rfl)|exact Nat.le_of_ble_eq_true rfl|decide|(repeat' first|(apply Lk.go;constructor)|assumption|exact nb ‹_› ‹_›|exact nt ‹_› ‹_›|(apply Lv.go;constructor)))|(intro b hb;repeat first|(refine fe hb ?_;intro _ _ hb)|(refine fT hb ?_;intro hb)|(refine fresh_elimV hb ?_;intro _ _ hb))|refine rt ?_|refine gA rfl ?_|refine gB rfl ?_|apply cT rfl|apply cF rfl|(apply DM.gbT;rfl)|(apply DM.gbF;rfl)|intro h
                  (first|refine AM.ret (v := .tup []) results_nil ?_|refine AM.done (v := .tup []) results_nil ?_)
                  rw [show valuesP p ps rr x st = some s2 by simp [valuesP, isArith, hp, hq, ho]]
                  exact mvw_ok (s := (s2, lo)) (hv_mono hH)
            · have ho : x.op = 20 := of_decide_eq_true ‹decide (x.op = 20) = true›
              repeat' first|(apply Sp.go;·constructor<;>first|exact ss|(change _=_;first|(simp only[go_sem,Nat.reduceBEq,Nat.reduceAdd,Nat.reduceLeDiff,reduceIte]<;>rfl)|rfl)|exact Nat.le_of_ble_eq_true rfl|decide|(repeat' first|(apply Lk.go;constructor)|assumption|exact nb ‹_› ‹_›|exact nt ‹_› ‹_›|(apply Lv.go;constructor)))|(intro b hb;repeat first|(refine fe hb ?_;intro _ _ hb)|(refine fT hb ?_;intro hb)|(refine fresh_elimV hb ?_;intro _ _ hb))|refine rt ?_|refine gA rfl ?_|refine gB rfl ?_|apply cT rfl|apply cF rfl|(apply DM.gbT;rfl)|(apply DM.gbF;rfl)|intro h
              cases hp : popsK [1] st with
              | none =>
                have c := p116 dd st lo [1] hst (by simp)
                rw [hp] at c
                refine DM.mvX (c) (by simp only [go_sem, Nat.reduceBEq, Nat.reduceAdd] <;> rfl) (AVLes.refl _) fun H' hh => ?_
                rw [show valuesP p ps rr x st = none by simp [valuesP, isArith, hp, ho]]
                exact mvw_pan (hH.trans hh)
              | some s1 =>
                have c := p116 dd st lo [1] hst (by simp)
                rw [hp] at c
                refine DM.mvO (c) (by simp only [go_sem, Nat.reduceBEq, Nat.reduceAdd] <;> rfl) (AVLes.refl _) fun vs' vl' => ?_
                simp only [put_some]
                repeat' first|(apply Sp.go;·constructor<;>first|exact ss|(change _=_;first|(simp only[go_sem,Nat.reduceBEq,Nat.reduceAdd,Nat.reduceLeDiff,reduceIte]<;>rfl)|rfl)|exact Nat.le_of_ble_eq_true rfl|decide|(repeat' first|(apply Lk.go;constructor)|assumption|exact nb ‹_› ‹_›|exact nt ‹_› ‹_›|(apply Lv.go;constructor)))|(intro b hb;repeat first|(refine fe hb ?_;intro _ _ hb)|(refine fT hb ?_;intro hb)|(refine fresh_elimV hb ?_;intro _ _ hb))|refine rt ?_|refine gA rfl ?_|refine gB rfl ?_|apply cT rfl|apply cF rfl|(apply DM.gbT;rfl)|(apply DM.gbF;rfl)|intro h
                (first|refine AM.ret (v := .tup []) results_nil ?_|refine AM.done (v := .tup []) results_nil ?_)
                rw [show valuesP p ps rr x st = some s1 by simp [valuesP, isArith, hp, ho]]
                exact mvw_ok (s := (s1, lo)) (hv_mono hH)
            · have ho : x.op = 24 := of_decide_eq_true ‹decide (x.op = 24) = true›
              (apply DM.pcat (heq _ _ _ hv_ts); (· simp only [go_sem, Nat.reduceBEq, Nat.reduceAdd] <;> rfl); (· exact AVLes.refl _))
              repeat' first|(apply Sp.go;·constructor<;>first|exact ss|(change _=_;first|(simp only[go_sem,Nat.reduceBEq,Nat.reduceAdd,Nat.reduceLeDiff,reduceIte]<;>rfl)|rfl)|exact Nat.le_of_ble_eq_true rfl|decide|(repeat' first|(apply Lk.go;constructor)|assumption|exact nb ‹_› ‹_›|exact nt ‹_› ‹_›|(apply Lv.go;constructor)))|(intro b hb;repeat first|(refine fe hb ?_;intro _ _ hb)|(refine fT hb ?_;intro hb)|(refine fresh_elimV hb ?_;intro _ _ hb))|refine rt ?_|refine gA rfl ?_|refine gB rfl ?_|apply cT rfl|apply cF rfl|(apply DM.gbT;rfl)|(apply DM.gbF;rfl)|intro h
              by_cases he : st = rr
              · simp only [decide_eq_true he]
                (apply DM.pcs (p115t 11); (· simp only [go_sem, Nat.reduceBEq, Nat.reduceAdd] <;> rfl); (· exact AVLes.refl _))
                repeat' first|(apply Sp.go;·constructor<;>first|exact ss|(change _=_;first|(simp only[go_sem,Nat.reduceBEq,Nat.reduceAdd,Nat.reduceLeDiff,reduceIte]<;>rfl)|rfl)|exact Nat.le_of_ble_eq_true rfl|decide|(repeat' first|(apply Lk.go;constructor)|assumption|exact nb ‹_› ‹_›|exact nt ‹_› ‹_›|(apply Lv.go;constructor)))|(intro b hb;repeat first|(refine fe hb ?_;intro _ _ hb)|(refine fT hb ?_;intro hb)|(refine fresh_elimV hb ?_;intro _ _ hb))|refine rt ?_|refine gA rfl ?_|refine gB rfl ?_|apply cT rfl|apply cF rfl|(apply DM.gbT;rfl)|(apply DM.gbF;rfl)|intro h
                (first|refine AM.ret (v := .tup []) results_nil ?_|refine AM.done (v := .tup []) results_nil ?_)
                rw [show valuesP p ps rr x st = some st by simp [valuesP, isArith, ho, he]]
                exact mvw_ok (s := (st, lo)) (hv_mono hH)
              · simp only [decide_eq_false he]
                rw [show valuesP p ps rr x st = none by simp [valuesP, isArith, ho, he]]
                refine DM.calX (p115f 11 _) (by simp only [go_sem, Nat.reduceBEq, Nat.reduceAdd] <;> rfl) (AVLes.refl _) ?_
                rintro v H' ⟨rfl, rfl⟩
                exact mvw_pan (hH.trans (hv_base dd))
            · (first|refine AM.ret (v := .tup []) results_nil ?_|refine AM.done (v := .tup []) results_nil ?_)
              rw [show valuesP p ps rr x st = some st by simp at *; simp [valuesP, isArith, *]]
              exact mvw_ok (s := (st, lo)) (hv_mono hH)
def finP (p : Prog) (at_ : Nat) (x : Ins_) (l : List Int) : Option (List Int) := if x.op = 19 ∨ x.op = 24 ∨ at_ + 1 < p.code.length then some l else none
def loopsQ (at_ : Nat) (x : Ins_) (lo : List Int) : Option (List Int) :=
  if x.op = 21 then (if lo.length < 4 then some (lo ++ [(at_ : Int)]) else none)
  else if x.op = 22 then (match lo.getLast? with
    | some b => if x.n = b + 1 then some lo else none
    | none => none)
  else if x.op = 23 then (if lo = [] then none else some lo.dropLast)
  else if x.op = 24 then (if lo = [] then some lo else none)
  else if x.op = 19 ∨ x.op = 20 then (if (at_ : Int) < x.n then some lo else none)
  else some lo
def loopsP (p : Prog) (at_ : Nat) (x : Ins_) (lo : List Int) : Option (List Int) := (loopsQ at_ x lo).bind (finP p at_ x)
def tail76 : EC := match e76 with
  | .seq _ (.seq _ (.seq _ t)) => t
  | _ => .skip
def head76 (t : EC) : EC := match e76 with
  | .seq a (.seq b (.seq c _)) => .seq a (.seq b (.seq c t))
  | _ => .skip
set_option maxHeartbeats 4000000 in
theorem p76 {H0 : AHeap} {ρ : RefV} (d : ρ.Ok H0) (cb : Nat) (p : Prog) (ps rr : List Int) (a : AV) (hcb : H0.blk cb = some (122, ccells p ps rr a)) (x : Ins_) (st lo : List Int) (at_ : Nat) (hat : at_ ≤ 1000) (hlo : lo.length ≤ 1000) (hb1 : ∀ b ∈ lo, 0 ≤ b ∧ b ≤ 1000) (hcl : p.code.length ≤ 1000) :
    MV 76 [.ptr cb 0, .ptr ρ.b 0, .int .i64 at_, x.av] H0 ρ st lo 7 ((loopsP p at_ x lo).map fun l => (st, l)) := by
  refine mv_intro Try.func76 c76 fun vs vl => ?_
  have d1 := d.sl; have d2 := Ne.symm d.sl
  have hne : cb ≠ ρ.b := fun e => by subst e; rw [d.fb] at hcb; cases hcb
  have hw0 : IntKind.i64.wrap (((lo.map irow).length : Int) - 1) = (lo.length : Int) - 1 := by rw [List.length_map]; exact wrap64 (by omega) (by omega)
  have hw1 : IntKind.i64.wrap ((lo.length : Int) - 1 + 1) = (lo.length : Int) := by rw [wrap64 (by omega) (by omega)]; omega
  have hw2 : IntKind.i64.wrap ((at_ : Int) + 1) = ((at_ + 1 : Nat) : Int) := by rw [wrap64 (by omega) (by omega)]; omega
  have htail : ∀ (H1 : AHeap) (b : Nat), HSub H0 H1 → ρ.Ok H1 → cb ≠ ρ.b → b ≠ ρ.b → H1.blk cb = some (122, ccells p ps rr a) → H1.blk b = some (88, x.row) → ∀ (l : List Int) (v1 v2 : Nat),
      AM Try.prog [] (MVW H0 ρ 7 ((finP p at_ x l).map fun l => (st, l))) [.c tail76] [(0, .ptr cb 0), (2, .int .i64 at_), (7, .ptr b 0)] (HV H1 ρ st l v1 v2) := by
    intro H1 b hH dd hne hbne hcb1 hbb l v1 v2
    unfold tail76 e76
    dsimp only
    repeat' first|(apply Sp.go;·constructor<;>first|exact ss|(change _=_;first|(simp only[go_sem,Nat.reduceBEq,Nat.reduceAdd,Nat.reduceLeDiff,reduceIte]<;>rfl)|rfl)|exact Nat.le_of_ble_eq_true rfl|decide|(repeat' first|(apply Lk.go;constructor)|assumption|exact nb ‹_› ‹_›|exact nt ‹_› ‹_›|(apply Lv.go;constructor)))|(intro b hb;repeat first|(refine fe hb ?_;intro _ _ hb)|(refine fT hb ?_;intro hb)|(refine fresh_elimV hb ?_;intro _ _ hb))|refine rt ?_|refine gA rfl ?_|refine gB rfl ?_|apply cT rfl|apply cF rfl|(apply DM.gbT;rfl)|(apply DM.gbF;rfl)|intro h
    · by_cases hlt : at_ + 1 < p.code.length
      · have e1 : decide (IntKind.i64.wrap ((at_ : Int) + 1) < ((p.code.map Ins_.row).length : Int)) = true := by rw [hw2, List.length_map]; exact decide_eq_true (by omega)
        simp only [e1]
        (apply DM.pcs (p115t 7); (· simp only [go_sem, Nat.reduceBEq, Nat.reduceAdd] <;> rfl); (· exact AVLes.refl _))
        repeat' first|(apply Sp.go;·constructor<;>first|exact ss|(change _=_;first|(simp only[go_sem,Nat.reduceBEq,Nat.reduceAdd,Nat.reduceLeDiff,reduceIte]<;>rfl)|rfl)|exact Nat.le_of_ble_eq_true rfl|decide|(repeat' first|(apply Lk.go;constructor)|assumption|exact nb ‹_› ‹_›|exact nt ‹_› ‹_›|(apply Lv.go;constructor)))|(intro b hb;repeat first|(refine fe hb ?_;intro _ _ hb)|(refine fT hb ?_;intro hb)|(refine fresh_elimV hb ?_;intro _ _ hb))|refine rt ?_|refine gA rfl ?_|refine gB rfl ?_|apply cT rfl|apply cF rfl|(apply DM.gbT;rfl)|(apply DM.gbF;rfl)|intro h
        (first|refine AM.ret (v := .tup []) results_nil ?_|refine AM.done (v := .tup []) results_nil ?_)
        rw [show finP p at_ x l = some l by simp [finP, hlt]]
        exact mvw_ok (s := (st, l)) (hv_mono hH)
      · have e1 : decide (IntKind.i64.wrap ((at_ : Int) + 1) < ((p.code.map Ins_.row).length : Int)) = false := by rw [hw2, List.length_map]; exact decide_eq_false (by omega)
        simp only [e1]
        rw [show finP p at_ x l = none by simp at *; simp [finP, *]]
        refine DM.calX (p115f 7 _) (by simp only [go_sem, Nat.reduceBEq, Nat.reduceAdd] <;> rfl) (AVLes.refl _) ?_
        rintro v H' ⟨rfl, rfl⟩
        exact mvw_pan (hH.trans (hv_base dd))
    · have ho : x.op = 24 := of_decide_eq_true ‹decide (x.op = 24) = true›
      (apply DM.pcs (p115t 7); (· simp only [go_sem, Nat.reduceBEq, Nat.reduceAdd] <;> rfl); (· exact AVLes.refl _))
      repeat' first|(apply Sp.go;·constructor<;>first|exact ss|(change _=_;first|(simp only[go_sem,Nat.reduceBEq,Nat.reduceAdd,Nat.reduceLeDiff,reduceIte]<;>rfl)|rfl)|exact Nat.le_of_ble_eq_true rfl|decide|(repeat' first|(apply Lk.go;constructor)|assumption|exact nb ‹_› ‹_›|exact nt ‹_› ‹_›|(apply Lv.go;constructor)))|(intro b hb;repeat first|(refine fe hb ?_;intro _ _ hb)|(refine fT hb ?_;intro hb)|(refine fresh_elimV hb ?_;intro _ _ hb))|refine rt ?_|refine gA rfl ?_|refine gB rfl ?_|apply cT rfl|apply cF rfl|(apply DM.gbT;rfl)|(apply DM.gbF;rfl)|intro h
      (first|refine AM.ret (v := .tup []) results_nil ?_|refine AM.done (v := .tup []) results_nil ?_)
      rw [show finP p at_ x l = some l by simp [finP, ho]]
      exact mvw_ok (s := (st, l)) (hv_mono hH)
    · have ho : x.op = 19 := of_decide_eq_true ‹decide (x.op = 19) = true›
      (apply DM.pcs (p115t 7); (· simp only [go_sem, Nat.reduceBEq, Nat.reduceAdd] <;> rfl); (· exact AVLes.refl _))
      repeat' first|(apply Sp.go;·constructor<;>first|exact ss|(change _=_;first|(simp only[go_sem,Nat.reduceBEq,Nat.reduceAdd,Nat.reduceLeDiff,reduceIte]<;>rfl)|rfl)|exact Nat.le_of_ble_eq_true rfl|decide|(repeat' first|(apply Lk.go;constructor)|assumption|exact nb ‹_› ‹_›|exact nt ‹_› ‹_›|(apply Lv.go;constructor)))|(intro b hb;repeat first|(refine fe hb ?_;intro _ _ hb)|(refine fT hb ?_;intro hb)|(refine fresh_elimV hb ?_;intro _ _ hb))|refine rt ?_|refine gA rfl ?_|refine gB rfl ?_|apply cT rfl|apply cF rfl|(apply DM.gbT;rfl)|(apply DM.gbF;rfl)|intro h
      (first|refine AM.ret (v := .tup []) results_nil ?_|refine AM.done (v := .tup []) results_nil ?_)
      rw [show finP p at_ x l = some l by simp [finP, ho]]
      exact mvw_ok (s := (st, l)) (hv_mono hH)
  have hE : e76 = head76 tail76 := rfl
  rw [hE]
  generalize tail76 = TT at *
  clear hE
  unfold head76 e76 r76
  simp only [initEnv, initFrom]
  repeat' first|(apply Sp.go;·constructor<;>first|exact ss|(change _=_;first|(simp only[go_sem,Nat.reduceBEq,Nat.reduceAdd,Nat.reduceLeDiff,reduceIte]<;>rfl)|rfl)|exact Nat.le_of_ble_eq_true rfl|decide|(repeat' first|(apply Lk.go;constructor)|assumption|exact nb ‹_› ‹_›|exact nt ‹_› ‹_›|(apply Lv.go;constructor)))|(intro b hb;repeat first|(refine fe hb ?_;intro _ _ hb)|(refine fT hb ?_;intro hb)|(refine fresh_elimV hb ?_;intro _ _ hb))|refine rt ?_|refine gA rfl ?_|refine gB rfl ?_|apply cT rfl|apply cF rfl|(apply DM.gbT;rfl)|(apply DM.gbF;rfl)|intro h
  rw [hv_setB (by assumption)]
  have hbne : b ≠ ρ.b := by assumption
  have hcbb : cb ≠ b := (ne_blk hb hcb).2
  have hH : HSub H0 (H0.setB b 88 x.row) := HSub.setB (HSub.refl _) hb
  have dd : ρ.Ok (H0.setB b 88 x.row) := ⟨d.sl, g_ne (Ne.symm hbne) d.fb, t_B d.fs, t_B d.fl⟩
  have hcb1 : (H0.setB b 88 x.row).blk cb = some (122, ccells p ps rr a) := g_ne hcbb hcb
  have hbb : (H0.setB b 88 x.row).blk b = some (88, x.row) := g_same
  generalize H0.setB b 88 x.row = H1 at *
  simp only [hw0]
  (apply AM.cond; (· rfl))
  · intro h1
    simp at h1
    repeat' first|(apply Sp.go;·constructor<;>first|exact ss|(change _=_;first|(simp only[go_sem,Nat.reduceBEq,Nat.reduceAdd,Nat.reduceLeDiff,reduceIte]<;>rfl)|rfl)|exact Nat.le_of_ble_eq_true rfl|decide|(repeat' first|(apply Lk.go;constructor)|assumption|exact nb ‹_› ‹_›|exact nt ‹_› ‹_›|(apply Lv.go;constructor)))|(intro b hb;repeat first|(refine fe hb ?_;intro _ _ hb)|(refine fT hb ?_;intro hb)|(refine fresh_elimV hb ?_;intro _ _ hb))|refine rt ?_|refine gA rfl ?_|refine gB rfl ?_|apply cT rfl|apply cF rfl|(apply DM.gbT;rfl)|(apply DM.gbF;rfl)|intro h
    simp only [hw1]
    by_cases hl : lo.length < 4
    · have e1 : decide ((lo.length : Int) < 4) = true := decide_eq_true (by omega)
      simp only [e1]
      (apply DM.pcs (p115t 7); (· simp only [go_sem, Nat.reduceBEq, Nat.reduceAdd] <;> rfl); (· exact AVLes.refl _))
      repeat' first|(apply Sp.go;·constructor<;>first|exact ss|(change _=_;first|(simp only[go_sem,Nat.reduceBEq,Nat.reduceAdd,Nat.reduceLeDiff,reduceIte]<;>rfl)|rfl)|exact Nat.le_of_ble_eq_true rfl|decide|(repeat' first|(apply Lk.go;constructor)|assumption|exact nb ‹_› ‹_›|exact nt ‹_› ‹_›|(apply Lv.go;constructor)))|(intro b hb;repeat first|(refine fe hb ?_;intro _ _ hb)|(refine fT hb ?_;intro hb)|(refine fresh_elimV hb ?_;intro _ _ hb))|refine rt ?_|refine gA rfl ?_|refine gB rfl ?_|apply cT rfl|apply cF rfl|(apply DM.gbT;rfl)|(apply DM.gbF;rfl)|intro h
      (apply DM.apM; (· rfl); (· repeat' first|(apply Lk.go;constructor)|assumption|exact nb ‹_› ‹_›|exact nt ‹_› ‹_›|(apply Lv.go;constructor)); (· simp only [rowsOf, if_true, eq_self, go_sem, Nat.reduceBEq, reduceIte] <;> rfl); (· (simp only [List.length_map, List.length_cons, List.length_nil]; first | (unfold maxLen; omega) | omega)); (· (simp only [List.length_map, List.length_cons, List.length_nil]; first | (unfold maxLen; omega) | omega)))
      repeat' first|(apply Sp.go;·constructor<;>first|exact ss|(change _=_;first|(simp only[go_sem,Nat.reduceBEq,Nat.reduceAdd,Nat.reduceLeDiff,reduceIte]<;>rfl)|rfl)|exact Nat.le_of_ble_eq_true rfl|decide|(repeat' first|(apply Lk.go;constructor)|assumption|exact nb ‹_› ‹_›|exact nt ‹_› ‹_›|(apply Lv.go;constructor)))|(intro b hb;repeat first|(refine fe hb ?_;intro _ _ hb)|(refine fT hb ?_;intro hb)|(refine fresh_elimV hb ?_;intro _ _ hb))|refine rt ?_|refine gA rfl ?_|refine gB rfl ?_|apply cT rfl|apply cF rfl|(apply DM.gbT;rfl)|(apply DM.gbF;rfl)|intro h
      refine AM.weakE [(0, .ptr cb 0), (2, .int .i64 at_), (7, .ptr b 0)] ?_ ?_
      · (repeat first | exact envle_nil _ | (refine envle_cons ?_ ?_; · (simp only [go_sem, Nat.reduceBEq, Nat.reduceAdd]; exact AVLe.refl _)))
      rw [show loopsP p at_ x lo = finP p at_ x (lo ++ [(at_ : Int)]) by simp [loopsP, loopsQ, h1, hl]]
      refine AM.forget (HV H1 ρ st (lo ++ [(at_ : Int)]) vs (vl + 1)) ?_ (htail H1 b hH dd hne hbne hcb1 hbb (lo ++ [(at_ : Int)]) vs (vl + 1))
      rw [show List.map irow lo ++ [[AV.int IntKind.i64 (at_ : Int)]] = (lo ++ [(at_ : Int)]).map irow by simp]
      (refine hsub_hv ?_ ?_ ?_ ?_ ?_<;>first|(intro x y h1 h2 h;repeat first|exact h|refine hv_oldT h1 h2 ?_|refine t_ne ‹_› ?_|refine t_fresh ‹_› ?_|refine t_B ?_)|(intro x y hx h;repeat first|exact h|refine hv_old hx ?_|refine g_ne hx ?_|refine g_ne (nb ‹_› h) ?_|refine g_fresh ‹_› ?_|refine g_T ?_)|(repeat' first|(apply Lk.go;constructor)|assumption|exact nb ‹_› ‹_›|exact nt ‹_› ‹_›|(apply Lv.go;constructor)))
    · have e1 : decide ((lo.length : Int) < 4) = false := decide_eq_false (by omega)
      simp only [e1]
      rw [show loopsP p at_ x lo = none by simp [loopsP, loopsQ, h1, hl]]
      refine DM.calX (p115f 7 _) (by simp only [go_sem, Nat.reduceBEq, Nat.reduceAdd] <;> rfl) (AVLes.refl _) ?_
      rintro v H' ⟨rfl, rfl⟩
      exact mvw_pan (hH.trans (hv_base dd))
  · intro h1
    simp at h1
    repeat' first|(apply Sp.go;·constructor<;>first|exact ss|(change _=_;first|(simp only[go_sem,Nat.reduceBEq,Nat.reduceAdd,Nat.reduceLeDiff,reduceIte]<;>rfl)|rfl)|exact Nat.le_of_ble_eq_true rfl|decide|(repeat' first|(apply Lk.go;constructor)|assumption|exact nb ‹_› ‹_›|exact nt ‹_› ‹_›|(apply Lv.go;constructor)))|(intro b hb;repeat first|(refine fe hb ?_;intro _ _ hb)|(refine fT hb ?_;intro hb)|(refine fresh_elimV hb ?_;intro _ _ hb))|refine rt ?_|refine gA rfl ?_|refine gB rfl ?_|apply cT rfl|apply cF rfl|(apply DM.gbT;rfl)|(apply DM.gbF;rfl)|intro h
    (apply AM.cond; (· rfl))
    · intro h2
      simp at h2
      rcases hlc : lo.getLast? with _ | bb
      · have hlo0 : lo = [] := by simpa using hlc
        repeat' first|(apply Sp.go;·constructor<;>first|exact ss|(change _=_;first|(simp only[go_sem,Nat.reduceBEq,Nat.reduceAdd,Nat.reduceLeDiff,reduceIte]<;>rfl)|rfl)|exact Nat.le_of_ble_eq_true rfl|decide|(repeat' first|(apply Lk.go;constructor)|assumption|exact nb ‹_› ‹_›|exact nt ‹_› ‹_›|(apply Lv.go;constructor)))|(intro b hb;repeat first|(refine fe hb ?_;intro _ _ hb)|(refine fT hb ?_;intro hb)|(refine fresh_elimV hb ?_;intro _ _ hb))|refine rt ?_|refine gA rfl ?_|refine gB rfl ?_|apply cT rfl|apply cF rfl|(apply DM.gbT;rfl)|(apply DM.gbF;rfl)|intro h
        · exfalso
          have q := ‹decide (0 ≤ (lo.length : Int) - 1) = true›
          simp [hlo0] at q
        · rw [show loopsP p at_ x lo = none by simp [loopsP, loopsQ, h2, hlo0]]
          refine DM.calX (p115f 7 _) (by simp only [go_sem, Nat.reduceBEq, Nat.reduceAdd] <;> rfl) (AVLes.refl _) ?_
          rintro v H' ⟨rfl, rfl⟩
          exact mvw_pan (hH.trans (hv_base dd))
      · obtain ⟨n, hn⟩ : ∃ n, lo.length = n + 1 := ⟨lo.length - 1, by cases lo with | nil => simp at hlc | cons c l => simp⟩
        have hv : lo[n]? = some bb := by rw [last_ix hn]; exact hlc
        have hnz : (lo.length : Int) - 1 = (n : Int) := by omega
        have hbr := hb1 bb (List.mem_of_getElem? hv)
        have hwb : IntKind.i64.wrap (bb + 1) = bb + 1 := wrap64 (by omega) (by omega)
        simp only [hnz]
        repeat' first|(apply Sp.go;·constructor<;>first|exact ss|(change _=_;first|(simp only[go_sem,Nat.reduceBEq,Nat.reduceAdd,Nat.reduceLeDiff,reduceIte]<;>rfl)|rfl)|exact Nat.le_of_ble_eq_true rfl|decide|(repeat' first|(apply Lk.go;constructor)|assumption|exact nb ‹_› ‹_›|exact nt ‹_› ‹_›|(apply Lv.go;constructor)))|(intro b hb;repeat first|(refine fe hb ?_;intro _ _ hb)|(refine fT hb ?_;intro hb)|(refine fresh_elimV hb ?_;intro _ _ hb))|refine rt ?_|refine gA rfl ?_|refine gB rfl ?_|apply cT rfl|apply cF rfl|(apply DM.gbT;rfl)|(apply DM.gbF;rfl)|intro h
        all_goals try (
          exfalso
          simp at *
          omega
          )
        (apply DM.ixM; (· rfl); (· repeat' first|(apply Lk.go;constructor)|assumption|exact nb ‹_› ‹_›|exact nt ‹_› ‹_›|(apply Lv.go;constructor)); (· rfl); (· (first | omega | (simp only [List.length_map]; omega))); (· (first | omega | (simp only [List.length_map]; omega))))
        repeat' first|(apply Sp.go;·constructor<;>first|exact ss|(change _=_;first|(simp only[go_sem,Nat.reduceBEq,Nat.reduceAdd,Nat.reduceLeDiff,reduceIte]<;>rfl)|rfl)|exact Nat.le_of_ble_eq_true rfl|decide|(repeat' first|(apply Lk.go;constructor)|assumption|exact nb ‹_› ‹_›|exact nt ‹_› ‹_›|(apply Lv.go;constructor)))|(intro b hb;repeat first|(refine fe hb ?_;intro _ _ hb)|(refine fT hb ?_;intro hb)|(refine fresh_elimV hb ?_;intro _ _ hb))|refine rt ?_|refine gA rfl ?_|refine gB rfl ?_|apply cT rfl|apply cF rfl|(apply DM.gbT;rfl)|(apply DM.gbF;rfl)|intro h
        (apply DM.ldM1 (i := n) (j := 0); (· rfl); (· repeat' first|(apply Lk.go;constructor)|assumption|exact nb ‹_› ‹_›|exact nt ‹_› ‹_›|(apply Lv.go;constructor)); (· exact rows1 _); (· (rw [List.getElem?_map, hv]; rfl)); (· simp); (· rfl))
        repeat' first|(apply Sp.go;·constructor<;>first|exact ss|(change _=_;first|(simp only[go_sem,Nat.reduceBEq,Nat.reduceAdd,Nat.reduceLeDiff,reduceIte]<;>rfl)|rfl)|exact Nat.le_of_ble_eq_true rfl|decide|(repeat' first|(apply Lk.go;constructor)|assumption|exact nb ‹_› ‹_›|exact nt ‹_› ‹_›|(apply Lv.go;constructor)))|(intro b hb;repeat first|(refine fe hb ?_;intro _ _ hb)|(refine fT hb ?_;intro hb)|(refine fresh_elimV hb ?_;intro _ _ hb))|refine rt ?_|refine gA rfl ?_|refine gB rfl ?_|apply cT rfl|apply cF rfl|(apply DM.gbT;rfl)|(apply DM.gbF;rfl)|intro h
        simp only [hwb]
        by_cases hq : x.n = bb + 1
        · simp only [decide_eq_true hq]
          (apply DM.pcs (p115t 7); (· simp only [go_sem, Nat.reduceBEq, Nat.reduceAdd] <;> rfl); (· exact AVLes.refl _))
          repeat' first|(apply Sp.go;·constructor<;>first|exact ss|(change _=_;first|(simp only[go_sem,Nat.reduceBEq,Nat.reduceAdd,Nat.reduceLeDiff,reduceIte]<;>rfl)|rfl)|exact Nat.le_of_ble_eq_true rfl|decide|(repeat' first|(apply Lk.go;constructor)|assumption|exact nb ‹_› ‹_›|exact nt ‹_› ‹_›|(apply Lv.go;constructor)))|(intro b hb;repeat first|(refine fe hb ?_;intro _ _ hb)|(refine fT hb ?_;intro hb)|(refine fresh_elimV hb ?_;intro _ _ hb))|refine rt ?_|refine gA rfl ?_|refine gB rfl ?_|apply cT rfl|apply cF rfl|(apply DM.gbT;rfl)|(apply DM.gbF;rfl)|intro h
          refine AM.weakE [(0, .ptr cb 0), (2, .int .i64 at_), (7, .ptr b 0)] ?_ ?_
          · (repeat first | exact envle_nil _ | (refine envle_cons ?_ ?_; · (simp only [go_sem, Nat.reduceBEq, Nat.reduceAdd]; exact AVLe.refl _)))
          rw [show loopsP p at_ x lo = finP p at_ x lo by simp [loopsP, loopsQ, h2, hlc, hq]]
          refine AM.forget (HV H1 ρ st lo vs vl) ?_ (htail H1 b hH dd hne hbne hcb1 hbb lo vs vl)
          exact HSub.refl _
        · simp only [decide_eq_false hq]
          rw [show loopsP p at_ x lo = none by simp [loopsP, loopsQ, h2, hlc, hq]]
          refine DM.calX (p115f 7 _) (by simp only [go_sem, Nat.reduceBEq, Nat.reduceAdd] <;> rfl) (AVLes.refl _) ?_
          rintro v H' ⟨rfl, rfl⟩
          exact mvw_pan (hH.trans (hv_base dd))
    · intro h2
      simp at h2
      repeat' first|(apply Sp.go;·constructor<;>first|exact ss|(change _=_;first|(simp only[go_sem,Nat.reduceBEq,Nat.reduceAdd,Nat.reduceLeDiff,reduceIte]<;>rfl)|rfl)|exact Nat.le_of_ble_eq_true rfl|decide|(repeat' first|(apply Lk.go;constructor)|assumption|exact nb ‹_› ‹_›|exact nt ‹_› ‹_›|(apply Lv.go;constructor)))|(intro b hb;repeat first|(refine fe hb ?_;intro _ _ hb)|(refine fT hb ?_;intro hb)|(refine fresh_elimV hb ?_;intro _ _ hb))|refine rt ?_|refine gA rfl ?_|refine gB rfl ?_|apply cT rfl|apply cF rfl|(apply DM.gbT;rfl)|(apply DM.gbF;rfl)|intro h
      (apply AM.cond; (· rfl))
      · intro h3
        simp at h3
        repeat' first|(apply Sp.go;·constructor<;>first|exact ss|(change _=_;first|(simp only[go_sem,Nat.reduceBEq,Nat.reduceAdd,Nat.reduceLeDiff,reduceIte]<;>rfl)|rfl)|exact Nat.le_of_ble_eq_true rfl|decide|(repeat' first|(apply Lk.go;constructor)|assumption|exact nb ‹_› ‹_›|exact nt ‹_› ‹_›|(apply Lv.go;constructor)))|(intro b hb;repeat first|(refine fe hb ?_;intro _ _ hb)|(refine fT hb ?_;intro hb)|(refine fresh_elimV hb ?_;intro _ _ hb))|refine rt ?_|refine gA rfl ?_|refine gB rfl ?_|apply cT rfl|apply cF rfl|(apply DM.gbT;rfl)|(apply DM.gbF;rfl)|intro h
        by_cases hlo0 : lo = []
        · have e1 : decide (0 ≤ (lo.length : Int) - 1) = false := by simp [hlo0]
          simp only [e1]
          rw [show loopsP p at_ x lo = none by simp [loopsP, loopsQ, h3, hlo0]]
          refine DM.calX (p115f 7 _) (by simp only [go_sem, Nat.reduceBEq, Nat.reduceAdd] <;> rfl) (AVLes.refl _) ?_
          rintro v H' ⟨rfl, rfl⟩
          exact mvw_pan (hH.trans (hv_base dd))
        · obtain ⟨n, hn⟩ : ∃ n, lo.length = n + 1 := ⟨lo.length - 1, by cases lo with | nil => simp at hlo0 | cons c l => simp⟩
          have hnz : (lo.length : Int) - 1 = (n : Int) := by omega
          have e1 : decide (0 ≤ (lo.length : Int) - 1) = true := decide_eq_true (by omega)
          simp only [e1]
          (apply DM.pcs (p115t 7); (· simp only [go_sem, Nat.reduceBEq, Nat.reduceAdd] <;> rfl); (· exact AVLes.refl _))
          repeat' first|(apply Sp.go;·constructor<;>first|exact ss|(change _=_;first|(simp only[go_sem,Nat.reduceBEq,Nat.reduceAdd,Nat.reduceLeDiff,reduceIte]<;>rfl)|rfl)|exact Nat.le_of_ble_eq_true rfl|decide|(repeat' first|(apply Lk.go;constructor)|assumption|exact nb ‹_› ‹_›|exact nt ‹_› ‹_›|(apply Lv.go;constructor)))|(intro b hb;repeat first|(refine fe hb ?_;intro _ _ hb)|(refine fT hb ?_;intro hb)|(refine fresh_elimV hb ?_;intro _ _ hb))|refine rt ?_|refine gA rfl ?_|refine gB rfl ?_|apply cT rfl|apply cF rfl|(apply DM.gbT;rfl)|(apply DM.gbF;rfl)|intro h
          simp only [hnz]
          (apply DM.sM; (· rfl); (· repeat' first|(apply Lk.go;constructor)|assumption|exact nb ‹_› ‹_›|exact nt ‹_› ‹_›|(apply Lv.go;constructor)); (· rfl); (· (simp only [List.length_map]; omega)))
          repeat' first|(apply Sp.go;·constructor<;>first|exact ss|(change _=_;first|(simp only[go_sem,Nat.reduceBEq,Nat.reduceAdd,Nat.reduceLeDiff,reduceIte]<;>rfl)|rfl)|exact Nat.le_of_ble_eq_true rfl|decide|(repeat' first|(apply Lk.go;constructor)|assumption|exact nb ‹_› ‹_›|exact nt ‹_› ‹_›|(apply Lv.go;constructor)))|(intro b hb;repeat first|(refine fe hb ?_;intro _ _ hb)|(refine fT hb ?_;intro hb)|(refine fresh_elimV hb ?_;intro _ _ hb))|refine rt ?_|refine gA rfl ?_|refine gB rfl ?_|apply cT rfl|apply cF rfl|(apply DM.gbT;rfl)|(apply DM.gbF;rfl)|intro h
          refine AM.weakE [(0, .ptr cb 0), (2, .int .i64 at_), (7, .ptr b 0)] ?_ ?_
          · (repeat first | exact envle_nil _ | (refine envle_cons ?_ ?_; · (simp only [go_sem, Nat.reduceBEq, Nat.reduceAdd]; exact AVLe.refl _)))
          rw [show loopsP p at_ x lo = finP p at_ x lo.dropLast by simp [loopsP, loopsQ, h3, hlo0]]
          refine AM.forget (HV H1 ρ st lo.dropLast vs (vl + 1)) ?_ (htail H1 b hH dd hne hbne hcb1 hbb lo.dropLast vs (vl + 1))
          rw [show (lo.map irow).take n = lo.dropLast.map irow by rw [← List.map_take, List.dropLast_eq_take, hn]; rfl]
          (refine hsub_hv ?_ ?_ ?_ ?_ ?_<;>first|(intro x y h1 h2 h;repeat first|exact h|refine hv_oldT h1 h2 ?_|refine t_ne ‹_› ?_|refine t_fresh ‹_› ?_|refine t_B ?_)|(intro x y hx h;repeat first|exact h|refine hv_old hx ?_|refine g_ne hx ?_|refine g_ne (nb ‹_› h) ?_|refine g_fresh ‹_› ?_|refine g_T ?_)|(repeat' first|(apply Lk.go;constructor)|assumption|exact nb ‹_› ‹_›|exact nt ‹_› ‹_›|(apply Lv.go;constructor)))
      · intro h3
        simp at h3
        repeat' first|(apply Sp.go;·constructor<;>first|exact ss|(change _=_;first|(simp only[go_sem,Nat.reduceBEq,Nat.reduceAdd,Nat.reduceLeDiff,reduceIte]<;>rfl)|rfl)|exact Nat.le_of_ble_eq_true rfl|decide|(repeat' first|(apply Lk.go;constructor)|assumption|exact nb ‹_› ‹_›|exact nt ‹_› ‹_›|(apply Lv.go;constructor)))|(intro b hb;repeat first|(refine fe hb ?_;intro _ _ hb)|(refine fT hb ?_;intro hb)|(refine fresh_elimV hb ?_;intro _ _ hb))|refine rt ?_|refine gA rfl ?_|refine gB rfl ?_|apply cT rfl|apply cF rfl|(apply DM.gbT;rfl)|(apply DM.gbF;rfl)|intro h
        (apply AM.cond; (· rfl))
        · intro h4
          simp at h4
          repeat' first|(apply Sp.go;·constructor<;>first|exact ss|(change _=_;first|(simp only[go_sem,Nat.reduceBEq,Nat.reduceAdd,Nat.reduceLeDiff,reduceIte]<;>rfl)|rfl)|exact Nat.le_of_ble_eq_true rfl|decide|(repeat' first|(apply Lk.go;constructor)|assumption|exact nb ‹_› ‹_›|exact nt ‹_› ‹_›|(apply Lv.go;constructor)))|(intro b hb;repeat first|(refine fe hb ?_;intro _ _ hb)|(refine fT hb ?_;intro hb)|(refine fresh_elimV hb ?_;intro _ _ hb))|refine rt ?_|refine gA rfl ?_|refine gB rfl ?_|apply cT rfl|apply cF rfl|(apply DM.gbT;rfl)|(apply DM.gbF;rfl)|intro h
          by_cases hlo0 : lo = []
          · have e1 : decide ((lo.length : Int) - 1 < 0) = true := by simp [hlo0]
            simp only [e1]
            (apply DM.pcs (p115t 7); (· simp only [go_sem, Nat.reduceBEq, Nat.reduceAdd] <;> rfl); (· exact AVLes.refl _))
            repeat' first|(apply Sp.go;·constructor<;>first|exact ss|(change _=_;first|(simp only[go_sem,Nat.reduceBEq,Nat.reduceAdd,Nat.reduceLeDiff,reduceIte]<;>rfl)|rfl)|exact Nat.le_of_ble_eq_true rfl|decide|(repeat' first|(apply Lk.go;constructor)|assumption|exact nb ‹_› ‹_›|exact nt ‹_› ‹_›|(apply Lv.go;constructor)))|(intro b hb;repeat first|(refine fe hb ?_;intro _ _ hb)|(refine fT hb ?_;intro hb)|(refine fresh_elimV hb ?_;intro _ _ hb))|refine rt ?_|refine gA rfl ?_|refine gB rfl ?_|apply cT rfl|apply cF rfl|(apply DM.gbT;rfl)|(apply DM.gbF;rfl)|intro h
            refine AM.weakE [(0, .ptr cb 0), (2, .int .i64 at_), (7, .ptr b 0)] ?_ ?_
            · (repeat first | exact envle_nil _ | (refine envle_cons ?_ ?_; · (simp only [go_sem, Nat.reduceBEq, Nat.reduceAdd]; exact AVLe.refl _)))
            rw [show loopsP p at_ x lo = finP p at_ x lo by simp [loopsP, loopsQ, h4, hlo0]]
            refine AM.forget (HV H1 ρ st lo vs vl) ?_ (htail H1 b hH dd hne hbne hcb1 hbb lo vs vl)
            exact HSub.refl _
          · have e1 : decide ((lo.length : Int) - 1 < 0) = false := decide_eq_false (by have : lo.length ≠ 0 := fun e => hlo0 (List.eq_nil_of_length_eq_zero e); omega)
            simp only [e1]
            rw [show loopsP p at_ x lo = none by simp [loopsP, loopsQ, h4, hlo0]]
            refine DM.calX (p115f 7 _) (by simp only [go_sem, Nat.reduceBEq, Nat.reduceAdd] <;> rfl) (AVLes.refl _) ?_
            rintro v H' ⟨rfl, rfl⟩
            exact mvw_pan (hH.trans (hv_base dd))
        · intro h4
          simp at h4
          repeat' first|(apply Sp.go;·constructor<;>first|exact ss|(change _=_;first|(simp only[go_sem,Nat.reduceBEq,Nat.reduceAdd,Nat.reduceLeDiff,reduceIte]<;>rfl)|rfl)|exact Nat.le_of_ble_eq_true rfl|decide|(repeat' first|(apply Lk.go;constructor)|assumption|exact nb ‹_› ‹_›|exact nt ‹_› ‹_›|(apply Lv.go;constructor)))|(intro b hb;repeat first|(refine fe hb ?_;intro _ _ hb)|(refine fT hb ?_;intro hb)|(refine fresh_elimV hb ?_;intro _ _ hb))|refine rt ?_|refine gA rfl ?_|refine gB rfl ?_|apply cT rfl|apply cF rfl|(apply DM.gbT;rfl)|(apply DM.gbF;rfl)|(apply AM.condS;rfl)|intro h
          · have ho : x.op = 19 := of_decide_eq_true ‹decide (x.op = 19) = true›
            by_cases hq : (at_ : Int) < x.n
            · simp only [decide_eq_true hq]
              (apply DM.pcs (p115t 7); (· simp only [go_sem, Nat.reduceBEq, Nat.reduceAdd] <;> rfl); (· exact AVLes.refl _))
              repeat' first|(apply Sp.go;·constructor<;>first|exact ss|(change _=_;first|(simp only[go_sem,Nat.reduceBEq,Nat.reduceAdd,Nat.reduceLeDiff,reduceIte]<;>rfl)|rfl)|exact Nat.le_of_ble_eq_true rfl|decide|(repeat' first|(apply Lk.go;constructor)|assumption|exact nb ‹_› ‹_›|exact nt ‹_› ‹_›|(apply Lv.go;constructor)))|(intro b hb;repeat first|(refine fe hb ?_;intro _ _ hb)|(refine fT hb ?_;intro hb)|(refine fresh_elimV hb ?_;intro _ _ hb))|refine rt ?_|refine gA rfl ?_|refine gB rfl ?_|apply cT rfl|apply cF rfl|(apply DM.gbT;rfl)|(apply DM.gbF;rfl)|intro h
              refine AM.weakE [(0, .ptr cb 0), (2, .int .i64 at_), (7, .ptr b 0)] ?_ ?_
              · (repeat first | exact envle_nil _ | (refine envle_cons ?_ ?_; · (simp only [go_sem, Nat.reduceBEq, Nat.reduceAdd]; exact AVLe.refl _)))
              rw [show loopsP p at_ x lo = finP p at_ x lo by simp [loopsP, loopsQ, ho, hq]]
              refine AM.forget (HV H1 ρ st lo vs vl) ?_ (htail H1 b hH dd hne hbne hcb1 hbb lo vs vl)
              exact HSub.refl _
            · simp only [decide_eq_false hq]
              rw [show loopsP p at_ x lo = none by simp [loopsP, loopsQ, ho, hq]]
              refine DM.calX (p115f 7 _) (by simp only [go_sem, Nat.reduceBEq, Nat.reduceAdd] <;> rfl) (AVLes.refl _) ?_
              rintro v H' ⟨rfl, rfl⟩
              exact mvw_pan (hH.trans (hv_base dd))
          · have ho : x.op = 20 := of_decide_eq_true ‹decide (x.op = 20) = true›
            by_cases hq : (at_ : Int) < x.n
            · simp only [decide_eq_true hq]
              (apply DM.pcs (p115t 7); (· simp only [go_sem, Nat.reduceBEq, Nat.reduceAdd] <;> rfl); (· exact AVLes.refl _))
              repeat' first|(apply Sp.go;·constructor<;>first|exact ss|(change _=_;first|(simp only[go_sem,Nat.reduceBEq,Nat.reduceAdd,Nat.reduceLeDiff,reduceIte]<;>rfl)|rfl)|exact Nat.le_of_ble_eq_true rfl|decide|(repeat' first|(apply Lk.go;constructor)|assumption|exact nb ‹_› ‹_›|exact nt ‹_› ‹_›|(apply Lv.go;constructor)))|(intro b hb;repeat first|(refine fe hb ?_;intro _ _ hb)|(refine fT hb ?_;intro hb)|(refine fresh_elimV hb ?_;intro _ _ hb))|refine rt ?_|refine gA rfl ?_|refine gB rfl ?_|apply cT rfl|apply cF rfl|(apply DM.gbT;rfl)|(apply DM.gbF;rfl)|intro h
              refine AM.weakE [(0, .ptr cb 0), (2, .int .i64 at_), (7, .ptr b 0)] ?_ ?_
              · (repeat first | exact envle_nil _ | (refine envle_cons ?_ ?_; · (simp only [go_sem, Nat.reduceBEq, Nat.reduceAdd]; exact AVLe.refl _)))
              rw [show loopsP p at_ x lo = finP p at_ x lo by simp [loopsP, loopsQ, ho, hq]]
              refine AM.forget (HV H1 ρ st lo vs vl) ?_ (htail H1 b hH dd hne hbne hcb1 hbb lo vs vl)
              exact HSub.refl _
            · simp only [decide_eq_false hq]
              rw [show loopsP p at_ x lo = none by simp [loopsP, loopsQ, ho, hq]]
              refine DM.calX (p115f 7 _) (by simp only [go_sem, Nat.reduceBEq, Nat.reduceAdd] <;> rfl) (AVLes.refl _) ?_
              rintro v H' ⟨rfl, rfl⟩
              exact mvw_pan (hH.trans (hv_base dd))
          · have e19 : ¬ x.op = 19 := of_decide_eq_false ‹decide (x.op = 19) = false›
            have e20 : ¬ x.op = 20 := of_decide_eq_false ‹decide (x.op = 20) = false›
            refine AM.weakE [(0, .ptr cb 0), (2, .int .i64 at_), (7, .ptr b 0)] ?_ ?_
            · (repeat first | exact envle_nil _ | (refine envle_cons ?_ ?_; · (simp only [go_sem, Nat.reduceBEq, Nat.reduceAdd]; exact AVLe.refl _)))
            rw [show loopsP p at_ x lo = finP p at_ x lo by simp [loopsP, loopsQ, h1, h2, h3, h4, e19, e20]]
            refine AM.forget (HV H1 ρ st lo vs vl) ?_ (htail H1 b hH dd hne hbne hcb1 hbb lo vs vl)
            exact HSub.refl _
end Go.Aw.T
namespace Go.Aw.T
open Go Go.Aw Go.Proofs Go.RowKit
set_option maxRecDepth 100000
attribute [local irreducible] Go.Aw.DM Go.Aw.AHeap.setB Go.Aw.AHeap.setT
attribute [local go_sem] peval EOpd.ev Env.get binInt binStr binBool buildParts AV.cells AV.okc setRange minmaxAV AV.one AV.ofCells eqCells eqCell bslRows cond_true cond_false beq_self_eq_true Bool.not_true Bool.not_false beq_true beq_false eq_self if_true Option.some.injEq List.length_cons List.length_nil List.take_succ_cons List.take_zero List.drop_succ_cons List.drop_zero List.set_cons_succ List.set_cons_zero List.nil_append List.cons_append List.append_nil and_self Option.map_some List.map_cons List.map_nil Bool.false_eq_true if_false Nat.zero_add Nat.add_zero true_and and_true Bool.and_true Bool.true_and List.getElem?_cons_zero List.getElem?_cons_succ Nat.zero_le Nat.le_refl
set_option linter.unusedSimpArgs false
set_option linter.unusedVariables false
set_option maxHeartbeats 1000000 in
theorem p117 (xs ys : List Int) : Pure Try.prog 117 [.vs 1 (xs.map irow), .vs 1 (ys.map irow)] (.bool (decide (xs = ys))) := by
  refine pure_assume (G := xs.length ≤ maxLen) (fun m vs h => by simp only [RvL] at h; obtain ⟨_, _, _, h, _⟩ := h; simpa using vs_len h) fun hlen => ?_
  refine pure_intro mo Try.func117 c117 fun H => ?_
  unfold e117 r117
  simp only [initEnv, initFrom]
  repeat' first|(apply Sp.go;·constructor<;>first|exact ss|(change _=_;first|(simp only[go_sem,Nat.reduceBEq,Nat.reduceAdd,Nat.reduceLeDiff,reduceIte]<;>rfl)|rfl)|exact Nat.le_of_ble_eq_true rfl|decide|(repeat' first|(apply Lk.go;constructor)|assumption|exact nb ‹_› ‹_›|exact nt ‹_› ‹_›))|(intro b hb;repeat first|(refine fe hb ?_;intro _ _ hb)|(refine fT hb ?_;intro hb))|refine rt ?_|refine gA rfl ?_|refine gB rfl ?_|apply cT rfl|apply cF rfl|(apply DM.gbT;rfl)|(apply DM.gbF;rfl)|intro h
  (apply AM.cond; (· rfl))
  · intro h
    repeat' first|(apply Sp.go;·constructor<;>first|exact ss|(change _=_;first|(simp only[go_sem,Nat.reduceBEq,Nat.reduceAdd,Nat.reduceLeDiff,reduceIte]<;>rfl)|rfl)|exact Nat.le_of_ble_eq_true rfl|decide|(repeat' first|(apply Lk.go;constructor)|assumption|exact nb ‹_› ‹_›|exact nt ‹_› ‹_›))|(intro b hb;repeat first|(refine fe hb ?_;intro _ _ hb)|(refine fT hb ?_;intro hb))|refine rt ?_|refine gA rfl ?_|refine gB rfl ?_|apply cT rfl|apply cF rfl|(apply DM.gbT;rfl)|(apply DM.gbF;rfl)|intro h
    (apply Sr.go;·constructor<;>first|(apply Lk.go;constructor<;>first|exact ss|(change _=_;first|(simp only[go_sem,Nat.reduceBEq,Nat.reduceAdd,Nat.reduceLeDiff,reduceIte]<;>rfl)|rfl)|exact Nat.le_of_ble_eq_true rfl|decide|(repeat' first|(apply Lk.go;constructor)|assumption|exact nb ‹_› ‹_›|exact nt ‹_› ‹_›))|assumption)
    refine avle_eq ?_
    rw [AV.bool.injEq]
    simp at h
    exact (decide_eq_false (fun e => h (by rw [e]))).symm
  · intro h
    have hl : xs.length = ys.length := by simp at h; omega
    repeat' first|(apply Sp.go;·constructor<;>first|exact ss|(change _=_;first|(simp only[go_sem,Nat.reduceBEq,Nat.reduceAdd,Nat.reduceLeDiff,reduceIte]<;>rfl)|rfl)|exact Nat.le_of_ble_eq_true rfl|decide|(repeat' first|(apply Lk.go;constructor)|assumption|exact nb ‹_› ‹_›|exact nt ‹_› ‹_›))|(intro b hb;repeat first|(refine fe hb ?_;intro _ _ hb)|(refine fT hb ?_;intro hb))|refine rt ?_|refine gA rfl ?_|refine gB rfl ?_|apply cT rfl|apply cF rfl|(apply DM.gbT;rfl)|(apply DM.gbF;rfl)|intro h
    refine AM.loopX (X := Nat) 0 (fun i => [(0, .vs 1 (xs.map irow)), (1, .vs 1 (ys.map irow)), (12, .int .i64 xs.length), (13, .int .i64 (i : Int))]) (fun i H' => H' = H ∧ i ≤ xs.length ∧ decide (xs = ys) = decide (xs.drop i = ys.drop i)) (fun i => xs.length - i) ⟨rfl, by omega, by simp⟩ ?_ ?_
    · refine envle_cons ?_ ?_
      · (simp only [go_sem, Nat.reduceBEq]; exact AVLe.refl _)
      refine envle_cons ?_ ?_
      · (simp only [go_sem, Nat.reduceBEq]; exact AVLe.refl _)
      refine envle_cons ?_ ?_
      · simp only [go_sem, Nat.reduceBEq]
        exact avle_int (by simp)
      (repeat first | exact envle_nil _ | (refine envle_cons ?_ ?_; · (simp only [go_sem, Nat.reduceBEq, Nat.reduceAdd]; exact AVLe.refl _)))
    · rintro i H' ⟨rfl, hi, he⟩
      repeat' first|(apply Sp.go;·constructor<;>first|exact ss|(change _=_;first|(simp only[go_sem,Nat.reduceBEq,Nat.reduceAdd,Nat.reduceLeDiff,reduceIte]<;>rfl)|rfl)|exact Nat.le_of_ble_eq_true rfl|decide|(repeat' first|(apply Lk.go;constructor)|assumption|exact nb ‹_› ‹_›|exact nt ‹_› ‹_›))|(intro b hb;repeat first|(refine fe hb ?_;intro _ _ hb)|(refine fT hb ?_;intro hb))|refine rt ?_|refine gA rfl ?_|refine gB rfl ?_|apply cT rfl|apply cF rfl|(apply DM.gbT;rfl)|(apply DM.gbF;rfl)|intro h
      (apply AM.cond; (· rfl))
      · intro h3
        simp at h3
        obtain ⟨v, hv⟩ := some_of h3
        obtain ⟨w, hw⟩ := some_of (hl ▸ h3 : i < ys.length)
        rw [drop_consI hv, drop_consI hw] at he
        repeat' first|(apply Sp.go;·constructor<;>first|exact ss|(change _=_;first|(simp only[go_sem,Nat.reduceBEq,Nat.reduceAdd,Nat.reduceLeDiff,reduceIte]<;>rfl)|rfl)|exact Nat.le_of_ble_eq_true rfl|decide|(repeat' first|(apply Lk.go;constructor)|assumption|exact nb ‹_› ‹_›|exact nt ‹_› ‹_›))|(intro b hb;repeat first|(refine fe hb ?_;intro _ _ hb)|(refine fT hb ?_;intro hb))|refine rt ?_|refine gA rfl ?_|refine gB rfl ?_|apply cT rfl|apply cF rfl|(apply DM.gbT;rfl)|(apply DM.gbF;rfl)|intro h
        (apply DM.ixV (row := irow v) (z := (i : Int)) (by omega) (row_getI hv); (· rfl); (· rfl))
        repeat' first|(apply Sp.go;·constructor<;>first|exact ss|(change _=_;first|(simp only[go_sem,Nat.reduceBEq,Nat.reduceAdd,Nat.reduceLeDiff,reduceIte]<;>rfl)|rfl)|exact Nat.le_of_ble_eq_true rfl|decide|(repeat' first|(apply Lk.go;constructor)|assumption|exact nb ‹_› ‹_›|exact nt ‹_› ‹_›))|(intro b hb;repeat first|(refine fe hb ?_;intro _ _ hb)|(refine fT hb ?_;intro hb))|refine rt ?_|refine gA rfl ?_|refine gB rfl ?_|apply cT rfl|apply cF rfl|(apply DM.gbT;rfl)|(apply DM.gbF;rfl)|intro h
        (apply DM.ixV (row := irow w) (z := (i : Int)) (by omega) (row_getI hw); (· rfl); (· rfl))
        repeat' first|(apply Sp.go;·constructor<;>first|exact ss|(change _=_;first|(simp only[go_sem,Nat.reduceBEq,Nat.reduceAdd,Nat.reduceLeDiff,reduceIte]<;>rfl)|rfl)|exact Nat.le_of_ble_eq_true rfl|decide|(repeat' first|(apply Lk.go;constructor)|assumption|exact nb ‹_› ‹_›|exact nt ‹_› ‹_›))|(intro b hb;repeat first|(refine fe hb ?_;intro _ _ hb)|(refine fT hb ?_;intro hb))|refine rt ?_|refine gA rfl ?_|refine gB rfl ?_|apply cT rfl|apply cF rfl|(apply DM.gbT;rfl)|(apply DM.gbF;rfl)|intro h
        (apply AM.cond; (· rfl))
        · intro h4
          simp at h4
          repeat' first|(apply Sp.go;·constructor<;>first|exact ss|(change _=_;first|(simp only[go_sem,Nat.reduceBEq,Nat.reduceAdd,Nat.reduceLeDiff,reduceIte]<;>rfl)|rfl)|exact Nat.le_of_ble_eq_true rfl|decide|(repeat' first|(apply Lk.go;constructor)|assumption|exact nb ‹_› ‹_›|exact nt ‹_› ‹_›))|(intro b hb;repeat first|(refine fe hb ?_;intro _ _ hb)|(refine fT hb ?_;intro hb))|refine rt ?_|refine gA rfl ?_|refine gB rfl ?_|apply cT rfl|apply cF rfl|(apply DM.gbT;rfl)|(apply DM.gbF;rfl)|intro h
          (apply Sr.go;·constructor<;>first|(apply Lk.go;constructor<;>first|exact ss|(change _=_;first|(simp only[go_sem,Nat.reduceBEq,Nat.reduceAdd,Nat.reduceLeDiff,reduceIte]<;>rfl)|rfl)|exact Nat.le_of_ble_eq_true rfl|decide|(repeat' first|(apply Lk.go;constructor)|assumption|exact nb ‹_› ‹_›|exact nt ‹_› ‹_›))|assumption)
          refine avle_eq ?_
          rw [AV.bool.injEq, he]
          exact (decide_eq_false (fun e => h4 (by simpa using (List.cons.inj e).1))).symm
        · intro h4
          simp at h4
          repeat' first|(apply Sp.go;·constructor<;>first|exact ss|(change _=_;first|(simp only[go_sem,Nat.reduceBEq,Nat.reduceAdd,Nat.reduceLeDiff,reduceIte]<;>rfl)|rfl)|exact Nat.le_of_ble_eq_true rfl|decide|(repeat' first|(apply Lk.go;constructor)|assumption|exact nb ‹_› ‹_›|exact nt ‹_› ‹_›))|(intro b hb;repeat first|(refine fe hb ?_;intro _ _ hb)|(refine fT hb ?_;intro hb))|refine rt ?_|refine gA rfl ?_|refine gB rfl ?_|apply cT rfl|apply cF rfl|(apply DM.gbT;rfl)|(apply DM.gbF;rfl)|intro h
          refine AM.roundX (i + 1) ⟨rfl, by omega, ?_⟩ ?_ ?_
          · rw [he, h4, decide_eq_decide]
            simp
          · (repeat first | exact envle_nil _ | (refine envle_cons ?_ ?_; · (simp only [go_sem, Nat.reduceBEq, Nat.reduceAdd]; exact AVLe.refl _)))
            refine envle_cons ?_ ?_
            · simp only [go_sem, Nat.reduceBEq, Nat.reduceAdd]
              refine avle_int ?_
              rw [inc64 h3 hlen]
            exact envle_nil _
          · show xs.length - (i + 1) < xs.length - i
            omega
      · intro h3
        simp at h3
        repeat' first|(apply Sp.go;·constructor<;>first|exact ss|(change _=_;first|(simp only[go_sem,Nat.reduceBEq,Nat.reduceAdd,Nat.reduceLeDiff,reduceIte]<;>rfl)|rfl)|exact Nat.le_of_ble_eq_true rfl|decide|(repeat' first|(apply Lk.go;constructor)|assumption|exact nb ‹_› ‹_›|exact nt ‹_› ‹_›))|(intro b hb;repeat first|(refine fe hb ?_;intro _ _ hb)|(refine fT hb ?_;intro hb))|refine rt ?_|refine gA rfl ?_|refine gB rfl ?_|apply cT rfl|apply cF rfl|(apply DM.gbT;rfl)|(apply DM.gbF;rfl)|intro h
        (apply Sr.go;·constructor<;>first|(apply Lk.go;constructor<;>first|exact ss|(change _=_;first|(simp only[go_sem,Nat.reduceBEq,Nat.reduceAdd,Nat.reduceLeDiff,reduceIte]<;>rfl)|rfl)|exact Nat.le_of_ble_eq_true rfl|decide|(repeat' first|(apply Lk.go;constructor)|assumption|exact nb ‹_› ‹_›|exact nt ‹_› ‹_›))|assumption)
        refine avle_eq ?_
        rw [AV.bool.injEq, he, List.drop_eq_nil_of_le h3, List.drop_eq_nil_of_le (by omega)]
        rfl
/-- The same at a stack that is being written. -/
theorem heq117 (st rr : List Int) (H : AHeap) (t v : Nat) (ht : H.tok t = some (.mu 3 1 v (st.map irow))) : PureAt Try.prog 117 [.ms t v, .vs 1 (rr.map irow)] H (.bool (decide (st = rr))) := by
  have hs : HSub AHeap.none H := ⟨fun _ _ h => by simp [AHeap.none] at h, fun _ _ h => by simp [AHeap.none] at h⟩
  refine Pure.borrow (p117 st rr) (FrzL.cons (Frz.ms hs ht rfl) (FrzL.cons (Frz.same hs) FrzL.nil)) ?_
  intro m m' v h
  simp only [Rv] at *
  exact h
abbrev St2 := List Int × List Int
abbrev s2row (s : St2) : List AV := [.vs 1 (s.1.map irow), .vs 1 (s.2.map irow)]
def srow : Option St2 → List AV
  | none => [.raw (.pointer none)]
  | some s => [.rp (s2row s) 0]
theorem srow_len (S : List (Option St2)) : ∀ r ∈ S.map srow, r.length = 1 := fun r h => by obtain ⟨v, _, rfl⟩ := List.mem_map.1 h; cases v <;> rfl
def reachP (S : List (Option St2)) (i : Nat) (s : St2) : Int × List (Option St2) := match S[i]? with
  | some (some old) => if old.1 = s.1 then (if old.2 = s.2 then (0, S) else (7, S)) else (11, S)
  | _ => (0, S.set i (some s))
theorem setT_id {H : AHeap} {t : Nat} {o : Own} (h : H.tok t = some o) : H.setT t o = H := by
  cases H
  simp only [AHeap.setT, AHeap.mk.injEq, true_and] at *
  funext x
  by_cases e : x = t
  · subst e; simp [h]
  · simp [e]
def RQ77 (H : AHeap) (ts v : Nat) (r : Int × List (Option St2)) (o : Out) (H' : AHeap) : Prop :=
  (r.1 = 0 → o = .ret (.tup []) ∧ H' = H.setT ts (.mu 123 1 v (r.2.map srow))) ∧ (r.1 ≠ 0 → o = .pan (stopv r.1) ∧ H' = H)
def RW77 (H : AHeap) (ts v : Nat) (r : Int × List (Option St2)) (o : Out) (H' : AHeap) : Prop :=
  (r.1 = 0 → o = .ret (.tup []) ∧ HSub (H.setT ts (.mu 123 1 v (r.2.map srow))) H') ∧ (r.1 ≠ 0 → o = .pan (stopv r.1) ∧ H' = H)
set_option maxHeartbeats 2000000 in
theorem p77 (H : AHeap) (cb ts v : Nat) (p : Prog) (ps rr : List Int) (S : List (Option St2)) (hcb : H.blk cb = some (122, ccells p ps rr (.ms ts v))) (hts : H.tok ts = some (.mu 123 1 v (S.map srow))) (i : Nat) (hi : i < S.length) (s : St2) :
    ACalls Try.prog 77 [.ptr cb 0, .int .i64 i, .rp (s2row s) 0] H (RQ77 H ts v (reachP S i s)) := by
  have hw : ACalls Try.prog 77 [.ptr cb 0, .int .i64 i, .rp (s2row s) 0] H (RW77 H ts v (reachP S i s)) := by
    refine acalls_of mo Try.func77 c77 ?_
    unfold e77 r77
    simp only [initEnv, initFrom]
    obtain ⟨so, hso⟩ := some_of hi
    repeat' first|(apply Sp.go;·constructor<;>first|exact ss|(change _=_;first|(simp only[go_sem,Nat.reduceBEq,Nat.reduceAdd,Nat.reduceLeDiff,reduceIte]<;>rfl)|rfl)|exact Nat.le_of_ble_eq_true rfl|decide|(repeat' first|(apply Lk.go;constructor)|assumption|exact nb ‹_› ‹_›|exact nt ‹_› ‹_›))|(intro b hb;repeat first|(refine fe hb ?_;intro _ _ hb)|(refine fT hb ?_;intro hb))|refine rt ?_|refine gA rfl ?_|refine gB rfl ?_|apply cT rfl|apply cF rfl|(apply DM.gbT;rfl)|(apply DM.gbF;rfl)|intro h
    (apply DM.ixM; (· rfl); (· repeat' first|(apply Lk.go;constructor)|assumption|exact nb ‹_› ‹_›|exact nt ‹_› ‹_›|(apply Lm.go;constructor)); (· rfl); (· (first | omega | (simp only [List.length_map]; omega))); (· (first | omega | (simp only [List.length_map]; omega))))
    repeat' first|(apply Sp.go;·constructor<;>first|exact ss|(change _=_;first|(simp only[go_sem,Nat.reduceBEq,Nat.reduceAdd,Nat.reduceLeDiff,reduceIte]<;>rfl)|rfl)|exact Nat.le_of_ble_eq_true rfl|decide|(repeat' first|(apply Lk.go;constructor)|assumption|exact nb ‹_› ‹_›|exact nt ‹_› ‹_›))|(intro b hb;repeat first|(refine fe hb ?_;intro _ _ hb)|(refine fT hb ?_;intro hb))|refine rt ?_|refine gA rfl ?_|refine gB rfl ?_|apply cT rfl|apply cF rfl|(apply DM.gbT;rfl)|(apply DM.gbF;rfl)|intro h
    have hsr : (S.map srow)[i]? = some (srow so) := by rw [List.getElem?_map, hso]; rfl
    cases so with
    | none =>
      (apply DM.ldM1 (i := i) (j := 0); (· rfl); (· repeat' first|(apply Lk.go;constructor)|assumption|exact nb ‹_› ‹_›|exact nt ‹_› ‹_›|(apply Lm.go;constructor)); (· exact srow_len _); (· exact hsr); (· simp); (· rfl))
      repeat' first|(apply Sp.go;·constructor<;>first|exact ss|(change _=_;first|(simp only[go_sem,Nat.reduceBEq,Nat.reduceAdd,Nat.reduceLeDiff,reduceIte]<;>rfl)|rfl)|exact Nat.le_of_ble_eq_true rfl|decide|(repeat' first|(apply Lk.go;constructor)|assumption|exact nb ‹_› ‹_›|exact nt ‹_› ‹_›))|(intro b hb;repeat first|(refine fe hb ?_;intro _ _ hb)|(refine fT hb ?_;intro hb))|refine rt ?_|refine gA rfl ?_|refine gB rfl ?_|apply cT rfl|apply cF rfl|(apply DM.gbT;rfl)|(apply DM.gbF;rfl)|intro h
      (apply DM.ixM; (· rfl); (· repeat' first|(apply Lk.go;constructor)|assumption|exact nb ‹_› ‹_›|exact nt ‹_› ‹_›|(apply Lm.go;constructor)); (· rfl); (· (first | omega | (simp only [List.length_map]; omega))); (· (first | omega | (simp only [List.length_map]; omega))))
      repeat' first|(apply Sp.go;·constructor<;>first|exact ss|(change _=_;first|(simp only[go_sem,Nat.reduceBEq,Nat.reduceAdd,Nat.reduceLeDiff,reduceIte]<;>rfl)|rfl)|exact Nat.le_of_ble_eq_true rfl|decide|(repeat' first|(apply Lk.go;constructor)|assumption|exact nb ‹_› ‹_›|exact nt ‹_› ‹_›))|(intro b hb;repeat first|(refine fe hb ?_;intro _ _ hb)|(refine fT hb ?_;intro hb))|refine rt ?_|refine gA rfl ?_|refine gB rfl ?_|apply cT rfl|apply cF rfl|(apply DM.gbT;rfl)|(apply DM.gbF;rfl)|intro h
      (apply DM.stM (i := i); (· rfl); (· repeat' first|(apply Lk.go;constructor)|assumption|exact nb ‹_› ‹_›|exact nt ‹_› ‹_›|(apply Lm.go;constructor)); (· simp only [go_sem, Nat.reduceBEq, Nat.reduceAdd] <;> rfl); (· (· exact srow_len _)); (· exact hsr); (· simp); (· rfl); (· rfl))
      repeat' first|(apply Sp.go;·constructor<;>first|exact ss|(change _=_;first|(simp only[go_sem,Nat.reduceBEq,Nat.reduceAdd,Nat.reduceLeDiff,reduceIte]<;>rfl)|rfl)|exact Nat.le_of_ble_eq_true rfl|decide|(repeat' first|(apply Lk.go;constructor)|assumption|exact nb ‹_› ‹_›|exact nt ‹_› ‹_›))|(intro b hb;repeat first|(refine fe hb ?_;intro _ _ hb)|(refine fT hb ?_;intro hb))|refine rt ?_|refine gA rfl ?_|refine gB rfl ?_|apply cT rfl|apply cF rfl|(apply DM.gbT;rfl)|(apply DM.gbF;rfl)|intro h
      (first|refine AM.ret (v := .tup []) results_nil ?_|refine AM.done (v := .tup []) results_nil ?_)
      have e : reachP S i s = (0, S.set i (some s)) := by simp [reachP, hso]
      rw [e]
      refine ⟨fun _ => ⟨rfl, ?_⟩, fun h => absurd rfl h⟩
      rw [List.map_set]
      exact HSub.refl _
    | some old =>
      (apply DM.ldM1 (i := i) (j := 0); (· rfl); (· repeat' first|(apply Lk.go;constructor)|assumption|exact nb ‹_› ‹_›|exact nt ‹_› ‹_›|(apply Lm.go;constructor)); (· exact srow_len _); (· exact hsr); (· simp); (· rfl))
      repeat' first|(apply Sp.go;·constructor<;>first|exact ss|(change _=_;first|(simp only[go_sem,Nat.reduceBEq,Nat.reduceAdd,Nat.reduceLeDiff,reduceIte]<;>rfl)|rfl)|exact Nat.le_of_ble_eq_true rfl|decide|(repeat' first|(apply Lk.go;constructor)|assumption|exact nb ‹_› ‹_›|exact nt ‹_› ‹_›))|(intro b hb;repeat first|(refine fe hb ?_;intro _ _ hb)|(refine fT hb ?_;intro hb))|refine gA rfl ?_|refine gB rfl ?_|apply cT rfl|apply cF rfl|(apply DM.gbT;rfl)|(apply DM.gbF;rfl)|intro h
      (refine AM.reg [.bool (decide (old.1 = s.1))] ?_; simp only [annotate, AV.rows])
      repeat' first|(apply Sp.go;·constructor<;>first|exact ss|(change _=_;first|(simp only[go_sem,Nat.reduceBEq,Nat.reduceAdd,Nat.reduceLeDiff,reduceIte]<;>rfl)|rfl)|exact Nat.le_of_ble_eq_true rfl|decide|(repeat' first|(apply Lk.go;constructor)|assumption|exact nb ‹_› ‹_›|exact nt ‹_› ‹_›))|(intro b hb;repeat first|(refine fe hb ?_;intro _ _ hb)|(refine fT hb ?_;intro hb))|refine rt ?_|refine gA rfl ?_|refine gB rfl ?_|apply cT rfl|apply cF rfl|(apply DM.gbT;rfl)|(apply DM.gbF;rfl)|intro h
      (apply DM.pcRs (p117 old.1 s.1); (· simp only [go_sem, Nat.reduceBEq, Nat.reduceAdd] <;> rfl); (· exact AVLes.refl _))
      by_cases h1 : old.1 = s.1
      · simp only [decide_eq_true h1]
        (apply DM.pcs (p115t 11); (· simp only [go_sem, Nat.reduceBEq, Nat.reduceAdd] <;> rfl); (· exact AVLes.refl _))
        repeat' first|(apply Sp.go;·constructor<;>first|exact ss|(change _=_;first|(simp only[go_sem,Nat.reduceBEq,Nat.reduceAdd,Nat.reduceLeDiff,reduceIte]<;>rfl)|rfl)|exact Nat.le_of_ble_eq_true rfl|decide|(repeat' first|(apply Lk.go;constructor)|assumption|exact nb ‹_› ‹_›|exact nt ‹_› ‹_›))|(intro b hb;repeat first|(refine fe hb ?_;intro _ _ hb)|(refine fT hb ?_;intro hb))|refine gA rfl ?_|refine gB rfl ?_|apply cT rfl|apply cF rfl|(apply DM.gbT;rfl)|(apply DM.gbF;rfl)|intro h
        (refine AM.reg [.bool (decide (old.2 = s.2))] ?_; simp only [annotate, AV.rows])
        repeat' first|(apply Sp.go;·constructor<;>first|exact ss|(change _=_;first|(simp only[go_sem,Nat.reduceBEq,Nat.reduceAdd,Nat.reduceLeDiff,reduceIte]<;>rfl)|rfl)|exact Nat.le_of_ble_eq_true rfl|decide|(repeat' first|(apply Lk.go;constructor)|assumption|exact nb ‹_› ‹_›|exact nt ‹_› ‹_›))|(intro b hb;repeat first|(refine fe hb ?_;intro _ _ hb)|(refine fT hb ?_;intro hb))|refine rt ?_|refine gA rfl ?_|refine gB rfl ?_|apply cT rfl|apply cF rfl|(apply DM.gbT;rfl)|(apply DM.gbF;rfl)|intro h
        (apply DM.pcRs (p117 old.2 s.2); (· simp only [go_sem, Nat.reduceBEq, Nat.reduceAdd] <;> rfl); (· exact AVLes.refl _))
        by_cases h2 : old.2 = s.2
        · simp only [decide_eq_true h2]
          (apply DM.pcs (p115t 7); (· simp only [go_sem, Nat.reduceBEq, Nat.reduceAdd] <;> rfl); (· exact AVLes.refl _))
          repeat' first|(apply Sp.go;·constructor<;>first|exact ss|(change _=_;first|(simp only[go_sem,Nat.reduceBEq,Nat.reduceAdd,Nat.reduceLeDiff,reduceIte]<;>rfl)|rfl)|exact Nat.le_of_ble_eq_true rfl|decide|(repeat' first|(apply Lk.go;constructor)|assumption|exact nb ‹_› ‹_›|exact nt ‹_› ‹_›))|(intro b hb;repeat first|(refine fe hb ?_;intro _ _ hb)|(refine fT hb ?_;intro hb))|refine rt ?_|refine gA rfl ?_|refine gB rfl ?_|apply cT rfl|apply cF rfl|(apply DM.gbT;rfl)|(apply DM.gbF;rfl)|intro h
          (first|refine AM.ret (v := .tup []) results_nil ?_|refine AM.done (v := .tup []) results_nil ?_)
          have e : reachP S i s = (0, S) := by simp [reachP, hso, h1, h2]
          rw [e]
          refine ⟨fun _ => ⟨rfl, ?_⟩, fun h => absurd rfl h⟩
          rw [setT_id hts]
          exact HSub.refl _
        · simp only [decide_eq_false h2]
          refine DM.calX (p115f 7 _) (by simp only [go_sem, Nat.reduceBEq, Nat.reduceAdd] <;> rfl) (AVLes.refl _) ?_
          rintro v' H' ⟨rfl, rfl⟩
          have e : reachP S i s = (7, S) := by simp [reachP, hso, h1, h2]
          rw [e]
          exact ⟨fun h => by simp at h, fun _ => ⟨rfl, rfl⟩⟩
      · simp only [decide_eq_false h1]
        refine DM.calX (p115f 11 _) (by simp only [go_sem, Nat.reduceBEq, Nat.reduceAdd] <;> rfl) (AVLes.refl _) ?_
        rintro v' H' ⟨rfl, rfl⟩
        have e : reachP S i s = (11, S) := by simp [reachP, hso, h1]
        rw [e]
        exact ⟨fun h => by simp at h, fun _ => ⟨rfl, rfl⟩⟩
  exact hw.mono fun o H' ⟨h1, h2⟩ => by
    by_cases e : (reachP S i s).1 = 0
    · obtain ⟨rfl, hs⟩ := h1 e
      exact ⟨.ret (.tup []), _, AVLe.refl _, hs, fun _ => ⟨rfl, rfl⟩, fun h => absurd e h⟩
    · obtain ⟨rfl, rfl⟩ := h2 e
      exact ⟨.pan _, H', AVLe.refl _, HSub.refl _, fun h => absurd h e, fun _ => ⟨rfl, rfl⟩⟩
end Go.Aw.T
