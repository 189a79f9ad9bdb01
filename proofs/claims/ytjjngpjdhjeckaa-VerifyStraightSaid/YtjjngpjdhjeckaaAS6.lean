/- Part of a proof; own work. -/
import Derived.Test.YtjjngpjdhjeckaaAS5
namespace Go.Aw.T.R
open Go Go.Aw Go.Aw.T Go.Proofs Go.RowKit
set_option maxRecDepth 100000
attribute [local irreducible] Go.Aw.DM Go.Aw.AHeap.setB Go.Aw.AHeap.setT
attribute [local go_sem] peval EOpd.ev Env.get binInt binStr binBool buildParts AV.cells AV.okc setRange minmaxAV AV.one AV.ofCells eqCells eqCell bslRows cond_true cond_false beq_self_eq_true Bool.not_true Bool.not_false beq_true beq_false eq_self if_true Option.some.injEq List.length_cons List.length_nil List.take_succ_cons List.take_zero List.drop_succ_cons List.drop_zero List.set_cons_succ List.set_cons_zero List.nil_append List.cons_append List.append_nil and_self Option.map_some List.map_cons List.map_nil Bool.false_eq_true if_false Nat.zero_add Nat.add_zero true_and and_true Bool.and_true Bool.true_and List.getElem?_cons_zero List.getElem?_cons_succ Nat.zero_le Nat.le_refl
set_option linter.unusedSimpArgs false
set_option linter.unusedVariables false
theorem idx_ge {α : Type} (q : α → Bool) : ∀ (l : List α) (i : Int), 0 ≤ i → idxP q l i = -1 ∨ i ≤ idxP q l i
 | [], i, _ => .inl rfl
 | a :: l, i, h => by
  simp only [idxP]
  split
  ·right; omega
  ·rcases idx_ge q l (i + 1) (by omega) with h | h
   ·exact .inl h
   ·right; omega
theorem idx_at {α : Type} {q : α → Bool} : ∀ {l : List α} {i : Nat} {v : α} (s : Int), 0 ≤ s → l[i]? = some v → q v = true → (∀ j w, j < i → l[j]? = some w → q w = false) → idxP q l s = s + i
 | [], i, v, s, _, h, _, _ => by simp at h
 | a :: l, 0, v, s, _, h, hq, _ => by
  simp at h
  subst h
  simp [idxP, hq]
 | a :: l, i + 1, v, s, hs, h, hq, hn => by
  simp only [idxP]
  rw [hn 0 a (by omega) rfl]
  simp only [Bool.false_eq_true, if_false]
  rw [idx_at (s + 1) (by omega) (by simpa using h) hq (fun j w hj hw => hn (j + 1) w (by omega) (by simpa using hw))]
  omega
theorem idx_lt {α : Type} {q : α → Bool} : ∀ {l : List α} {j : Nat} {w : α} (s : Int), 0 ≤ s → l[j]? = some w → q w = true → idxP q l s ≤ s + j
 | [], j, w, s, _, h, _ => by simp at h
 | a :: l, 0, w, s, _, h, hq => by
  simp at h
  subst h
  simp [idxP, hq]
 | a :: l, j + 1, w, s, hs, h, hq => by
  simp only [idxP]
  split
  ·omega
  ·have := idx_lt (s + 1) (by omega) (l := l) (j := j) (by simpa using h) hq
   omega
theorem p49 (vs : List Var_) : Pure Try.prog 49 [.vs 7 (vs.map Var_.row)] (.bool (varsOk vs)) := by
 refine pure_assume (G := vs.length ≤ maxLen) (fun m vs h => by simp only [RvL] at h; obtain ⟨_, _, _, h, _⟩ := h; simpa using vs_len h) fun hlen => ?_
 have bad : ∀ {i : Nat}, i < vs.length → okVar vs i = false → AVLe (.bool false) (.bool (varsOk vs)) := by
  intro i hi h
  refine avle_eq ?_
  rw [AV.bool.injEq, varsOk, allI_false hi h, Bool.false_and]
 refine pure_intro mo Try.func49 c49 fun H => ?_
 unfold e49 r49
 simp only [initEnv, initFrom]
 repeat' first|(apply Sp.go;·constructor<;>first|exact ss|(change _=_;first|(simp only[go_sem,Nat.reduceBEq,Nat.reduceAdd,Nat.reduceLeDiff,reduceIte]<;>rfl)|rfl)|exact Nat.le_of_ble_eq_true rfl|decide|(repeat' first|(apply Lk.go;constructor)|assumption|exact nb ‹_› ‹_›|exact nt ‹_› ‹_›))|(intro b hb;repeat first|(refine fe hb ?_;intro _ _ hb)|(refine fT hb ?_;intro hb))|refine rt ?_|refine gA rfl ?_|refine gB rfl ?_|apply cT rfl|apply cF rfl|(apply DM.gbT;rfl)|(apply DM.gbF;rfl)|intro h
 refine AM.loopX (X := Nat) 0 (fun i => [(0, .vs 7 (vs.map Var_.row)), (3, .int .i64 i)]) (fun i H' => H' = H ∧ i ≤ vs.length ∧ ∀ j, j < i → okVar vs j = true) (fun i => vs.length - i) ⟨rfl, by omega, fun j hj => by omega⟩ ?_ ?_
 ·(repeat first | exact envle_nil _ | (refine envle_cons ?_ ?_; · (simp only [go_sem, Nat.reduceBEq, Nat.reduceAdd]; exact AVLe.refl _)))
 ·intro i H' ⟨e, hi, he⟩
  subst e
  repeat' first|(apply Sp.go;·constructor<;>first|exact ss|(change _=_;first|(simp only[go_sem,Nat.reduceBEq,Nat.reduceAdd,Nat.reduceLeDiff,reduceIte]<;>rfl)|rfl)|exact Nat.le_of_ble_eq_true rfl|decide|(repeat' first|(apply Lk.go;constructor)|assumption|exact nb ‹_› ‹_›|exact nt ‹_› ‹_›))|(intro b hb;repeat first|(refine fe hb ?_;intro _ _ hb)|(refine fT hb ?_;intro hb))|refine gA rfl ?_|refine gB rfl ?_|apply cT rfl|apply cF rfl|(apply DM.gbT;rfl)|(apply DM.gbF;rfl)|intro h
  (apply AM.cond; (· rfl))
  ·intro h3
   simp at h3
   obtain ⟨v, hv⟩ := some_of h3
   have hok : okVar vs i = (isName v.name && decide (idxP (fun w : Var_ => decide (w.name = v.name)) vs 0 = (i : Int)) && fitsV v.sort v.init) := by simp [okVar, hv]
   repeat' first|(apply Sp.go;·constructor<;>first|exact ss|(change _=_;first|(simp only[go_sem,Nat.reduceBEq,Nat.reduceAdd,Nat.reduceLeDiff,reduceIte]<;>rfl)|rfl)|exact Nat.le_of_ble_eq_true rfl|decide|(repeat' first|(apply Lk.go;constructor)|assumption|exact nb ‹_› ‹_›|exact nt ‹_› ‹_›))|(intro b hb;repeat first|(refine fe hb ?_;intro _ _ hb)|(refine fT hb ?_;intro hb))|refine gA rfl ?_|refine gB rfl ?_|apply cT rfl|apply cF rfl|(apply DM.gbT;rfl)|(apply DM.gbF;rfl)|intro h
   (refine AM.reg [.bool (isName v.name), .bool (fitsV v.sort v.init)] ?_; simp only [annotate, AV.rows])
   repeat' first|(apply Sp.go;·constructor<;>first|exact ss|(change _=_;first|(simp only[go_sem,Nat.reduceBEq,Nat.reduceAdd,Nat.reduceLeDiff,reduceIte]<;>rfl)|rfl)|exact Nat.le_of_ble_eq_true rfl|decide|(repeat' first|(apply Lk.go;constructor)|assumption|exact nb ‹_› ‹_›|exact nt ‹_› ‹_›))|(intro b hb;repeat first|(refine fe hb ?_;intro _ _ hb)|(refine fT hb ?_;intro hb))|refine rt ?_|refine gA rfl ?_|refine gB rfl ?_|apply cT rfl|apply cF rfl|(apply DM.gbT;rfl)|(apply DM.gbF;rfl)|intro h
   (apply DM.ixV (row := v.row) (z := (i : Int)) (by omega) (row_get Var_.row hv); (· rfl); (· rfl))
   repeat' first|(apply Sp.go;·constructor<;>first|exact ss|(change _=_;first|(simp only[go_sem,Nat.reduceBEq,Nat.reduceAdd,Nat.reduceLeDiff,reduceIte]<;>rfl)|rfl)|exact Nat.le_of_ble_eq_true rfl|decide|(repeat' first|(apply Lk.go;constructor)|assumption|exact nb ‹_› ‹_›|exact nt ‹_› ‹_›))|(intro b hb;repeat first|(refine fe hb ?_;intro _ _ hb)|(refine fT hb ?_;intro hb))|refine rt ?_|refine gA rfl ?_|refine gB rfl ?_|apply cT rfl|apply cF rfl|(apply DM.gbT;rfl)|(apply DM.gbF;rfl)|intro h
   (apply DM.pcRs (p48 v.name); (· simp only [go_sem, Nat.reduceBEq, Nat.reduceAdd] <;> rfl); (· exact AVLes.refl _))
   repeat' first|(apply Sp.go;·constructor<;>first|exact ss|(change _=_;first|(simp only[go_sem,Nat.reduceBEq,Nat.reduceAdd,Nat.reduceLeDiff,reduceIte]<;>rfl)|rfl)|exact Nat.le_of_ble_eq_true rfl|decide|(repeat' first|(apply Lk.go;constructor)|assumption|exact nb ‹_› ‹_›|exact nt ‹_› ‹_›))|(intro b hb;repeat first|(refine fe hb ?_;intro _ _ hb)|(refine fT hb ?_;intro hb))|refine rt ?_|refine gA rfl ?_|refine gB rfl ?_|apply cT rfl|apply cF rfl|(apply DM.gbT;rfl)|(apply DM.gbF;rfl)|intro h
   ·skip
    (apply DM.ixV (row := v.row) (z := (i : Int)) (by omega) (row_get Var_.row hv); (· rfl); (· rfl))
    repeat' first|(apply Sp.go;·constructor<;>first|exact ss|(change _=_;first|(simp only[go_sem,Nat.reduceBEq,Nat.reduceAdd,Nat.reduceLeDiff,reduceIte]<;>rfl)|rfl)|exact Nat.le_of_ble_eq_true rfl|decide|(repeat' first|(apply Lk.go;constructor)|assumption|exact nb ‹_› ‹_›|exact nt ‹_› ‹_›))|(intro b hb;repeat first|(refine fe hb ?_;intro _ _ hb)|(refine fT hb ?_;intro hb))|refine rt ?_|refine gA rfl ?_|refine gB rfl ?_|apply cT rfl|apply cF rfl|(apply DM.gbT;rfl)|(apply DM.gbF;rfl)|intro h
    (apply DM.ixV (row := v.row) (z := (i : Int)) (by omega) (row_get Var_.row hv); (· rfl); (· rfl))
    repeat' first|(apply Sp.go;·constructor<;>first|exact ss|(change _=_;first|(simp only[go_sem,Nat.reduceBEq,Nat.reduceAdd,Nat.reduceLeDiff,reduceIte]<;>rfl)|rfl)|exact Nat.le_of_ble_eq_true rfl|decide|(repeat' first|(apply Lk.go;constructor)|assumption|exact nb ‹_› ‹_›|exact nt ‹_› ‹_›))|(intro b hb;repeat first|(refine fe hb ?_;intro _ _ hb)|(refine fT hb ?_;intro hb))|refine rt ?_|refine gA rfl ?_|refine gB rfl ?_|apply cT rfl|apply cF rfl|(apply DM.gbT;rfl)|(apply DM.gbF;rfl)|intro h
    (apply DM.pcRs (p64 v.sort v.init); (· simp only [go_sem, Nat.reduceBEq, Nat.reduceAdd] <;> rfl); (· exact AVLes.refl _))
    repeat' first|(apply Sp.go;·constructor<;>first|exact ss|(change _=_;first|(simp only[go_sem,Nat.reduceBEq,Nat.reduceAdd,Nat.reduceLeDiff,reduceIte]<;>rfl)|rfl)|exact Nat.le_of_ble_eq_true rfl|decide|(repeat' first|(apply Lk.go;constructor)|assumption|exact nb ‹_› ‹_›|exact nt ‹_› ‹_›))|(intro b hb;repeat first|(refine fe hb ?_;intro _ _ hb)|(refine fT hb ?_;intro hb))|refine rt ?_|refine gA rfl ?_|refine gB rfl ?_|apply cT rfl|apply cF rfl|(apply DM.gbT;rfl)|(apply DM.gbF;rfl)|intro h
    (apply AM.cond; (· rfl))
    ·intro h4
     repeat' first|(apply Sp.go;·constructor<;>first|exact ss|(change _=_;first|(simp only[go_sem,Nat.reduceBEq,Nat.reduceAdd,Nat.reduceLeDiff,reduceIte]<;>rfl)|rfl)|exact Nat.le_of_ble_eq_true rfl|decide|(repeat' first|(apply Lk.go;constructor)|assumption|exact nb ‹_› ‹_›|exact nt ‹_› ‹_›))|(intro b hb;repeat first|(refine fe hb ?_;intro _ _ hb)|(refine fT hb ?_;intro hb))|refine rt ?_|refine gA rfl ?_|refine gB rfl ?_|apply cT rfl|apply cF rfl|(apply DM.gbT;rfl)|(apply DM.gbF;rfl)|intro h
     (apply Sr.go;·constructor<;>first|(apply Lk.go;constructor<;>first|exact ss|(change _=_;first|(simp only[go_sem,Nat.reduceBEq,Nat.reduceAdd,Nat.reduceLeDiff,reduceIte]<;>rfl)|rfl)|exact Nat.le_of_ble_eq_true rfl|decide|(repeat' first|(apply Lk.go;constructor)|assumption|exact nb ‹_› ‹_›|exact nt ‹_› ‹_›))|assumption)
     exact bad h3 (by rw [hok]; simp at h4; rw [h4, Bool.and_false])
    ·intro h4
     simp at h h4
     repeat' first|(apply Sp.go;·constructor<;>first|exact ss|(change _=_;first|(simp only[go_sem,Nat.reduceBEq,Nat.reduceAdd,Nat.reduceLeDiff,reduceIte]<;>rfl)|rfl)|exact Nat.le_of_ble_eq_true rfl|decide|(repeat' first|(apply Lk.go;constructor)|assumption|exact nb ‹_› ‹_›|exact nt ‹_› ‹_›))|(intro b hb;repeat first|(refine fe hb ?_;intro _ _ hb)|(refine fT hb ?_;intro hb))|refine rt ?_|refine gA rfl ?_|refine gB rfl ?_|apply cT rfl|apply cF rfl|(apply DM.gbT;rfl)|(apply DM.gbF;rfl)|intro h
     refine AM.loopX (X := Nat) 0 (fun k => [(0, .vs 7 (vs.map Var_.row)), (3, .int .i64 i), (4, .int .i64 k)]) (fun k H2 => H2 = H' ∧ k ≤ i ∧ ∀ j w, j < k → vs[j]? = some w → decide (w.name = v.name) = false) (fun k => i - k) ⟨rfl, by omega, fun j w hj => by omega⟩ ?_ ?_
     ·(repeat first | exact envle_nil _ | (refine envle_cons ?_ ?_; · (simp only [go_sem, Nat.reduceBEq, Nat.reduceAdd]; exact AVLe.refl _)))
     ·intro k H2 ⟨e, hk, hn⟩
      subst e
      repeat' first|(apply Sp.go;·constructor<;>first|exact ss|(change _=_;first|(simp only[go_sem,Nat.reduceBEq,Nat.reduceAdd,Nat.reduceLeDiff,reduceIte]<;>rfl)|rfl)|exact Nat.le_of_ble_eq_true rfl|decide|(repeat' first|(apply Lk.go;constructor)|assumption|exact nb ‹_› ‹_›|exact nt ‹_› ‹_›))|(intro b hb;repeat first|(refine fe hb ?_;intro _ _ hb)|(refine fT hb ?_;intro hb))|refine gA rfl ?_|refine gB rfl ?_|apply cT rfl|apply cF rfl|(apply DM.gbT;rfl)|(apply DM.gbF;rfl)|intro h
      (apply AM.cond; (· rfl))
      ·intro h5
       simp at h5
       obtain ⟨w, hw⟩ := some_of (show k < vs.length by omega)
       repeat' first|(apply Sp.go;·constructor<;>first|exact ss|(change _=_;first|(simp only[go_sem,Nat.reduceBEq,Nat.reduceAdd,Nat.reduceLeDiff,reduceIte]<;>rfl)|rfl)|exact Nat.le_of_ble_eq_true rfl|decide|(repeat' first|(apply Lk.go;constructor)|assumption|exact nb ‹_› ‹_›|exact nt ‹_› ‹_›))|(intro b hb;repeat first|(refine fe hb ?_;intro _ _ hb)|(refine fT hb ?_;intro hb))|refine rt ?_|refine gA rfl ?_|refine gB rfl ?_|apply cT rfl|apply cF rfl|(apply DM.gbT;rfl)|(apply DM.gbF;rfl)|intro h
       (apply DM.ixV (row := w.row) (z := (k : Int)) (by omega) (row_get Var_.row hw); (· rfl); (· rfl))
       repeat' first|(apply Sp.go;·constructor<;>first|exact ss|(change _=_;first|(simp only[go_sem,Nat.reduceBEq,Nat.reduceAdd,Nat.reduceLeDiff,reduceIte]<;>rfl)|rfl)|exact Nat.le_of_ble_eq_true rfl|decide|(repeat' first|(apply Lk.go;constructor)|assumption|exact nb ‹_› ‹_›|exact nt ‹_› ‹_›))|(intro b hb;repeat first|(refine fe hb ?_;intro _ _ hb)|(refine fT hb ?_;intro hb))|refine rt ?_|refine gA rfl ?_|refine gB rfl ?_|apply cT rfl|apply cF rfl|(apply DM.gbT;rfl)|(apply DM.gbF;rfl)|intro h
       (apply DM.ixV (row := v.row) (z := (i : Int)) (by omega) (row_get Var_.row hv); (· rfl); (· rfl))
       repeat' first|(apply Sp.go;·constructor<;>first|exact ss|(change _=_;first|(simp only[go_sem,Nat.reduceBEq,Nat.reduceAdd,Nat.reduceLeDiff,reduceIte]<;>rfl)|rfl)|exact Nat.le_of_ble_eq_true rfl|decide|(repeat' first|(apply Lk.go;constructor)|assumption|exact nb ‹_› ‹_›|exact nt ‹_› ‹_›))|(intro b hb;repeat first|(refine fe hb ?_;intro _ _ hb)|(refine fT hb ?_;intro hb))|refine rt ?_|refine gA rfl ?_|refine gB rfl ?_|apply cT rfl|apply cF rfl|(apply DM.gbT;rfl)|(apply DM.gbF;rfl)|intro h
       (apply AM.cond; (· rfl))
       ·intro h6
        repeat' first|(apply Sp.go;·constructor<;>first|exact ss|(change _=_;first|(simp only[go_sem,Nat.reduceBEq,Nat.reduceAdd,Nat.reduceLeDiff,reduceIte]<;>rfl)|rfl)|exact Nat.le_of_ble_eq_true rfl|decide|(repeat' first|(apply Lk.go;constructor)|assumption|exact nb ‹_› ‹_›|exact nt ‹_› ‹_›))|(intro b hb;repeat first|(refine fe hb ?_;intro _ _ hb)|(refine fT hb ?_;intro hb))|refine rt ?_|refine gA rfl ?_|refine gB rfl ?_|apply cT rfl|apply cF rfl|(apply DM.gbT;rfl)|(apply DM.gbF;rfl)|intro h
        (apply Sr.go;·constructor<;>first|(apply Lk.go;constructor<;>first|exact ss|(change _=_;first|(simp only[go_sem,Nat.reduceBEq,Nat.reduceAdd,Nat.reduceLeDiff,reduceIte]<;>rfl)|rfl)|exact Nat.le_of_ble_eq_true rfl|decide|(repeat' first|(apply Lk.go;constructor)|assumption|exact nb ‹_› ‹_›|exact nt ‹_› ‹_›))|assumption)
        refine bad h3 ?_
        have := idx_lt (q := fun w : Var_ => decide (w.name = v.name)) 0 (by omega) hw h6
        rw [hok, decide_eq_false (by omega), Bool.and_false, Bool.false_and]
       ·intro h6
        repeat' first|(apply Sp.go;·constructor<;>first|exact ss|(change _=_;first|(simp only[go_sem,Nat.reduceBEq,Nat.reduceAdd,Nat.reduceLeDiff,reduceIte]<;>rfl)|rfl)|exact Nat.le_of_ble_eq_true rfl|decide|(repeat' first|(apply Lk.go;constructor)|assumption|exact nb ‹_› ‹_›|exact nt ‹_› ‹_›))|(intro b hb;repeat first|(refine fe hb ?_;intro _ _ hb)|(refine fT hb ?_;intro hb))|refine rt ?_|refine gA rfl ?_|refine gB rfl ?_|apply cT rfl|apply cF rfl|(apply DM.gbT;rfl)|(apply DM.gbF;rfl)|intro h
        refine AM.roundX (k + 1) ⟨rfl, by omega, fun j u hj hu => ?_⟩ ?_ ?_
        ·by_cases e : j = k
         ·subst e
          rw [hw] at hu
          cases hu
          exact h6
         ·exact hn j u (by omega) hu
        ·(repeat first | exact envle_nil _ | (refine envle_cons ?_ ?_; · (simp only [go_sem, Nat.reduceBEq, Nat.reduceAdd]; exact AVLe.refl _)))
         refine envle_cons ?_ ?_
         ·simp only [go_sem, Nat.reduceBEq, Nat.reduceAdd]
          refine avle_int ?_
          rw [inc64 h5 (by omega)]
         exact envle_nil _
        ·show i - (k + 1) < i - k
         omega
      ·intro h5
       simp at h5
       have : k = i := by omega
       subst this
       repeat' first|(apply Sp.go;·constructor<;>first|exact ss|(change _=_;first|(simp only[go_sem,Nat.reduceBEq,Nat.reduceAdd,Nat.reduceLeDiff,reduceIte]<;>rfl)|rfl)|exact Nat.le_of_ble_eq_true rfl|decide|(repeat' first|(apply Lk.go;constructor)|assumption|exact nb ‹_› ‹_›|exact nt ‹_› ‹_›))|(intro b hb;repeat first|(refine fe hb ?_;intro _ _ hb)|(refine fT hb ?_;intro hb))|refine rt ?_|refine gA rfl ?_|refine gB rfl ?_|apply cT rfl|apply cF rfl|(apply DM.gbT;rfl)|(apply DM.gbF;rfl)|intro h
       have hidx := idx_at (q := fun w : Var_ => decide (w.name = v.name)) 0 (by omega) hv (by simp) hn
       refine AM.roundX (k + 1) ⟨rfl, by omega, fun j hj => ?_⟩ ?_ ?_
       ·by_cases e : j = k
        ·subst e
         rw [hok, h, h4, decide_eq_true (by omega)]
         rfl
        ·exact he j (by omega)
       ·(repeat first | exact envle_nil _ | (refine envle_cons ?_ ?_; · (simp only [go_sem, Nat.reduceBEq, Nat.reduceAdd]; exact AVLe.refl _)))
        refine envle_cons ?_ ?_
        ·simp only [go_sem, Nat.reduceBEq, Nat.reduceAdd]
         refine avle_int ?_
         rw [inc64 h3 hlen]
        exact envle_nil _
       ·show vs.length - (k + 1) < vs.length - k
        omega
   ·(apply Sr.go;·constructor<;>first|(apply Lk.go;constructor<;>first|exact ss|(change _=_;first|(simp only[go_sem,Nat.reduceBEq,Nat.reduceAdd,Nat.reduceLeDiff,reduceIte]<;>rfl)|rfl)|exact Nat.le_of_ble_eq_true rfl|decide|(repeat' first|(apply Lk.go;constructor)|assumption|exact nb ‹_› ‹_›|exact nt ‹_› ‹_›))|assumption)
    exact bad h3 (by rw [hok]; simp at h; rw [h, Bool.false_and, Bool.false_and])
  ·intro h3
   simp at h3
   repeat' first|(apply Sp.go;·constructor<;>first|exact ss|(change _=_;first|(simp only[go_sem,Nat.reduceBEq,Nat.reduceAdd,Nat.reduceLeDiff,reduceIte]<;>rfl)|rfl)|exact Nat.le_of_ble_eq_true rfl|decide|(repeat' first|(apply Lk.go;constructor)|assumption|exact nb ‹_› ‹_›|exact nt ‹_› ‹_›))|(intro b hb;repeat first|(refine fe hb ?_;intro _ _ hb)|(refine fT hb ?_;intro hb))|refine rt ?_|refine gA rfl ?_|refine gB rfl ?_|apply cT rfl|apply cF rfl|(apply DM.gbT;rfl)|(apply DM.gbF;rfl)|intro h
   (apply Sr.go;·constructor<;>first|(apply Lk.go;constructor<;>first|exact ss|(change _=_;first|(simp only[go_sem,Nat.reduceBEq,Nat.reduceAdd,Nat.reduceLeDiff,reduceIte]<;>rfl)|rfl)|exact Nat.le_of_ble_eq_true rfl|decide|(repeat' first|(apply Lk.go;constructor)|assumption|exact nb ‹_› ‹_›|exact nt ‹_› ‹_›))|assumption)
   refine avle_eq ?_
   rw [AV.bool.injEq, varsOk, allI_true fun j hj => he j (by omega), Bool.true_and, Bool.eq_iff_iff]
   simp
   omega
end Go.Aw.T.R
namespace Go.Aw.T.R
open Go Go.Aw Go.Aw.T Go.Proofs Go.RowKit
set_option maxRecDepth 100000
attribute [local irreducible] Go.Aw.DM Go.Aw.AHeap.setB Go.Aw.AHeap.setT
attribute [local go_sem] peval EOpd.ev Env.get binInt binStr binBool buildParts AV.cells AV.okc setRange minmaxAV AV.one AV.ofCells eqCells eqCell bslRows cond_true cond_false beq_self_eq_true Bool.not_true Bool.not_false beq_true beq_false eq_self if_true Option.some.injEq List.length_cons List.length_nil List.take_succ_cons List.take_zero List.drop_succ_cons List.drop_zero List.set_cons_succ List.set_cons_zero List.nil_append List.cons_append List.append_nil and_self Option.map_some List.map_cons List.map_nil Bool.false_eq_true if_false Nat.zero_add Nat.add_zero true_and and_true Bool.and_true Bool.true_and List.getElem?_cons_zero List.getElem?_cons_succ Nat.zero_le Nat.le_refl
set_option linter.unusedSimpArgs false
set_option linter.unusedVariables false
set_option maxHeartbeats 4000000 in
theorem p22 (p : Prog) : Pure Try.prog 22 [p.av] (.bool (validP p)) := by
  refine ok_args fun ok => ?_
  have bad : validP p = false → AVLe (.bool false) (.bool (validP p)) := by
    intro h
    rw [h]
    exact AVLe.refl _
  refine pure_intro mo Try.func22 c22 fun H => ?_
  unfold e22 r22
  simp only [initEnv, initFrom]
  repeat' first|(apply Sp.go;·constructor<;>first|exact ss|(change _=_;first|(simp only[go_sem,Nat.reduceBEq,Nat.reduceAdd,Nat.reduceLeDiff,reduceIte]<;>rfl)|rfl)|exact Nat.le_of_ble_eq_true rfl|decide|(repeat' first|(apply Lk.go;constructor)|assumption|exact nb ‹_› ‹_›|exact nt ‹_› ‹_›))|(intro b hb;repeat first|(refine fe hb ?_;intro _ _ hb)|(refine fT hb ?_;intro hb))|refine rt ?_|refine gA rfl ?_|refine gB rfl ?_|apply cT rfl|apply cF rfl|(apply DM.gbT;rfl)|(apply DM.gbF;rfl)|intro h
  rename Nat => b1
  (apply DM.pcs (p48 p.name); (· simp only [go_sem, Nat.reduceBEq, Nat.reduceAdd] <;> rfl); (· exact AVLes.refl _))
  repeat' first|(apply Sp.go;·constructor<;>first|exact ss|(change _=_;first|(simp only[go_sem,Nat.reduceBEq,Nat.reduceAdd,Nat.reduceLeDiff,reduceIte]<;>rfl)|rfl)|exact Nat.le_of_ble_eq_true rfl|decide|(repeat' first|(apply Lk.go;constructor)|assumption|exact nb ‹_› ‹_›|exact nt ‹_› ‹_›))|(intro b hb;repeat first|(refine fe hb ?_;intro _ _ hb)|(refine fT hb ?_;intro hb))|refine rt ?_|refine gA rfl ?_|refine gB rfl ?_|apply cT rfl|apply cF rfl|(apply DM.gbT;rfl)|(apply DM.gbF;rfl)|intro h
  all_goals try (
    skip
    (apply DM.pcs (p49 p.vars); (· simp only [go_sem, Nat.reduceBEq, Nat.reduceAdd] <;> rfl); (· exact AVLes.refl _))
    repeat' first|(apply Sp.go;·constructor<;>first|exact ss|(change _=_;first|(simp only[go_sem,Nat.reduceBEq,Nat.reduceAdd,Nat.reduceLeDiff,reduceIte]<;>rfl)|rfl)|exact Nat.le_of_ble_eq_true rfl|decide|(repeat' first|(apply Lk.go;constructor)|assumption|exact nb ‹_› ‹_›|exact nt ‹_› ‹_›))|(intro b hb;repeat first|(refine fe hb ?_;intro _ _ hb)|(refine fT hb ?_;intro hb))|refine rt ?_|refine gA rfl ?_|refine gB rfl ?_|apply cT rfl|apply cF rfl|(apply DM.gbT;rfl)|(apply DM.gbF;rfl)|(apply AM.condS;rfl)|intro h
    )
  all_goals try (
    skip
    (apply Sr.go;·constructor<;>first|(apply Lk.go;constructor<;>first|exact ss|(change _=_;first|(simp only[go_sem,Nat.reduceBEq,Nat.reduceAdd,Nat.reduceLeDiff,reduceIte]<;>rfl)|rfl)|exact Nat.le_of_ble_eq_true rfl|decide|(repeat' first|(apply Lk.go;constructor)|assumption|exact nb ‹_› ‹_›|exact nt ‹_› ‹_›))|assumption)
    refine bad (Bool.eq_false_iff.2 fun hv => ?_)
    simp only [validP, partsOk, inB, Bool.and_eq_true, decide_eq_true_eq] at hv
    simp at *
    first | omega | (simp_all; done)
    )
  rename_i g1 g2 g3 g4 g5 g6 g7
  have g8 := h
  clear h
  have hn1 : isName p.name = true := by simpa using g1
  have hv1 : varsOk p.vars = true := by simpa using g4
  simp only [List.length_map, decide_eq_false_iff_not] at g2 g3 g5 g6 g7 g8
  have hr1 : inB p.role 0 5 = true := by simp only [inB, Bool.and_eq_true, decide_eq_true_eq]; omega
  have hc1 : inB p.code.length 1 1000 = true := by simp only [inB, Bool.and_eq_true, decide_eq_true_eq]; omega
  have hh1 : decide (p.hs.length ≤ 40) = true := decide_eq_true (by omega)
  have ho1 : decide (p.os.length ≤ 40) = true := decide_eq_true (by omega)
  have hval : validP p = (allI p.hs.length (okHd p) && allI p.os.length (okOf p) && allI p.code.length (okIx p)) := by
    rw [validP, partsOk, hn1, hv1, hr1, hc1, hh1, ho1]
    simp
  clear g1 g4 bad
  have badH : ∀ {i}, i < p.hs.length → okHd p i = false → AVLe (.bool false) (.bool (validP p)) := by
    intro i hi h
    refine avle_eq ?_
    rw [AV.bool.injEq, hval, allI_false hi h, Bool.false_and, Bool.false_and]
  have badO : ∀ {i}, i < p.os.length → okOf p i = false → AVLe (.bool false) (.bool (validP p)) := by
    intro i hi h
    refine avle_eq ?_
    rw [AV.bool.injEq, hval, allI_false hi h, Bool.and_false, Bool.false_and]
  have badI : ∀ {i}, i < p.code.length → okIx p i = false → AVLe (.bool false) (.bool (validP p)) := by
    intro i hi h
    refine avle_eq ?_
    rw [AV.bool.injEq, hval, allI_false hi h, Bool.and_false]
  refine AM.loopX (X := Nat) 0 (fun i => [(1, .ptr b1 0), (3, .int .i64 p.code.length), (4, .int .i64 i)]) (fun i H' => H' = H.setB b1 27 p.cells ∧ i ≤ p.hs.length ∧ ∀ j, j < i → okHd p j = true) (fun i => p.hs.length - i) ⟨rfl, by omega, fun j hj => by omega⟩ ?_ ?_
  · (repeat first | exact envle_nil _ | (refine envle_cons ?_ ?_; · (simp only [go_sem, Nat.reduceBEq, Nat.reduceAdd]; exact AVLe.refl _)))
    refine envle_cons ?_ ?_
    · simp only [Env.get, Nat.reduceBEq, cond_true, cond_false, beq_self_eq_true]
      exact avle_int (by simp)
    (repeat first | exact envle_nil _ | (refine envle_cons ?_ ?_; · (simp only [go_sem, Nat.reduceBEq, Nat.reduceAdd]; exact AVLe.refl _)))
  · intro i H' ⟨e, hi, he⟩
    subst e
    repeat' first|(apply Sp.go;·constructor<;>first|exact ss|(change _=_;first|(simp only[go_sem,Nat.reduceBEq,Nat.reduceAdd,Nat.reduceLeDiff,reduceIte]<;>rfl)|rfl)|exact Nat.le_of_ble_eq_true rfl|decide|(repeat' first|(apply Lk.go;constructor)|assumption|exact nb ‹_› ‹_›|exact nt ‹_› ‹_›))|(intro b hb;repeat first|(refine fe hb ?_;intro _ _ hb)|(refine fT hb ?_;intro hb))|refine rt ?_|refine gA rfl ?_|refine gB rfl ?_|apply cT rfl|apply cF rfl|(apply DM.gbT;rfl)|(apply DM.gbF;rfl)|intro h
    (apply AM.cond; (· rfl))
    · intro h3
      simp at h3
      obtain ⟨v, hv⟩ := some_of h3
      have hok : okHd p i = (p.party v.peer v.label && p.target v.entry && decide (idxP (fun w : Hd => decide (w.peer = v.peer) && decide (w.label = v.label)) p.hs 0 = (i : Int))) := by simp [okHd, hv]
      repeat' first|(apply Sp.go;·constructor<;>first|exact ss|(change _=_;first|(simp only[go_sem,Nat.reduceBEq,Nat.reduceAdd,Nat.reduceLeDiff,reduceIte]<;>rfl)|rfl)|exact Nat.le_of_ble_eq_true rfl|decide|(repeat' first|(apply Lk.go;constructor)|assumption|exact nb ‹_› ‹_›|exact nt ‹_› ‹_›))|(intro b hb;repeat first|(refine fe hb ?_;intro _ _ hb)|(refine fT hb ?_;intro hb))|refine rt ?_|refine gA rfl ?_|refine gB rfl ?_|apply cT rfl|apply cF rfl|(apply DM.gbT;rfl)|(apply DM.gbF;rfl)|intro h
      (apply DM.ixV (row := v.row) (z := (i : Int)) (by omega) (row_get Hd.row hv); (· rfl); (· rfl))
      repeat' first|(apply Sp.go;·constructor<;>first|exact ss|(change _=_;first|(simp only[go_sem,Nat.reduceBEq,Nat.reduceAdd,Nat.reduceLeDiff,reduceIte]<;>rfl)|rfl)|exact Nat.le_of_ble_eq_true rfl|decide|(repeat' first|(apply Lk.go;constructor)|assumption|exact nb ‹_› ‹_›|exact nt ‹_› ‹_›))|(intro b hb;repeat first|(refine fe hb ?_;intro _ _ hb)|(refine fT hb ?_;intro hb))|refine rt ?_|refine gA rfl ?_|refine gB rfl ?_|apply cT rfl|apply cF rfl|(apply DM.gbT;rfl)|(apply DM.gbF;rfl)|intro h
      (apply DM.pcs (p50 v.peer v.label p.role); (· simp only [go_sem, Nat.reduceBEq, Nat.reduceAdd] <;> rfl); (· exact AVLes.refl _))
      repeat' first|(apply Sp.go;·constructor<;>first|exact ss|(change _=_;first|(simp only[go_sem,Nat.reduceBEq,Nat.reduceAdd,Nat.reduceLeDiff,reduceIte]<;>rfl)|rfl)|exact Nat.le_of_ble_eq_true rfl|decide|(repeat' first|(apply Lk.go;constructor)|assumption|exact nb ‹_› ‹_›|exact nt ‹_› ‹_›))|(intro b hb;repeat first|(refine fe hb ?_;intro _ _ hb)|(refine fT hb ?_;intro hb))|refine rt ?_|refine gA rfl ?_|refine gB rfl ?_|apply cT rfl|apply cF rfl|(apply DM.gbT;rfl)|(apply DM.gbF;rfl)|(apply AM.condS;rfl)|intro h
      all_goals try (
        skip
        (apply Sr.go;·constructor<;>first|(apply Lk.go;constructor<;>first|exact ss|(change _=_;first|(simp only[go_sem,Nat.reduceBEq,Nat.reduceAdd,Nat.reduceLeDiff,reduceIte]<;>rfl)|rfl)|exact Nat.le_of_ble_eq_true rfl|decide|(repeat' first|(apply Lk.go;constructor)|assumption|exact nb ‹_› ‹_›|exact nt ‹_› ‹_›))|assumption)
        refine badH h3 ?_
        rw [hok, Bool.eq_false_iff]
        intro hq
        simp only [Prog.party, Prog.target, inB, Bool.and_eq_true, decide_eq_true_eq] at hq
        first | (simp only [decide_eq_true_eq] at h; omega) | (simp only [inB, Bool.not_eq_true', Bool.and_eq_false_iff, decide_eq_false_iff_not] at h; omega)
        )
      rename_i f1 f2
      have hpt : p.party v.peer v.label = true := by simpa [Prog.party] using f1
      have htg : p.target v.entry = true := by
        simp only [decide_eq_false_iff_not] at f2 h
        simp only [Prog.target, inB, Bool.and_eq_true, decide_eq_true_eq]
        omega
      clear f1 f2 h
      refine AM.loopX (X := Nat) 0 (fun k => [(1, .ptr b1 0), (3, .int .i64 p.code.length), (4, .int .i64 i), (5, .ptr b 0), (6, .int .i64 k)]) (fun k H' => H' = (H.setB b1 27 p.cells).setB b 129 v.row ∧ k ≤ i ∧ ∀ j w, j < k → p.hs[j]? = some w → (decide (w.peer = v.peer) && decide (w.label = v.label)) = false) (fun k => i - k) ⟨rfl, by omega, fun j w hj => by omega⟩ ?_ ?_
      · (repeat first | exact envle_nil _ | (refine envle_cons ?_ ?_; · (simp only [go_sem, Nat.reduceBEq, Nat.reduceAdd]; exact AVLe.refl _)))
      · intro k H' ⟨e, hk, hn⟩
        subst e
        repeat' first|(apply Sp.go;·constructor<;>first|exact ss|(change _=_;first|(simp only[go_sem,Nat.reduceBEq,Nat.reduceAdd,Nat.reduceLeDiff,reduceIte]<;>rfl)|rfl)|exact Nat.le_of_ble_eq_true rfl|decide|(repeat' first|(apply Lk.go;constructor)|assumption|exact nb ‹_› ‹_›|exact nt ‹_› ‹_›))|(intro b hb;repeat first|(refine fe hb ?_;intro _ _ hb)|(refine fT hb ?_;intro hb))|refine rt ?_|refine gA rfl ?_|refine gB rfl ?_|apply cT rfl|apply cF rfl|(apply DM.gbT;rfl)|(apply DM.gbF;rfl)|intro h
        (apply AM.cond; (· rfl))
        · intro h5
          simp at h5
          obtain ⟨w, hw⟩ := some_of (show k < p.hs.length by omega)
          repeat' first|(apply Sp.go;·constructor<;>first|exact ss|(change _=_;first|(simp only[go_sem,Nat.reduceBEq,Nat.reduceAdd,Nat.reduceLeDiff,reduceIte]<;>rfl)|rfl)|exact Nat.le_of_ble_eq_true rfl|decide|(repeat' first|(apply Lk.go;constructor)|assumption|exact nb ‹_› ‹_›|exact nt ‹_› ‹_›))|(intro b hb;repeat first|(refine fe hb ?_;intro _ _ hb)|(refine fT hb ?_;intro hb))|refine rt ?_|refine gA rfl ?_|refine gB rfl ?_|apply cT rfl|apply cF rfl|(apply DM.gbT;rfl)|(apply DM.gbF;rfl)|intro h
          (apply DM.ixV (row := w.row) (z := (k : Int)) (by omega) (row_get Hd.row hw); (· rfl); (· rfl))
          repeat' first|(apply Sp.go;·constructor<;>first|exact ss|(change _=_;first|(simp only[go_sem,Nat.reduceBEq,Nat.reduceAdd,Nat.reduceLeDiff,reduceIte]<;>rfl)|rfl)|exact Nat.le_of_ble_eq_true rfl|decide|(repeat' first|(apply Lk.go;constructor)|assumption|exact nb ‹_› ‹_›|exact nt ‹_› ‹_›))|(intro b hb;repeat first|(refine fe hb ?_;intro _ _ hb)|(refine fT hb ?_;intro hb))|refine rt ?_|refine gA rfl ?_|refine gB rfl ?_|apply cT rfl|apply cF rfl|(apply DM.gbT;rfl)|(apply DM.gbF;rfl)|intro h
          · skip
            (apply DM.ixV (row := w.row) (z := (k : Int)) (by omega) (row_get Hd.row hw); (· rfl); (· rfl))
            repeat' first|(apply Sp.go;·constructor<;>first|exact ss|(change _=_;first|(simp only[go_sem,Nat.reduceBEq,Nat.reduceAdd,Nat.reduceLeDiff,reduceIte]<;>rfl)|rfl)|exact Nat.le_of_ble_eq_true rfl|decide|(repeat' first|(apply Lk.go;constructor)|assumption|exact nb ‹_› ‹_›|exact nt ‹_› ‹_›))|(intro b hb;repeat first|(refine fe hb ?_;intro _ _ hb)|(refine fT hb ?_;intro hb))|refine rt ?_|refine gA rfl ?_|refine gB rfl ?_|apply cT rfl|apply cF rfl|(apply DM.gbT;rfl)|(apply DM.gbF;rfl)|intro h
            (apply AM.cond; (· rfl))
            · intro h6
              repeat' first|(apply Sp.go;·constructor<;>first|exact ss|(change _=_;first|(simp only[go_sem,Nat.reduceBEq,Nat.reduceAdd,Nat.reduceLeDiff,reduceIte]<;>rfl)|rfl)|exact Nat.le_of_ble_eq_true rfl|decide|(repeat' first|(apply Lk.go;constructor)|assumption|exact nb ‹_› ‹_›|exact nt ‹_› ‹_›))|(intro b hb;repeat first|(refine fe hb ?_;intro _ _ hb)|(refine fT hb ?_;intro hb))|refine rt ?_|refine gA rfl ?_|refine gB rfl ?_|apply cT rfl|apply cF rfl|(apply DM.gbT;rfl)|(apply DM.gbF;rfl)|intro h
              (apply Sr.go;·constructor<;>first|(apply Lk.go;constructor<;>first|exact ss|(change _=_;first|(simp only[go_sem,Nat.reduceBEq,Nat.reduceAdd,Nat.reduceLeDiff,reduceIte]<;>rfl)|rfl)|exact Nat.le_of_ble_eq_true rfl|decide|(repeat' first|(apply Lk.go;constructor)|assumption|exact nb ‹_› ‹_›|exact nt ‹_› ‹_›))|assumption)
              refine badH h3 ?_
              have := idx_lt (q := fun w : Hd => decide (w.peer = v.peer) && decide (w.label = v.label)) 0 (by omega) hw (by simp only [h, h6]; rfl)
              rw [hok, decide_eq_false (by omega), Bool.and_false]
            · intro h6
              repeat' first|(apply Sp.go;·constructor<;>first|exact ss|(change _=_;first|(simp only[go_sem,Nat.reduceBEq,Nat.reduceAdd,Nat.reduceLeDiff,reduceIte]<;>rfl)|rfl)|exact Nat.le_of_ble_eq_true rfl|decide|(repeat' first|(apply Lk.go;constructor)|assumption|exact nb ‹_› ‹_›|exact nt ‹_› ‹_›))|(intro b hb;repeat first|(refine fe hb ?_;intro _ _ hb)|(refine fT hb ?_;intro hb))|refine rt ?_|refine gA rfl ?_|refine gB rfl ?_|apply cT rfl|apply cF rfl|(apply DM.gbT;rfl)|(apply DM.gbF;rfl)|intro h
              refine AM.roundX (k + 1) ⟨rfl, by omega, fun j u hj hu => ?_⟩ ?_ ?_
              · by_cases e : j = k
                · subst e
                  rw [hw] at hu
                  cases hu
                  rw [h6, Bool.and_false]
                · exact hn j u (by omega) hu
              · (repeat first | exact envle_nil _ | (refine envle_cons ?_ ?_; · (simp only [go_sem, Nat.reduceBEq, Nat.reduceAdd]; exact AVLe.refl _)))
                refine envle_cons ?_ ?_
                · simp only [go_sem, Nat.reduceBEq, Nat.reduceAdd]
                  refine avle_int ?_
                  rw [inc64 h5 (by have := ok.hs; omega)]
                exact envle_nil _
              · show i - (k + 1) < i - k
                omega
          · refine AM.roundX (k + 1) ⟨rfl, by omega, fun j u hj hu => ?_⟩ ?_ ?_
            · by_cases e : j = k
              · subst e
                rw [hw] at hu
                cases hu
                rw [h, Bool.false_and]
              · exact hn j u (by omega) hu
            · (repeat first | exact envle_nil _ | (refine envle_cons ?_ ?_; · (simp only [go_sem, Nat.reduceBEq, Nat.reduceAdd]; exact AVLe.refl _)))
              refine envle_cons ?_ ?_
              · simp only [go_sem, Nat.reduceBEq, Nat.reduceAdd]
                refine avle_int ?_
                rw [inc64 h5 (by have := ok.hs; omega)]
              exact envle_nil _
            · show i - (k + 1) < i - k
              omega
        · intro h5
          simp at h5
          have : k = i := by omega
          subst this
          have hidx := idx_at (q := fun w : Hd => decide (w.peer = v.peer) && decide (w.label = v.label)) 0 (by omega) hv (by simp) hn
          repeat' first|(apply Sp.go;·constructor<;>first|exact ss|(change _=_;first|(simp only[go_sem,Nat.reduceBEq,Nat.reduceAdd,Nat.reduceLeDiff,reduceIte]<;>rfl)|rfl)|exact Nat.le_of_ble_eq_true rfl|decide|(repeat' first|(apply Lk.go;constructor)|assumption|exact nb ‹_› ‹_›|exact nt ‹_› ‹_›))|(intro b hb;repeat first|(refine fe hb ?_;intro _ _ hb)|(refine fT hb ?_;intro hb))|refine rt ?_|refine gA rfl ?_|refine gB rfl ?_|apply cT rfl|apply cF rfl|(apply DM.gbT;rfl)|(apply DM.gbF;rfl)|intro h
          refine AM.forget (H.setB b1 27 p.cells) ?_ ?_
          · (repeat' first|assumption|(apply Lk.go;constructor))
          refine AM.roundX (k + 1) ⟨rfl, by omega, fun j hj => ?_⟩ ?_ ?_
          · by_cases e : j = k
            · subst e
              rw [hok, hpt, htg, decide_eq_true (by omega)]
              rfl
            · exact he j (by omega)
          · (repeat first | exact envle_nil _ | (refine envle_cons ?_ ?_; · (simp only [go_sem, Nat.reduceBEq, Nat.reduceAdd]; exact AVLe.refl _)))
            refine envle_cons ?_ ?_
            · simp only [go_sem, Nat.reduceBEq, Nat.reduceAdd]
              refine avle_int ?_
              rw [inc64 h3 ok.hs]
            exact envle_nil _
          · show p.hs.length - (k + 1) < p.hs.length - k
            omega
    · intro h3
      simp at h3
      have hall : allI p.hs.length (okHd p) = true := allI_true fun j hj => he j (by omega)
      rw [hall, Bool.true_and] at hval
      repeat' first|(apply Sp.go;·constructor<;>first|exact ss|(change _=_;first|(simp only[go_sem,Nat.reduceBEq,Nat.reduceAdd,Nat.reduceLeDiff,reduceIte]<;>rfl)|rfl)|exact Nat.le_of_ble_eq_true rfl|decide|(repeat' first|(apply Lk.go;constructor)|assumption|exact nb ‹_› ‹_›|exact nt ‹_› ‹_›))|(intro b hb;repeat first|(refine fe hb ?_;intro _ _ hb)|(refine fT hb ?_;intro hb))|refine rt ?_|refine gA rfl ?_|refine gB rfl ?_|apply cT rfl|apply cF rfl|(apply DM.gbT;rfl)|(apply DM.gbF;rfl)|intro h
      refine AM.loopX (X := Nat) 0 (fun i => [(1, .ptr b1 0), (3, .int .i64 p.code.length), (7, .int .i64 i)]) (fun i H' => H' = H.setB b1 27 p.cells ∧ i ≤ p.os.length ∧ ∀ j, j < i → okOf p j = true) (fun i => p.os.length - i) ⟨rfl, by omega, fun j hj => by omega⟩ ?_ ?_
      · (repeat first | exact envle_nil _ | (refine envle_cons ?_ ?_; · (simp only [go_sem, Nat.reduceBEq, Nat.reduceAdd]; exact AVLe.refl _)))
      · intro i H' ⟨e, hi, he⟩
        subst e
        repeat' first|(apply Sp.go;·constructor<;>first|exact ss|(change _=_;first|(simp only[go_sem,Nat.reduceBEq,Nat.reduceAdd,Nat.reduceLeDiff,reduceIte]<;>rfl)|rfl)|exact Nat.le_of_ble_eq_true rfl|decide|(repeat' first|(apply Lk.go;constructor)|assumption|exact nb ‹_› ‹_›|exact nt ‹_› ‹_›))|(intro b hb;repeat first|(refine fe hb ?_;intro _ _ hb)|(refine fT hb ?_;intro hb))|refine rt ?_|refine gA rfl ?_|refine gB rfl ?_|apply cT rfl|apply cF rfl|(apply DM.gbT;rfl)|(apply DM.gbF;rfl)|intro h
        (apply AM.cond; (· rfl))
        · intro h3
          simp at h3
          obtain ⟨v, hv⟩ := some_of h3
          have hok : okOf p i = (p.party v.peer v.label && p.target v.args && (decide (v.cond = -1) || p.target v.cond)) := by simp [okOf, hv]
          repeat' first|(apply Sp.go;·constructor<;>first|exact ss|(change _=_;first|(simp only[go_sem,Nat.reduceBEq,Nat.reduceAdd,Nat.reduceLeDiff,reduceIte]<;>rfl)|rfl)|exact Nat.le_of_ble_eq_true rfl|decide|(repeat' first|(apply Lk.go;constructor)|assumption|exact nb ‹_› ‹_›|exact nt ‹_› ‹_›))|(intro b hb;repeat first|(refine fe hb ?_;intro _ _ hb)|(refine fT hb ?_;intro hb))|refine rt ?_|refine gA rfl ?_|refine gB rfl ?_|apply cT rfl|apply cF rfl|(apply DM.gbT;rfl)|(apply DM.gbF;rfl)|intro h
          (apply DM.ixV (row := v.row) (z := (i : Int)) (by omega) (row_get Of_.row hv); (· rfl); (· rfl))
          repeat' first|(apply Sp.go;·constructor<;>first|exact ss|(change _=_;first|(simp only[go_sem,Nat.reduceBEq,Nat.reduceAdd,Nat.reduceLeDiff,reduceIte]<;>rfl)|rfl)|exact Nat.le_of_ble_eq_true rfl|decide|(repeat' first|(apply Lk.go;constructor)|assumption|exact nb ‹_› ‹_›|exact nt ‹_› ‹_›))|(intro b hb;repeat first|(refine fe hb ?_;intro _ _ hb)|(refine fT hb ?_;intro hb))|refine rt ?_|refine gA rfl ?_|refine gB rfl ?_|apply cT rfl|apply cF rfl|(apply DM.gbT;rfl)|(apply DM.gbF;rfl)|intro h
          (apply DM.pcs (p50 v.peer v.label p.role); (· simp only [go_sem, Nat.reduceBEq, Nat.reduceAdd] <;> rfl); (· exact AVLes.refl _))
          repeat' first|(apply Sp.go;·constructor<;>first|exact ss|(change _=_;first|(simp only[go_sem,Nat.reduceBEq,Nat.reduceAdd,Nat.reduceLeDiff,reduceIte]<;>rfl)|rfl)|exact Nat.le_of_ble_eq_true rfl|decide|(repeat' first|(apply Lk.go;constructor)|assumption|exact nb ‹_› ‹_›|exact nt ‹_› ‹_›))|(intro b hb;repeat first|(refine fe hb ?_;intro _ _ hb)|(refine fT hb ?_;intro hb))|refine rt ?_|refine gA rfl ?_|refine gB rfl ?_|apply cT rfl|apply cF rfl|(apply DM.gbT;rfl)|(apply DM.gbF;rfl)|(apply AM.condS;rfl)|intro h
          all_goals try (
            skip
            (apply Sr.go;·constructor<;>first|(apply Lk.go;constructor<;>first|exact ss|(change _=_;first|(simp only[go_sem,Nat.reduceBEq,Nat.reduceAdd,Nat.reduceLeDiff,reduceIte]<;>rfl)|rfl)|exact Nat.le_of_ble_eq_true rfl|decide|(repeat' first|(apply Lk.go;constructor)|assumption|exact nb ‹_› ‹_›|exact nt ‹_› ‹_›))|assumption)
            refine badO h3 ?_
            rw [hok, Bool.eq_false_iff]
            intro hq
            simp only [Prog.party, Prog.target, inB, Bool.and_eq_true, Bool.or_eq_true, decide_eq_true_eq] at hq
            first | (simp only [decide_eq_true_eq] at h; omega) | (simp only [inB, Bool.not_eq_true', Bool.and_eq_false_iff, decide_eq_false_iff_not] at h; omega)
            )
          rename_i f1 f2 f3 f4
          have hokt : okOf p i = true := by
            have hpt : p.party v.peer v.label = true := by simpa [Prog.party] using f1
            simp only [decide_eq_false_iff_not] at f2 f3 f4 h
            have htg : p.target v.args = true := by
              simp only [Prog.target, inB, Bool.and_eq_true, decide_eq_true_eq]
              omega
            rw [hok, hpt, htg]
            simp only [Bool.true_and, Bool.or_eq_true, Prog.target, inB, Bool.and_eq_true, decide_eq_true_eq]
            omega
          refine AM.forget (H.setB b1 27 p.cells) ?_ ?_
          · (repeat' first|assumption|(apply Lk.go;constructor))
          refine AM.roundX (i + 1) ⟨rfl, by omega, fun j hj => ?_⟩ ?_ ?_
          · by_cases e : j = i
            · subst e
              exact hokt
            · exact he j (by omega)
          · (repeat first | exact envle_nil _ | (refine envle_cons ?_ ?_; · (simp only [go_sem, Nat.reduceBEq, Nat.reduceAdd]; exact AVLe.refl _)))
            refine envle_cons ?_ ?_
            · simp only [go_sem, Nat.reduceBEq, Nat.reduceAdd]
              refine avle_int ?_
              rw [inc64 h3 ok.os]
            exact envle_nil _
          · show p.os.length - (i + 1) < p.os.length - i
            omega
        · intro h3
          simp at h3
          have hall2 : allI p.os.length (okOf p) = true := allI_true fun j hj => he j (by omega)
          rw [hall2, Bool.true_and] at hval
          repeat' first|(apply Sp.go;·constructor<;>first|exact ss|(change _=_;first|(simp only[go_sem,Nat.reduceBEq,Nat.reduceAdd,Nat.reduceLeDiff,reduceIte]<;>rfl)|rfl)|exact Nat.le_of_ble_eq_true rfl|decide|(repeat' first|(apply Lk.go;constructor)|assumption|exact nb ‹_› ‹_›|exact nt ‹_› ‹_›))|(intro b hb;repeat first|(refine fe hb ?_;intro _ _ hb)|(refine fT hb ?_;intro hb))|refine rt ?_|refine gA rfl ?_|refine gB rfl ?_|apply cT rfl|apply cF rfl|(apply DM.gbT;rfl)|(apply DM.gbF;rfl)|intro h
          refine AM.loopX (X := Nat) 0 (fun i => [(1, .ptr b1 0), (3, .int .i64 p.code.length), (9, .int .i64 i)]) (fun i H' => H' = H.setB b1 27 p.cells ∧ i ≤ p.code.length ∧ ∀ j, j < i → okIx p j = true) (fun i => p.code.length - i) ⟨rfl, by omega, fun j hj => by omega⟩ ?_ ?_
          · (repeat first | exact envle_nil _ | (refine envle_cons ?_ ?_; · (simp only [go_sem, Nat.reduceBEq, Nat.reduceAdd]; exact AVLe.refl _)))
          · intro i H' ⟨e, hi, he⟩
            subst e
            repeat' first|(apply Sp.go;·constructor<;>first|exact ss|(change _=_;first|(simp only[go_sem,Nat.reduceBEq,Nat.reduceAdd,Nat.reduceLeDiff,reduceIte]<;>rfl)|rfl)|exact Nat.le_of_ble_eq_true rfl|decide|(repeat' first|(apply Lk.go;constructor)|assumption|exact nb ‹_› ‹_›|exact nt ‹_› ‹_›))|(intro b hb;repeat first|(refine fe hb ?_;intro _ _ hb)|(refine fT hb ?_;intro hb))|refine rt ?_|refine gA rfl ?_|refine gB rfl ?_|apply cT rfl|apply cF rfl|(apply DM.gbT;rfl)|(apply DM.gbF;rfl)|intro h
            (apply AM.cond; (· rfl))
            · intro h3
              simp at h3
              obtain ⟨x, hx⟩ := some_of h3
              have hok : okIx p i = okIns p x := by simp [okIx, hx]
              repeat' first|(apply Sp.go;·constructor<;>first|exact ss|(change _=_;first|(simp only[go_sem,Nat.reduceBEq,Nat.reduceAdd,Nat.reduceLeDiff,reduceIte]<;>rfl)|rfl)|exact Nat.le_of_ble_eq_true rfl|decide|(repeat' first|(apply Lk.go;constructor)|assumption|exact nb ‹_› ‹_›|exact nt ‹_› ‹_›))|(intro b hb;repeat first|(refine fe hb ?_;intro _ _ hb)|(refine fT hb ?_;intro hb))|refine rt ?_|refine gA rfl ?_|refine gB rfl ?_|apply cT rfl|apply cF rfl|(apply DM.gbT;rfl)|(apply DM.gbF;rfl)|intro h
              (apply DM.ixV (row := x.row) (z := (i : Int)) (by omega) (row_get Ins_.row hx); (· rfl); (· rfl))
              repeat' first|(apply Sp.go;·constructor<;>first|exact ss|(change _=_;first|(simp only[go_sem,Nat.reduceBEq,Nat.reduceAdd,Nat.reduceLeDiff,reduceIte]<;>rfl)|rfl)|exact Nat.le_of_ble_eq_true rfl|decide|(repeat' first|(apply Lk.go;constructor)|assumption|exact nb ‹_› ‹_›|exact nt ‹_› ‹_›))|(intro b hb;repeat first|(refine fe hb ?_;intro _ _ hb)|(refine fT hb ?_;intro hb))|refine rt ?_|refine gA rfl ?_|refine gB rfl ?_|apply cT rfl|apply cF rfl|(apply DM.gbT;rfl)|(apply DM.gbF;rfl)|intro h
              (apply DM.pcs (p51 x); (· simp only [go_sem, Nat.reduceBEq, Nat.reduceAdd] <;> rfl); (· exact AVLes.refl _))
              repeat' first|(apply Sp.go;·constructor<;>first|exact ss|(change _=_;first|(simp only[go_sem,Nat.reduceBEq,Nat.reduceAdd,Nat.reduceLeDiff,reduceIte]<;>rfl)|rfl)|exact Nat.le_of_ble_eq_true rfl|decide|(repeat' first|(apply Lk.go;constructor)|assumption|exact nb ‹_› ‹_›|exact nt ‹_› ‹_›))|(intro b hb;repeat first|(refine fe hb ?_;intro _ _ hb)|(refine fT hb ?_;intro hb))|refine rt ?_|refine gA rfl ?_|refine gB rfl ?_|apply cT rfl|apply cF rfl|(apply DM.gbT;rfl)|(apply DM.gbF;rfl)|(apply AM.condS;rfl)|intro h
              · skip
                have fm : formed x = true := by simpa using h
                clear h
                have hlow : x.op = 19 ∨ x.op = 20 ∨ x.op = 22 → 0 ≤ x.n := by
                  intro ho
                  have fe := formed_eq x
                  rw [fm] at fe
                  have fe2 := fe.symm
                  simp only [Bool.and_eq_true] at fe2
                  have f3 := fe2.1.2
                  rw [show numd x.op = (0, 999, true) by rcases ho with h | h | h <;> rw [h] <;> rfl] at f3
                  simp only [inB, Bool.and_eq_true, decide_eq_true_eq] at f3
                  exact f3.1
                have hI : okIns p x = decide ((x.op = 3 ∨ x.op = 5 → x.n < p.vars.length) ∧ (x.op = 19 ∨ x.op = 20 ∨ x.op = 22 → x.n < p.code.length)) := by
                  rw [okIns, fm, Bool.true_and]
                  split
                  · rename_i ho
                    rw [decide_eq_decide]
                    constructor
                    · intro h; exact ⟨fun _ => h, fun h2 => by omega⟩
                    · intro h; exact h.1 ho
                  · rename_i ho
                    split
                    · rename_i ho2
                      rw [Bool.eq_iff_iff, decide_eq_true_eq]
                      simp only [Prog.target, inB, Bool.and_eq_true, decide_eq_true_eq]
                      have := hlow ho2
                      constructor
                      · intro h; exact ⟨fun h2 => absurd h2 ho, fun _ => by omega⟩
                      · intro h; have := h.2 ho2; omega
                    · rename_i ho2
                      rw [decide_eq_true]
                      exact ⟨fun h2 => absurd h2 ho, fun h2 => absurd h2 ho2⟩
                have okRound : okIns p x = true → ∀ j, j < i + 1 → okIx p j = true := by
                  intro h j hj
                  by_cases e : j = i
                  · subst e
                    rw [hok, h]
                  · exact he j (by omega)
                clear hlow fm hval hall hall2
                (apply DM.pcs (p42 x.op); (· simp only [go_sem, Nat.reduceBEq, Nat.reduceAdd] <;> rfl); (· exact AVLes.refl _))
                repeat' first|(apply Sp.go;·constructor<;>first|exact ss|(change _=_;first|(simp only[go_sem,Nat.reduceBEq,Nat.reduceAdd,Nat.reduceLeDiff,reduceIte]<;>rfl)|rfl)|exact Nat.le_of_ble_eq_true rfl|decide|(repeat' first|(apply Lk.go;constructor)|assumption|exact nb ‹_› ‹_›|exact nt ‹_› ‹_›))|(intro b hb;repeat first|(refine fe hb ?_;intro _ _ hb)|(refine fT hb ?_;intro hb))|refine rt ?_|refine gA rfl ?_|refine gB rfl ?_|apply cT rfl|apply cF rfl|(apply DM.gbT;rfl)|(apply DM.gbF;rfl)|(apply AM.condS;rfl)|intro h
                all_goals first
                  | (skip
                     (apply Sr.go;·constructor<;>first|(apply Lk.go;constructor<;>first|exact ss|(change _=_;first|(simp only[go_sem,Nat.reduceBEq,Nat.reduceAdd,Nat.reduceLeDiff,reduceIte]<;>rfl)|rfl)|exact Nat.le_of_ble_eq_true rfl|decide|(repeat' first|(apply Lk.go;constructor)|assumption|exact nb ‹_› ‹_›|exact nt ‹_› ‹_›))|assumption)
                     refine badI h3 ?_
                     rw [hok, hI, decide_eq_false_iff_not]
                     clear he okRound badI badO badH hok hI
                     simp at *
                     omega)
                  | (refine AM.forget (H.setB b1 27 p.cells) ?_ ?_
                     · (repeat' first|assumption|(apply Lk.go;constructor))
                     refine AM.roundX (i + 1) ⟨rfl, by omega, ?_⟩ ?_ ?_
                     · refine okRound ?_
                       rw [hI, decide_eq_true_eq]
                       clear he okRound badI badO badH hok hI
                       simp at *
                       omega
                     · (repeat first | exact envle_nil _ | (refine envle_cons ?_ ?_; · (simp only [go_sem, Nat.reduceBEq, Nat.reduceAdd]; exact AVLe.refl _)))
                       refine envle_cons ?_ ?_
                       · simp only [go_sem, Nat.reduceBEq, Nat.reduceAdd]
                         refine avle_int ?_
                         rw [inc64 h3 ok.code]
                       exact envle_nil _
                     · show p.code.length - (i + 1) < p.code.length - i
                       omega)
              · (apply Sr.go;·constructor<;>first|(apply Lk.go;constructor<;>first|exact ss|(change _=_;first|(simp only[go_sem,Nat.reduceBEq,Nat.reduceAdd,Nat.reduceLeDiff,reduceIte]<;>rfl)|rfl)|exact Nat.le_of_ble_eq_true rfl|decide|(repeat' first|(apply Lk.go;constructor)|assumption|exact nb ‹_› ‹_›|exact nt ‹_› ‹_›))|assumption)
                exact badI h3 (by rw [hok, okIns]; simp at h; rw [h, Bool.false_and])
            · intro h3
              simp at h3
              rw [allI_true fun j hj => he j (by omega)] at hval
              repeat' first|(apply Sp.go;·constructor<;>first|exact ss|(change _=_;first|(simp only[go_sem,Nat.reduceBEq,Nat.reduceAdd,Nat.reduceLeDiff,reduceIte]<;>rfl)|rfl)|exact Nat.le_of_ble_eq_true rfl|decide|(repeat' first|(apply Lk.go;constructor)|assumption|exact nb ‹_› ‹_›|exact nt ‹_› ‹_›))|(intro b hb;repeat first|(refine fe hb ?_;intro _ _ hb)|(refine fT hb ?_;intro hb))|refine rt ?_|refine gA rfl ?_|refine gB rfl ?_|apply cT rfl|apply cF rfl|(apply DM.gbT;rfl)|(apply DM.gbF;rfl)|intro h
              (apply Sr.go;·constructor<;>first|(apply Lk.go;constructor<;>first|exact ss|(change _=_;first|(simp only[go_sem,Nat.reduceBEq,Nat.reduceAdd,Nat.reduceLeDiff,reduceIte]<;>rfl)|rfl)|exact Nat.le_of_ble_eq_true rfl|decide|(repeat' first|(apply Lk.go;constructor)|assumption|exact nb ‹_› ‹_›|exact nt ‹_› ‹_›))|assumption)
              rw [hval]
              exact AVLe.refl _
end Go.Aw.T.R
namespace Go.Aw.T
open Go Go.Aw Go.Proofs Go.RowKit
set_option maxRecDepth 100000
attribute [local irreducible] Go.Aw.DM Go.Aw.AHeap.setB Go.Aw.AHeap.setT
attribute [local go_sem] peval EOpd.ev Env.get binInt binStr binBool buildParts AV.cells AV.okc setRange minmaxAV AV.one AV.ofCells eqCells eqCell bslRows cond_true cond_false beq_self_eq_true Bool.not_true Bool.not_false beq_true beq_false eq_self if_true Option.some.injEq List.length_cons List.length_nil List.take_succ_cons List.take_zero List.drop_succ_cons List.drop_zero List.set_cons_succ List.set_cons_zero List.nil_append List.cons_append List.append_nil and_self Option.map_some List.map_cons List.map_nil Bool.false_eq_true if_false Nat.zero_add Nat.add_zero true_and and_true Bool.and_true Bool.true_and List.getElem?_cons_zero List.getElem?_cons_succ Nat.zero_le Nat.le_refl
set_option linter.unusedSimpArgs false
set_option linter.unusedVariables false
theorem concat_cases (l : List Int) : l = [] ∨ ∃ k a, l = k ++ [a] := by
 rcases List.eq_nil_or_concat l with h | ⟨k, a, h⟩
 ·exact .inl h
 ·exact .inr ⟨k, a, by simpa using h⟩
theorem pop_snoc (k a : Int) (l : List Int) : popK k (l ++ [a]) = if a = k then some l else none := by
 unfold popK
 simp only [List.getLast?_append, List.getLast?_singleton, Option.some_or, List.dropLast_concat]
end Go.Aw.T
namespace Go.Aw.T.R
open Go Go.Aw Go.Aw.T Go.Proofs Go.RowKit
set_option maxRecDepth 100000
attribute [local irreducible] Go.Aw.DM Go.Aw.AHeap.setB Go.Aw.AHeap.setT
attribute [local go_sem] peval EOpd.ev Env.get binInt binStr binBool buildParts AV.cells AV.okc setRange minmaxAV AV.one AV.ofCells eqCells eqCell bslRows cond_true cond_false beq_self_eq_true Bool.not_true Bool.not_false beq_true beq_false eq_self if_true Option.some.injEq List.length_cons List.length_nil List.take_succ_cons List.take_zero List.drop_succ_cons List.drop_zero List.set_cons_succ List.set_cons_zero List.nil_append List.cons_append List.append_nil and_self Option.map_some List.map_cons List.map_nil Bool.false_eq_true if_false Nat.zero_add Nat.add_zero true_and and_true Bool.and_true Bool.true_and List.getElem?_cons_zero List.getElem?_cons_succ Nat.zero_le Nat.le_refl
set_option linter.unusedSimpArgs false
set_option linter.unusedVariables false
theorem AM.ghostO {P : Program} {rs : List ERes} {R : Out → AHeap → Prop} {k : List Item} {env : Env} {H : AHeap} (j Te size : Nat) (h0 : size ≠ 0) (hj : env.get j = .nilS)
  (h : ∀ t, H.tok t = none → AM P rs R k ((j, .own t size []) :: env) (H.setT t (.frz Te size 0))) : AM P rs R k env H := by
 refine AM.conv (fun env' H' => ∃ t, H.tok t = none ∧ env' = (j, .own t size []) :: env ∧ H' = H.setT t (.frz Te size 0)) ?_ ?_
 ·intro m hH rh
  subst hH
  obtain ⟨r1, e1, v1⟩ := new_tok_nil rh (T := Te) h0
  refine ⟨(j, .own m.T size []) :: env, _, _, _, ⟨m.T, tok_new rh, rfl, rfl⟩, r1, e1, fun i v hv => ?_⟩
  by_cases hi : i = j
  ·subst hi
   rw [hj] at hv
   simp only [Rv] at hv
   subst hv
   have : Env.get ((i, AV.own m.T size []) :: env) i = .own m.T size [] := by simp [Env.get]
   rw [this]
   exact v1
  ·have : Env.get ((j, AV.own m.T size []) :: env) i = Env.get env i := by
    have e : (j == i) = false := by simp only [beq_eq_false_iff_ne]; exact fun e => hi e.symm
    simp only [Env.get, e, cond_false]
   rw [this]
   exact Rv.ev e1 _ _ hv
 ·rintro env' H' ⟨t, h1, rfl, rfl⟩
  exact h t h1
theorem DM.apO {P : Program} {T size bytes t d : Nat} {x y : EOpd} {env : Env} {H : AHeap} {rows nw : List (List AV)} {l : List EI} {K : Env → AHeap → Prop} {Rp : AV → AHeap → Prop} (hx : x.ev env = .own t size rows) (ht : H.tok t = some (.frz T size rows.length)) (hy : rowsOf size (y.ev env) = some nw) (hb : (rows.length + nw.length) * bytes ≤ 140737488355328) (hm : rows.length + nw.length ≤ maxLen) (h : DM P l ((d, .own t size (rows ++ nw)) :: env) (H.setT t (.frz T size (rows.length + nw.length))) K Rp) : DM P (⟨some d, none, .append T size bytes x y⟩ :: l) env H K Rp := by
 simp only [DM, wanted]
 exact IStep.append hx ht hy hb hm h
theorem hsub_tok2 {H H' : AHeap} {t : Nat} {o : Own} (hb : ∀ b x, H.blk b = some x → H'.blk b = some x) (ht : ∀ t' x, t' ≠ t → H.tok t' = some x → H'.tok t' = some x) (h : H'.tok t = some o) : HSub (H.setT t o) H' :=
 ⟨fun b x h => by rw [setT_blk] at h; exact hb b x h, fun x y e => by
  simp only [AHeap.setT] at e
  by_cases hx : x = t
  ·subst hx; rw [if_pos rfl] at e; rw [← e]; exact h
  ·rw [if_neg hx] at e; exact ht x y hx e⟩
def startP (p : Prog) : List Val × Int := if validP p then (p.vars.map (fun v => v.init), 0) else ([], 1)
theorem p35 (p : Prog) : Pure Try.prog 35 [p.av] (.tup [.vs 3 ((startP p).1.map Val.row), .int .i64 (startP p).2]) := by
 refine ok_args fun ok => ?_
 have bad : validP p = false → AVLe (.tup [.nilS, .int .i64 1]) (.tup [.vs 3 ((startP p).1.map Val.row), .int .i64 (startP p).2]) := by
  intro h
  rw [startP, h]
  exact avle_tup (avles_cons AVLe.nil (avles_cons (AVLe.refl _) avles_nil))
 refine pure_intro mo Try.func35 c35 fun H => ?_
 unfold e35 r35
 simp only [initEnv, initFrom]
 repeat' first|(apply Sp.go;·constructor<;>first|exact ss|(change _=_;first|(simp only[go_sem,Nat.reduceBEq,Nat.reduceAdd,Nat.reduceLeDiff,reduceIte]<;>rfl)|rfl)|exact Nat.le_of_ble_eq_true rfl|decide|(repeat' first|(apply Lk.go;constructor)|assumption|exact nb ‹_› ‹_›|exact nt ‹_› ‹_›))|(intro b hb;repeat first|(refine fe hb ?_;intro _ _ hb)|(refine fT hb ?_;intro hb))|refine rt ?_|refine gA rfl ?_|refine gB rfl ?_|apply cT rfl|apply cF rfl|(apply DM.gbT;rfl)|(apply DM.gbF;rfl)|intro h
 rename Nat => b1
 (apply DM.pcs (p22 p); (· simp only [go_sem, Nat.reduceBEq, Nat.reduceAdd] <;> rfl); (· exact AVLes.refl _))
 repeat' first|(apply Sp.go;·constructor<;>first|exact ss|(change _=_;first|(simp only[go_sem,Nat.reduceBEq,Nat.reduceAdd,Nat.reduceLeDiff,reduceIte]<;>rfl)|rfl)|exact Nat.le_of_ble_eq_true rfl|decide|(repeat' first|(apply Lk.go;constructor)|assumption|exact nb ‹_› ‹_›|exact nt ‹_› ‹_›))|(intro b hb;repeat first|(refine fe hb ?_;intro _ _ hb)|(refine fT hb ?_;intro hb))|refine rt ?_|refine gA rfl ?_|refine gB rfl ?_|apply cT rfl|apply cF rfl|(apply DM.gbT;rfl)|(apply DM.gbF;rfl)|intro h
 (apply AM.cond; (· rfl))
 ·intro h
  repeat' first|(apply Sp.go;·constructor<;>first|exact ss|(change _=_;first|(simp only[go_sem,Nat.reduceBEq,Nat.reduceAdd,Nat.reduceLeDiff,reduceIte]<;>rfl)|rfl)|exact Nat.le_of_ble_eq_true rfl|decide|(repeat' first|(apply Lk.go;constructor)|assumption|exact nb ‹_› ‹_›|exact nt ‹_› ‹_›))|(intro b hb;repeat first|(refine fe hb ?_;intro _ _ hb)|(refine fT hb ?_;intro hb))|refine rt ?_|refine gA rfl ?_|refine gB rfl ?_|apply cT rfl|apply cF rfl|(apply DM.gbT;rfl)|(apply DM.gbF;rfl)|intro h
  (apply Sr.go;·constructor<;>first|(apply Lk.go;constructor<;>first|exact ss|(change _=_;first|(simp only[go_sem,Nat.reduceBEq,Nat.reduceAdd,Nat.reduceLeDiff,reduceIte]<;>rfl)|rfl)|exact Nat.le_of_ble_eq_true rfl|decide|(repeat' first|(apply Lk.go;constructor)|assumption|exact nb ‹_› ‹_›|exact nt ‹_› ‹_›))|assumption)
  exact bad (by simpa using h)
 ·intro h
  have hv : validP p = true := by simpa using h
  have hgood : startP p = (p.vars.map (fun v => v.init), 0) := by rw [startP, hv]; rfl
  repeat' first|(apply Sp.go;·constructor<;>first|exact ss|(change _=_;first|(simp only[go_sem,Nat.reduceBEq,Nat.reduceAdd,Nat.reduceLeDiff,reduceIte]<;>rfl)|rfl)|exact Nat.le_of_ble_eq_true rfl|decide|(repeat' first|(apply Lk.go;constructor)|assumption|exact nb ‹_› ‹_›|exact nt ‹_› ‹_›))|(intro b hb;repeat first|(refine fe hb ?_;intro _ _ hb)|(refine fT hb ?_;intro hb))|refine rt ?_|refine gA rfl ?_|refine gB rfl ?_|apply cT rfl|apply cF rfl|(apply DM.gbT;rfl)|(apply DM.gbF;rfl)|intro h
  apply AM.ghostO 4 70 3 (by decide)
  ·simp only [Env.get, Nat.reduceBEq, cond_true, cond_false, beq_self_eq_true]
  intro tv htv
  have htv2 : H.tok tv = none := freshT_setB htv
  have hsub0 : HSub H (H.setB b1 27 p.cells) := HSub.setB (HSub.refl _) hb
  have hbp : (H.setB b1 27 p.cells).blk b1 = some (27, p.cells) := g_same
  have h12 : p.vars.length ≤ 12 := by simp [validP, varsOk] at hv; omega
  generalize H.setB b1 27 p.cells = G at htv hsub0 hbp ⊢
  refine AM.loopX (X := Nat) 0 (fun i => [(1, .ptr b1 0), (5, .int .i64 i), (4, .own tv 3 ((p.vars.take i).map fun v => v.init.row))]) (fun i H' => H' = G.setT tv (.frz 70 3 i) ∧ i ≤ p.vars.length) (fun i => p.vars.length - i) ⟨rfl, by omega⟩ ?_ ?_
  ·(repeat first | exact envle_nil _ | (refine envle_cons ?_ ?_; · (simp only [go_sem, Nat.reduceBEq, Nat.reduceAdd]; exact AVLe.refl _)))
  ·intro i H' ⟨e, hi⟩
   subst e
   repeat' first|(apply Sp.go;·constructor<;>first|exact ss|(change _=_;first|(simp only[go_sem,Nat.reduceBEq,Nat.reduceAdd,Nat.reduceLeDiff,reduceIte]<;>rfl)|rfl)|exact Nat.le_of_ble_eq_true rfl|decide|(repeat' first|(apply Lk.go;constructor)|assumption|exact nb ‹_› ‹_›|exact nt ‹_› ‹_›))|(intro b hb;repeat first|(refine fe hb ?_;intro _ _ hb)|(refine fT hb ?_;intro hb))|refine rt ?_|refine gA rfl ?_|refine gB rfl ?_|apply cT rfl|apply cF rfl|(apply DM.gbT;rfl)|(apply DM.gbF;rfl)|intro h
   (apply AM.cond; (· rfl))
   ·intro h3
    simp at h3
    obtain ⟨v, hv⟩ := some_of h3
    repeat' first|(apply Sp.go;·constructor<;>first|exact ss|(change _=_;first|(simp only[go_sem,Nat.reduceBEq,Nat.reduceAdd,Nat.reduceLeDiff,reduceIte]<;>rfl)|rfl)|exact Nat.le_of_ble_eq_true rfl|decide|(repeat' first|(apply Lk.go;constructor)|assumption|exact nb ‹_› ‹_›|exact nt ‹_› ‹_›))|(intro b hb;repeat first|(refine fe hb ?_;intro _ _ hb)|(refine fT hb ?_;intro hb))|refine rt ?_|refine gA rfl ?_|refine gB rfl ?_|apply cT rfl|apply cF rfl|(apply DM.gbT;rfl)|(apply DM.gbF;rfl)|(apply DM.ixV (row := v.row) (z := (i : Int)) (by omega) (row_get Var_.row hv); (· rfl); (· rfl))|intro h
    apply DM.apO
    ·simp only [EOpd.ev, Env.get, Nat.reduceBEq, cond_true, cond_false, beq_self_eq_true] <;> rfl
    ·rw [List.length_map, List.length_take, Nat.min_eq_left hi]
     (· repeat' first|(apply Lk.go;constructor)|assumption|exact nb ‹_› ‹_›|exact nt ‹_› ‹_›|(apply Lm.go;constructor))
    ·simp only [rowsOf, if_true, eq_self, EOpd.ev, Env.get, Nat.reduceBEq, cond_true, cond_false, beq_self_eq_true] <;> rfl
    ·simp only [List.length_map, List.length_take, List.length_cons, List.length_nil, maxLen]; omega
    ·simp only [List.length_map, List.length_take, List.length_cons, List.length_nil, maxLen]; omega
    repeat' first|(apply Sp.go;·constructor<;>first|exact ss|(change _=_;first|(simp only[go_sem,Nat.reduceBEq,Nat.reduceAdd,Nat.reduceLeDiff,reduceIte]<;>rfl)|rfl)|exact Nat.le_of_ble_eq_true rfl|decide|(repeat' first|(apply Lk.go;constructor)|assumption|exact nb ‹_› ‹_›|exact nt ‹_› ‹_›))|(intro b hb;repeat first|(refine fe hb ?_;intro _ _ hb)|(refine fT hb ?_;intro hb))|refine rt ?_|refine gA rfl ?_|refine gB rfl ?_|apply cT rfl|apply cF rfl|(apply DM.gbT;rfl)|(apply DM.gbF;rfl)|intro h
    refine AM.forget (G.setT tv (.frz 70 3 (i + 1))) ?_ ?_
    ·refine hsub_tok2 ?_ ?_ ?_
     ·intro b x hx
      (· repeat' first|(apply Lk.go;constructor)|assumption|exact nb ‹_› ‹_›|exact nt ‹_› ‹_›)
     ·intro t' x hn hx
      (· repeat' first|(apply Lk.go;constructor)|assumption|exact nb ‹_› ‹_›|exact nt ‹_› ‹_›|(apply Lm.go;constructor))
     ·rw [List.length_map, List.length_take, Nat.min_eq_left hi]
      (· repeat' first|(apply Lk.go;constructor)|assumption|exact nb ‹_› ‹_›|exact nt ‹_› ‹_›|(apply Lm.go;constructor))
    refine AM.roundX (i + 1) ⟨rfl, by omega⟩ ?_ ?_
    ·(repeat first | exact envle_nil _ | (refine envle_cons ?_ ?_; · (simp only [go_sem, Nat.reduceBEq, Nat.reduceAdd]; exact AVLe.refl _)))
     refine envle_cons ?_ ?_
     ·simp only [go_sem, Nat.reduceBEq, Nat.reduceAdd]
      refine avle_int ?_
      rw [inc64 h3 ok.vars]
     refine envle_cons ?_ (envle_nil _)
     simp only [Env.get, Nat.reduceBEq, cond_true, cond_false, beq_self_eq_true]
     rw [List.take_add_one, hv]
     refine avle_eq ?_
     simp
    ·show p.vars.length - (i + 1) < p.vars.length - i
     omega
   ·intro h3
    simp at h3
    have : i = p.vars.length := by omega
    subst this
    repeat' first|(apply Sp.go;·constructor<;>first|exact ss|(change _=_;first|(simp only[go_sem,Nat.reduceBEq,Nat.reduceAdd,Nat.reduceLeDiff,reduceIte]<;>rfl)|rfl)|exact Nat.le_of_ble_eq_true rfl|decide|(repeat' first|(apply Lk.go;constructor)|assumption|exact nb ‹_› ‹_›|exact nt ‹_› ‹_›))|(intro b hb;repeat first|(refine fe hb ?_;intro _ _ hb)|(refine fT hb ?_;intro hb))|refine rt ?_|refine gA rfl ?_|refine gB rfl ?_|apply cT rfl|apply cF rfl|(apply DM.gbT;rfl)|(apply DM.gbF;rfl)|intro h
    (apply Sr.go;·constructor<;>first|(apply Lk.go;constructor<;>first|exact ss|(change _=_;first|(simp only[go_sem,Nat.reduceBEq,Nat.reduceAdd,Nat.reduceLeDiff,reduceIte]<;>rfl)|rfl)|exact Nat.le_of_ble_eq_true rfl|decide|(repeat' first|(apply Lk.go;constructor)|assumption|exact nb ‹_› ‹_›|exact nt ‹_› ‹_›))|assumption)
    rw [hgood, List.take_length]
    refine avle_tup (avles_cons ?_ (avles_cons (AVLe.refl _) avles_nil))
    simp only [List.map_map]
    exact AVLe.own
end Go.Aw.T.R
namespace Go.Aw.T
open Go Go.Aw Go.Proofs Go.RowKit
set_option maxRecDepth 100000
attribute [local irreducible] Go.Aw.DM Go.Aw.AHeap.setB Go.Aw.AHeap.setT
attribute [local go_sem] peval EOpd.ev Env.get binInt binStr binBool buildParts AV.cells AV.okc setRange minmaxAV AV.one AV.ofCells eqCells eqCell bslRows cond_true cond_false beq_self_eq_true Bool.not_true Bool.not_false beq_true beq_false eq_self if_true Option.some.injEq List.length_cons List.length_nil List.take_succ_cons List.take_zero List.drop_succ_cons List.drop_zero List.set_cons_succ List.set_cons_zero List.nil_append List.cons_append List.append_nil and_self Option.map_some List.map_cons List.map_nil Bool.false_eq_true if_false Nat.zero_add Nat.add_zero true_and and_true Bool.and_true Bool.true_and List.getElem?_cons_zero List.getElem?_cons_succ Nat.zero_le Nat.le_refl
set_option linter.unusedSimpArgs false
set_option linter.unusedVariables false
structure Fld where
 name : List UInt8
 sort : Sort_
abbrev Fld.row (f : Fld) : List AV := [.str f.name, .int .i64 f.sort.k, .int .i64 f.sort.lo, .int .i64 f.sort.hi]
structure Decl_ where
 name : List UInt8
 fields : List Fld
 first : Int
 diffs : List (Int × Int × Int)
 eqs : List (Int × Int)
abbrev Decl_.row (d : Decl_) : List AV := [.str d.name, .vs 4 (d.fields.map Fld.row), .int .i64 d.first, .vs 3 (d.diffs.map fun x => [.int .i64 x.1, .int .i64 x.2.1, .int .i64 x.2.2]), .vs 2 (d.eqs.map fun x => [.int .i64 x.1, .int .i64 x.2])]
def kindsD (d : Decl_) : List Int := d.fields.map fun f => f.sort.k
theorem p47 (d : Decl_) (hf : d.fields.length ≤ 1000) : Pure Try.prog 47 [.agg d.row] (.vs 1 ((kindsD d).map irow)) := by
 refine pure_intro mo Try.func47 c47 fun H => ?_
 unfold e47 r47
 simp only [initEnv, initFrom]
 repeat' first|(apply Sp.go;·constructor<;>first|exact ss|(change _=_;first|(simp only[go_sem,Nat.reduceBEq,Nat.reduceAdd,Nat.reduceLeDiff,reduceIte]<;>rfl)|rfl)|exact Nat.le_of_ble_eq_true rfl|decide|(repeat' first|(apply Lk.go;constructor)|assumption|exact nb ‹_› ‹_›|exact nt ‹_› ‹_›))|(intro b hb;repeat first|(refine fe hb ?_;intro _ _ hb)|(refine fT hb ?_;intro hb))|refine rt ?_|refine gA rfl ?_|refine gB rfl ?_|apply cT rfl|apply cF rfl|(apply DM.gbT;rfl)|(apply DM.gbF;rfl)|intro h
 rename Nat => b1
 have hsub0 : HSub H (H.setB b1 103 d.row) := HSub.setB (HSub.refl _) hb
 apply R.AM.ghostO 3 3 1 (by decide)
 ·simp only [Env.get, Nat.reduceBEq, cond_true, cond_false, beq_self_eq_true]
 intro tv htv
 have htv2 : H.tok tv = none := freshT_setB htv
 have hbp : (H.setB b1 103 d.row).blk b1 = some (103, d.row) := g_same
 generalize H.setB b1 103 d.row = G at htv hsub0 hbp ⊢
 repeat' first|(apply Sp.go;·constructor<;>first|exact ss|(change _=_;first|(simp only[go_sem,Nat.reduceBEq,Nat.reduceAdd,Nat.reduceLeDiff,reduceIte]<;>rfl)|rfl)|exact Nat.le_of_ble_eq_true rfl|decide|(repeat' first|(apply Lk.go;constructor)|assumption|exact nb ‹_› ‹_›|exact nt ‹_› ‹_›))|(intro b hb;repeat first|(refine fe hb ?_;intro _ _ hb)|(refine fT hb ?_;intro hb))|refine rt ?_|refine gA rfl ?_|refine gB rfl ?_|apply cT rfl|apply cF rfl|(apply DM.gbT;rfl)|(apply DM.gbF;rfl)|intro h
 refine AM.loopX (X := Nat) 0 (fun i => [(7, .vs 4 (d.fields.map Fld.row)), (8, .int .i64 d.fields.length), (9, .int .i64 i), (3, .own tv 1 ((d.fields.take i).map fun f => irow f.sort.k))]) (fun i H' => H' = G.setT tv (.frz 3 1 i) ∧ i ≤ d.fields.length) (fun i => d.fields.length - i) ⟨rfl, by omega⟩ ?_ ?_
 ·refine envle_cons ?_ ?_
  ·simp only [Env.get, Nat.reduceBEq, cond_true, cond_false, beq_self_eq_true]; exact AVLe.refl _
  refine envle_cons ?_ ?_
  ·simp only [Env.get, Nat.reduceBEq, cond_true, cond_false, beq_self_eq_true]; exact avle_int (by simp)
  (repeat first | exact envle_nil _ | (refine envle_cons ?_ ?_; · (simp only [go_sem, Nat.reduceBEq, Nat.reduceAdd]; exact AVLe.refl _)))
 ·intro i H' ⟨e, hi⟩
  subst e
  repeat' first|(apply Sp.go;·constructor<;>first|exact ss|(change _=_;first|(simp only[go_sem,Nat.reduceBEq,Nat.reduceAdd,Nat.reduceLeDiff,reduceIte]<;>rfl)|rfl)|exact Nat.le_of_ble_eq_true rfl|decide|(repeat' first|(apply Lk.go;constructor)|assumption|exact nb ‹_› ‹_›|exact nt ‹_› ‹_›))|(intro b hb;repeat first|(refine fe hb ?_;intro _ _ hb)|(refine fT hb ?_;intro hb))|refine rt ?_|refine gA rfl ?_|refine gB rfl ?_|apply cT rfl|apply cF rfl|(apply DM.gbT;rfl)|(apply DM.gbF;rfl)|intro h
  (apply AM.cond; (· rfl))
  ·intro h3
   simp at h3
   obtain ⟨v, hv⟩ := some_of h3
   repeat' first|(apply Sp.go;·constructor<;>first|exact ss|(change _=_;first|(simp only[go_sem,Nat.reduceBEq,Nat.reduceAdd,Nat.reduceLeDiff,reduceIte]<;>rfl)|rfl)|exact Nat.le_of_ble_eq_true rfl|decide|(repeat' first|(apply Lk.go;constructor)|assumption|exact nb ‹_› ‹_›|exact nt ‹_› ‹_›))|(intro b hb;repeat first|(refine fe hb ?_;intro _ _ hb)|(refine fT hb ?_;intro hb))|refine rt ?_|refine gA rfl ?_|refine gB rfl ?_|apply cT rfl|apply cF rfl|(apply DM.gbT;rfl)|(apply DM.gbF;rfl)|(apply DM.ixV (row := v.row) (z := (i : Int)) (by omega) (row_get Fld.row hv); (· rfl); (· rfl))|intro h
   have hl0 : ((d.fields.take i).map fun f => irow f.sort.k).length = i := by simp; omega
   apply DM.apO
   ·simp only [EOpd.ev, Env.get, Nat.reduceBEq, cond_true, cond_false, beq_self_eq_true] <;> rfl
   ·rw [hl0]
    (· repeat' first|(apply Lk.go;constructor)|assumption|exact nb ‹_› ‹_›|exact nt ‹_› ‹_›|(apply Lm.go;constructor))
   ·simp only [rowsOf, if_true, eq_self, EOpd.ev, Env.get, Nat.reduceBEq, cond_true, cond_false, beq_self_eq_true] <;> rfl
   ·rw [hl0]; simp only [List.length_cons, List.length_nil]; omega
   ·rw [hl0]; simp only [List.length_cons, List.length_nil, maxLen]; omega
   repeat' first|(apply Sp.go;·constructor<;>first|exact ss|(change _=_;first|(simp only[go_sem,Nat.reduceBEq,Nat.reduceAdd,Nat.reduceLeDiff,reduceIte]<;>rfl)|rfl)|exact Nat.le_of_ble_eq_true rfl|decide|(repeat' first|(apply Lk.go;constructor)|assumption|exact nb ‹_› ‹_›|exact nt ‹_› ‹_›))|(intro b hb;repeat first|(refine fe hb ?_;intro _ _ hb)|(refine fT hb ?_;intro hb))|refine rt ?_|refine gA rfl ?_|refine gB rfl ?_|apply cT rfl|apply cF rfl|(apply DM.gbT;rfl)|(apply DM.gbF;rfl)|intro h
   refine AM.forget (G.setT tv (.frz 3 1 (i + 1))) ?_ ?_
   ·refine R.hsub_tok2 ?_ ?_ ?_
    ·intro b x hx
     (· repeat' first|(apply Lk.go;constructor)|assumption|exact nb ‹_› ‹_›|exact nt ‹_› ‹_›)
    ·intro t' x hn hx
     (· repeat' first|(apply Lk.go;constructor)|assumption|exact nb ‹_› ‹_›|exact nt ‹_› ‹_›|(apply Lm.go;constructor))
    ·rw [hl0]
     (· repeat' first|(apply Lk.go;constructor)|assumption|exact nb ‹_› ‹_›|exact nt ‹_› ‹_›|(apply Lm.go;constructor))
   refine AM.roundX (i + 1) ⟨rfl, by omega⟩ ?_ ?_
   ·(repeat first | exact envle_nil _ | (refine envle_cons ?_ ?_; · (simp only [go_sem, Nat.reduceBEq, Nat.reduceAdd]; exact AVLe.refl _)))
    refine envle_cons ?_ ?_
    ·simp only [go_sem, Nat.reduceBEq, Nat.reduceAdd]
     refine avle_int ?_
     rw [inc64 h3 (by unfold maxLen; omega)]
    refine envle_cons ?_ (envle_nil _)
    simp only [Env.get, Nat.reduceBEq, cond_true, cond_false, beq_self_eq_true]
    rw [List.take_add_one, hv]
    refine avle_eq ?_
    simp
   ·show d.fields.length - (i + 1) < d.fields.length - i
    omega
  ·intro h3
   simp at h3
   have : i = d.fields.length := by omega
   subst this
   repeat' first|(apply Sp.go;·constructor<;>first|exact ss|(change _=_;first|(simp only[go_sem,Nat.reduceBEq,Nat.reduceAdd,Nat.reduceLeDiff,reduceIte]<;>rfl)|rfl)|exact Nat.le_of_ble_eq_true rfl|decide|(repeat' first|(apply Lk.go;constructor)|assumption|exact nb ‹_› ‹_›|exact nt ‹_› ‹_›))|(intro b hb;repeat first|(refine fe hb ?_;intro _ _ hb)|(refine fT hb ?_;intro hb))|refine rt ?_|refine gA rfl ?_|refine gB rfl ?_|apply cT rfl|apply cF rfl|(apply DM.gbT;rfl)|(apply DM.gbF;rfl)|intro h
   (apply Sr.go;·constructor<;>first|(apply Lk.go;constructor<;>first|exact ss|(change _=_;first|(simp only[go_sem,Nat.reduceBEq,Nat.reduceAdd,Nat.reduceLeDiff,reduceIte]<;>rfl)|rfl)|exact Nat.le_of_ble_eq_true rfl|decide|(repeat' first|(apply Lk.go;constructor)|assumption|exact nb ‹_› ‹_›|exact nt ‹_› ‹_›))|assumption)
   rw [List.take_length]
   simp only [kindsD, List.map_map]
   exact AVLe.own
structure Part where
 at_ : Int
 label : Int
 kind : Int
abbrev Part.row (x : Part) : List AV := [.int .i64 x.at_, .int .i64 x.label, .int .i64 x.kind]
def hPart (h : Hd) : Part := ⟨h.entry, h.label, 0⟩
def oParts (o : Of_) : List Part := (if o.cond ≠ -1 then [⟨o.cond, o.label, 1⟩] else []) ++ [⟨o.args, o.label, 2⟩]
def partsP (p : Prog) : List Part := p.hs.map hPart ++ p.os.flatMap oParts
theorem oParts_len (os : List Of_) : (os.flatMap oParts).length ≤ 2 * os.length := by
 induction os with
 | nil => simp
 | cons o os ih =>
  have : (oParts o).length ≤ 2 := by unfold oParts; split <;> simp
  simp only [List.flatMap_cons, List.length_append, List.length_cons]; omega
theorem DM.apOr {P : Program} {d : Nat} {l : List EI} {env : Env} {H : AHeap} {K : Env → AHeap → Prop} {Rp : AV → AHeap → Prop} {T size bytes t n : Nat} {x y : EOpd} {rows nw : List (List AV)} (hx : x.ev env = .own t size rows) (ht : H.tok t = some (.frz T size n)) (hn : rows.length = n) (hy : rowsOf size (y.ev env) = some nw) (hb : (n + nw.length) * bytes ≤ 140737488355328) (hm : n + nw.length ≤ maxLen) (h : DM P l ((d, .own t size (rows ++ nw)) :: env) (H.setT t (.frz T size (n + nw.length))) K Rp) : DM P (⟨some d, none, .append T size bytes x y⟩ :: l) env H K Rp := by
 subst hn
 exact DM.apO hx ht hy hb hm h
def pRows (p : Prog) (i : Nat) : List (List AV) := (p.hs.map hPart ++ (p.os.take i).flatMap oParts).map Part.row
def pLen (p : Prog) (i : Nat) : Nat := p.hs.length + ((p.os.take i).flatMap oParts).length
theorem pRows_len (p : Prog) (i : Nat) : (pRows p i).length = pLen p i := by simp [pRows, pLen]
theorem pRows_succ {p : Prog} {i : Nat} {o : Of_} (h : p.os[i]? = some o) : pRows p (i + 1) = pRows p i ++ (oParts o).map Part.row := by
 simp [pRows, List.take_add_one, h, List.flatMap_append]
theorem pLen_succ {p : Prog} {i : Nat} {o : Of_} (h : p.os[i]? = some o) : pLen p (i + 1) = pLen p i + (oParts o).length := by
 rw [← pRows_len, ← pRows_len, pRows_succ h]; simp
set_option maxHeartbeats 2000000 in
theorem p46 (p : Prog) (h1 : p.hs.length ≤ 100) (h2 : p.os.length ≤ 100) : Pure Try.prog 46 [p.av] (.vs 3 ((partsP p).map Part.row)) := by
 have hL : ∀ i, pLen p i ≤ 300 := fun i => by
  have := oParts_len (p.os.take i)
  simp only [pLen]
  have : (p.os.take i).length ≤ p.os.length := by simp; omega
  omega
 refine pure_intro mo Try.func46 c46 fun H => ?_
 unfold e46 r46
 simp only [initEnv, initFrom]
 repeat' first|(apply Sp.go;·constructor<;>first|exact ss|(change _=_;first|(simp only[go_sem,Nat.reduceBEq,Nat.reduceAdd,Nat.reduceLeDiff,reduceIte]<;>rfl)|rfl)|exact Nat.le_of_ble_eq_true rfl|decide|(repeat' first|(apply Lk.go;constructor)|assumption|exact nb ‹_› ‹_›|exact nt ‹_› ‹_›))|(intro b hb;repeat first|(refine fe hb ?_;intro _ _ hb)|(refine fT hb ?_;intro hb))|refine rt ?_|refine gA rfl ?_|refine gB rfl ?_|apply cT rfl|apply cF rfl|(apply DM.gbT;rfl)|(apply DM.gbF;rfl)|intro h
 rename Nat => b1
 have hsub0 : HSub H (H.setB b1 41 p.cells) := HSub.setB (HSub.refl _) hb
 apply R.AM.ghostO 3 138 3 (by decide)
 ·simp only [Env.get, Nat.reduceBEq, cond_true, cond_false, beq_self_eq_true]
 intro tv htv
 have htv2 : H.tok tv = none := freshT_setB htv
 have hbp : (H.setB b1 41 p.cells).blk b1 = some (41, p.cells) := g_same
 generalize H.setB b1 41 p.cells = G at htv hsub0 hbp ⊢
 repeat' first|(apply Sp.go;·constructor<;>first|exact ss|(change _=_;first|(simp only[go_sem,Nat.reduceBEq,Nat.reduceAdd,Nat.reduceLeDiff,reduceIte]<;>rfl)|rfl)|exact Nat.le_of_ble_eq_true rfl|decide|(repeat' first|(apply Lk.go;constructor)|assumption|exact nb ‹_› ‹_›|exact nt ‹_› ‹_›))|(intro b hb;repeat first|(refine fe hb ?_;intro _ _ hb)|(refine fT hb ?_;intro hb))|refine rt ?_|refine gA rfl ?_|refine gB rfl ?_|apply cT rfl|apply cF rfl|(apply DM.gbT;rfl)|(apply DM.gbF;rfl)|intro h
 refine AM.loopX (X := Nat) 0 (fun i => [(1, .ptr b1 0), (9, .vs 3 (p.hs.map Hd.row)), (10, .int .i64 p.hs.length), (11, .int .i64 i), (3, .own tv 3 (((p.hs.take i).map hPart).map Part.row))]) (fun i H' => H' = G.setT tv (.frz 138 3 i) ∧ i ≤ p.hs.length) (fun i => p.hs.length - i) ⟨rfl, by omega⟩ ?_ ?_
 ·refine envle_cons ?_ (envle_cons ?_ (envle_cons ?_ ?_))
  ·simp only [Env.get, Nat.reduceBEq, cond_true, cond_false, beq_self_eq_true]; exact AVLe.refl _
  ·simp only [Env.get, Nat.reduceBEq, cond_true, cond_false, beq_self_eq_true]; exact AVLe.refl _
  ·simp only [Env.get, Nat.reduceBEq, cond_true, cond_false, beq_self_eq_true]; exact avle_int (by simp)
  (repeat first | exact envle_nil _ | (refine envle_cons ?_ ?_; · (simp only [go_sem, Nat.reduceBEq, Nat.reduceAdd]; exact AVLe.refl _)))
 ·intro i H' ⟨e, hi⟩
  subst e
  have hl0 : (((p.hs.take i).map hPart).map Part.row).length = i := by simp; omega
  repeat' first|(apply Sp.go;·constructor<;>first|exact ss|(change _=_;first|(simp only[go_sem,Nat.reduceBEq,Nat.reduceAdd,Nat.reduceLeDiff,reduceIte]<;>rfl)|rfl)|exact Nat.le_of_ble_eq_true rfl|decide|(repeat' first|(apply Lk.go;constructor)|assumption|exact nb ‹_› ‹_›|exact nt ‹_› ‹_›))|(intro b hb;repeat first|(refine fe hb ?_;intro _ _ hb)|(refine fT hb ?_;intro hb))|refine rt ?_|refine gA rfl ?_|refine gB rfl ?_|apply cT rfl|apply cF rfl|(apply DM.gbT;rfl)|(apply DM.gbF;rfl)|intro h
  (apply AM.cond; (· rfl))
  ·intro h3
   simp at h3
   obtain ⟨v, hv⟩ := some_of h3
   repeat' first|(apply Sp.go;·constructor<;>first|exact ss|(change _=_;first|(simp only[go_sem,Nat.reduceBEq,Nat.reduceAdd,Nat.reduceLeDiff,reduceIte]<;>rfl)|rfl)|exact Nat.le_of_ble_eq_true rfl|decide|(repeat' first|(apply Lk.go;constructor)|assumption|exact nb ‹_› ‹_›|exact nt ‹_› ‹_›))|(intro b hb;repeat first|(refine fe hb ?_;intro _ _ hb)|(refine fT hb ?_;intro hb))|refine rt ?_|refine gA rfl ?_|refine gB rfl ?_|apply cT rfl|apply cF rfl|(apply DM.gbT;rfl)|(apply DM.gbF;rfl)|(apply DM.ixV (row := v.row) (z := (i : Int)) (by omega) (row_get Hd.row hv); (· rfl); (· rfl))|intro h
   apply DM.apOr
   ·simp only [EOpd.ev, Env.get, Nat.reduceBEq, cond_true, cond_false, beq_self_eq_true] <;> rfl
   ·(· repeat' first|(apply Lk.go;constructor)|assumption|exact nb ‹_› ‹_›|exact nt ‹_› ‹_›|(apply Lm.go;constructor))
   ·exact hl0
   ·simp only [rowsOf, if_true, eq_self, EOpd.ev, Env.get, Nat.reduceBEq, cond_true, cond_false, beq_self_eq_true] <;> rfl
   ·simp only [List.length_cons, List.length_nil]; omega
   ·simp only [List.length_cons, List.length_nil, maxLen]; omega
   repeat' first|(apply Sp.go;·constructor<;>first|exact ss|(change _=_;first|(simp only[go_sem,Nat.reduceBEq,Nat.reduceAdd,Nat.reduceLeDiff,reduceIte]<;>rfl)|rfl)|exact Nat.le_of_ble_eq_true rfl|decide|(repeat' first|(apply Lk.go;constructor)|assumption|exact nb ‹_› ‹_›|exact nt ‹_› ‹_›))|(intro b hb;repeat first|(refine fe hb ?_;intro _ _ hb)|(refine fT hb ?_;intro hb))|refine rt ?_|refine gA rfl ?_|refine gB rfl ?_|apply cT rfl|apply cF rfl|(apply DM.gbT;rfl)|(apply DM.gbF;rfl)|intro h
   refine AM.forget (G.setT tv (.frz 138 3 (i + 1))) ?_ ?_
   ·refine R.hsub_tok2 ?_ ?_ ?_
    ·intro b x hx
     (· repeat' first|(apply Lk.go;constructor)|assumption|exact nb ‹_› ‹_›|exact nt ‹_› ‹_›)
    ·intro t' x hn hx
     (· repeat' first|(apply Lk.go;constructor)|assumption|exact nb ‹_› ‹_›|exact nt ‹_› ‹_›|(apply Lm.go;constructor))
    ·(· repeat' first|(apply Lk.go;constructor)|assumption|exact nb ‹_› ‹_›|exact nt ‹_› ‹_›|(apply Lm.go;constructor))
   refine AM.roundX (i + 1) ⟨rfl, by omega⟩ ?_ ?_
   ·(repeat first | exact envle_nil _ | (refine envle_cons ?_ ?_; · (simp only [go_sem, Nat.reduceBEq, Nat.reduceAdd]; exact AVLe.refl _)))
    refine envle_cons ?_ ?_
    ·simp only [go_sem, Nat.reduceBEq, Nat.reduceAdd]
     refine avle_int ?_
     rw [inc64 h3 (by unfold maxLen; omega)]
    refine envle_cons ?_ (envle_nil _)
    simp only [Env.get, Nat.reduceBEq, cond_true, cond_false, beq_self_eq_true]
    rw [List.take_add_one, hv]
    refine avle_eq ?_
    simp [hPart]
   ·show p.hs.length - (i + 1) < p.hs.length - i
    omega
  ·intro h3
   simp at h3
   have : i = p.hs.length := by omega
   subst this
   have hbp2 : (G.setT tv (.frz 138 3 p.hs.length)).blk b1 = some (41, p.cells) := g_T hbp
   repeat' first|(apply Sp.go;·constructor<;>first|exact ss|(change _=_;first|(simp only[go_sem,Nat.reduceBEq,Nat.reduceAdd,Nat.reduceLeDiff,reduceIte]<;>rfl)|rfl)|exact Nat.le_of_ble_eq_true rfl|decide|(repeat' first|(apply Lk.go;constructor)|assumption|exact nb ‹_› ‹_›|exact nt ‹_› ‹_›))|(intro b hb;repeat first|(refine fe hb ?_;intro _ _ hb)|(refine fT hb ?_;intro hb))|refine rt ?_|refine gA rfl ?_|refine gB rfl ?_|apply cT rfl|apply cF rfl|(apply DM.gbT;rfl)|(apply DM.gbF;rfl)|intro h
   refine AM.loopX (X := Nat) 0 (fun i => [(25, .vs 4 (p.os.map Of_.row)), (26, .int .i64 p.os.length), (27, .int .i64 i), (3, .own tv 3 (pRows p i))]) (fun i H' => H' = G.setT tv (.frz 138 3 (pLen p i)) ∧ i ≤ p.os.length) (fun i => p.os.length - i) ⟨rfl, by omega⟩ ?_ ?_
   ·refine envle_cons ?_ (envle_cons ?_ (envle_cons ?_ (envle_cons ?_ (envle_nil _))))
    ·simp only [Env.get, Nat.reduceBEq, cond_true, cond_false, beq_self_eq_true]; exact AVLe.refl _
    ·simp only [Env.get, Nat.reduceBEq, cond_true, cond_false, beq_self_eq_true]; exact avle_int (by simp)
    ·simp only [Env.get, Nat.reduceBEq, cond_true, cond_false, beq_self_eq_true]; exact AVLe.refl _
    ·simp only [Env.get, Nat.reduceBEq, cond_true, cond_false, beq_self_eq_true]
     rw [List.take_length]
     exact avle_eq (by simp [pRows])
   ·intro i H' ⟨e, hi⟩
    subst e
    have hl1 := pRows_len p i
    have hLi := hL i
    repeat' first|(apply Sp.go;·constructor<;>first|exact ss|(change _=_;first|(simp only[go_sem,Nat.reduceBEq,Nat.reduceAdd,Nat.reduceLeDiff,reduceIte]<;>rfl)|rfl)|exact Nat.le_of_ble_eq_true rfl|decide|(repeat' first|(apply Lk.go;constructor)|assumption|exact nb ‹_› ‹_›|exact nt ‹_› ‹_›))|(intro b hb;repeat first|(refine fe hb ?_;intro _ _ hb)|(refine fT hb ?_;intro hb))|refine rt ?_|refine gA rfl ?_|refine gB rfl ?_|apply cT rfl|apply cF rfl|(apply DM.gbT;rfl)|(apply DM.gbF;rfl)|intro h
    (apply AM.cond; (· rfl))
    ·intro h3
     simp at h3
     obtain ⟨v, hv⟩ := some_of h3
     have e1 := pRows_succ hv
     have e2 := pLen_succ hv
     repeat' first|(apply Sp.go;·constructor<;>first|exact ss|(change _=_;first|(simp only[go_sem,Nat.reduceBEq,Nat.reduceAdd,Nat.reduceLeDiff,reduceIte]<;>rfl)|rfl)|exact Nat.le_of_ble_eq_true rfl|decide|(repeat' first|(apply Lk.go;constructor)|assumption|exact nb ‹_› ‹_›|exact nt ‹_› ‹_›))|(intro b hb;repeat first|(refine fe hb ?_;intro _ _ hb)|(refine fT hb ?_;intro hb))|refine rt ?_|refine gA rfl ?_|refine gB rfl ?_|apply cT rfl|apply cF rfl|(apply DM.gbT;rfl)|(apply DM.gbF;rfl)|(apply DM.ixV (row := v.row) (z := (i : Int)) (by omega) (row_get Of_.row hv); (· rfl); (· rfl))|intro h
     (apply AM.cond; (· rfl))
     ·intro h4
      simp at h4
      have eo : oParts v = [⟨v.cond, v.label, 1⟩, ⟨v.args, v.label, 2⟩] := by simp [oParts, h4]
      rw [eo] at e1 e2
      repeat' first|(apply Sp.go;·constructor<;>first|exact ss|(change _=_;first|(simp only[go_sem,Nat.reduceBEq,Nat.reduceAdd,Nat.reduceLeDiff,reduceIte]<;>rfl)|rfl)|exact Nat.le_of_ble_eq_true rfl|decide|(repeat' first|(apply Lk.go;constructor)|assumption|exact nb ‹_› ‹_›|exact nt ‹_› ‹_›))|(intro b hb;repeat first|(refine fe hb ?_;intro _ _ hb)|(refine fT hb ?_;intro hb))|refine rt ?_|refine gA rfl ?_|refine gB rfl ?_|apply cT rfl|apply cF rfl|(apply DM.gbT;rfl)|(apply DM.gbF;rfl)|intro h
      apply DM.apOr
      ·simp only [EOpd.ev, Env.get, Nat.reduceBEq, cond_true, cond_false, beq_self_eq_true] <;> rfl
      ·(· repeat' first|(apply Lk.go;constructor)|assumption|exact nb ‹_› ‹_›|exact nt ‹_› ‹_›|(apply Lm.go;constructor))
      ·exact hl1
      ·simp only [rowsOf, if_true, eq_self, EOpd.ev, Env.get, Nat.reduceBEq, cond_true, cond_false, beq_self_eq_true] <;> rfl
      ·simp only [List.length_cons, List.length_nil]; omega
      ·simp only [List.length_cons, List.length_nil, maxLen]; omega
      repeat' first|(apply Sp.go;·constructor<;>first|exact ss|(change _=_;first|(simp only[go_sem,Nat.reduceBEq,Nat.reduceAdd,Nat.reduceLeDiff,reduceIte]<;>rfl)|rfl)|exact Nat.le_of_ble_eq_true rfl|decide|(repeat' first|(apply Lk.go;constructor)|assumption|exact nb ‹_› ‹_›|exact nt ‹_› ‹_›))|(intro b hb;repeat first|(refine fe hb ?_;intro _ _ hb)|(refine fT hb ?_;intro hb))|refine rt ?_|refine gA rfl ?_|refine gB rfl ?_|apply cT rfl|apply cF rfl|(apply DM.gbT;rfl)|(apply DM.gbF;rfl)|intro h
      apply DM.apOr
      ·simp only [EOpd.ev, Env.get, Nat.reduceBEq, cond_true, cond_false, beq_self_eq_true] <;> rfl
      ·(· repeat' first|(apply Lk.go;constructor)|assumption|exact nb ‹_› ‹_›|exact nt ‹_› ‹_›|(apply Lm.go;constructor))
      ·rw [List.length_append, hl1]
      ·simp only [rowsOf, if_true, eq_self, EOpd.ev, Env.get, Nat.reduceBEq, cond_true, cond_false, beq_self_eq_true] <;> rfl
      ·simp only [List.length_cons, List.length_nil]; omega
      ·simp only [List.length_cons, List.length_nil, maxLen]; omega
      repeat' first|(apply Sp.go;·constructor<;>first|exact ss|(change _=_;first|(simp only[go_sem,Nat.reduceBEq,Nat.reduceAdd,Nat.reduceLeDiff,reduceIte]<;>rfl)|rfl)|exact Nat.le_of_ble_eq_true rfl|decide|(repeat' first|(apply Lk.go;constructor)|assumption|exact nb ‹_› ‹_›|exact nt ‹_› ‹_›))|(intro b hb;repeat first|(refine fe hb ?_;intro _ _ hb)|(refine fT hb ?_;intro hb))|refine rt ?_|refine gA rfl ?_|refine gB rfl ?_|apply cT rfl|apply cF rfl|(apply DM.gbT;rfl)|(apply DM.gbF;rfl)|intro h
      refine AM.forget (G.setT tv (.frz 138 3 (pLen p (i + 1)))) ?_ ?_
      ·refine R.hsub_tok2 ?_ ?_ ?_
       ·intro b x hx
        (· repeat' first|(apply Lk.go;constructor)|assumption|exact nb ‹_› ‹_›|exact nt ‹_› ‹_›)
       ·intro t' x hn hx
        (· repeat' first|(apply Lk.go;constructor)|assumption|exact nb ‹_› ‹_›|exact nt ‹_› ‹_›|(apply Lm.go;constructor))
       ·rw [e2]
        (· repeat' first|(apply Lk.go;constructor)|assumption|exact nb ‹_› ‹_›|exact nt ‹_› ‹_›|(apply Lm.go;constructor))
      refine AM.roundX (i + 1) ⟨rfl, by omega⟩ ?_ ?_
      ·(repeat first | exact envle_nil _ | (refine envle_cons ?_ ?_; · (simp only [go_sem, Nat.reduceBEq, Nat.reduceAdd]; exact AVLe.refl _)))
       refine envle_cons ?_ ?_
       ·simp only [go_sem, Nat.reduceBEq, Nat.reduceAdd]
        refine avle_int ?_
        rw [inc64 h3 (by unfold maxLen; omega)]
       refine envle_cons ?_ (envle_nil _)
       simp only [Env.get, Nat.reduceBEq, cond_true, cond_false, beq_self_eq_true]
       rw [e1]
       refine avle_eq ?_
       simp
      ·show p.os.length - (i + 1) < p.os.length - i
       omega
     ·intro h4
      simp at h4
      have eo : oParts v = [⟨v.args, v.label, 2⟩] := by simp [oParts, h4]
      rw [eo] at e1 e2
      repeat' first|(apply Sp.go;·constructor<;>first|exact ss|(change _=_;first|(simp only[go_sem,Nat.reduceBEq,Nat.reduceAdd,Nat.reduceLeDiff,reduceIte]<;>rfl)|rfl)|exact Nat.le_of_ble_eq_true rfl|decide|(repeat' first|(apply Lk.go;constructor)|assumption|exact nb ‹_› ‹_›|exact nt ‹_› ‹_›))|(intro b hb;repeat first|(refine fe hb ?_;intro _ _ hb)|(refine fT hb ?_;intro hb))|refine rt ?_|refine gA rfl ?_|refine gB rfl ?_|apply cT rfl|apply cF rfl|(apply DM.gbT;rfl)|(apply DM.gbF;rfl)|intro h
      apply DM.apOr
      ·simp only [EOpd.ev, Env.get, Nat.reduceBEq, cond_true, cond_false, beq_self_eq_true] <;> rfl
      ·(· repeat' first|(apply Lk.go;constructor)|assumption|exact nb ‹_› ‹_›|exact nt ‹_› ‹_›|(apply Lm.go;constructor))
      ·exact hl1
      ·simp only [rowsOf, if_true, eq_self, EOpd.ev, Env.get, Nat.reduceBEq, cond_true, cond_false, beq_self_eq_true] <;> rfl
      ·simp only [List.length_cons, List.length_nil]; omega
      ·simp only [List.length_cons, List.length_nil, maxLen]; omega
      repeat' first|(apply Sp.go;·constructor<;>first|exact ss|(change _=_;first|(simp only[go_sem,Nat.reduceBEq,Nat.reduceAdd,Nat.reduceLeDiff,reduceIte]<;>rfl)|rfl)|exact Nat.le_of_ble_eq_true rfl|decide|(repeat' first|(apply Lk.go;constructor)|assumption|exact nb ‹_› ‹_›|exact nt ‹_› ‹_›))|(intro b hb;repeat first|(refine fe hb ?_;intro _ _ hb)|(refine fT hb ?_;intro hb))|refine rt ?_|refine gA rfl ?_|refine gB rfl ?_|apply cT rfl|apply cF rfl|(apply DM.gbT;rfl)|(apply DM.gbF;rfl)|intro h
      refine AM.forget (G.setT tv (.frz 138 3 (pLen p (i + 1)))) ?_ ?_
      ·refine R.hsub_tok2 ?_ ?_ ?_
       ·intro b x hx
        (· repeat' first|(apply Lk.go;constructor)|assumption|exact nb ‹_› ‹_›|exact nt ‹_› ‹_›)
       ·intro t' x hn hx
        (· repeat' first|(apply Lk.go;constructor)|assumption|exact nb ‹_› ‹_›|exact nt ‹_› ‹_›|(apply Lm.go;constructor))
       ·rw [e2]
        (· repeat' first|(apply Lk.go;constructor)|assumption|exact nb ‹_› ‹_›|exact nt ‹_› ‹_›|(apply Lm.go;constructor))
      refine AM.roundX (i + 1) ⟨rfl, by omega⟩ ?_ ?_
      ·(repeat first | exact envle_nil _ | (refine envle_cons ?_ ?_; · (simp only [go_sem, Nat.reduceBEq, Nat.reduceAdd]; exact AVLe.refl _)))
       refine envle_cons ?_ ?_
       ·simp only [go_sem, Nat.reduceBEq, Nat.reduceAdd]
        refine avle_int ?_
        rw [inc64 h3 (by unfold maxLen; omega)]
       refine envle_cons ?_ (envle_nil _)
       simp only [Env.get, Nat.reduceBEq, cond_true, cond_false, beq_self_eq_true]
       rw [e1]
       refine avle_eq ?_
       simp
      ·show p.os.length - (i + 1) < p.os.length - i
       omega
    ·intro h3
     simp at h3
     have : i = p.os.length := by omega
     subst this
     repeat' first|(apply Sp.go;·constructor<;>first|exact ss|(change _=_;first|(simp only[go_sem,Nat.reduceBEq,Nat.reduceAdd,Nat.reduceLeDiff,reduceIte]<;>rfl)|rfl)|exact Nat.le_of_ble_eq_true rfl|decide|(repeat' first|(apply Lk.go;constructor)|assumption|exact nb ‹_› ‹_›|exact nt ‹_› ‹_›))|(intro b hb;repeat first|(refine fe hb ?_;intro _ _ hb)|(refine fT hb ?_;intro hb))|refine rt ?_|refine gA rfl ?_|refine gB rfl ?_|apply cT rfl|apply cF rfl|(apply DM.gbT;rfl)|(apply DM.gbF;rfl)|intro h
     (apply Sr.go;·constructor<;>first|(apply Lk.go;constructor<;>first|exact ss|(change _=_;first|(simp only[go_sem,Nat.reduceBEq,Nat.reduceAdd,Nat.reduceLeDiff,reduceIte]<;>rfl)|rfl)|exact Nat.le_of_ble_eq_true rfl|decide|(repeat' first|(apply Lk.go;constructor)|assumption|exact nb ‹_› ‹_›|exact nt ‹_› ‹_›))|assumption)
     simp only [pRows, List.take_length]
     exact AVLe.own
structure PartOk (p : Prog) (x : Part) : Prop where
 lab : 0 ≤ x.label ∧ x.label ≤ 39
 at_ : 0 ≤ x.at_ ∧ x.at_ < p.code.length
 kind : x.kind = 0 ∨ x.kind = 1 ∨ x.kind = 2
theorem parts_ok {p : Prog} (hv : validP p = true) : (p.hs.length ≤ 40 ∧ p.os.length ≤ 40) ∧ ∀ x ∈ partsP p, PartOk p x := by
 simp only [validP, partsOk, Bool.and_eq_true, decide_eq_true_eq] at hv
 obtain ⟨⟨⟨_, _⟩, ⟨⟨h1, h2⟩, h3⟩, h4⟩, _⟩ := hv
 refine ⟨⟨h3, h4⟩, fun x hx => ?_⟩
 simp only [allI, List.all_eq_true, List.mem_range] at h1 h2
 rcases List.mem_append.1 hx with hx | hx
 ·obtain ⟨h, hm, rfl⟩ := List.mem_map.1 hx
  obtain ⟨i, hi⟩ := List.getElem?_of_mem hm
  have := h1 i (List.getElem?_eq_some_iff.1 hi).1
  simp [okHd, hi, Prog.party, Prog.target, inB] at this
  exact ⟨by simp [hPart]; omega, by simp [hPart]; omega, .inl rfl⟩
 ·obtain ⟨o, hm, hx⟩ := List.mem_flatMap.1 hx
  obtain ⟨i, hi⟩ := List.getElem?_of_mem hm
  have := h2 i (List.getElem?_eq_some_iff.1 hi).1
  simp [okOf, hi, Prog.party, Prog.target, inB] at this
  unfold oParts at hx
  rcases List.mem_append.1 hx with hx | hx
  ·by_cases hc : o.cond = -1
   ·simp [hc] at hx
   ·simp [hc] at hx
    subst hx
    exact ⟨by simp; omega, by simp; omega, .inr (.inl rfl)⟩
  ·simp at hx
   subst hx
   exact ⟨by simp; omega, by simp; omega, .inr (.inr rfl)⟩
def kindsL (ds : List Decl_) (label : Int) : List Int := ((ds[label.toNat]?).map kindsD).getD []
def psOf (ds : List Decl_) (x : Part) : List Int := if x.kind = 0 then kindsL ds x.label else []
def rsOf (ds : List Decl_) (x : Part) : List Int := if x.kind = 0 then [] else if x.kind = 1 then [1] else kindsL ds x.label
def checkF (p : Prog) (ds : List Decl_) : List Part → Int × Int
 | [] => (0, 0)
 | x :: l => if (ds.length : Int) ≤ x.label then (x.at_, 10)
  else if (costP p x.at_ (psOf ds x) (rsOf ds x)).2.2 ≠ 0 then ((costP p x.at_ (psOf ds x) (rsOf ds x)).2.1, (costP p x.at_ (psOf ds x) (rsOf ds x)).2.2)
  else if 5000 < (costP p x.at_ (psOf ds x) (rsOf ds x)).1 then (x.at_, 6) else checkF p ds l
def checkP (p : Prog) (ds : List Decl_) : Int × Int := if validP p = false then (0, 1) else checkF p ds (partsP p)
theorem kindsL_len {ds : List Decl_} (hd : ∀ d ∈ ds, d.fields.length ≤ 1000) (n : Int) : (kindsL ds n).length ≤ 1000 := by
 unfold kindsL
 cases h : ds[n.toNat]? with
 | none => simp
 | some d => simp [kindsD]; exact hd d (List.mem_of_getElem? h)
set_option maxHeartbeats 4000000 in
theorem p21 (p : Prog) (ds : List Decl_) (hd : ∀ d ∈ ds, d.fields.length ≤ 1000) : Pure Try.prog 21 [p.av, .vs 5 (ds.map Decl_.row)] (.tup [.int .i64 (checkP p ds).1, .int .i64 (checkP p ds).2]) := by
 refine pure_intro mo Try.func21 c21 fun H => ?_
 unfold e21 r21
 simp only [initEnv, initFrom]
 repeat' first|(apply Sp.go;·constructor<;>first|exact ss|(change _=_;first|(simp only[go_sem,Nat.reduceBEq,Nat.reduceAdd,Nat.reduceLeDiff,reduceIte]<;>rfl)|rfl)|exact Nat.le_of_ble_eq_true rfl|decide|(repeat' first|(apply Lk.go;constructor)|assumption|exact nb ‹_› ‹_›|exact nt ‹_› ‹_›))|(intro b hb;repeat first|(refine fe hb ?_;intro _ _ hb)|(refine fT hb ?_;intro hb))|refine rt ?_|refine gA rfl ?_|refine gB rfl ?_|apply cT rfl|apply cF rfl|(apply DM.gbT;rfl)|(apply DM.gbF;rfl)|intro h
 rename Nat => b2
 (apply DM.pcs (p43 p); (· simp only [go_sem, Nat.reduceBEq, Nat.reduceAdd] <;> rfl); (· exact AVLes.refl _))
 repeat' first|(apply Sp.go;·constructor<;>first|exact ss|(change _=_;first|(simp only[go_sem,Nat.reduceBEq,Nat.reduceAdd,Nat.reduceLeDiff,reduceIte]<;>rfl)|rfl)|exact Nat.le_of_ble_eq_true rfl|decide|(repeat' first|(apply Lk.go;constructor)|assumption|exact nb ‹_› ‹_›|exact nt ‹_› ‹_›))|(intro b hb;repeat first|(refine fe hb ?_;intro _ _ hb)|(refine fT hb ?_;intro hb))|refine rt ?_|refine gA rfl ?_|refine gB rfl ?_|apply cT rfl|apply cF rfl|(apply DM.gbT;rfl)|(apply DM.gbF;rfl)|intro h
 (apply AM.cond; (· rfl))
 ·intro h
  have hv : validP p = false := by simpa using h
  rw [show checkP p ds = (0, 1) by simp [checkP, hv]]
  repeat' first|(apply Sp.go;·constructor<;>first|exact ss|(change _=_;first|(simp only[go_sem,Nat.reduceBEq,Nat.reduceAdd,Nat.reduceLeDiff,reduceIte]<;>rfl)|rfl)|exact Nat.le_of_ble_eq_true rfl|decide|(repeat' first|(apply Lk.go;constructor)|assumption|exact nb ‹_› ‹_›|exact nt ‹_› ‹_›))|(intro b hb;repeat first|(refine fe hb ?_;intro _ _ hb)|(refine fT hb ?_;intro hb))|refine rt ?_|refine gA rfl ?_|refine gB rfl ?_|apply cT rfl|apply cF rfl|(apply DM.gbT;rfl)|(apply DM.gbF;rfl)|intro h
  (apply Sr.go;·constructor<;>first|(apply Lk.go;constructor<;>first|exact ss|(change _=_;first|(simp only[go_sem,Nat.reduceBEq,Nat.reduceAdd,Nat.reduceLeDiff,reduceIte]<;>rfl)|rfl)|exact Nat.le_of_ble_eq_true rfl|decide|(repeat' first|(apply Lk.go;constructor)|assumption|exact nb ‹_› ‹_›|exact nt ‹_› ‹_›))|assumption)
  exact AVLe.refl _
 ·intro h
  have hv : validP p = true := by simpa using h
  rw [show checkP p ds = checkF p ds (partsP p) by simp [checkP, hv]]
  obtain ⟨⟨hh, ho⟩, hpo⟩ := parts_ok hv
  have c46 := p46 p (by omega) (by omega)
  repeat' first|(apply Sp.go;·constructor<;>first|exact ss|(change _=_;first|(simp only[go_sem,Nat.reduceBEq,Nat.reduceAdd,Nat.reduceLeDiff,reduceIte]<;>rfl)|rfl)|exact Nat.le_of_ble_eq_true rfl|decide|(repeat' first|(apply Lk.go;constructor)|assumption|exact nb ‹_› ‹_›|exact nt ‹_› ‹_›))|(intro b hb;repeat first|(refine fe hb ?_;intro _ _ hb)|(refine fT hb ?_;intro hb))|refine rt ?_|refine gA rfl ?_|refine gB rfl ?_|apply cT rfl|apply cF rfl|(apply DM.gbT;rfl)|(apply DM.gbF;rfl)|intro h
  (apply DM.pcs (c46); (· simp only [go_sem, Nat.reduceBEq, Nat.reduceAdd] <;> rfl); (· exact AVLes.refl _))
  have hpl : (partsP p).length ≤ 120 := by
   have := oParts_len p.os
   simp only [partsP, List.length_append, List.length_map]; omega
  generalize partsP p = PS at *
  have hsub0 : HSub H (H.setB b2 41 p.cells) := HSub.setB (HSub.refl _) hb
  have hbp : (H.setB b2 41 p.cells).blk b2 = some (41, p.cells) := g_same
  generalize H.setB b2 41 p.cells = G at hsub0 hbp ⊢
  repeat' first|(apply Sp.go;·constructor<;>first|exact ss|(change _=_;first|(simp only[go_sem,Nat.reduceBEq,Nat.reduceAdd,Nat.reduceLeDiff,reduceIte]<;>rfl)|rfl)|exact Nat.le_of_ble_eq_true rfl|decide|(repeat' first|(apply Lk.go;constructor)|assumption|exact nb ‹_› ‹_›|exact nt ‹_› ‹_›))|(intro b hb;repeat first|(refine fe hb ?_;intro _ _ hb)|(refine fT hb ?_;intro hb))|refine rt ?_|refine gA rfl ?_|refine gB rfl ?_|apply cT rfl|apply cF rfl|(apply DM.gbT;rfl)|(apply DM.gbF;rfl)|intro h
  refine AM.loopX (X := Nat) 0 (fun i => [(1, .vs 5 (ds.map Decl_.row)), (2, .ptr b2 0), (17, .vs 3 (PS.map Part.row)), (18, .int .i64 PS.length), (19, .int .i64 i)]) (fun i H' => H' = G ∧ i ≤ PS.length ∧ checkF p ds PS = checkF p ds (PS.drop i)) (fun i => PS.length - i) ⟨rfl, by omega, rfl⟩ ?_ ?_
  ·refine envle_cons ?_ (envle_cons ?_ (envle_cons ?_ (envle_cons ?_ (envle_cons ?_ (envle_nil _)))))
   ·simp only [Env.get, Nat.reduceBEq, cond_true, cond_false, beq_self_eq_true]; exact AVLe.refl _
   ·simp only [Env.get, Nat.reduceBEq, cond_true, cond_false, beq_self_eq_true]; exact AVLe.refl _
   ·simp only [Env.get, Nat.reduceBEq, cond_true, cond_false, beq_self_eq_true]; exact AVLe.refl _
   ·simp only [Env.get, Nat.reduceBEq, cond_true, cond_false, beq_self_eq_true]; exact avle_int (by simp)
   ·simp only [Env.get, Nat.reduceBEq, cond_true, cond_false, beq_self_eq_true]; exact AVLe.refl _
  ·intro i H' ⟨e, hi, he⟩
   subst e
   repeat' first|(apply Sp.go;·constructor<;>first|exact ss|(change _=_;first|(simp only[go_sem,Nat.reduceBEq,Nat.reduceAdd,Nat.reduceLeDiff,reduceIte]<;>rfl)|rfl)|exact Nat.le_of_ble_eq_true rfl|decide|(repeat' first|(apply Lk.go;constructor)|assumption|exact nb ‹_› ‹_›|exact nt ‹_› ‹_›))|(intro b hb;repeat first|(refine fe hb ?_;intro _ _ hb)|(refine fT hb ?_;intro hb))|refine rt ?_|refine gA rfl ?_|refine gB rfl ?_|apply cT rfl|apply cF rfl|(apply DM.gbT;rfl)|(apply DM.gbF;rfl)|intro h
   (apply AM.cond; (· rfl))
   ·intro h3
    simp at h3
    obtain ⟨x, hx⟩ := some_of h3
    have hxo := hpo x (List.mem_of_getElem? hx)
    rw [drop_of hx, checkF] at he
    repeat' first|(apply Sp.go;·constructor<;>first|exact ss|(change _=_;first|(simp only[go_sem,Nat.reduceBEq,Nat.reduceAdd,Nat.reduceLeDiff,reduceIte]<;>rfl)|rfl)|exact Nat.le_of_ble_eq_true rfl|decide|(repeat' first|(apply Lk.go;constructor)|assumption|exact nb ‹_› ‹_›|exact nt ‹_› ‹_›))|(intro b hb;repeat first|(refine fe hb ?_;intro _ _ hb)|(refine fT hb ?_;intro hb))|refine rt ?_|refine gA rfl ?_|refine gB rfl ?_|apply cT rfl|apply cF rfl|(apply DM.gbT;rfl)|(apply DM.gbF;rfl)|(apply DM.ixV (row := x.row) (z := (i : Int)) (by omega) (row_get Part.row hx); (· rfl); (· rfl))|intro h
    rename Nat => b7
    (apply AM.cond; (· rfl))
    ·intro h4
     simp at h4
     repeat' first|(apply Sp.go;·constructor<;>first|exact ss|(change _=_;first|(simp only[go_sem,Nat.reduceBEq,Nat.reduceAdd,Nat.reduceLeDiff,reduceIte]<;>rfl)|rfl)|exact Nat.le_of_ble_eq_true rfl|decide|(repeat' first|(apply Lk.go;constructor)|assumption|exact nb ‹_› ‹_›|exact nt ‹_› ‹_›))|(intro b hb;repeat first|(refine fe hb ?_;intro _ _ hb)|(refine fT hb ?_;intro hb))|refine rt ?_|refine gA rfl ?_|refine gB rfl ?_|apply cT rfl|apply cF rfl|(apply DM.gbT;rfl)|(apply DM.gbF;rfl)|intro h
     rw [he, if_pos h4]
     exact AM.ret (v := .tup [.int .i64 x.at_, .int .i64 10]) rfl ⟨_, rfl, AVLe.refl _, hsub0.trans (HSub.setB (HSub.refl _) hb)⟩
    ·intro h4
     simp at h4
     rw [if_neg (by omega)] at he
     obtain ⟨d, hdd⟩ := some_of (show x.label.toNat < ds.length by have := hxo.lab; omega)
     have hkl : kindsL ds x.label = kindsD d := by simp [kindsL, hdd]
     have hdl := hd d (List.mem_of_getElem? hdd)
     have hG7 : (H'.setB b7 138 x.row).blk b7 = some (138, x.row) := g_same
     have hG2 : (H'.setB b7 138 x.row).blk b2 = some (41, p.cells) := g_fresh hb hbp
     have hGs : HSub H' (H'.setB b7 138 x.row) := HSub.setB (HSub.refl _) hb
     have c17 := p17 p x.at_ (psOf ds x) (rsOf ds x) (by unfold psOf; split; exact kindsL_len hd _; simp)
     have hsub1 := hsub0.trans hGs
     generalize H'.setB b7 138 x.row = H2 at hG7 hG2 hGs hsub1 ⊢
     rcases hxo.kind with hk | hk | hk
     rw [show psOf ds x = kindsD d by simp [psOf, hk, hkl], show rsOf ds x = [] by simp [rsOf, hk]] at *
     repeat' first|(apply Sp.go;·constructor<;>first|exact ss|(change _=_;first|(simp only[go_sem,Nat.reduceBEq,Nat.reduceAdd,Nat.reduceLeDiff,reduceIte]<;>rfl)|rfl)|exact Nat.le_of_ble_eq_true rfl|decide|(repeat' first|(apply Lk.go;constructor)|assumption|exact nb ‹_› ‹_›|exact nt ‹_› ‹_›))|(intro b hb;repeat first|(refine fe hb ?_;intro _ _ hb)|(refine fT hb ?_;intro hb))|refine rt ?_|refine gA rfl ?_|refine gB rfl ?_|apply cT rfl|apply cF rfl|(apply DM.gbT;rfl)|(apply DM.gbF;rfl)|intro h
     simp only [hk]
     repeat' first|(apply Sp.go;·constructor<;>first|exact ss|(change _=_;first|(simp only[go_sem,Nat.reduceBEq,Nat.reduceAdd,Nat.reduceLeDiff,reduceIte]<;>rfl)|rfl)|exact Nat.le_of_ble_eq_true rfl|decide|(repeat' first|(apply Lk.go;constructor)|assumption|exact nb ‹_› ‹_›|exact nt ‹_› ‹_›))|(intro b hb;repeat first|(refine fe hb ?_;intro _ _ hb)|(refine fT hb ?_;intro hb))|refine rt ?_|refine gA rfl ?_|refine gB rfl ?_|apply cT rfl|apply cF rfl|(apply DM.gbT;rfl)|(apply DM.gbF;rfl)|(apply DM.ixV (row := d.row) (z := x.label) hxo.lab.1 (by rw [List.getElem?_map, hdd]; rfl); (· rfl); (· rfl))|(apply DM.pcs (p47 d hdl); (· simp only [go_sem, Nat.reduceBEq, Nat.reduceAdd] <;> rfl); (· exact AVLes.refl _))|intro h
     apply DM.pcs c17
     ·simp only [go_sem, Nat.reduceBEq, Nat.reduceAdd] <;> rfl
     ·exact avles_cons (AVLe.refl _) (avles_cons (AVLe.refl _) (avles_cons (by first | exact AVLe.refl _ | exact AVLe.nil) (avles_cons (by first | exact AVLe.refl _ | exact AVLe.nil) avles_nil)))
     rotate_left
     rw [show psOf ds x = [] by simp [psOf, hk], show rsOf ds x = [1] by simp [rsOf, hk]] at *
     repeat' first|(apply Sp.go;·constructor<;>first|exact ss|(change _=_;first|(simp only[go_sem,Nat.reduceBEq,Nat.reduceAdd,Nat.reduceLeDiff,reduceIte]<;>rfl)|rfl)|exact Nat.le_of_ble_eq_true rfl|decide|(repeat' first|(apply Lk.go;constructor)|assumption|exact nb ‹_› ‹_›|exact nt ‹_› ‹_›))|(intro b hb;repeat first|(refine fe hb ?_;intro _ _ hb)|(refine fT hb ?_;intro hb))|refine rt ?_|refine gA rfl ?_|refine gB rfl ?_|apply cT rfl|apply cF rfl|(apply DM.gbT;rfl)|(apply DM.gbF;rfl)|intro h
     simp only [hk]
     repeat' first|(apply Sp.go;·constructor<;>first|exact ss|(change _=_;first|(simp only[go_sem,Nat.reduceBEq,Nat.reduceAdd,Nat.reduceLeDiff,reduceIte]<;>rfl)|rfl)|exact Nat.le_of_ble_eq_true rfl|decide|(repeat' first|(apply Lk.go;constructor)|assumption|exact nb ‹_› ‹_›|exact nt ‹_› ‹_›))|(intro b hb;repeat first|(refine fe hb ?_;intro _ _ hb)|(refine fT hb ?_;intro hb))|refine rt ?_|refine gA rfl ?_|refine gB rfl ?_|apply cT rfl|apply cF rfl|(apply DM.gbT;rfl)|(apply DM.gbF;rfl)|intro h
     apply DM.pcs c17
     ·simp only [go_sem, Nat.reduceBEq, Nat.reduceAdd] <;> rfl
     ·exact avles_cons (AVLe.refl _) (avles_cons (AVLe.refl _) (avles_cons (by first | exact AVLe.refl _ | exact AVLe.nil) (avles_cons (by first | exact AVLe.refl _ | exact AVLe.nil) avles_nil)))
     rotate_left
     rw [show psOf ds x = [] by simp [psOf, hk], show rsOf ds x = kindsD d by simp [rsOf, hk, hkl]] at *
     repeat' first|(apply Sp.go;·constructor<;>first|exact ss|(change _=_;first|(simp only[go_sem,Nat.reduceBEq,Nat.reduceAdd,Nat.reduceLeDiff,reduceIte]<;>rfl)|rfl)|exact Nat.le_of_ble_eq_true rfl|decide|(repeat' first|(apply Lk.go;constructor)|assumption|exact nb ‹_› ‹_›|exact nt ‹_› ‹_›))|(intro b hb;repeat first|(refine fe hb ?_;intro _ _ hb)|(refine fT hb ?_;intro hb))|refine rt ?_|refine gA rfl ?_|refine gB rfl ?_|apply cT rfl|apply cF rfl|(apply DM.gbT;rfl)|(apply DM.gbF;rfl)|intro h
     simp only [hk]
     repeat' first|(apply Sp.go;·constructor<;>first|exact ss|(change _=_;first|(simp only[go_sem,Nat.reduceBEq,Nat.reduceAdd,Nat.reduceLeDiff,reduceIte]<;>rfl)|rfl)|exact Nat.le_of_ble_eq_true rfl|decide|(repeat' first|(apply Lk.go;constructor)|assumption|exact nb ‹_› ‹_›|exact nt ‹_› ‹_›))|(intro b hb;repeat first|(refine fe hb ?_;intro _ _ hb)|(refine fT hb ?_;intro hb))|refine rt ?_|refine gA rfl ?_|refine gB rfl ?_|apply cT rfl|apply cF rfl|(apply DM.gbT;rfl)|(apply DM.gbF;rfl)|(apply DM.ixV (row := d.row) (z := x.label) hxo.lab.1 (by rw [List.getElem?_map, hdd]; rfl); (· rfl); (· rfl))|(apply DM.pcs (p47 d hdl); (· simp only [go_sem, Nat.reduceBEq, Nat.reduceAdd] <;> rfl); (· exact AVLes.refl _))|intro h
     apply DM.pcs c17
     ·simp only [go_sem, Nat.reduceBEq, Nat.reduceAdd] <;> rfl
     ·exact avles_cons (AVLe.refl _) (avles_cons (AVLe.refl _) (avles_cons (by first | exact AVLe.refl _ | exact AVLe.nil) (avles_cons (by first | exact AVLe.refl _ | exact AVLe.nil) avles_nil)))
     rotate_left
     all_goals
      generalize costP p x.at_ _ _ = c at he ⊢
      repeat' first|(apply Sp.go;·constructor<;>first|exact ss|(change _=_;first|(simp only[go_sem,Nat.reduceBEq,Nat.reduceAdd,Nat.reduceLeDiff,reduceIte]<;>rfl)|rfl)|exact Nat.le_of_ble_eq_true rfl|decide|(repeat' first|(apply Lk.go;constructor)|assumption|exact nb ‹_› ‹_›|exact nt ‹_› ‹_›))|(intro b hb;repeat first|(refine fe hb ?_;intro _ _ hb)|(refine fT hb ?_;intro hb))|refine rt ?_|refine gA rfl ?_|refine gB rfl ?_|apply cT rfl|apply cF rfl|(apply DM.gbT;rfl)|(apply DM.gbF;rfl)|intro h
      by_cases z : c.2.2 = 0
      ·have dz : (!decide (c.2.2 = 0)) = false := by simp [z]
       simp only [dz]
       repeat' first|(apply Sp.go;·constructor<;>first|exact ss|(change _=_;first|(simp only[go_sem,Nat.reduceBEq,Nat.reduceAdd,Nat.reduceLeDiff,reduceIte]<;>rfl)|rfl)|exact Nat.le_of_ble_eq_true rfl|decide|(repeat' first|(apply Lk.go;constructor)|assumption|exact nb ‹_› ‹_›|exact nt ‹_› ‹_›))|(intro b hb;repeat first|(refine fe hb ?_;intro _ _ hb)|(refine fT hb ?_;intro hb))|refine rt ?_|refine gA rfl ?_|refine gB rfl ?_|apply cT rfl|apply cF rfl|(apply DM.gbT;rfl)|(apply DM.gbF;rfl)|intro h
       rw [if_neg (fun h => h z)] at he
       by_cases y : 5000 < c.1
       ·have dy : decide (5000 < c.1) = true := decide_eq_true y
        rw [if_pos y] at he
        simp only [dy]
        repeat' first|(apply Sp.go;·constructor<;>first|exact ss|(change _=_;first|(simp only[go_sem,Nat.reduceBEq,Nat.reduceAdd,Nat.reduceLeDiff,reduceIte]<;>rfl)|rfl)|exact Nat.le_of_ble_eq_true rfl|decide|(repeat' first|(apply Lk.go;constructor)|assumption|exact nb ‹_› ‹_›|exact nt ‹_› ‹_›))|(intro b hb;repeat first|(refine fe hb ?_;intro _ _ hb)|(refine fT hb ?_;intro hb))|refine rt ?_|refine gA rfl ?_|refine gB rfl ?_|apply cT rfl|apply cF rfl|(apply DM.gbT;rfl)|(apply DM.gbF;rfl)|intro h
        rw [he]
        exact AM.ret (v := .tup [.int .i64 x.at_, .int .i64 6]) rfl ⟨_, rfl, AVLe.refl _, hsub1⟩
       ·have dy : decide (5000 < c.1) = false := decide_eq_false y
        rw [if_neg y] at he
        simp only [dy]
        repeat' first|(apply Sp.go;·constructor<;>first|exact ss|(change _=_;first|(simp only[go_sem,Nat.reduceBEq,Nat.reduceAdd,Nat.reduceLeDiff,reduceIte]<;>rfl)|rfl)|exact Nat.le_of_ble_eq_true rfl|decide|(repeat' first|(apply Lk.go;constructor)|assumption|exact nb ‹_› ‹_›|exact nt ‹_› ‹_›))|(intro b hb;repeat first|(refine fe hb ?_;intro _ _ hb)|(refine fT hb ?_;intro hb))|refine rt ?_|refine gA rfl ?_|refine gB rfl ?_|apply cT rfl|apply cF rfl|(apply DM.gbT;rfl)|(apply DM.gbF;rfl)|intro h
        refine AM.forget H' hGs ?_
        refine AM.roundX (i + 1) ⟨rfl, by omega, he⟩ ?_ ?_
        ·(repeat first | exact envle_nil _ | (refine envle_cons ?_ ?_; · (simp only [go_sem, Nat.reduceBEq, Nat.reduceAdd]; exact AVLe.refl _)))
         refine envle_cons ?_ ?_
         ·simp only [go_sem, Nat.reduceBEq, Nat.reduceAdd]
          refine avle_int ?_
          rw [inc64 h3 (by unfold maxLen; omega)]
         exact envle_nil _
        ·show PS.length - (i + 1) < PS.length - i
         omega
      ·have dz : (!decide (c.2.2 = 0)) = true := by simp [z]
       simp only [dz]
       repeat' first|(apply Sp.go;·constructor<;>first|exact ss|(change _=_;first|(simp only[go_sem,Nat.reduceBEq,Nat.reduceAdd,Nat.reduceLeDiff,reduceIte]<;>rfl)|rfl)|exact Nat.le_of_ble_eq_true rfl|decide|(repeat' first|(apply Lk.go;constructor)|assumption|exact nb ‹_› ‹_›|exact nt ‹_› ‹_›))|(intro b hb;repeat first|(refine fe hb ?_;intro _ _ hb)|(refine fT hb ?_;intro hb))|refine rt ?_|refine gA rfl ?_|refine gB rfl ?_|apply cT rfl|apply cF rfl|(apply DM.gbT;rfl)|(apply DM.gbF;rfl)|intro h
       rw [if_pos z] at he
       rw [he]
       exact AM.ret (v := .tup [.int .i64 c.2.1, .int .i64 c.2.2]) rfl ⟨_, rfl, AVLe.refl _, hsub1⟩
   ·intro h3
    simp at h3
    rw [List.drop_eq_nil_of_le h3] at he
    repeat' first|(apply Sp.go;·constructor<;>first|exact ss|(change _=_;first|(simp only[go_sem,Nat.reduceBEq,Nat.reduceAdd,Nat.reduceLeDiff,reduceIte]<;>rfl)|rfl)|exact Nat.le_of_ble_eq_true rfl|decide|(repeat' first|(apply Lk.go;constructor)|assumption|exact nb ‹_› ‹_›|exact nt ‹_› ‹_›))|(intro b hb;repeat first|(refine fe hb ?_;intro _ _ hb)|(refine fT hb ?_;intro hb))|refine rt ?_|refine gA rfl ?_|refine gB rfl ?_|apply cT rfl|apply cF rfl|(apply DM.gbT;rfl)|(apply DM.gbF;rfl)|intro h
    (apply Sr.go;·constructor<;>first|(apply Lk.go;constructor<;>first|exact ss|(change _=_;first|(simp only[go_sem,Nat.reduceBEq,Nat.reduceAdd,Nat.reduceLeDiff,reduceIte]<;>rfl)|rfl)|exact Nat.le_of_ble_eq_true rfl|decide|(repeat' first|(apply Lk.go;constructor)|assumption|exact nb ‹_› ‹_›|exact nt ‹_› ‹_›))|assumption)
    rw [he]
    exact AVLe.refl _
end Go.Aw.T
namespace Go.Aw.T
open Go Go.Aw Go.Proofs Go.RowKit
set_option maxRecDepth 100000
attribute [local irreducible] Go.Aw.DM Go.Aw.AHeap.setB Go.Aw.AHeap.setT
attribute [local go_sem] peval EOpd.ev Env.get binInt binStr binBool buildParts AV.cells AV.okc setRange minmaxAV AV.one AV.ofCells eqCells eqCell bslRows cond_true cond_false beq_self_eq_true Bool.not_true Bool.not_false beq_true beq_false eq_self if_true Option.some.injEq List.length_cons List.length_nil List.take_succ_cons List.take_zero List.drop_succ_cons List.drop_zero List.set_cons_succ List.set_cons_zero List.nil_append List.cons_append List.append_nil and_self Option.map_some List.map_cons List.map_nil Bool.false_eq_true if_false Nat.zero_add Nat.add_zero true_and and_true Bool.and_true Bool.true_and List.getElem?_cons_zero List.getElem?_cons_succ Nat.zero_le Nat.le_refl
set_option linter.unusedSimpArgs false
set_option linter.unusedVariables false
theorem rvC_le {m : Mem} : ∀ {az bs : List AV} {b o : Nat}, AVLes az bs → RvC m az b o → RvC m bs b o
 | [], bs, _, _, h, _ => by simp only [AVLes] at h; subst h; simp only [RvC]
 | a :: az, _, b, o, h, k => by
  obtain ⟨c, cs, rfl, h1, h2⟩ := h
  simp only [RvC] at k ⊢
  obtain ⟨⟨v, g1, g2, g3, g4⟩, g5⟩ := k
  exact ⟨⟨v, g1, g2, g3, h1 _ _ g4⟩, rvC_le h2 g5⟩
theorem avles_len : ∀ {az bs : List AV}, AVLes az bs → bs.length = az.length
 | [], _, h => by simp only [AVLes] at h; subst h; rfl
 | _ :: _, _, h => by obtain ⟨c, cs, rfl, _, h2⟩ := h; simp [avles_len h2]
def AVLr : List (List AV) → List (List AV) → Prop
 | [], l => l = []
 | r :: rs, l => ∃ r' rs', l = r' :: rs' ∧ AVLes r r' ∧ AVLr rs rs'
theorem avlr_nil : AVLr [] [] := rfl
theorem avlr_cons {r r' : List AV} {rs rs' : List (List AV)} (h : AVLes r r') (k : AVLr rs rs') : AVLr (r :: rs) (r' :: rs') := ⟨r', rs', rfl, h, k⟩
theorem avlr_len : ∀ {az bs : List (List AV)}, AVLr az bs → bs.length = az.length
 | [], _, h => by simp only [AVLr] at h; subst h; rfl
 | _ :: _, _, h => by obtain ⟨c, cs, rfl, _, h2⟩ := h; simp [avlr_len h2]
theorem rvR_le {m : Mem} {n : Nat} : ∀ {az bs : List (List AV)} {b o : Nat}, AVLr az bs → RvR m n az b o → RvR m n bs b o
 | [], bs, _, _, h, _ => by simp only [AVLr] at h; subst h; simp only [RvR]
 | a :: az, _, b, o, h, k => by
  obtain ⟨c, cs, rfl, h1, h2⟩ := h
  simp only [RvR] at k ⊢
  exact ⟨(avles_len h1).trans k.1, rvC_le h1 k.2.1, rvR_le h2 k.2.2⟩
theorem avle_vs {n : Nat} {az bs : List (List AV)} (h : AVLr az bs) : AVLe (.vs n az) (.vs n bs) := fun m v k => by
 have e := avlr_len h
 simp only [Rv] at k ⊢
 obtain ⟨a, len, cap, h1, h2, h3, h4⟩ := k
 refine ⟨a, len, cap, h1, h2.trans e.symm, h3, ?_⟩
 rcases h4 with h4 | ⟨b, o, g1, g2⟩
 ·exact .inl (e.trans h4)
 ·exact .inr ⟨b, o, g1, rvR_le h g2⟩
def pA : Prog := ⟨[115], 0, [⟨[110], ⟨1, 0, 9⟩, ⟨1, 0, []⟩⟩], [], [⟨1, 0, -1, 0⟩], [⟨3, 0, []⟩, ⟨24, 0, []⟩]⟩
def qA : Prog := ⟨[115], 0, [⟨[110], ⟨1, 0, 9⟩, ⟨1, 0, []⟩⟩], [], [⟨1, 0, -1, 0⟩], [⟨2, 0, [97]⟩, ⟨11, 0, []⟩, ⟨24, 0, []⟩]⟩
def dsA : List Decl_ := [⟨[109], [⟨[120], ⟨1, 0, 9⟩⟩], 0, [], []⟩]
theorem checkA : checkP pA dsA = (0, 0) := by decide +kernel
theorem checkB : checkP qA dsA = (1, 11) := by decide +kernel
theorem costA : costP pA 0 [] [1] = (2, 0, 0) := by decide +kernel
theorem le_dsA : AVLe (.vs 5 [[.str [109], .vs 4 [[.str [120], .int .i64 1, .int .i64 0, .int .i64 9]], .int .i64 0, .nilS, .nilS]]) (.vs 5 (dsA.map Decl_.row)) :=
 avle_vs (avlr_cons (avles_cons (AVLe.refl _) (avles_cons (AVLe.refl _) (avles_cons (AVLe.refl _) (avles_cons AVLe.nil (avles_cons AVLe.nil avles_nil))))) avlr_nil)
theorem le_prog {nm : List UInt8} {rl : Int} {vs : List Var_} {os : List Of_} {cs : List Ins_} : AVLe (.agg [.str nm, .int .i64 rl, .vs 7 (vs.map Var_.row), .nilS, .vs 4 (os.map Of_.row), .vs 3 (cs.map Ins_.row)]) (Prog.av ⟨nm, rl, vs, [], os, cs⟩) :=
 avle_agg (avles_cons (AVLe.refl _) (avles_cons (AVLe.refl _) (avles_cons (AVLe.refl _) (avles_cons AVLe.nil (avles_cons (AVLe.refl _) (avles_cons (AVLe.refl _) avles_nil))))))
set_option maxHeartbeats 4000000 in
theorem p15 : Pure Try.prog 15 [] (.bool true) := by
 have hd : ∀ d ∈ dsA, d.fields.length ≤ 1000 := fun d h => by simp [dsA] at h; subst h; simp
 have c1 := p21 pA dsA hd
 have c2 := p21 qA dsA hd
 have c3 := p17 pA 0 [] [1] (by simp)
 rw [checkA] at c1
 rw [checkB] at c2
 rw [costA] at c3
 refine pure_intro mo Try.func15 c15 fun H => ?_
 unfold e15 r15
 simp only [initEnv, initFrom]
 repeat' first|(apply Sp.go;·constructor<;>first|exact ss|(change _=_;first|(simp only[go_sem,Nat.reduceBEq,Nat.reduceAdd,Nat.reduceLeDiff,reduceIte]<;>rfl)|rfl)|exact Nat.le_of_ble_eq_true rfl|decide|(repeat' first|(apply Lk.go;constructor)|assumption|exact nb ‹_› ‹_›|exact nt ‹_› ‹_›))|(intro b hb;repeat first|(refine fe hb ?_;intro _ _ hb)|(refine fT hb ?_;intro hb))|refine gA rfl ?_|refine gB rfl ?_|apply cT rfl|apply cF rfl|(apply DM.gbT;rfl)|(apply DM.gbF;rfl)|intro h
 (refine AM.reg [.agg [.int .i64 1, .int .i64 0, .str []]] ?_; simp only [annotate, AV.rows])
 repeat' first|(apply Sp.go;·constructor<;>first|exact ss|(change _=_;first|(simp only[go_sem,Nat.reduceBEq,Nat.reduceAdd,Nat.reduceLeDiff,reduceIte]<;>rfl)|rfl)|exact Nat.le_of_ble_eq_true rfl|decide|(repeat' first|(apply Lk.go;constructor)|assumption|exact nb ‹_› ‹_›|exact nt ‹_› ‹_›))|(intro b hb;repeat first|(refine fe hb ?_;intro _ _ hb)|(refine fT hb ?_;intro hb))|refine rt ?_|refine gA rfl ?_|refine gB rfl ?_|apply cT rfl|apply cF rfl|(apply DM.gbT;rfl)|(apply DM.gbF;rfl)|(apply DM.pcRs (p29 0); (· simp only [go_sem, Nat.reduceBEq, Nat.reduceAdd] <;> rfl); (· exact AVLes.refl _))|intro h
 apply DM.pcs c1
 ·simp only [go_sem, Nat.reduceBEq, Nat.reduceAdd] <;> rfl
 ·exact avles_cons (le_prog (nm := [115]) (rl := 0) (vs := pA.vars) (os := pA.os) (cs := pA.code)) (avles_cons le_dsA avles_nil)
 repeat' first|(apply Sp.go;·constructor<;>first|exact ss|(change _=_;first|(simp only[go_sem,Nat.reduceBEq,Nat.reduceAdd,Nat.reduceLeDiff,reduceIte]<;>rfl)|rfl)|exact Nat.le_of_ble_eq_true rfl|decide|(repeat' first|(apply Lk.go;constructor)|assumption|exact nb ‹_› ‹_›|exact nt ‹_› ‹_›))|(intro b hb;repeat first|(refine fe hb ?_;intro _ _ hb)|(refine fT hb ?_;intro hb))|refine rt ?_|refine gA rfl ?_|refine gB rfl ?_|apply cT rfl|apply cF rfl|(apply DM.gbT;rfl)|(apply DM.gbF;rfl)|intro h
 apply DM.pcs c2
 ·simp only [go_sem, Nat.reduceBEq, Nat.reduceAdd] <;> rfl
 ·exact avles_cons (le_prog (nm := [115]) (rl := 0) (vs := qA.vars) (os := qA.os) (cs := qA.code)) (avles_cons le_dsA avles_nil)
 repeat' first|(apply Sp.go;·constructor<;>first|exact ss|(change _=_;first|(simp only[go_sem,Nat.reduceBEq,Nat.reduceAdd,Nat.reduceLeDiff,reduceIte]<;>rfl)|rfl)|exact Nat.le_of_ble_eq_true rfl|decide|(repeat' first|(apply Lk.go;constructor)|assumption|exact nb ‹_› ‹_›|exact nt ‹_› ‹_›))|(intro b hb;repeat first|(refine fe hb ?_;intro _ _ hb)|(refine fT hb ?_;intro hb))|refine rt ?_|refine gA rfl ?_|refine gB rfl ?_|apply cT rfl|apply cF rfl|(apply DM.gbT;rfl)|(apply DM.gbF;rfl)|intro h
 apply DM.pcs c3
 ·simp only [go_sem, Nat.reduceBEq, Nat.reduceAdd] <;> rfl
 ·exact avles_cons (le_prog (nm := [115]) (rl := 0) (vs := pA.vars) (os := pA.os) (cs := pA.code)) (avles_cons (AVLe.refl _) (avles_cons AVLe.nil (avles_cons (AVLe.refl _) avles_nil)))
 repeat' first|(apply Sp.go;·constructor<;>first|exact ss|(change _=_;first|(simp only[go_sem,Nat.reduceBEq,Nat.reduceAdd,Nat.reduceLeDiff,reduceIte]<;>rfl)|rfl)|exact Nat.le_of_ble_eq_true rfl|decide|(repeat' first|(apply Lk.go;constructor)|assumption|exact nb ‹_› ‹_›|exact nt ‹_› ‹_›))|(intro b hb;repeat first|(refine fe hb ?_;intro _ _ hb)|(refine fT hb ?_;intro hb))|refine rt ?_|refine gA rfl ?_|refine gB rfl ?_|apply cT rfl|apply cF rfl|(apply DM.gbT;rfl)|(apply DM.gbF;rfl)|intro h
 (apply Sr.go;·constructor<;>first|(apply Lk.go;constructor<;>first|exact ss|(change _=_;first|(simp only[go_sem,Nat.reduceBEq,Nat.reduceAdd,Nat.reduceLeDiff,reduceIte]<;>rfl)|rfl)|exact Nat.le_of_ble_eq_true rfl|decide|(repeat' first|(apply Lk.go;constructor)|assumption|exact nb ‹_› ‹_›|exact nt ‹_› ‹_›))|assumption)
 exact AVLe.refl _
theorem few_len {p : Prog} (h : fewP p = true) : p.vars.length ≤ 1000 ∧ p.hs.length ≤ 1000 ∧ p.os.length ≤ 1000 ∧ p.code.length ≤ 1000 := by
 simp [fewP] at h; omega
theorem costF_none {q : Prog} {ps rr : List Int} : ∀ (k i : Nat) (S : List (Option St2)) (c : Int), (∀ j, i ≤ j → j < i + k → S[j]? = some none) → costF q ps rr k i S c = (c, 0, 0)
 | 0, _, _, _, _ => rfl
 | k + 1, i, S, c, h => by
  rw [costF_skip (h i (Nat.le_refl _) (by omega))]
  exact costF_none k (i + 1) S c fun j h1 h2 => h j (by omega) (by omega)
end Go.Aw.T
namespace Go.Aw.T
open Go Go.Aw Go.Proofs Go.RowKit
set_option maxRecDepth 100000
attribute [local irreducible] Go.Aw.DM Go.Aw.AHeap.setB Go.Aw.AHeap.setT
attribute [local go_sem] peval EOpd.ev Env.get binInt binStr binBool buildParts AV.cells AV.okc setRange minmaxAV AV.one AV.ofCells eqCells eqCell bslRows cond_true cond_false beq_self_eq_true Bool.not_true Bool.not_false beq_true beq_false eq_self if_true Option.some.injEq List.length_cons List.length_nil List.take_succ_cons List.take_zero List.drop_succ_cons List.drop_zero List.set_cons_succ List.set_cons_zero List.nil_append List.cons_append List.append_nil and_self Option.map_some List.map_cons List.map_nil Bool.false_eq_true if_false Nat.zero_add Nat.add_zero true_and and_true Bool.and_true Bool.true_and List.getElem?_cons_zero List.getElem?_cons_succ Nat.zero_le Nat.le_refl
set_option linter.unusedSimpArgs false
set_option linter.unusedVariables false
def WV (v : Val) : Prop := (v.k = 1 ∧ v.s = []) ∨ (v.k = 2 ∧ v.n = 0 ∧ v.s.length ≤ 40 ∧ printable v.s = true)
theorem wv_valid {v : Val} (h : validV v = true) : WV v := by
 simp only [validV, Bool.or_eq_true, Bool.and_eq_true, decide_eq_true_eq] at h
 rcases h with h | h
 ·exact .inl ⟨h.1.1.1, h.2⟩
 ·exact .inr ⟨h.1.1.1, h.1.1.2, h.1.2, h.2⟩
theorem WV.kk {v : Val} (h : WV v) : v.k = 1 ∨ v.k = 2 := by
 rcases h with h | h
 ·exact .inl h.1
 ·exact .inr h.1
structure TS (st : List Val) (ks : List Int) : Prop where
 k : st.map (fun v => v.k) = ks
 wv : ∀ v ∈ st, WV v
abbrev FV (p : Prog) (vs : List Val) : Prop := eqF (fun (v : Var_) (x : Val) => fitsV v.sort x) p.vars vs = true
theorem TS.len {st : List Val} {ks : List Int} (h : TS st ks) : ks.length = st.length := by rw [← h.k]; simp
theorem TS.push {st : List Val} {ks : List Int} {v : Val} {k : Int} (h : TS st ks) (hk : v.k = k) (hw : WV v) : TS (st ++ [v]) (ks ++ [k]) :=
 ⟨by rw [List.map_append, h.k]; simp [hk], fun u hu => by
  rcases List.mem_append.1 hu with hu | hu
  ·exact h.wv u hu
  ·simp at hu; subst hu; exact hw⟩
theorem TS.snoc {st : List Val} {l : List Int} {a : Int} (h : TS st (l ++ [a])) : ∃ s v, st = s ++ [v] ∧ v.k = a ∧ WV v ∧ TS s l := by
 rcases List.eq_nil_or_concat st with e | ⟨s, v, e⟩
 ·subst e; have := h.k; simp at this
 ·have e : st = s ++ [v] := by simpa using e
  subst e
  have hk := h.k
  simp only [List.map_append, List.map_cons, List.map_nil] at hk
  obtain ⟨h1, h2⟩ := List.append_inj' hk rfl
  exact ⟨s, v, rfl, by simpa using h2, h.wv v (by simp), h1, fun u hu => h.wv u (by simp [hu])⟩
theorem TS.nil {st : List Val} (h : TS st []) : st = [] := by have := h.k; simpa using this
theorem pop_ok {M : Mach} {s : List Val} {v : Val} {k : Int} (ht : M.tr = false) (hs : M.stack = s ++ [v]) (hk : k = 0 ∨ v.k = k) : pop k M = (v, { M with stack := s }) := by
 have h1 : M.stack.getLast? = some v := by rw [hs]; simp
 have h2 : popTrap k M = false := by
  unfold popTrap
  rw [h1, ht]
  simp
  intro h; exact hk.resolve_left h
 unfold pop
 rw [h2, h1, hs]
 simp
theorem pop_tr {M : Mach} {k : Int} (h : popTrap k M = true) : pop k M = (val0, { M with tr := true }) := by
 unfold pop; rw [h]; rfl
theorem pop_tr1 {M : Mach} {k : Int} (h : M.tr = true) : (pop k M).2.tr = true := by
 rw [pop_tr (by simp [popTrap, h])]
theorem pop_nilT {M : Mach} {k : Int} (h : M.stack = []) : (pop k M).2.tr = true := by
 rw [pop_tr (by simp [popTrap, h])]
theorem pop_badT {M : Mach} {s : List Val} {v : Val} {k : Int} (hs : M.stack = s ++ [v]) (hk : k ≠ 0) (hv : v.k ≠ k) : (pop k M).2.tr = true := by
 rw [pop_tr (by simp [popTrap, hs, hk, hv])]
theorem result_tr {n : Int} {M : Mach} (h : M.tr = true) : (result n M).tr = true := by unfold result; rw [if_pos h]; exact h
theorem push_ty {M : Mach} {v : Val} {k : Int} {ks ks' : List Int} (h : TS M.stack ks) (hp : pushK k ks = some ks') (hk : v.k = k) (hw : WV v) : push v M = { M with stack := M.stack ++ [v] } ∧ TS (M.stack ++ [v]) ks' := by
 have hl := h.len
 unfold pushK at hp
 split at hp
 ·cases hp
  exact ⟨by unfold push; rw [if_neg (by omega)], h.push hk hw⟩
 ·cases hp
theorem push_no {M : Mach} {v : Val} {k : Int} {ks : List Int} (h : TS M.stack ks) (hp : pushK k ks = none) : (push v M).tr = true := by
 have hl := h.len
 unfold pushK at hp
 split at hp
 ·cases hp
 ·unfold push; rw [if_pos (by omega)]
theorem result_ty {M : Mach} {n : Int} {ks : List Int} (ht : M.tr = false) (h : TS M.stack ks) (hl : ks.length < 16) : result n M = { M with stack := M.stack ++ [intV n] } ∧ TS (M.stack ++ [intV n]) (ks ++ [1]) := by
 have := push_ty (v := intV n) (k := 1) h (show pushK 1 ks = some (ks ++ [1]) by simp [pushK, hl]) rfl (.inl ⟨rfl, rfl⟩)
 have e : result n M = push (intV n) M := by unfold result; rw [if_neg (by rw [ht]; simp)]
 rw [e]
 exact this
abbrev StepTo (p : Prog) (ps : List Val) (x : Ins_) (M : Mach) (o : Option (List Int)) : Prop :=
 (∀ st', o = some st' → ∃ stk vs, stepX p ps x M = { M with stack := stk, vars := vs } ∧ TS stk st' ∧ FV p vs) ∧ (o = none → (stepX p ps x M).tr = true)
theorem sto_some {p : Prog} {ps : List Val} {x : Ins_} {M : Mach} {st : List Int} {o : Option (List Int)} (e : o = some st) (stk vs : List Val) (h1 : stepX p ps x M = { M with stack := stk, vars := vs }) (h2 : TS stk st) (h3 : FV p vs) : StepTo p ps x M o :=
 ⟨fun st' h => (by rw [e] at h; cases h; exact ⟨stk, vs, h1, h2, h3⟩), fun h => (by rw [e] at h; cases h)⟩
theorem sto_none {p : Prog} {ps : List Val} {x : Ins_} {M : Mach} {o : Option (List Int)} (e : o = none) (h : (stepX p ps x M).tr = true) : StepTo p ps x M o :=
 ⟨fun st' h => (by rw [e] at h; cases h), fun _ => h⟩
theorem sort_ok {p : Prog} (hval : validP p = true) {w : Var_} (hw : w ∈ p.vars) : validS w.sort = true := by
 obtain ⟨i, hi⟩ := List.getElem?_of_mem hw
 simp only [validP, varsOk, Bool.and_eq_true] at hval
 have h := hval.1.1.2.1
 simp only [allI, List.all_eq_true, List.mem_range] at h
 have := h i (List.getElem?_eq_some_iff.1 hi).1
 simp [okVar, hi, fitsV] at this
 exact this.2.1.1.1.1
theorem clampN_valid {v : Val} (h : WV v) : validV (clampN v) = true := by
 have a : -1000 ≤ max (-1000) (min 1000 v.n) ∧ max (-1000) (min 1000 v.n) ≤ 1000 := by omega
 unfold validV clampN
 rcases h with ⟨h1, h2⟩ | ⟨h1, h2, h3, h4⟩
 ·simp [h1, h2, a.1, a.2]
 ·simp [h1, h2, h3, h4]; decide
theorem fv_get {p : Prog} {vs : List Val} (h : FV p vs) {i : Nat} {w : Var_} (hw : p.vars[i]? = some w) : ∃ v, vs[i]? = some v ∧ fitsV w.sort v = true := by
 have hf := eqF_iff.1 h
 obtain ⟨v, hv⟩ := some_of (show i < vs.length by have := (List.getElem?_eq_some_iff.1 hw).1; omega)
 exact ⟨v, hv, hf.2 i w v hw hv⟩
theorem fits_kv {s : Sort_} {v : Val} (h : fitsV s v = true) : v.k = s.k ∧ validV v = true := by
 simp only [fitsV, Bool.and_eq_true, decide_eq_true_eq] at h
 exact ⟨h.1.1.2.symm, h.1.1.1.2⟩
theorem fv_set {p : Prog} {vs : List Val} (h : FV p vs) {i : Nat} {w : Var_} {c : Val} (hw : p.vars[i]? = some w) (hc : fitsV w.sort c = true) : FV p (vs.set i c) := by
 have hf := eqF_iff.1 h
 refine eqF_iff.2 ⟨by simpa using hf.1, fun j a b ha hb => ?_⟩
 by_cases e : j = i
 ·subst e
  rw [hw] at ha
  cases ha
  rw [List.getElem?_set_self (by have := (List.getElem?_eq_some_iff.1 hw).1; have := hf.1; omega)] at hb
  cases hb
  exact hc
 ·rw [List.getElem?_set_ne (Ne.symm e)] at hb
  exact hf.2 j a b ha hb
theorem store_ty {p : Prog} (hval : validP p = true) {M : Mach} {st : List Int} (ht : M.tr = false) (hs : TS M.stack st) (hf : FV p M.vars) {i : Nat} {w : Var_} (hw : p.vars[i]? = some w) :
  (∀ st', popK w.sort.k st = some st' → ∃ stk vs, storeM w.sort i M = { M with stack := stk, vars := vs } ∧ TS stk st' ∧ FV p vs) ∧ (popK w.sort.k st = none → (storeM w.sort i M).tr = true) := by
 have hso := sort_ok hval (List.mem_of_getElem? hw)
 have hk0 : w.sort.k ≠ 0 := by
  intro e; simp [validS, e] at hso
 rcases concat_cases st with rfl | ⟨l, a, rfl⟩
 ·refine ⟨fun st' h => (by cases h), fun _ => ?_⟩
  have := pop_nilT (k := w.sort.k) hs.nil
  unfold storeM; rw [if_pos this]; exact this
 ·obtain ⟨s, v, e1, e2, e3, e4⟩ := hs.snoc
  rw [pop_snoc]
  by_cases ha : a = w.sort.k
  ·rw [if_pos ha]
   refine ⟨fun st' h => ?_, fun h => by cases h⟩
   cases h
   have hp := pop_ok (k := w.sort.k) ht e1 (.inr (e2.trans ha))
   have hcl : (clampV w.sort (clampN v)).2 = 0 := by
    unfold clampV
    rw [if_neg (by rw [hso, clampN_valid e3]; simp), if_neg (by show ¬ w.sort.k ≠ v.k; rw [e2, ha]; simp)]
    split <;> rfl
   refine ⟨s, M.vars.set i (clampV w.sort (clampN v)).1, ?_, e4, fv_set hf hw (clamp_fits hcl)⟩
   unfold storeM
   rw [hp]
   dsimp only
   rw [if_neg (by rw [ht]; simp), if_pos hcl]
  ·rw [if_neg ha]
   refine ⟨fun st' h => (by cases h), fun _ => ?_⟩
   have := pop_badT (k := w.sort.k) e1 hk0 (by rw [e2]; exact ha)
   unfold storeM; rw [if_pos this]; exact this
theorem pop1_res {p : Prog} {ps : List Val} {x : Ins_} {M : Mach} {st : List Int} (k : Int) (hk : k ≠ 0) (hst : st.length ≤ 16) (ht : M.tr = false) (hs : TS M.stack st) (hf : FV p M.vars) (f : Val → Int) (he : stepX p ps x M = result (f (pop k M).1) (pop k M).2) :
  StepTo p ps x M ((popsK [k] st).bind (pushK 1)) := by
 rcases concat_cases st with rfl | ⟨l, a, rfl⟩
 ·exact sto_none rfl (by rw [he]; exact result_tr (pop_nilT hs.nil))
 ·obtain ⟨s, v, e1, e2, e3, e4⟩ := hs.snoc
  have hl : l.length < 16 := by simp at hst; omega
  by_cases ha : a = k
  ·refine sto_some (st := l ++ [1]) (by rw [popsK, pop_snoc, if_pos ha]; simp [popsK, pushK, hl]) (s ++ [intV (f v)]) M.vars ?_ (e4.push rfl (.inl ⟨rfl, rfl⟩)) hf
   rw [he, pop_ok ht e1 (.inr (e2.trans ha))]
   exact (result_ty (M := { M with stack := s }) ht e4 hl).1
  ·exact sto_none (by rw [popsK, pop_snoc, if_neg ha]; rfl) (by rw [he]; exact result_tr (pop_badT e1 hk (by rw [e2]; exact ha)))
theorem pop2_ty {M : Mach} {st : List Int} (k : Int) (hk : k ≠ 0) (ht : M.tr = false) (hs : TS M.stack st) :
  (∀ st', popsK [k, k] st = some st' → ∃ s u v, pop k M = (v, { M with stack := s ++ [u] }) ∧ pop k { M with stack := s ++ [u] } = (u, { M with stack := s }) ∧ WV u ∧ WV v ∧ u.k = k ∧ v.k = k ∧ TS s st' ∧ st'.length + 2 = st.length) ∧ (popsK [k, k] st = none → (pop k (pop k M).2).2.tr = true) := by
 rcases concat_cases st with rfl | ⟨l, a, rfl⟩
 ·exact ⟨fun st' h => (by cases h), fun _ => pop_tr1 (pop_nilT hs.nil)⟩
 ·obtain ⟨s, v, e1, e2, e3, e4⟩ := hs.snoc
  rw [popsK, pop_snoc]
  by_cases ha : a = k
  ·rw [if_pos ha, Option.bind_some]
   have h1 := pop_ok (k := k) ht e1 (.inr (e2.trans ha))
   rcases concat_cases l with rfl | ⟨l, b, rfl⟩
   ·refine ⟨fun st' h => (by cases h), fun _ => ?_⟩
    rw [h1]
    exact pop_nilT e4.nil
   ·obtain ⟨s2, u, g1, g2, g3, g4⟩ := e4.snoc
    rw [popsK, pop_snoc]
    by_cases hb : b = k
    ·rw [if_pos hb]
     refine ⟨fun st' h => ?_, fun h => by cases h⟩
     simp [popsK] at h
     subst h
     subst g1
     exact ⟨s2, u, v, h1, pop_ok (M := { M with stack := s2 ++ [u] }) ht rfl (.inr (g2.trans hb)), g3, e3, g2.trans hb, e2.trans ha, g4, by simp⟩
    ·rw [if_neg hb]
     refine ⟨fun st' h => (by cases h), fun _ => ?_⟩
     rw [h1]
     exact pop_badT (M := { M with stack := s }) g1 hk (by rw [g2]; exact hb)
  ·rw [if_neg ha]
   exact ⟨fun st' h => (by cases h), fun _ => pop_tr1 (pop_badT e1 hk (by rw [e2]; exact ha))⟩
theorem pop2_res {p : Prog} {ps : List Val} {x : Ins_} {M : Mach} {st : List Int} (k : Int) (hk : k ≠ 0) (hst : st.length ≤ 16) (ht : M.tr = false) (hs : TS M.stack st) (hf : FV p M.vars) (f : Val → Val → Int) (he : stepX p ps x M = result (f (pop k (pop k M).2).1 (pop k M).1) (pop k (pop k M).2).2) :
  StepTo p ps x M ((popsK [k, k] st).bind (pushK 1)) := by
 obtain ⟨h1, h2⟩ := pop2_ty k hk ht hs
 cases hp : popsK [k, k] st with
 | none => exact sto_none rfl (by rw [he]; exact result_tr (h2 hp))
 | some st' =>
  obtain ⟨s, u, v, g1, g2, _, _, _, _, g5, g6⟩ := h1 st' hp
  refine sto_some (st := st' ++ [1]) (by simp [pushK]; omega) (s ++ [intV (f u v)]) M.vars ?_ (g5.push rfl (.inl ⟨rfl, rfl⟩)) hf
  rw [he, g1]
  dsimp only
  rw [g2]
  exact (result_ty (M := { M with stack := s }) ht g5 (by omega)).1
theorem printable_app {a b : List UInt8} (h1 : printable a = true) (h2 : printable b = true) : printable ((a ++ b).take 40) = true := by
 simp only [printable, List.all_eq_true] at *
 intro x hx
 rcases List.mem_append.1 (List.mem_of_mem_take hx) with h | h
 ·exact h1 x h
 ·exact h2 x h
theorem vals_step {p : Prog} (hval : validP p = true) {ps : List Val} {rr : List Int} {x : Ins_} (hx : x ∈ p.code) {M : Mach} {st : List Int} (hst : st.length ≤ 16) (ht : M.tr = false) (hs : TS M.stack st) (hf : FV p M.vars) (hps : ∀ v ∈ ps, validV v = true) (hop : ¬ (19 ≤ x.op ∧ x.op ≤ 24)) :
  StepTo p ps x M (valuesP p (ps.map fun v => v.k) rr x st) := by
 have hok := jump_ok hval hx
 have hin := insOk hval hx
 by_cases h1 : x.op = 1
 ·have ev : valuesP p (ps.map fun v => v.k) rr x st = pushK 1 st := by simp [valuesP, h1]
  have es : stepX p ps x M = push (intV x.n) M := by simp [stepX, h1]
  rw [ev]
  cases hp : pushK 1 st with
  | none => exact sto_none rfl (by rw [es]; exact push_no hs hp)
  | some st' =>
   obtain ⟨g1, g2⟩ := push_ty (v := intV x.n) hs hp rfl (.inl ⟨rfl, rfl⟩)
   exact sto_some rfl _ M.vars (es.trans g1) g2 hf
 by_cases h2 : x.op = 2
 ·have ev : valuesP p (ps.map fun v => v.k) rr x st = pushK 2 st := by simp [valuesP, h2]
  have es : stepX p ps x M = push ⟨2, 0, x.s⟩ M := by simp [stepX, h2]
  have hfm : validV ⟨2, 0, x.s⟩ = true := by
   simp only [okIns, Bool.and_eq_true] at hok
   have := hok.1
   rw [formed, if_pos h2, Bool.and_eq_true] at this
   exact this.2
  rw [ev]
  cases hp : pushK 2 st with
  | none => exact sto_none rfl (by rw [es]; exact push_no hs hp)
  | some st' =>
   obtain ⟨g1, g2⟩ := push_ty (v := ⟨2, 0, x.s⟩) hs hp rfl (wv_valid hfm)
   exact sto_some rfl _ M.vars (es.trans g1) g2 hf
 by_cases h3 : x.op = 3
 ·obtain ⟨w, hw⟩ := some_of (show x.n.toNat < p.vars.length by have := hin.var (.inl h3); omega)
  obtain ⟨v, hv, hfit⟩ := fv_get hf hw
  obtain ⟨k1, k2⟩ := fits_kv hfit
  have ev : valuesP p (ps.map fun v => v.k) rr x st = pushK w.sort.k st := by simp [valuesP, h3, hw]
  have es : stepX p ps x M = push v M := by simp [stepX, h3, hv]
  rw [ev]
  cases hp : pushK w.sort.k st with
  | none => exact sto_none rfl (by rw [es]; exact push_no hs hp)
  | some st' =>
   obtain ⟨g1, g2⟩ := push_ty (v := v) hs hp k1 (wv_valid k2)
   exact sto_some rfl _ M.vars (es.trans g1) g2 hf
 by_cases h4 : x.op = 4
 ·have hn := hin.par h4
  cases hv : ps[x.n.toNat]? with
  | none =>
   have hq := List.getElem?_eq_none_iff.1 hv
   have ev : valuesP p (ps.map fun v => v.k) rr x st = none := by
    simp only [valuesP, if_neg h1, if_neg h2, if_neg h3, if_pos h4]
    rw [if_neg (by simp; omega)]
   exact sto_none ev (by simp [stepX, h4, hv])
  | some v =>
   have hq := (List.getElem?_eq_some_iff.1 hv).1
   have ev : valuesP p (ps.map fun v => v.k) rr x st = pushK v.k st := by
    simp only [valuesP, if_neg h1, if_neg h2, if_neg h3, if_pos h4]
    rw [if_pos (by simp; omega), List.getElem?_map, hv]
    rfl
   have es : stepX p ps x M = push v M := by simp [stepX, h4, hv]
   rw [ev]
   cases hp : pushK v.k st with
   | none => exact sto_none rfl (by rw [es]; exact push_no hs hp)
   | some st' =>
    obtain ⟨g1, g2⟩ := push_ty (v := v) hs hp rfl (wv_valid (hps v (List.mem_of_getElem? hv)))
    exact sto_some rfl _ M.vars (es.trans g1) g2 hf
 by_cases h5 : x.op = 5
 ·obtain ⟨w, hw⟩ := some_of (show x.n.toNat < p.vars.length by have := hin.var (.inr h5); omega)
  have ev : valuesP p (ps.map fun v => v.k) rr x st = popK w.sort.k st := by
   simp only [valuesP, if_neg h1, if_neg h2, if_neg h3, if_neg h4, if_pos h5, hw, Option.bind_some, popsK]
   cases popK w.sort.k st <;> rfl
  have es : stepX p ps x M = storeM w.sort x.n.toNat M := by simp [stepX, h5, hw]
  rw [ev]
  unfold StepTo
  rw [es]
  exact store_ty hval ht hs hf hw
 by_cases ha : isArith x.op = true
 ·have n1 : x.op ≠ 11 ∧ x.op ≠ 14 ∧ x.op ≠ 12 ∧ x.op ≠ 17 ∧ x.op ≠ 18 := by simp [isArith] at ha; omega
  have ev : valuesP p (ps.map fun v => v.k) rr x st = (popsK [1, 1] st).bind (pushK 1) := by simp [valuesP, h1, h2, h3, h4, h5, ha]
  have es : stepX p ps x M = arithM x.op M := by
   simp only [stepX, if_neg h1, if_neg h2, if_neg h3, if_neg h4, if_neg h5, if_neg n1.1, if_neg n1.2.1, if_neg (show ¬ (x.op = 12 ∨ x.op = 17 ∨ x.op = 18) by omega), if_pos ha]
  rw [ev]
  exact pop2_res 1 (by decide) hst ht hs hf (fun u v => arith x.op u.n v.n) es
 by_cases h11 : x.op = 11
 ·have ev : valuesP p (ps.map fun v => v.k) rr x st = (popsK [1] st).bind (pushK 1) := by simp [valuesP, h11, isArith]
  have es : stepX p ps x M = result (W (0 - (pop 1 M).1.n)) (pop 1 M).2 := by simp [stepX, h11]
  rw [ev]
  exact pop1_res 1 (by decide) hst ht hs hf (fun v => W (0 - v.n)) es
 by_cases h14 : x.op = 14
 ·have ev : valuesP p (ps.map fun v => v.k) rr x st = (popsK [1] st).bind (pushK 1) := by simp [valuesP, h14, isArith]
  have es : stepX p ps x M = result (if (pop 1 M).1.n = 0 then 1 else 0) (pop 1 M).2 := by simp [stepX, h14]
  rw [ev]
  exact pop1_res 1 (by decide) hst ht hs hf (fun v => if v.n = 0 then 1 else 0) es
 by_cases h12 : x.op = 12
 ·have es : stepX p ps x M = result (if valEq (pop (pop 0 M).1.k (pop 0 M).2).1 (pop 0 M).1 then 1 else 0) (pop (pop 0 M).1.k (pop 0 M).2).2 := by simp [stepX, h12, textsM]
  have e1 : valuesP p (ps.map fun v => v.k) rr x st = match st.getLast? with
   | none => none
   | some k => if k = 1 ∨ k = 2 then (popsK [k, k] st).bind (pushK 1) else none := by
   simp [valuesP, h12, isArith]
   cases st.getLast? <;> rfl
  rcases concat_cases st with rfl | ⟨l, a, rfl⟩
  ·exact sto_none e1 (by rw [es]; exact result_tr (pop_tr1 (pop_nilT hs.nil)))
  ·obtain ⟨s, v, q1, q2, q3, q4⟩ := hs.snoc
   have hk := q3.kk
   rw [q2] at hk
   have hk0 : a ≠ 0 := by omega
   have p0 := pop_ok (k := 0) ht q1 (.inl rfl)
   have p1 := pop_ok (k := a) ht q1 (.inr q2)
   have e2 : valuesP p (ps.map fun v => v.k) rr x (l ++ [a]) = (popsK [a, a] (l ++ [a])).bind (pushK 1) := by
    rw [e1]
    simp only [List.getLast?_append, List.getLast?_singleton, Option.some_or]
    rw [if_pos hk]
   rw [e2]
   refine pop2_res a hk0 hst ht hs hf (fun u v => if valEq u v then 1 else 0) ?_
   rw [es, p0, p1]
   dsimp only
   rw [q2]
 by_cases h17 : x.op = 17
 ·have ev : valuesP p (ps.map fun v => v.k) rr x st = (popsK [2, 2] st).bind (pushK 2) := by simp [valuesP, h17, isArith]
  have es : stepX p ps x M = if (pop 2 (pop 2 M).2).2.tr then (pop 2 (pop 2 M).2).2 else push ⟨2, 0, ((pop 2 (pop 2 M).2).1.s ++ (pop 2 M).1.s).take 40⟩ (pop 2 (pop 2 M).2).2 := by simp [stepX, h17, textsM]
  rw [ev]
  obtain ⟨g1, g2⟩ := pop2_ty (M := M) 2 (by decide) ht hs
  cases hp : popsK [2, 2] st with
  | none =>
   have := g2 hp
   exact sto_none rfl (by rw [es, if_pos this]; exact this)
  | some st' =>
   obtain ⟨s, u, v, k1, k2, k3, k4, k5, k6, k7, k8⟩ := g1 st' hp
   have hu : printable u.s = true := by rcases k3 with h | h; omega; exact h.2.2.2
   have hv : printable v.s = true := by rcases k4 with h | h; omega; exact h.2.2.2
   obtain ⟨r1, r2⟩ := push_ty (M := { M with stack := s }) (v := ⟨2, 0, (u.s ++ v.s).take 40⟩) (k := 2) k7 (show pushK 2 st' = some (st' ++ [2]) by simp [pushK]; omega) rfl (.inr ⟨rfl, rfl, by simp; omega, printable_app hu hv⟩)
   refine sto_some (st := st' ++ [2]) (by simp [pushK]; omega) _ M.vars ?_ r2 hf
   rw [es, k1]
   dsimp only
   rw [k2]
   dsimp only
   rw [if_neg (by rw [ht]; simp)]
   exact r1
 by_cases h18 : x.op = 18
 ·have ev : valuesP p (ps.map fun v => v.k) rr x st = (popsK [2] st).bind (pushK 1) := by simp [valuesP, h18, isArith]
  have es : stepX p ps x M = result (pop 2 M).1.s.length (pop 2 M).2 := by simp [stepX, h18, textsM]
  rw [ev]
  exact pop1_res 2 (by decide) hst ht hs hf (fun v => v.s.length) es
 have hz : isArith x.op = false := by simpa using ha
 have ev : valuesP p (ps.map fun v => v.k) rr x st = some st := by
  simp only [valuesP, if_neg h1, if_neg h2, if_neg h3, if_neg h4, if_neg h5, if_neg ha, if_neg (show ¬ (x.op = 11 ∨ x.op = 14) by omega), if_neg h12, if_neg h17, if_neg h18, if_neg (show ¬ x.op = 20 by omega), if_neg (show ¬ x.op = 24 by omega)]
 have es : stepX p ps x M = M := by
  simp only [stepX, if_neg h1, if_neg h2, if_neg h3, if_neg h4, if_neg h5, if_neg h11, if_neg h14, if_neg (show ¬ (x.op = 12 ∨ x.op = 17 ∨ x.op = 18) by omega), if_neg ha, controlM, if_neg (show ¬ x.op = 19 by omega), if_neg (show ¬ x.op = 20 by omega), if_neg (show ¬ x.op = 21 by omega), if_neg (show ¬ x.op = 22 by omega), if_neg (show ¬ x.op = 23 by omega), if_neg (show ¬ x.op = 24 by omega)]
 exact sto_some ev M.stack M.vars es hs hf
theorem stepX_control {p : Prog} {ps : List Val} {x : Ins_} {M : Mach} (h : 19 ≤ x.op ∧ x.op ≤ 24) : stepX p ps x M = controlM x M := by
 have ha : ¬ isArith x.op = true := by simp [isArith]; omega
 simp only [stepX, if_neg (show ¬ x.op = 1 by omega), if_neg (show ¬ x.op = 2 by omega), if_neg (show ¬ x.op = 3 by omega), if_neg (show ¬ x.op = 4 by omega), if_neg (show ¬ x.op = 5 by omega), if_neg (show ¬ x.op = 11 by omega), if_neg (show ¬ x.op = 14 by omega), if_neg (show ¬ (x.op = 12 ∨ x.op = 17 ∨ x.op = 18) by omega), if_neg ha]
theorem vals_control {p : Prog} {ps rr : List Int} {x : Ins_} {st : List Int} (h : 19 ≤ x.op ∧ x.op ≤ 24) : valuesP p ps rr x st = if x.op = 20 then popK 1 st else if x.op = 24 then (if st = rr then some st else none) else some st := by
 have ha : ¬ isArith x.op = true := by simp [isArith]; omega
 simp only [valuesP, if_neg (show ¬ x.op = 1 by omega), if_neg (show ¬ x.op = 2 by omega), if_neg (show ¬ x.op = 3 by omega), if_neg (show ¬ x.op = 4 by omega), if_neg (show ¬ x.op = 5 by omega), if_neg ha, if_neg (show ¬ (x.op = 11 ∨ x.op = 14) by omega), if_neg (show ¬ x.op = 12 by omega), if_neg (show ¬ x.op = 17 by omega), if_neg (show ¬ x.op = 18 by omega), popsK]
 split
 ·cases popK 1 st <;> rfl
 ·rfl
def LookOk (p : Prog) (ps rr : List Int) (S : List (Option St2)) (i : Nat) (x : Ins_) (s : St2) : Prop :=
 ∃ st lo, valuesP p ps rr x s.1 = some st ∧ loopsP p i x s.2 = some lo ∧ (¬ (x.op = 19 ∨ x.op = 24) → S[i + 1]? = some (some (st, lo))) ∧ (x.op = 19 ∨ x.op = 20 ∨ x.op = 22 → S[x.n.toNat]? = some (some (st, lo)))
def LoOk (p : Prog) (S : List (Option St2)) (j : Nat) (lo : List Int) : Prop := ∀ b ∈ lo, b < (j : Int) ∧ (∃ s, S[b.toNat + 1]? = some (some s)) ∧ ∃ x, p.code[b.toNat]? = some x ∧ x.op = 21
structure TI (p : Prog) (e : Nat) (S : List (Option St2)) : Prop where
 len : S.length = p.code.length
 ok : SOk p S
 ge : ∀ (j : Nat) (s : St2), S[j]? = some (some s) → e ≤ j
 lo : ∀ (j : Nat) (s : St2), S[j]? = some (some s) → LoOk p S j s.2
structure Grow (S S' : List (Option St2)) (i : Nat) : Prop where
 len : S'.length = S.length
 keep : ∀ (j : Nat) (s : St2), S[j]? = some (some s) → S'[j]? = some (some s)
 low : ∀ j : Nat, j ≤ i → S'[j]? = S[j]?
theorem Grow.trans {A B C : List (Option St2)} {i j : Nat} (h : Grow A B i) (k : Grow B C j) (hij : i ≤ j) : Grow A C i := ⟨k.len.trans h.len, fun a s x => k.keep a s (h.keep a s x), fun a ha => (k.low a (by omega)).trans (h.low a ha)⟩
theorem LoOk.mono {p : Prog} {S S' : List (Option St2)} {j j' : Nat} {lo : List Int} (h : LoOk p S j lo) (hj : j ≤ j') (hk : ∀ (a : Nat) (s : St2), S[a]? = some (some s) → S'[a]? = some (some s)) : LoOk p S' j' lo := fun b hb => by
 obtain ⟨h1, ⟨s, h2⟩, h3⟩ := h b hb
 exact ⟨by omega, ⟨s, hk _ _ h2⟩, h3⟩
theorem LookOk.mono {p : Prog} {ps rr : List Int} {S S' : List (Option St2)} {i : Nat} {x : Ins_} {s : St2} (h : LookOk p ps rr S i x s) (hk : ∀ (a : Nat) (t : St2), S[a]? = some (some t) → S'[a]? = some (some t)) : LookOk p ps rr S' i x s := by
 obtain ⟨st, lo, h1, h2, h3, h4⟩ := h
 exact ⟨st, lo, h1, h2, fun q => hk _ _ (h3 q), fun q => hk _ _ (h4 q)⟩
def NB (p : Prog) (b : Int) : Nat := (((p.code[b.toNat]?).map (fun x : Ins_ => x.n)).getD 0).toNat
def CO (p : Prog) (u : Nat) : List Int → List Int → Prop
 | [], [] => True
 | b :: lo, c :: cs => (-(u : Int) ≤ c ∧ c ≤ NB p b ∧ 1 ≤ NB p b) ∧ CO p u lo cs
 | _, _ => False
theorem CO.len {p : Prog} {u : Nat} : ∀ {lo cs : List Int}, CO p u lo cs → lo.length = cs.length
 | [], [], _ => rfl
 | _ :: _, _ :: _, h => by simp [CO.len h.2]
 | [], _ :: _, h => h.elim
 | _ :: _, [], h => h.elim
theorem CO.mono {p : Prog} {u : Nat} : ∀ {lo cs : List Int}, CO p u lo cs → CO p (u + 1) lo cs
 | [], [], _ => trivial
 | _ :: _, _ :: _, h => ⟨⟨by have := h.1.1; omega, h.1.2⟩, CO.mono h.2⟩
 | [], _ :: _, h => h.elim
 | _ :: _, [], h => h.elim
theorem CO.app {p : Prog} {u : Nat} : ∀ {lo cs : List Int} {b c : Int}, CO p u lo cs → CO p u [b] [c] → CO p u (lo ++ [b]) (cs ++ [c])
 | [], [], _, _, _, h => h
 | _ :: _, _ :: _, _, _, h, k => ⟨h.1, CO.app h.2 k⟩
 | [], _ :: _, _, _, h, _ => h.elim
 | _ :: _, [], _, _, h, _ => h.elim
structure MI (p : Prog) (S : List (Option St2)) (u i : Nat) (s : St2) (M : Mach) : Prop where
 tr : M.tr = false
 dn : M.dn = false
 fv : FV p M.vars
 pc : M.pc = (i : Int)
 tb : S[i]? = some (some s)
 st : TS M.stack s.1
 lo : CO p u s.2 M.loops
end Go.Aw.T
namespace Go.Aw.T
open Go Go.Aw Go.Proofs Go.RowKit
set_option maxRecDepth 100000
attribute [local irreducible] Go.Aw.DM Go.Aw.AHeap.setB Go.Aw.AHeap.setT
attribute [local go_sem] peval EOpd.ev Env.get binInt binStr binBool buildParts AV.cells AV.okc setRange minmaxAV AV.one AV.ofCells eqCells eqCell bslRows cond_true cond_false beq_self_eq_true Bool.not_true Bool.not_false beq_true beq_false eq_self if_true Option.some.injEq List.length_cons List.length_nil List.take_succ_cons List.take_zero List.drop_succ_cons List.drop_zero List.set_cons_succ List.set_cons_zero List.nil_append List.cons_append List.append_nil and_self Option.map_some List.map_cons List.map_nil Bool.false_eq_true if_false Nat.zero_add Nat.add_zero true_and and_true Bool.and_true Bool.true_and List.getElem?_cons_zero List.getElem?_cons_succ Nat.zero_le Nat.le_refl
set_option linter.unusedSimpArgs false
set_option linter.unusedVariables false
def kindsV (xs : List Val) : List Int := xs.map fun v => v.k
theorem p41 (xs : List Val) (hx : xs.length ≤ 1000) : Pure Try.prog 41 [.vs 3 (xs.map Val.row)] (.vs 1 ((kindsV xs).map irow)) := by
 refine pure_intro mo Try.func41 c41 fun H => ?_
 unfold e41 r41
 simp only [initEnv, initFrom]
 repeat' first|(apply Sp.go;·constructor<;>first|exact ss|(change _=_;first|(simp only[go_sem,Nat.reduceBEq,Nat.reduceAdd,Nat.reduceLeDiff,reduceIte]<;>rfl)|rfl)|exact Nat.le_of_ble_eq_true rfl|decide|(repeat' first|(apply Lk.go;constructor)|assumption|exact nb ‹_› ‹_›|exact nt ‹_› ‹_›))|(intro b hb;repeat first|(refine fe hb ?_;intro _ _ hb)|(refine fT hb ?_;intro hb))|refine rt ?_|refine gA rfl ?_|refine gB rfl ?_|apply cT rfl|apply cF rfl|(apply DM.gbT;rfl)|(apply DM.gbF;rfl)|intro h
 apply R.AM.ghostO 3 3 1 (by decide)
 ·simp only [Env.get, Nat.reduceBEq, cond_true, cond_false, beq_self_eq_true]
 intro tv htv
 repeat' first|(apply Sp.go;·constructor<;>first|exact ss|(change _=_;first|(simp only[go_sem,Nat.reduceBEq,Nat.reduceAdd,Nat.reduceLeDiff,reduceIte]<;>rfl)|rfl)|exact Nat.le_of_ble_eq_true rfl|decide|(repeat' first|(apply Lk.go;constructor)|assumption|exact nb ‹_› ‹_›|exact nt ‹_› ‹_›))|(intro b hb;repeat first|(refine fe hb ?_;intro _ _ hb)|(refine fT hb ?_;intro hb))|refine rt ?_|refine gA rfl ?_|refine gB rfl ?_|apply cT rfl|apply cF rfl|(apply DM.gbT;rfl)|(apply DM.gbF;rfl)|intro h
 refine AM.loopX (X := Nat) 0 (fun i => [(0, .vs 3 (xs.map Val.row)), (4, .int .i64 i), (3, .own tv 1 ((kindsV (xs.take i)).map irow))]) (fun i H' => H' = H.setT tv (.frz 3 1 i) ∧ i ≤ xs.length) (fun i => xs.length - i) ⟨rfl, by omega⟩ ?_ ?_
 ·(repeat first | exact envle_nil _ | (refine envle_cons ?_ ?_; · (simp only [go_sem, Nat.reduceBEq, Nat.reduceAdd]; exact AVLe.refl _)))
 ·intro i H' ⟨e, hi⟩
  subst e
  have hl0 : ((kindsV (xs.take i)).map irow).length = i := by simp [kindsV]; omega
  repeat' first|(apply Sp.go;·constructor<;>first|exact ss|(change _=_;first|(simp only[go_sem,Nat.reduceBEq,Nat.reduceAdd,Nat.reduceLeDiff,reduceIte]<;>rfl)|rfl)|exact Nat.le_of_ble_eq_true rfl|decide|(repeat' first|(apply Lk.go;constructor)|assumption|exact nb ‹_› ‹_›|exact nt ‹_› ‹_›))|(intro b hb;repeat first|(refine fe hb ?_;intro _ _ hb)|(refine fT hb ?_;intro hb))|refine rt ?_|refine gA rfl ?_|refine gB rfl ?_|apply cT rfl|apply cF rfl|(apply DM.gbT;rfl)|(apply DM.gbF;rfl)|intro h
  (apply AM.cond; (· rfl))
  ·intro h3
   simp at h3
   obtain ⟨v, hv⟩ := some_of h3
   repeat' first|(apply Sp.go;·constructor<;>first|exact ss|(change _=_;first|(simp only[go_sem,Nat.reduceBEq,Nat.reduceAdd,Nat.reduceLeDiff,reduceIte]<;>rfl)|rfl)|exact Nat.le_of_ble_eq_true rfl|decide|(repeat' first|(apply Lk.go;constructor)|assumption|exact nb ‹_› ‹_›|exact nt ‹_› ‹_›))|(intro b hb;repeat first|(refine fe hb ?_;intro _ _ hb)|(refine fT hb ?_;intro hb))|refine rt ?_|refine gA rfl ?_|refine gB rfl ?_|apply cT rfl|apply cF rfl|(apply DM.gbT;rfl)|(apply DM.gbF;rfl)|(apply DM.ixV (row := v.row) (z := (i : Int)) (by omega) (row_get Val.row hv); (· rfl); (· rfl))|intro h
   apply DM.apOr
   ·simp only [EOpd.ev, Env.get, Nat.reduceBEq, cond_true, cond_false, beq_self_eq_true] <;> rfl
   ·(· repeat' first|(apply Lk.go;constructor)|assumption|exact nb ‹_› ‹_›|exact nt ‹_› ‹_›|(apply Lm.go;constructor))
   ·exact hl0
   ·simp only [rowsOf, if_true, eq_self, EOpd.ev, Env.get, Nat.reduceBEq, cond_true, cond_false, beq_self_eq_true] <;> rfl
   ·simp only [List.length_cons, List.length_nil]; omega
   ·simp only [List.length_cons, List.length_nil, maxLen]; omega
   repeat' first|(apply Sp.go;·constructor<;>first|exact ss|(change _=_;first|(simp only[go_sem,Nat.reduceBEq,Nat.reduceAdd,Nat.reduceLeDiff,reduceIte]<;>rfl)|rfl)|exact Nat.le_of_ble_eq_true rfl|decide|(repeat' first|(apply Lk.go;constructor)|assumption|exact nb ‹_› ‹_›|exact nt ‹_› ‹_›))|(intro b hb;repeat first|(refine fe hb ?_;intro _ _ hb)|(refine fT hb ?_;intro hb))|refine rt ?_|refine gA rfl ?_|refine gB rfl ?_|apply cT rfl|apply cF rfl|(apply DM.gbT;rfl)|(apply DM.gbF;rfl)|intro h
   refine AM.eqH (H2 := H.setT tv (.frz 3 1 (i + 1))) (by rw [setT_setT]; rfl) ?_
   refine AM.roundX (i + 1) ⟨rfl, by omega⟩ ?_ ?_
   ·(repeat first | exact envle_nil _ | (refine envle_cons ?_ ?_; · (simp only [go_sem, Nat.reduceBEq, Nat.reduceAdd]; exact AVLe.refl _)))
    refine envle_cons ?_ ?_
    ·simp only [go_sem, Nat.reduceBEq, Nat.reduceAdd]
     refine avle_int ?_
     rw [inc64 h3 (by unfold maxLen; omega)]
    refine envle_cons ?_ (envle_nil _)
    simp only [Env.get, Nat.reduceBEq, cond_true, cond_false, beq_self_eq_true]
    rw [List.take_add_one, hv]
    refine avle_eq ?_
    simp [kindsV]
   ·show xs.length - (i + 1) < xs.length - i
    omega
  ·intro h3
   simp at h3
   have : i = xs.length := by omega
   subst this
   repeat' first|(apply Sp.go;·constructor<;>first|exact ss|(change _=_;first|(simp only[go_sem,Nat.reduceBEq,Nat.reduceAdd,Nat.reduceLeDiff,reduceIte]<;>rfl)|rfl)|exact Nat.le_of_ble_eq_true rfl|decide|(repeat' first|(apply Lk.go;constructor)|assumption|exact nb ‹_› ‹_›|exact nt ‹_› ‹_›))|(intro b hb;repeat first|(refine fe hb ?_;intro _ _ hb)|(refine fT hb ?_;intro hb))|refine rt ?_|refine gA rfl ?_|refine gB rfl ?_|apply cT rfl|apply cF rfl|(apply DM.gbT;rfl)|(apply DM.gbF;rfl)|intro h
   (apply Sr.go;·constructor<;>first|(apply Lk.go;constructor<;>first|exact ss|(change _=_;first|(simp only[go_sem,Nat.reduceBEq,Nat.reduceAdd,Nat.reduceLeDiff,reduceIte]<;>rfl)|rfl)|exact Nat.le_of_ble_eq_true rfl|decide|(repeat' first|(apply Lk.go;constructor)|assumption|exact nb ‹_› ‹_›|exact nt ‹_› ‹_›))|assumption)
   rw [List.take_length]
   exact AVLe.own
theorem p40 (a b : List Int) : Pure Try.prog 40 [.vs 1 (a.map irow), .vs 1 (b.map irow)] (.bool (decide (a = b))) := by
 refine pure_assume (G := a.length ≤ maxLen) (fun m vs h => by simp only [RvL, Rv] at h; obtain ⟨_, _, _, ⟨_, _, _, _, h1, h2, _⟩, _⟩ := h; simp at h1; omega) fun hs => ?_
 refine pure_intro mo Try.func40 c40 fun H => ?_
 unfold e40 r40
 simp only [initEnv, initFrom]
 repeat' first|(apply Sp.go;·constructor<;>first|exact ss|(change _=_;first|(simp only[go_sem,Nat.reduceBEq,Nat.reduceAdd,Nat.reduceLeDiff,reduceIte]<;>rfl)|rfl)|exact Nat.le_of_ble_eq_true rfl|decide|(repeat' first|(apply Lk.go;constructor)|assumption|exact nb ‹_› ‹_›|exact nt ‹_› ‹_›))|(intro b hb;repeat first|(refine fe hb ?_;intro _ _ hb)|(refine fT hb ?_;intro hb))|refine rt ?_|refine gA rfl ?_|refine gB rfl ?_|apply cT rfl|apply cF rfl|(apply DM.gbT;rfl)|(apply DM.gbF;rfl)|intro h
 (apply AM.cond; (· rfl))
 ·intro h1
  simp at h1
  repeat' first|(apply Sp.go;·constructor<;>first|exact ss|(change _=_;first|(simp only[go_sem,Nat.reduceBEq,Nat.reduceAdd,Nat.reduceLeDiff,reduceIte]<;>rfl)|rfl)|exact Nat.le_of_ble_eq_true rfl|decide|(repeat' first|(apply Lk.go;constructor)|assumption|exact nb ‹_› ‹_›|exact nt ‹_› ‹_›))|(intro b hb;repeat first|(refine fe hb ?_;intro _ _ hb)|(refine fT hb ?_;intro hb))|refine rt ?_|refine gA rfl ?_|refine gB rfl ?_|apply cT rfl|apply cF rfl|(apply DM.gbT;rfl)|(apply DM.gbF;rfl)|intro h
  (apply Sr.go;·constructor<;>first|(apply Lk.go;constructor<;>first|exact ss|(change _=_;first|(simp only[go_sem,Nat.reduceBEq,Nat.reduceAdd,Nat.reduceLeDiff,reduceIte]<;>rfl)|rfl)|exact Nat.le_of_ble_eq_true rfl|decide|(repeat' first|(apply Lk.go;constructor)|assumption|exact nb ‹_› ‹_›|exact nt ‹_› ‹_›))|assumption)
  refine avle_eq ?_
  rw [decide_eq_false (fun e => h1 (by rw [e]))]
 ·intro h1
  simp at h1
  repeat' first|(apply Sp.go;·constructor<;>first|exact ss|(change _=_;first|(simp only[go_sem,Nat.reduceBEq,Nat.reduceAdd,Nat.reduceLeDiff,reduceIte]<;>rfl)|rfl)|exact Nat.le_of_ble_eq_true rfl|decide|(repeat' first|(apply Lk.go;constructor)|assumption|exact nb ‹_› ‹_›|exact nt ‹_› ‹_›))|(intro b hb;repeat first|(refine fe hb ?_;intro _ _ hb)|(refine fT hb ?_;intro hb))|refine rt ?_|refine gA rfl ?_|refine gB rfl ?_|apply cT rfl|apply cF rfl|(apply DM.gbT;rfl)|(apply DM.gbF;rfl)|intro h
  refine AM.loopX (X := Nat) 0 (fun i => [(0, .vs 1 (a.map irow)), (1, .vs 1 (b.map irow)), (5, .int .i64 i)]) (fun i H' => H' = H ∧ i ≤ a.length ∧ (a = b ↔ a.drop i = b.drop i)) (fun i => a.length - i) ⟨rfl, by omega, Iff.rfl⟩ ?_ ?_
  ·(repeat first | exact envle_nil _ | (refine envle_cons ?_ ?_; · (simp only [go_sem, Nat.reduceBEq, Nat.reduceAdd]; exact AVLe.refl _)))
  ·intro i H' ⟨e, hi, he⟩
   subst e
   repeat' first|(apply Sp.go;·constructor<;>first|exact ss|(change _=_;first|(simp only[go_sem,Nat.reduceBEq,Nat.reduceAdd,Nat.reduceLeDiff,reduceIte]<;>rfl)|rfl)|exact Nat.le_of_ble_eq_true rfl|decide|(repeat' first|(apply Lk.go;constructor)|assumption|exact nb ‹_› ‹_›|exact nt ‹_› ‹_›))|(intro b hb;repeat first|(refine fe hb ?_;intro _ _ hb)|(refine fT hb ?_;intro hb))|refine rt ?_|refine gA rfl ?_|refine gB rfl ?_|apply cT rfl|apply cF rfl|(apply DM.gbT;rfl)|(apply DM.gbF;rfl)|intro h
   (apply AM.cond; (· rfl))
   ·intro h3
    simp at h3
    obtain ⟨c, hc⟩ := some_of h3
    obtain ⟨d, hd⟩ := some_of (show i < b.length by omega)
    rw [drop_of hc, drop_of hd] at he
    repeat' first|(apply Sp.go;·constructor<;>first|exact ss|(change _=_;first|(simp only[go_sem,Nat.reduceBEq,Nat.reduceAdd,Nat.reduceLeDiff,reduceIte]<;>rfl)|rfl)|exact Nat.le_of_ble_eq_true rfl|decide|(repeat' first|(apply Lk.go;constructor)|assumption|exact nb ‹_› ‹_›|exact nt ‹_› ‹_›))|(intro b hb;repeat first|(refine fe hb ?_;intro _ _ hb)|(refine fT hb ?_;intro hb))|refine rt ?_|refine gA rfl ?_|refine gB rfl ?_|apply cT rfl|apply cF rfl|(apply DM.gbT;rfl)|(apply DM.gbF;rfl)|(apply DM.ixV (row := irow c) (z := (i : Int)) (by omega) (row_get irow hc); (· rfl); (· rfl))|(apply DM.ixV (row := irow d) (z := (i : Int)) (by omega) (row_get irow hd); (· rfl); (· rfl))|intro h
    (apply AM.cond; (· rfl))
    ·intro h4
     simp at h4
     repeat' first|(apply Sp.go;·constructor<;>first|exact ss|(change _=_;first|(simp only[go_sem,Nat.reduceBEq,Nat.reduceAdd,Nat.reduceLeDiff,reduceIte]<;>rfl)|rfl)|exact Nat.le_of_ble_eq_true rfl|decide|(repeat' first|(apply Lk.go;constructor)|assumption|exact nb ‹_› ‹_›|exact nt ‹_› ‹_›))|(intro b hb;repeat first|(refine fe hb ?_;intro _ _ hb)|(refine fT hb ?_;intro hb))|refine rt ?_|refine gA rfl ?_|refine gB rfl ?_|apply cT rfl|apply cF rfl|(apply DM.gbT;rfl)|(apply DM.gbF;rfl)|intro h
     (apply Sr.go;·constructor<;>first|(apply Lk.go;constructor<;>first|exact ss|(change _=_;first|(simp only[go_sem,Nat.reduceBEq,Nat.reduceAdd,Nat.reduceLeDiff,reduceIte]<;>rfl)|rfl)|exact Nat.le_of_ble_eq_true rfl|decide|(repeat' first|(apply Lk.go;constructor)|assumption|exact nb ‹_› ‹_›|exact nt ‹_› ‹_›))|assumption)
     refine avle_eq ?_
     rw [decide_eq_false (fun e => h4 (by have := he.1 e; simp at this; exact this.1))]
    ·intro h4
     simp at h4
     subst h4
     repeat' first|(apply Sp.go;·constructor<;>first|exact ss|(change _=_;first|(simp only[go_sem,Nat.reduceBEq,Nat.reduceAdd,Nat.reduceLeDiff,reduceIte]<;>rfl)|rfl)|exact Nat.le_of_ble_eq_true rfl|decide|(repeat' first|(apply Lk.go;constructor)|assumption|exact nb ‹_› ‹_›|exact nt ‹_› ‹_›))|(intro b hb;repeat first|(refine fe hb ?_;intro _ _ hb)|(refine fT hb ?_;intro hb))|refine rt ?_|refine gA rfl ?_|refine gB rfl ?_|apply cT rfl|apply cF rfl|(apply DM.gbT;rfl)|(apply DM.gbF;rfl)|intro h
     refine AM.roundX (i + 1) ⟨rfl, by omega, he.trans (by simp)⟩ ?_ ?_
     ·(repeat first | exact envle_nil _ | (refine envle_cons ?_ ?_; · (simp only [go_sem, Nat.reduceBEq, Nat.reduceAdd]; exact AVLe.refl _)))
      refine envle_cons ?_ ?_
      ·simp only [go_sem, Nat.reduceBEq, Nat.reduceAdd]
       refine avle_int ?_
       rw [inc64 h3 hs]
      exact envle_nil _
     ·show a.length - (i + 1) < a.length - i
      omega
   ·intro h3
    simp at h3
    repeat' first|(apply Sp.go;·constructor<;>first|exact ss|(change _=_;first|(simp only[go_sem,Nat.reduceBEq,Nat.reduceAdd,Nat.reduceLeDiff,reduceIte]<;>rfl)|rfl)|exact Nat.le_of_ble_eq_true rfl|decide|(repeat' first|(apply Lk.go;constructor)|assumption|exact nb ‹_› ‹_›|exact nt ‹_› ‹_›))|(intro b hb;repeat first|(refine fe hb ?_;intro _ _ hb)|(refine fT hb ?_;intro hb))|refine rt ?_|refine gA rfl ?_|refine gB rfl ?_|apply cT rfl|apply cF rfl|(apply DM.gbT;rfl)|(apply DM.gbF;rfl)|intro h
    (apply Sr.go;·constructor<;>first|(apply Lk.go;constructor<;>first|exact ss|(change _=_;first|(simp only[go_sem,Nat.reduceBEq,Nat.reduceAdd,Nat.reduceLeDiff,reduceIte]<;>rfl)|rfl)|exact Nat.le_of_ble_eq_true rfl|decide|(repeat' first|(apply Lk.go;constructor)|assumption|exact nb ‹_› ‹_›|exact nt ‹_› ‹_›))|assumption)
    refine avle_eq ?_
    rw [decide_eq_true (he.2 (by rw [List.drop_eq_nil_of_le h3, List.drop_eq_nil_of_le (by omega)]))]
def straightOp (x : Ins_) : Prop := ¬ (19 ≤ x.op ∧ x.op ≤ 23)
def svF (p : Prog) (ps rr : List Int) : Nat → Nat → List Int → Option Nat
 | 0, _, _ => none
 | n + 1, i, st => match p.code[i]? with
  | none => none
  | some x => if x.op = 24 then (if st = rr then some 1 else none) else match valuesP p ps rr x st with
   | none => none
   | some st' => (svF p ps rr n (i + 1) st').map (· + 1)
theorem svF_le {p : Prog} {ps rr : List Int} : ∀ {n i : Nat} {st : List Int} {w : Nat}, svF p ps rr n i st = some w → w ≤ n
 | 0, _, _, _, h => by simp [svF] at h
 | n + 1, i, st, w, h => by
  simp only [svF] at h
  split at h
  ·cases h
  ·split at h
   ·split at h
    ·cases h; omega
    ·cases h
   ·split at h
    ·cases h
    ·simp only [Option.map_eq_some_iff] at h
     obtain ⟨v, h1, rfl⟩ := h
     have := svF_le h1
     omega
theorem cost_straight {p : Prog} (hval : validP p = true) (hs : ∀ x ∈ p.code, straightOp x) {ps rr : List Int} : ∀ (n i : Nat) (S : List (Option St2)) (st : List Int) (c : Nat), i + (n + 1) = p.code.length → S.length = p.code.length → S[i]? = some (some (st, [])) → (∀ j : Nat, i < j → j < p.code.length → S[j]? = some none) → c + n ≤ 2000 →
  (∀ w, svF p ps rr (n + 1) i st = some w → costF p ps rr (n + 1) i S (c : Int) = (((c + w : Nat) : Int), 0, 0)) ∧ (svF p ps rr (n + 1) i st = none → (costF p ps rr (n + 1) i S (c : Int)).2.2 ≠ 0)
 | n, i, S, st, c, h1, h2, h3, h4, h5 => by
  have hi : i < p.code.length := by omega
  have hcl := code_len hval
  obtain ⟨x, hx⟩ := some_of hi
  have hso := hs x (List.mem_of_getElem? hx)
  have ew : IntKind.i64.wrap ((c : Int) + roundsP p ([] : List Int)) = ((c + 1 : Nat) : Int) := by
   rw [show roundsP p [] = 1 from rfl, wrap64 (by omega) (by omega)]; omega
  have hsv : svF p ps rr (n + 1) i st = if x.op = 24 then (if st = rr then some 1 else none) else match valuesP p ps rr x st with
   | none => none
   | some st' => (svF p ps rr n (i + 1) st').map (· + 1) := by simp only [svF, hx]
  rw [hsv]
  by_cases c24 : x.op = 24
  ·rw [if_pos c24]
   have ev : valuesP p ps rr x st = if st = rr then some st else none := by rw [vals_control (by omega), if_neg (by omega), if_pos c24]
   have el : loopsP p i x ([] : List Int) = some [] := by simp [loopsP, loopsQ, finP, c24]
   by_cases hr : st = rr
   ·rw [if_pos hr]
    refine ⟨fun w hw => ?_, fun h => by cases h⟩
    cases hw
    have e : lookP p ps rr S i = (0, S) := by
     unfold lookP
     rw [hx, h3]
     simp only [ev, if_pos hr, el, if_pos (Or.inr c24 : x.op = 19 ∨ x.op = 24)]
     rw [if_neg (fun q => by omega)]
    rw [costF_ok h3 (by rw [e]), e, ew]
    exact costF_none n (i + 1) S _ fun j g1 g2 => h4 j (by omega) (by omega)
   ·rw [if_neg hr]
    refine ⟨fun w hw => (by cases hw), fun _ => ?_⟩
    have e : lookP p ps rr S i = (11, S) := by
     unfold lookP
     rw [hx, h3]
     simp only [ev, if_neg hr]
    rw [costF_err h3 (by rw [e]; simp), e]
    simp
  ·rw [if_neg c24]
   have hne : ¬ (x.op = 19 ∨ x.op = 24) := by unfold straightOp at hso; omega
   have hno : ¬ (x.op = 19 ∨ x.op = 20 ∨ x.op = 22) := by unfold straightOp at hso; omega
   cases hv : valuesP p ps rr x st with
   | none =>
    refine ⟨fun w hw => (by cases hw), fun _ => ?_⟩
    have e : lookP p ps rr S i = (11, S) := by
     unfold lookP
     rw [hx, h3]
     simp only [hv]
    rw [costF_err h3 (by rw [e]; simp), e]
    simp
   | some st' =>
    dsimp only
    have eq0 : loopsQ i x ([] : List Int) = some [] := by
     unfold straightOp at hso
     unfold loopsQ
     rw [if_neg (by omega), if_neg (by omega), if_neg (by omega), if_neg c24, if_neg (by omega)]
    by_cases hl : i + 1 < p.code.length
    ·have el : loopsP p i x ([] : List Int) = some [] := by simp [loopsP, eq0, finP, hl]
     have er : reachP S (i + 1) (st', []) = (0, S.set (i + 1) (some (st', []))) := by
      unfold reachP; rw [h4 (i + 1) (by omega) hl]
     have e : lookP p ps rr S i = (0, S.set (i + 1) (some (st', []))) := by
      unfold lookP
      rw [hx, h3]
      simp only [hv, el, if_neg hne, er]
      rw [if_neg (fun q => hno q.2)]
     rw [costF_ok h3 (by rw [e]), e, ew]
     obtain ⟨m, rfl⟩ : ∃ m, n = m + 1 := ⟨n - 1, by omega⟩
     obtain ⟨k1, k2⟩ := cost_straight hval hs m (i + 1) (S.set (i + 1) (some (st', []))) st' (c + 1) (by omega) (by simpa using h2) (by rw [List.getElem?_set_self (by omega)]) (fun j g1 g2 => by rw [List.getElem?_set_ne (by omega)]; exact h4 j (by omega) g2) (by omega)
     refine ⟨fun w hw => ?_, fun h => k2 (by simpa using h)⟩
     simp only [Option.map_eq_some_iff] at hw
     obtain ⟨w', g, rfl⟩ := hw
     rw [k1 w' g]
     congr 2
     omega
    ·have hn0 : n = 0 := by omega
     subst hn0
     have el : loopsP p i x ([] : List Int) = none := by
      simp only [loopsP, eq0, Option.bind_some, finP]
      rw [if_neg (fun q => by rcases q with q | q | q; exact hne (.inl q); exact c24 q; exact hl q)]
     have e : lookP p ps rr S i = (7, S) := by
      unfold lookP
      rw [hx, h3]
      simp only [hv, el]
     refine ⟨fun w hw => by simp [svF] at hw, fun _ => ?_⟩
     rw [costF_err h3 (by rw [e]; simp), e]
     simp
theorem run_straight {p : Prog} (hval : validP p = true) (hs : ∀ x ∈ p.code, straightOp x) {ps : List Val} {rr : List Int} (hps : ∀ v ∈ ps, validV v = true) : ∀ (n i fuel u : Nat) (st : List Int) (M : Mach), i + n = p.code.length → n ≤ fuel → st.length ≤ 16 → M.tr = false → M.dn = false → FV p M.vars → M.pc = (i : Int) → TS M.stack st →
  (∀ w, svF p (ps.map fun v => v.k) rr n i st = some w → ∃ stk vs, runF p ps fuel M u = ⟨stk, vs, ((u + w : Nat) : Int), 0⟩ ∧ stk.map (fun v => v.k) = rr) ∧ (svF p (ps.map fun v => v.k) rr n i st = none → (runF p ps fuel M u).err ≠ 0 ∨ (runF p ps fuel M u).stack.map (fun v => v.k) ≠ rr)
 | 0, i, fuel, u, st, M, h1, h2, h3, h4, h5, h6, h7, h8 => by
  refine ⟨fun w hw => by simp [svF] at hw, fun _ => .inl ?_⟩
  rw [runF.eq_def]
  dsimp only
  rw [if_neg (by rw [h5]; simp), if_pos (by rw [h7]; omega)]
  simp
 | n + 1, i, fuel, u, st, M, h1, h2, h3, h4, h5, h6, h7, h8 => by
  have hi : i < p.code.length := by omega
  have hcl := code_len hval
  obtain ⟨x, hx⟩ := some_of hi
  have hxm : x ∈ p.code := List.mem_of_getElem? hx
  have hso := hs x hxm
  obtain ⟨fuel, rfl⟩ : ∃ f, fuel = f + 1 := ⟨fuel - 1, by omega⟩
  have hW : W ((i : Int) + 1) = ((i + 1 : Nat) : Int) := inc64 hi (by unfold maxLen; omega)
  have e0 : stepM p ps M = stepX p ps x { M with pc := ((i + 1 : Nat) : Int) } := by simp [stepM, h7, hx, hW]
  have hsv : svF p (ps.map fun v => v.k) rr (n + 1) i st = if x.op = 24 then (if st = rr then some 1 else none) else match valuesP p (ps.map fun v => v.k) rr x st with
   | none => none
   | some st' => (svF p (ps.map fun v => v.k) rr n (i + 1) st').map (· + 1) := by simp only [svF, hx]
  rw [hsv]
  by_cases c24 : x.op = 24
  ·rw [if_pos c24]
   have e1 : stepM p ps M = { M with pc := ((i + 1 : Nat) : Int), dn := true } := by
    rw [e0, stepX_control (by omega)]; simp [controlM, c24]
   have er : runF p ps (fuel + 1) M u = ⟨M.stack, M.vars, ((u + 1 : Nat) : Int), 0⟩ := by
    rw [runF_go h5 (by rw [h7]; omega) (by rw [e1]; exact h4), e1, runF_done rfl]
   rw [er]
   by_cases hr : st = rr
   ·rw [if_pos hr]
    exact ⟨fun w hw => (by cases hw; exact ⟨_, _, rfl, h8.k.trans hr⟩), fun h => by cases h⟩
   ·rw [if_neg hr]
    exact ⟨fun w hw => (by cases hw), fun _ => .inr (by show M.stack.map _ ≠ rr; rw [h8.k]; exact hr)⟩
  ·rw [if_neg c24]
   obtain ⟨g1, g2⟩ := vals_step hval (rr := rr) hxm (M := { M with pc := ((i + 1 : Nat) : Int) }) h3 h4 h8 h6 hps (by unfold straightOp at hso; omega)
   cases hv : valuesP p (ps.map fun v => v.k) rr x st with
   | none =>
    have ht := g2 hv
    rw [← e0] at ht
    refine ⟨fun w hw => (by cases hw), fun _ => .inl ?_⟩
    rw [runF_trap h5 (by rw [h7]; omega) ht]
    simp
   | some st' =>
    dsimp only
    obtain ⟨stk, vs, r1, r2, r3⟩ := g1 st' hv
    rw [← e0] at r1
    have er : runF p ps (fuel + 1) M u = runF p ps fuel { M with pc := ((i + 1 : Nat) : Int), stack := stk, vars := vs } (u + 1) := by
     rw [runF_go h5 (by rw [h7]; omega) (by rw [r1]; exact h4), r1]
    obtain ⟨k1, k2⟩ := run_straight hval hs hps n (i + 1) fuel (u + 1) st' { M with pc := ((i + 1 : Nat) : Int), stack := stk, vars := vs } (by omega) (by omega) (valuesP_len h3 hv) h4 h5 r3 rfl r2
    rw [er]
    refine ⟨fun w hw => ?_, fun h => k2 (by simpa using h)⟩
    simp only [Option.map_eq_some_iff] at hw
    obtain ⟨w', q, rfl⟩ := hw
    obtain ⟨a, b, q1, q2⟩ := k1 w' q
    exact ⟨a, b, by rw [q1, show u + 1 + w' = u + (w' + 1) by omega], q2⟩
theorem start_sound {p : Prog} (hval : validP p = true) : soundP p (R.startP p).1 = true := by
 have e : (R.startP p).1 = p.vars.map fun v => v.init := by simp [R.startP, hval]
 rw [e]
 simp only [soundP, Bool.and_eq_true]
 refine ⟨hval, eqF_iff.2 ⟨by simp, fun i a b ha hb => ?_⟩⟩
 rw [List.getElem?_map, ha] at hb
 cases hb
 have hv := hval
 simp only [validP, varsOk, Bool.and_eq_true] at hv
 have h := hv.1.1.2.1
 simp only [allI, List.all_eq_true, List.mem_range] at h
 have := h i (List.getElem?_eq_some_iff.1 ha).1
 simp [okVar, ha] at this
 exact this.2
theorem straight_law {p : Prog} (hval : validP p = true) (hs : ∀ x ∈ p.code, straightOp x) (hl : p.code.length ≤ 40) {ps : List Val} {rr : List Int} (hps : ∀ v ∈ ps, validV v = true) (hpl : ps.length ≤ 4) :
  (((costP p 0 (kindsV ps) rr).2.2 = 0 ↔ (runP p 0 (R.startP p).1 ps 100).err = 0 ∧ kindsV (runP p 0 (R.startP p).1 ps 100).stack = rr)) ∧ ((costP p 0 (kindsV ps) rr).2.2 = 0 → (costP p 0 (kindsV ps) rr).1 = (runP p 0 (R.startP p).1 ps 100).used) := by
 have hsd := start_sound hval
 have hfv : FV p (R.startP p).1 := by simp only [soundP, Bool.and_eq_true] at hsd; exact hsd.2
 have h1 : 1 ≤ p.code.length := by simp [validP, inB] at hval; omega
 have hc : costP p 0 (kindsV ps) rr = costF p (kindsV ps) rr ((p.code.length - 1) + 1) 0 (start0 p.code.length 0) ((0 : Nat) : Int) := by
  unfold costP; rw [if_neg (fun q => by rcases q with q | q | q; (rw [hval] at q; cases q); omega; omega)]
  have e2 : p.code.length - Int.toNat 0 = p.code.length - 1 + 1 := by have : Int.toNat 0 = 0 := rfl; omega
  rw [e2]
  rfl
 have hbad : badArgs p 0 (R.startP p).1 ps = false := by
  unfold badArgs
  rw [hsd, decide_eq_false (show ¬ (0 : Int) < 0 by omega), decide_eq_false (show ¬ ((p.code.length : Int) ≤ 0) by omega), decide_eq_false (show ¬ 4 < ps.length by omega)]
  simp only [Bool.not_true, Bool.false_or, List.any_eq_false]
  exact fun v hv => by rw [hps v hv]; simp
 have hr : runP p 0 (R.startP p).1 ps 100 = runF p ps 100 (mach0 (R.startP p).1 0) 0 := by rw [runP, hbad]; rfl
 obtain ⟨a1, a2⟩ := cost_straight hval hs (ps := kindsV ps) (rr := rr) (p.code.length - 1) 0 (start0 p.code.length 0) [] 0 (by omega) start_len (by rw [start0, List.getElem?_set_self (by rw [List.length_replicate]; omega)]) (fun j g1 g2 => by rw [start0, List.getElem?_set_ne (by omega), List.getElem?_replicate, if_pos g2]) (by omega)
 obtain ⟨b1, b2⟩ := run_straight hval hs (rr := rr) hps (p.code.length - 1 + 1) 0 100 0 [] (mach0 (R.startP p).1 0) (by omega) (by omega) (by simp) rfl rfl hfv rfl ⟨rfl, fun v hv => by simp [mach0] at hv⟩
 rw [hc, hr]
 cases hsv : svF p (kindsV ps) rr (p.code.length - 1 + 1) 0 [] with
 | none =>
  have q1 := a2 hsv
  have q2 := b2 hsv
  refine ⟨⟨fun h => absurd h q1, fun h => ?_⟩, fun h => absurd h q1⟩
  rcases q2 with q | q
  ·exact absurd h.1 q
  ·exact absurd h.2 q
 | some w =>
  rw [a1 w hsv]
  obtain ⟨stk, vs, q1, q2⟩ := b1 w hsv
  rw [q1]
  exact ⟨⟨fun _ => ⟨rfl, q2⟩, fun _ => rfl⟩, fun _ => rfl⟩
end Go.Aw.T
namespace Go.Aw.T
open Go Go.Aw Go.Proofs Go.RowKit
set_option maxRecDepth 100000
attribute [local irreducible] Go.Aw.DM Go.Aw.AHeap.setB Go.Aw.AHeap.setT
attribute [local go_sem] peval EOpd.ev Env.get binInt binStr binBool buildParts AV.cells AV.okc setRange minmaxAV AV.one AV.ofCells eqCells eqCell bslRows cond_true cond_false beq_self_eq_true Bool.not_true Bool.not_false beq_true beq_false eq_self if_true Option.some.injEq List.length_cons List.length_nil List.take_succ_cons List.take_zero List.drop_succ_cons List.drop_zero List.set_cons_succ List.set_cons_zero List.nil_append List.cons_append List.append_nil and_self Option.map_some List.map_cons List.map_nil Bool.false_eq_true if_false Nat.zero_add Nat.add_zero true_and and_true Bool.and_true Bool.true_and List.getElem?_cons_zero List.getElem?_cons_succ Nat.zero_le Nat.le_refl
set_option linter.unusedSimpArgs false
set_option linter.unusedVariables false
set_option maxHeartbeats 16000000 in
theorem p13 (hR : RepeatOk) (p : Prog) (ps : List Val) (rr : List Int) : Pure Try.prog 13 [p.av, .vs 3 (ps.map Val.row), .vs 1 (rr.map irow)] (.bool true) := by
 refine pure_intro mo Try.func13 c13 fun H => ?_
 unfold e13 r13
 simp only [initEnv, initFrom]
 repeat' first|(apply Sp.go;·constructor<;>first|exact ss|(change _=_;first|(simp only[go_sem,Nat.reduceBEq,Nat.reduceAdd,Nat.reduceLeDiff,reduceIte]<;>rfl)|rfl)|exact Nat.le_of_ble_eq_true rfl|decide|(repeat' first|(apply Lk.go;constructor)|assumption|exact nb ‹_› ‹_›|exact nt ‹_› ‹_›))|(intro b hb;repeat first|(refine fe hb ?_;intro _ _ hb)|(refine fT hb ?_;intro hb))|refine rt ?_|refine gA rfl ?_|refine gB rfl ?_|apply cT rfl|apply cF rfl|(apply DM.gbT;rfl)|(apply DM.gbF;rfl)|intro h
 rename Nat => b3
 have hs3 : HSub H (H.setB b3 27 p.cells) := HSub.setB (HSub.refl _) hb
 have h3 : (H.setB b3 27 p.cells).blk b3 = some (27, p.cells) := g_same
 generalize H.setB b3 27 p.cells = F at hs3 h3 ⊢
 clear hb
 have fin : ∀ {k : List Item} {env : Env} {H' : AHeap}, HSub F H' → env.get 6 = .bool true → AM Try.prog r13 (fun o H' => ∃ a, o = Out.ret a ∧ AVLe a (.bool true) ∧ HSub H H') (.c .ret :: k) env H' := fun hh he => AM.ret (v := .bool true) (by simp [Aw.results, r13, ERes.ev, he]) ⟨_, rfl, AVLe.refl _, hs3.trans hh⟩
 (apply DM.pcs (p15); (· simp only [go_sem, Nat.reduceBEq, Nat.reduceAdd] <;> rfl); (· exact AVLes.refl _))
 repeat' first|(apply Sp.go;·constructor<;>first|exact ss|(change _=_;first|(simp only[go_sem,Nat.reduceBEq,Nat.reduceAdd,Nat.reduceLeDiff,reduceIte]<;>rfl)|rfl)|exact Nat.le_of_ble_eq_true rfl|decide|(repeat' first|(apply Lk.go;constructor)|assumption|exact nb ‹_› ‹_›|exact nt ‹_› ‹_›))|(intro b hb;repeat first|(refine fe hb ?_;intro _ _ hb)|(refine fT hb ?_;intro hb))|refine rt ?_|refine gA rfl ?_|refine gB rfl ?_|apply cT rfl|apply cF rfl|(apply DM.gbT;rfl)|(apply DM.gbF;rfl)|intro h
 (apply DM.pcs (p16 p); (· simp only [go_sem, Nat.reduceBEq, Nat.reduceAdd] <;> rfl); (· exact AVLes.refl _))
 cases hf : fewP p with
 | false =>
  repeat' first|(apply Sp.go;·constructor<;>first|exact ss|(change _=_;first|(simp only[go_sem,Nat.reduceBEq,Nat.reduceAdd,Nat.reduceLeDiff,reduceIte]<;>rfl)|rfl)|exact Nat.le_of_ble_eq_true rfl|decide|(repeat' first|(apply Lk.go;constructor)|assumption|exact nb ‹_› ‹_›|exact nt ‹_› ‹_›))|(intro b hb;repeat first|(refine fe hb ?_;intro _ _ hb)|(refine fT hb ?_;intro hb))|refine rt ?_|refine gA rfl ?_|refine gB rfl ?_|apply cT rfl|apply cF rfl|(apply DM.gbT;rfl)|(apply DM.gbF;rfl)|intro h
  exact fin (HSub.refl _) rfl
 | true =>
  have hl1 := few_len hf
  repeat' first|(apply Sp.go;·constructor<;>first|exact ss|(change _=_;first|(simp only[go_sem,Nat.reduceBEq,Nat.reduceAdd,Nat.reduceLeDiff,reduceIte]<;>rfl)|rfl)|exact Nat.le_of_ble_eq_true rfl|decide|(repeat' first|(apply Lk.go;constructor)|assumption|exact nb ‹_› ‹_›|exact nt ‹_› ‹_›))|(intro b hb;repeat first|(refine fe hb ?_;intro _ _ hb)|(refine fT hb ?_;intro hb))|refine rt ?_|refine gA rfl ?_|refine gB rfl ?_|apply cT rfl|apply cF rfl|(apply DM.gbT;rfl)|(apply DM.gbF;rfl)|intro h
  (apply DM.pcs (R.p22 p); (· simp only [go_sem, Nat.reduceBEq, Nat.reduceAdd] <;> rfl); (· exact AVLes.refl _))
  cases hval : validP p with
  | false =>
   repeat' first|(apply Sp.go;·constructor<;>first|exact ss|(change _=_;first|(simp only[go_sem,Nat.reduceBEq,Nat.reduceAdd,Nat.reduceLeDiff,reduceIte]<;>rfl)|rfl)|exact Nat.le_of_ble_eq_true rfl|decide|(repeat' first|(apply Lk.go;constructor)|assumption|exact nb ‹_› ‹_›|exact nt ‹_› ‹_›))|(intro b hb;repeat first|(refine fe hb ?_;intro _ _ hb)|(refine fT hb ?_;intro hb))|refine rt ?_|refine gA rfl ?_|refine gB rfl ?_|apply cT rfl|apply cF rfl|(apply DM.gbT;rfl)|(apply DM.gbF;rfl)|intro h
   exact fin (HSub.refl _) rfl
  | true =>
   by_cases h1 : 40 < p.code.length
   ·have e1 : decide ((40 : Int) < ((p.code.map Ins_.row).length : Int)) = true := decide_eq_true (by rw [List.length_map]; omega)
    repeat' first|(apply Sp.go;·constructor<;>first|exact ss|(change _=_;first|(simp only[go_sem,Nat.reduceBEq,Nat.reduceAdd,Nat.reduceLeDiff,reduceIte, e1]<;>rfl)|rfl)|exact Nat.le_of_ble_eq_true rfl|decide|(repeat' first|(apply Lk.go;constructor)|assumption|exact nb ‹_› ‹_›|exact nt ‹_› ‹_›))|(intro b hb;repeat first|(refine fe hb ?_;intro _ _ hb)|(refine fT hb ?_;intro hb))|refine rt ?_|refine gA rfl ?_|refine gB rfl ?_|apply cT rfl|apply cF rfl|(apply DM.gbT;rfl)|(apply DM.gbF;rfl)|intro h
    exact fin (HSub.refl _) rfl
   have e1 : decide ((40 : Int) < ((p.code.map Ins_.row).length : Int)) = false := decide_eq_false (by rw [List.length_map]; omega)
   by_cases h2 : 4 < ps.length
   ·have e2 : decide ((4 : Int) < ((ps.map Val.row).length : Int)) = true := decide_eq_true (by rw [List.length_map]; omega)
    repeat' first|(apply Sp.go;·constructor<;>first|exact ss|(change _=_;first|(simp only[go_sem,Nat.reduceBEq,Nat.reduceAdd,Nat.reduceLeDiff,reduceIte, e1, e2]<;>rfl)|rfl)|exact Nat.le_of_ble_eq_true rfl|decide|(repeat' first|(apply Lk.go;constructor)|assumption|exact nb ‹_› ‹_›|exact nt ‹_› ‹_›))|(intro b hb;repeat first|(refine fe hb ?_;intro _ _ hb)|(refine fT hb ?_;intro hb))|refine rt ?_|refine gA rfl ?_|refine gB rfl ?_|apply cT rfl|apply cF rfl|(apply DM.gbT;rfl)|(apply DM.gbF;rfl)|intro h
    exact fin (HSub.refl _) rfl
   have e2 : decide ((4 : Int) < ((ps.map Val.row).length : Int)) = false := decide_eq_false (by rw [List.length_map]; omega)
   by_cases h4 : 40 < rr.length
   ·have e3 : decide ((40 : Int) < ((rr.map irow).length : Int)) = true := decide_eq_true (by rw [List.length_map]; omega)
    repeat' first|(apply Sp.go;·constructor<;>first|exact ss|(change _=_;first|(simp only[go_sem,Nat.reduceBEq,Nat.reduceAdd,Nat.reduceLeDiff,reduceIte, e1, e2, e3]<;>rfl)|rfl)|exact Nat.le_of_ble_eq_true rfl|decide|(repeat' first|(apply Lk.go;constructor)|assumption|exact nb ‹_› ‹_›|exact nt ‹_› ‹_›))|(intro b hb;repeat first|(refine fe hb ?_;intro _ _ hb)|(refine fT hb ?_;intro hb))|refine rt ?_|refine gA rfl ?_|refine gB rfl ?_|apply cT rfl|apply cF rfl|(apply DM.gbT;rfl)|(apply DM.gbF;rfl)|intro h
    exact fin (HSub.refl _) rfl
   have e3 : decide ((40 : Int) < ((rr.map irow).length : Int)) = false := decide_eq_false (by rw [List.length_map]; omega)
   repeat' first|(apply Sp.go;·constructor<;>first|exact ss|(change _=_;first|(simp only[go_sem,Nat.reduceBEq,Nat.reduceAdd,Nat.reduceLeDiff,reduceIte, e1, e2, e3]<;>rfl)|rfl)|exact Nat.le_of_ble_eq_true rfl|decide|(repeat' first|(apply Lk.go;constructor)|assumption|exact nb ‹_› ‹_›|exact nt ‹_› ‹_›))|(intro b hb;repeat first|(refine fe hb ?_;intro _ _ hb)|(refine fT hb ?_;intro hb))|refine rt ?_|refine gA rfl ?_|refine gB rfl ?_|apply cT rfl|apply cF rfl|(apply DM.gbT;rfl)|(apply DM.gbF;rfl)|intro h
   refine AM.loopX (X := Nat) 0 (fun i => [(1, .vs 3 (ps.map Val.row)), (2, .vs 1 (rr.map irow)), (3, .ptr b3 0), (7, .int .i64 i)]) (fun i H' => H' = F ∧ i ≤ p.code.length ∧ ∀ (j : Nat) (x : Ins_), j < i → p.code[j]? = some x → straightOp x) (fun i => p.code.length - i) ⟨rfl, by omega, fun j x hj => by omega⟩ ?_ ?_
   ·(repeat first | exact envle_nil _ | (refine envle_cons ?_ ?_; · (simp only [go_sem, Nat.reduceBEq, Nat.reduceAdd]; exact AVLe.refl _)))
   ·intro i H' ⟨e, hi, hok⟩
    subst e
    repeat' first|(apply Sp.go;·constructor<;>first|exact ss|(change _=_;first|(simp only[go_sem,Nat.reduceBEq,Nat.reduceAdd,Nat.reduceLeDiff,reduceIte]<;>rfl)|rfl)|exact Nat.le_of_ble_eq_true rfl|decide|(repeat' first|(apply Lk.go;constructor)|assumption|exact nb ‹_› ‹_›|exact nt ‹_› ‹_›))|(intro b hb;repeat first|(refine fe hb ?_;intro _ _ hb)|(refine fT hb ?_;intro hb))|refine rt ?_|refine gA rfl ?_|refine gB rfl ?_|apply cT rfl|apply cF rfl|(apply DM.gbT;rfl)|(apply DM.gbF;rfl)|intro h
    (apply AM.cond; (· rfl))
    ·intro h5
     simp at h5
     obtain ⟨x, hx⟩ := some_of h5
     repeat' first|(apply Sp.go;·constructor<;>first|exact ss|(change _=_;first|(simp only[go_sem,Nat.reduceBEq,Nat.reduceAdd,Nat.reduceLeDiff,reduceIte]<;>rfl)|rfl)|exact Nat.le_of_ble_eq_true rfl|decide|(repeat' first|(apply Lk.go;constructor)|assumption|exact nb ‹_› ‹_›|exact nt ‹_› ‹_›))|(intro b hb;repeat first|(refine fe hb ?_;intro _ _ hb)|(refine fT hb ?_;intro hb))|refine rt ?_|refine gA rfl ?_|refine gB rfl ?_|apply cT rfl|apply cF rfl|(apply DM.gbT;rfl)|(apply DM.gbF;rfl)|(apply DM.ixV (row := x.row) (z := (i : Int)) (by omega) (row_get Ins_.row hx); (· rfl); (· rfl))|intro h
     (apply DM.pcs (R.p42 x.op); (· simp only [go_sem, Nat.reduceBEq, Nat.reduceAdd] <;> rfl); (· exact AVLes.refl _))
     by_cases hso : straightOp x
     ·have d19 : decide (x.op = 19) = false := decide_eq_false (by unfold straightOp at hso; omega)
      have d20 : decide (x.op = 20) = false := decide_eq_false (by unfold straightOp at hso; omega)
      have d22 : decide (x.op = 22) = false := decide_eq_false (by unfold straightOp at hso; omega)
      have d21 : decide (x.op = 21) = false := decide_eq_false (by unfold straightOp at hso; omega)
      have d23 : decide (x.op = 23) = false := decide_eq_false (by unfold straightOp at hso; omega)
      repeat' first|(apply Sp.go;·constructor<;>first|exact ss|(change _=_;first|(simp only[go_sem,Nat.reduceBEq,Nat.reduceAdd,Nat.reduceLeDiff,reduceIte, d19, d20, d21, d22, d23, Bool.or_false]<;>rfl)|rfl)|exact Nat.le_of_ble_eq_true rfl|decide|(repeat' first|(apply Lk.go;constructor)|assumption|exact nb ‹_› ‹_›|exact nt ‹_› ‹_›))|(intro b hb;repeat first|(refine fe hb ?_;intro _ _ hb)|(refine fT hb ?_;intro hb))|refine rt ?_|refine gA rfl ?_|refine gB rfl ?_|apply cT rfl|apply cF rfl|(apply DM.gbT;rfl)|(apply DM.gbF;rfl)|intro h
      refine AM.roundX (i + 1) ⟨rfl, by omega, fun j y hj hy => ?_⟩ ?_ ?_
      ·by_cases q : j = i
       ·subst q
        rw [hx] at hy
        cases hy
        exact hso
       ·exact hok j y (by omega) hy
      ·(repeat first | exact envle_nil _ | (refine envle_cons ?_ ?_; · (simp only [go_sem, Nat.reduceBEq, Nat.reduceAdd]; exact AVLe.refl _)))
       refine envle_cons ?_ ?_
       ·simp only [go_sem, Nat.reduceBEq, Nat.reduceAdd]
        refine avle_int ?_
        rw [inc64 h5 (by unfold maxLen; omega)]
       exact envle_nil _
      ·show p.code.length - (i + 1) < p.code.length - i
       omega
     ·have ho : x.op = 19 ∨ x.op = 20 ∨ x.op = 21 ∨ x.op = 22 ∨ x.op = 23 := by unfold straightOp at hso; omega
      by_cases hld : x.op = 19 ∨ x.op = 20 ∨ x.op = 22
      ·have dl : (decide (x.op = 19) || decide (x.op = 20) || decide (x.op = 22)) = true := by simpa [or_assoc] using hld
       simp only [dl]
       repeat' first|(apply Sp.go;·constructor<;>first|exact ss|(change _=_;first|(simp only[go_sem,Nat.reduceBEq,Nat.reduceAdd,Nat.reduceLeDiff,reduceIte]<;>rfl)|rfl)|exact Nat.le_of_ble_eq_true rfl|decide|(repeat' first|(apply Lk.go;constructor)|assumption|exact nb ‹_› ‹_›|exact nt ‹_› ‹_›))|(intro b hb;repeat first|(refine fe hb ?_;intro _ _ hb)|(refine fT hb ?_;intro hb))|refine rt ?_|refine gA rfl ?_|refine gB rfl ?_|apply cT rfl|apply cF rfl|(apply DM.gbT;rfl)|(apply DM.gbF;rfl)|intro h
       exact fin (HSub.refl _) rfl
      ·have d19 : decide (x.op = 19) = false := decide_eq_false (by omega)
       have d20 : decide (x.op = 20) = false := decide_eq_false (by omega)
       have d22 : decide (x.op = 22) = false := decide_eq_false (by omega)
       by_cases h21 : x.op = 21
       ·have d21 : decide (x.op = 21) = true := decide_eq_true h21
        repeat' first|(apply Sp.go;·constructor<;>first|exact ss|(change _=_;first|(simp only[go_sem,Nat.reduceBEq,Nat.reduceAdd,Nat.reduceLeDiff,reduceIte, d19, d20, d21, d22, Bool.or_false]<;>rfl)|rfl)|exact Nat.le_of_ble_eq_true rfl|decide|(repeat' first|(apply Lk.go;constructor)|assumption|exact nb ‹_› ‹_›|exact nt ‹_› ‹_›))|(intro b hb;repeat first|(refine fe hb ?_;intro _ _ hb)|(refine fT hb ?_;intro hb))|refine rt ?_|refine gA rfl ?_|refine gB rfl ?_|apply cT rfl|apply cF rfl|(apply DM.gbT;rfl)|(apply DM.gbF;rfl)|intro h
        exact fin (HSub.refl _) rfl
       ·have d21 : decide (x.op = 21) = false := decide_eq_false h21
        have d23 : decide (x.op = 23) = true := decide_eq_true (by omega)
        repeat' first|(apply Sp.go;·constructor<;>first|exact ss|(change _=_;first|(simp only[go_sem,Nat.reduceBEq,Nat.reduceAdd,Nat.reduceLeDiff,reduceIte, d19, d20, d21, d22, d23, Bool.or_false]<;>rfl)|rfl)|exact Nat.le_of_ble_eq_true rfl|decide|(repeat' first|(apply Lk.go;constructor)|assumption|exact nb ‹_› ‹_›|exact nt ‹_› ‹_›))|(intro b hb;repeat first|(refine fe hb ?_;intro _ _ hb)|(refine fT hb ?_;intro hb))|refine rt ?_|refine gA rfl ?_|refine gB rfl ?_|apply cT rfl|apply cF rfl|(apply DM.gbT;rfl)|(apply DM.gbF;rfl)|intro h
        exact fin (HSub.refl _) rfl
    ·intro h5
     simp at h5
     have hst : ∀ x ∈ p.code, straightOp x := fun x hx => by
      obtain ⟨a, ha⟩ := List.getElem?_of_mem hx
      exact hok a x (by have := (List.getElem?_eq_some_iff.1 ha).1; omega) ha
     clear hok
     repeat' first|(apply Sp.go;·constructor<;>first|exact ss|(change _=_;first|(simp only[go_sem,Nat.reduceBEq,Nat.reduceAdd,Nat.reduceLeDiff,reduceIte]<;>rfl)|rfl)|exact Nat.le_of_ble_eq_true rfl|decide|(repeat' first|(apply Lk.go;constructor)|assumption|exact nb ‹_› ‹_›|exact nt ‹_› ‹_›))|(intro b hb;repeat first|(refine fe hb ?_;intro _ _ hb)|(refine fT hb ?_;intro hb))|refine rt ?_|refine gA rfl ?_|refine gB rfl ?_|apply cT rfl|apply cF rfl|(apply DM.gbT;rfl)|(apply DM.gbF;rfl)|intro h
     refine AM.loopX (X := Nat) 0 (fun i => [(1, .vs 3 (ps.map Val.row)), (2, .vs 1 (rr.map irow)), (3, .ptr b3 0), (9, .int .i64 i)]) (fun i H'' => H'' = H' ∧ i ≤ ps.length ∧ ∀ (j : Nat) (v : Val), j < i → ps[j]? = some v → validV v = true) (fun i => ps.length - i) ⟨rfl, by omega, fun j x hj => by omega⟩ ?_ ?_
     ·(repeat first | exact envle_nil _ | (refine envle_cons ?_ ?_; · (simp only [go_sem, Nat.reduceBEq, Nat.reduceAdd]; exact AVLe.refl _)))
     ·intro k H'' ⟨e, hk, hok⟩
      subst e
      repeat' first|(apply Sp.go;·constructor<;>first|exact ss|(change _=_;first|(simp only[go_sem,Nat.reduceBEq,Nat.reduceAdd,Nat.reduceLeDiff,reduceIte]<;>rfl)|rfl)|exact Nat.le_of_ble_eq_true rfl|decide|(repeat' first|(apply Lk.go;constructor)|assumption|exact nb ‹_› ‹_›|exact nt ‹_› ‹_›))|(intro b hb;repeat first|(refine fe hb ?_;intro _ _ hb)|(refine fT hb ?_;intro hb))|refine rt ?_|refine gA rfl ?_|refine gB rfl ?_|apply cT rfl|apply cF rfl|(apply DM.gbT;rfl)|(apply DM.gbF;rfl)|intro h
      (apply AM.cond; (· rfl))
      ·intro h6
       simp at h6
       obtain ⟨v, hv⟩ := some_of h6
       repeat' first|(apply Sp.go;·constructor<;>first|exact ss|(change _=_;first|(simp only[go_sem,Nat.reduceBEq,Nat.reduceAdd,Nat.reduceLeDiff,reduceIte]<;>rfl)|rfl)|exact Nat.le_of_ble_eq_true rfl|decide|(repeat' first|(apply Lk.go;constructor)|assumption|exact nb ‹_› ‹_›|exact nt ‹_› ‹_›))|(intro b hb;repeat first|(refine fe hb ?_;intro _ _ hb)|(refine fT hb ?_;intro hb))|refine rt ?_|refine gA rfl ?_|refine gB rfl ?_|apply cT rfl|apply cF rfl|(apply DM.gbT;rfl)|(apply DM.gbF;rfl)|(apply DM.ixV (row := v.row) (z := (k : Int)) (by omega) (row_get Val.row hv); (· rfl); (· rfl))|intro h
       (apply DM.pcs (R.p32 v); (· simp only [go_sem, Nat.reduceBEq, Nat.reduceAdd] <;> rfl); (· exact AVLes.refl _))
       cases hvv : validV v with
       | false =>
        repeat' first|(apply Sp.go;·constructor<;>first|exact ss|(change _=_;first|(simp only[go_sem,Nat.reduceBEq,Nat.reduceAdd,Nat.reduceLeDiff,reduceIte]<;>rfl)|rfl)|exact Nat.le_of_ble_eq_true rfl|decide|(repeat' first|(apply Lk.go;constructor)|assumption|exact nb ‹_› ‹_›|exact nt ‹_› ‹_›))|(intro b hb;repeat first|(refine fe hb ?_;intro _ _ hb)|(refine fT hb ?_;intro hb))|refine rt ?_|refine gA rfl ?_|refine gB rfl ?_|apply cT rfl|apply cF rfl|(apply DM.gbT;rfl)|(apply DM.gbF;rfl)|intro h
        exact fin (HSub.refl _) rfl
       | true =>
        repeat' first|(apply Sp.go;·constructor<;>first|exact ss|(change _=_;first|(simp only[go_sem,Nat.reduceBEq,Nat.reduceAdd,Nat.reduceLeDiff,reduceIte]<;>rfl)|rfl)|exact Nat.le_of_ble_eq_true rfl|decide|(repeat' first|(apply Lk.go;constructor)|assumption|exact nb ‹_› ‹_›|exact nt ‹_› ‹_›))|(intro b hb;repeat first|(refine fe hb ?_;intro _ _ hb)|(refine fT hb ?_;intro hb))|refine rt ?_|refine gA rfl ?_|refine gB rfl ?_|apply cT rfl|apply cF rfl|(apply DM.gbT;rfl)|(apply DM.gbF;rfl)|intro h
        refine AM.roundX (k + 1) ⟨rfl, by omega, fun j y hj hy => ?_⟩ ?_ ?_
        ·by_cases q : j = k
         ·subst q
          rw [hv] at hy
          cases hy
          exact hvv
         ·exact hok j y (by omega) hy
        ·(repeat first | exact envle_nil _ | (refine envle_cons ?_ ?_; · (simp only [go_sem, Nat.reduceBEq, Nat.reduceAdd]; exact AVLe.refl _)))
         refine envle_cons ?_ ?_
         ·simp only [go_sem, Nat.reduceBEq, Nat.reduceAdd]
          refine avle_int ?_
          rw [inc64 h6 (by unfold maxLen; omega)]
         exact envle_nil _
        ·show ps.length - (k + 1) < ps.length - k
         omega
      ·intro h6
       simp at h6
       have hpv : ∀ v ∈ ps, validV v = true := fun v hv => by
        obtain ⟨a, ha⟩ := List.getElem?_of_mem hv
        exact hok a v (by have := (List.getElem?_eq_some_iff.1 ha).1; omega) ha
       clear hok
       obtain ⟨law, lawc⟩ := straight_law hval hst (by omega) (rr := rr) hpv (by omega)
       have hsd := start_sound hval
       have c18 := p18 p hl1
       have c35 := R.p35 p
       have c41 := p41 ps (by omega)
       have c17 := p17 p 0 (kindsV ps) rr (by simp [kindsV]; omega)
       have c26 := p26 p 0 (R.startP p).1 ps 100 (.inl hR) (by omega)
       have hstk : (runP p 0 (R.startP p).1 ps 100).err = 0 → (runP p 0 (R.startP p).1 ps 100).stack.length ≤ 1000 := fun h => by
        have := (runP_vars h).2.2.1
        omega
       have c41b := fun h => p41 (runP p 0 (R.startP p).1 ps 100).stack (hstk h)
       have c40 := p40 (kindsV (runP p 0 (R.startP p).1 ps 100).stack) rr
       generalize (R.startP p).2 = se at c35
       generalize runP p 0 (R.startP p).1 ps 100 = r at *
       generalize (R.startP p).1 = SV at *
       generalize costP p 0 (kindsV ps) rr = c at *
       repeat' first|(apply Sp.go;·constructor<;>first|exact ss|(change _=_;first|(simp only[go_sem,Nat.reduceBEq,Nat.reduceAdd,Nat.reduceLeDiff,reduceIte]<;>rfl)|rfl)|exact Nat.le_of_ble_eq_true rfl|decide|(repeat' first|(apply Lk.go;constructor)|assumption|exact nb ‹_› ‹_›|exact nt ‹_› ‹_›))|(intro b hb;repeat first|(refine fe hb ?_;intro _ _ hb)|(refine fT hb ?_;intro hb))|refine rt ?_|refine gA rfl ?_|refine gB rfl ?_|apply cT rfl|apply cF rfl|(apply DM.gbT;rfl)|(apply DM.gbF;rfl)|(apply DM.pcs (c18); (· simp only [go_sem, Nat.reduceBEq, Nat.reduceAdd] <;> rfl); (· exact AVLes.refl _))|intro h
       (apply DM.pcs (c35); (· simp only [go_sem, Nat.reduceBEq, Nat.reduceAdd] <;> rfl); (· exact AVLes.refl _))
       repeat' first|(apply Sp.go;·constructor<;>first|exact ss|(change _=_;first|(simp only[go_sem,Nat.reduceBEq,Nat.reduceAdd,Nat.reduceLeDiff,reduceIte]<;>rfl)|rfl)|exact Nat.le_of_ble_eq_true rfl|decide|(repeat' first|(apply Lk.go;constructor)|assumption|exact nb ‹_› ‹_›|exact nt ‹_› ‹_›))|(intro b hb;repeat first|(refine fe hb ?_;intro _ _ hb)|(refine fT hb ?_;intro hb))|refine gA rfl ?_|refine gB rfl ?_|apply cT rfl|apply cF rfl|(apply DM.gbT;rfl)|(apply DM.gbF;rfl)|intro h
       (refine AM.reg [.vs 1 ((kindsV ps).map irow), .tup [.int .i64 c.1, .int .i64 c.2.1, .int .i64 c.2.2]] ?_; simp only [annotate, AV.rows])
       repeat' first|(apply Sp.go;·constructor<;>first|exact ss|(change _=_;first|(simp only[go_sem,Nat.reduceBEq,Nat.reduceAdd,Nat.reduceLeDiff,reduceIte]<;>rfl)|rfl)|exact Nat.le_of_ble_eq_true rfl|decide|(repeat' first|(apply Lk.go;constructor)|assumption|exact nb ‹_› ‹_›|exact nt ‹_› ‹_›))|(intro b hb;repeat first|(refine fe hb ?_;intro _ _ hb)|(refine fT hb ?_;intro hb))|refine rt ?_|refine gA rfl ?_|refine gB rfl ?_|apply cT rfl|apply cF rfl|(apply DM.gbT;rfl)|(apply DM.gbF;rfl)|(apply DM.pcRs (c41); (· simp only [go_sem, Nat.reduceBEq, Nat.reduceAdd] <;> rfl); (· exact AVLes.refl _))|(apply DM.pcRs (c17); (· simp only [go_sem, Nat.reduceBEq, Nat.reduceAdd] <;> rfl); (· exact AVLes.refl _))|intro h
       (apply DM.pcs (c26); (· simp only [go_sem, Nat.reduceBEq, Nat.reduceAdd] <;> rfl); (· exact AVLes.refl _))
       have hEr : AVLe r.av r.av := AVLe.refl _
       by_cases hc : c.2.2 = 0
       ·obtain ⟨q1, q2⟩ := law.1 hc
        have q3 := lawc hc
        have dc : decide (c.2.2 = 0) = true := decide_eq_true hc
        have dr : decide (r.err = 0) = true := decide_eq_true q1
        have c41' := c41b q1
        rw [show decide (kindsV r.stack = rr) = true from decide_eq_true q2] at c40
        have dq : decide (c.1 = r.used) = true := decide_eq_true q3
        repeat' first|(apply Sp.go;·constructor<;>first|exact ss|(change _=_;first|(simp only[go_sem,Nat.reduceBEq,Nat.reduceAdd,Nat.reduceLeDiff,reduceIte, dc, dr]<;>rfl)|rfl)|exact Nat.le_of_ble_eq_true rfl|decide|(repeat' first|(apply Lk.go;constructor)|assumption|exact nb ‹_› ‹_›|exact nt ‹_› ‹_›))|(intro b hb;repeat first|(refine fe hb ?_;intro _ _ hb)|(refine fT hb ?_;intro hb))|refine rt ?_|refine gA rfl ?_|refine gB rfl ?_|apply cT rfl|apply cF rfl|(apply DM.gbT;rfl)|(apply DM.gbF;rfl)|intro h
        (apply DM.pcs (c41'); (· simp only [go_sem, Nat.reduceBEq, Nat.reduceAdd] <;> rfl); (· exact AVLes.refl _))
        repeat' first|(apply Sp.go;·constructor<;>first|exact ss|(change _=_;first|(simp only[go_sem,Nat.reduceBEq,Nat.reduceAdd,Nat.reduceLeDiff,reduceIte, dc, dr]<;>rfl)|rfl)|exact Nat.le_of_ble_eq_true rfl|decide|(repeat' first|(apply Lk.go;constructor)|assumption|exact nb ‹_› ‹_›|exact nt ‹_› ‹_›))|(intro b hb;repeat first|(refine fe hb ?_;intro _ _ hb)|(refine fT hb ?_;intro hb))|refine rt ?_|refine gA rfl ?_|refine gB rfl ?_|apply cT rfl|apply cF rfl|(apply DM.gbT;rfl)|(apply DM.gbF;rfl)|intro h
        (apply DM.pcs (c40); (· simp only [go_sem, Nat.reduceBEq, Nat.reduceAdd] <;> rfl); (· exact AVLes.refl _))
        repeat' first|(apply Sp.go;·constructor<;>first|exact ss|(change _=_;first|(simp only[go_sem,Nat.reduceBEq,Nat.reduceAdd,Nat.reduceLeDiff,reduceIte, dc, dr, dq]<;>rfl)|rfl)|exact Nat.le_of_ble_eq_true rfl|decide|(repeat' first|(apply Lk.go;constructor)|assumption|exact nb ‹_› ‹_›|exact nt ‹_› ‹_›))|(intro b hb;repeat first|(refine fe hb ?_;intro _ _ hb)|(refine fT hb ?_;intro hb))|refine rt ?_|refine gA rfl ?_|refine gB rfl ?_|apply cT rfl|apply cF rfl|(apply DM.gbT;rfl)|(apply DM.gbF;rfl)|intro h
        exact fin (HSub.setB (HSub.setB (HSub.refl _) (by assumption)) (by assumption)) rfl
       ·have hnr : r.err = 0 → kindsV r.stack = rr → False := fun a b => hc (law.2 ⟨a, b⟩)
        have dc : decide (c.2.2 = 0) = false := decide_eq_false hc
        by_cases hre : r.err = 0
        ·have dr : decide (r.err = 0) = true := decide_eq_true hre
         have c41' := c41b hre
         rw [show decide (kindsV r.stack = rr) = false from decide_eq_false (hnr hre)] at c40
         repeat' first|(apply Sp.go;·constructor<;>first|exact ss|(change _=_;first|(simp only[go_sem,Nat.reduceBEq,Nat.reduceAdd,Nat.reduceLeDiff,reduceIte, dc, dr]<;>rfl)|rfl)|exact Nat.le_of_ble_eq_true rfl|decide|(repeat' first|(apply Lk.go;constructor)|assumption|exact nb ‹_› ‹_›|exact nt ‹_› ‹_›))|(intro b hb;repeat first|(refine fe hb ?_;intro _ _ hb)|(refine fT hb ?_;intro hb))|refine rt ?_|refine gA rfl ?_|refine gB rfl ?_|apply cT rfl|apply cF rfl|(apply DM.gbT;rfl)|(apply DM.gbF;rfl)|intro h
         (apply DM.pcs (c41'); (· simp only [go_sem, Nat.reduceBEq, Nat.reduceAdd] <;> rfl); (· exact AVLes.refl _))
         repeat' first|(apply Sp.go;·constructor<;>first|exact ss|(change _=_;first|(simp only[go_sem,Nat.reduceBEq,Nat.reduceAdd,Nat.reduceLeDiff,reduceIte, dc, dr]<;>rfl)|rfl)|exact Nat.le_of_ble_eq_true rfl|decide|(repeat' first|(apply Lk.go;constructor)|assumption|exact nb ‹_› ‹_›|exact nt ‹_› ‹_›))|(intro b hb;repeat first|(refine fe hb ?_;intro _ _ hb)|(refine fT hb ?_;intro hb))|refine rt ?_|refine gA rfl ?_|refine gB rfl ?_|apply cT rfl|apply cF rfl|(apply DM.gbT;rfl)|(apply DM.gbF;rfl)|intro h
         (apply DM.pcs (c40); (· simp only [go_sem, Nat.reduceBEq, Nat.reduceAdd] <;> rfl); (· exact AVLes.refl _))
         repeat' first|(apply Sp.go;·constructor<;>first|exact ss|(change _=_;first|(simp only[go_sem,Nat.reduceBEq,Nat.reduceAdd,Nat.reduceLeDiff,reduceIte, dc, dr]<;>rfl)|rfl)|exact Nat.le_of_ble_eq_true rfl|decide|(repeat' first|(apply Lk.go;constructor)|assumption|exact nb ‹_› ‹_›|exact nt ‹_› ‹_›))|(intro b hb;repeat first|(refine fe hb ?_;intro _ _ hb)|(refine fT hb ?_;intro hb))|refine rt ?_|refine gA rfl ?_|refine gB rfl ?_|apply cT rfl|apply cF rfl|(apply DM.gbT;rfl)|(apply DM.gbF;rfl)|intro h
         exact fin (HSub.setB (HSub.setB (HSub.refl _) (by assumption)) (by assumption)) rfl
        ·have dr : decide (r.err = 0) = false := decide_eq_false hre
         repeat' first|(apply Sp.go;·constructor<;>first|exact ss|(change _=_;first|(simp only[go_sem,Nat.reduceBEq,Nat.reduceAdd,Nat.reduceLeDiff,reduceIte, dc, dr]<;>rfl)|rfl)|exact Nat.le_of_ble_eq_true rfl|decide|(repeat' first|(apply Lk.go;constructor)|assumption|exact nb ‹_› ‹_›|exact nt ‹_› ‹_›))|(intro b hb;repeat first|(refine fe hb ?_;intro _ _ hb)|(refine fT hb ?_;intro hb))|refine rt ?_|refine gA rfl ?_|refine gB rfl ?_|apply cT rfl|apply cF rfl|(apply DM.gbT;rfl)|(apply DM.gbF;rfl)|intro h
         exact fin (HSub.setB (HSub.setB (HSub.refl _) (by assumption)) (by assumption)) rfl
end Go.Aw.T
