/- Part of a proof; own work. -/
import Derived.Test.YtjjngpjdhjeckaaAS5
namespace Go.Aw.T
open Go Go.Aw Go.Proofs Go.RowKit
set_option maxRecDepth 100000
attribute [local irreducible] Go.Aw.DM Go.Aw.AHeap.setB Go.Aw.AHeap.setT
attribute [local go_sem] peval EOpd.ev Env.get binInt binStr binBool buildParts AV.cells AV.okc setRange minmaxAV AV.one AV.ofCells eqCells eqCell bslRows cond_true cond_false beq_self_eq_true Bool.not_true Bool.not_false beq_true beq_false eq_self if_true Option.some.injEq List.length_cons List.length_nil List.take_succ_cons List.take_zero List.drop_succ_cons List.drop_zero List.set_cons_succ List.set_cons_zero List.nil_append List.cons_append List.append_nil and_self Option.map_some List.map_cons List.map_nil Bool.false_eq_true if_false Nat.zero_add Nat.add_zero true_and and_true Bool.and_true Bool.true_and List.getElem?_cons_zero List.getElem?_cons_succ Nat.zero_le Nat.le_refl
set_option linter.unusedSimpArgs false
set_option linter.unusedVariables false
def psAv (ds : List Decl_) (x : Part) : AV := if x.kind = 0 then .vs 1 ((psOf ds x).map irow) else .nilS
def rsAv (ds : List Decl_) (x : Part) : AV := if x.kind = 0 then .nilS else .vs 1 ((rsOf ds x).map irow)
abbrev eRow (ds : List Decl_) (x : Part) : List AV := [.int .i64 x.at_, .int .i64 x.label, psAv ds x, rsAv ds x]
def eRows (p : Prog) (ds : List Decl_) (i : Nat) : List (List AV) := (p.hs.map hPart ++ (p.os.take i).flatMap oParts).map (eRow ds)
theorem eRows_len (p : Prog) (ds : List Decl_) (i : Nat) : (eRows p ds i).length = pLen p i := by simp [eRows, pLen]
theorem eRows_succ {p : Prog} {ds : List Decl_} {i : Nat} {o : Of_} (h : p.os[i]? = some o) : eRows p ds (i + 1) = eRows p ds i ++ (oParts o).map (eRow ds) := by
  simp [eRows, List.take_add_one, h, List.flatMap_append]
theorem lab_hs {p : Prog} (hv : validP p = true) {h : Hd} (hm : h ∈ p.hs) : 0 ≤ h.label := ((parts_ok hv).2 (hPart h) (List.mem_append_left _ (List.mem_map_of_mem hm))).lab.1
theorem lab_os {p : Prog} (hv : validP p = true) {o : Of_} (hm : o ∈ p.os) : 0 ≤ o.label := ((parts_ok hv).2 ⟨o.args, o.label, 2⟩ (List.mem_append_right _ (List.mem_flatMap.2 ⟨o, hm, by simp [oParts]⟩))).lab.1
set_option maxHeartbeats 4000000 in
theorem p23 (p : Prog) (ds : List Decl_) (hval : validP p = true) (hd : ∀ d ∈ ds, d.fields.length ≤ 1000) : Pure Try.prog 23 [p.av, .vs 5 (ds.map Decl_.row)] (.vs 4 ((partsP p).map (eRow ds))) := by
  obtain ⟨⟨h1, h2⟩, _⟩ := parts_ok hval
  have hL : ∀ i, pLen p i ≤ 300 := fun i => by
    have := oParts_len (p.os.take i)
    simp only [pLen]
    have : (p.os.take i).length ≤ p.os.length := by simp; omega
    omega
  refine pure_intro mo Try.func23 c23 fun H => ?_
  unfold e23 r23
  simp only [initEnv, initFrom]
  repeat' first|(apply Sp.go;·constructor<;>first|exact ss|(change _=_;first|(simp only[go_sem,Nat.reduceBEq,Nat.reduceAdd,Nat.reduceLeDiff,reduceIte]<;>rfl)|rfl)|exact Nat.le_of_ble_eq_true rfl|decide|(repeat' first|(apply Lk.go;constructor)|assumption|exact nb ‹_› ‹_›|exact nt ‹_› ‹_›))|(intro b hb;repeat first|(refine fe hb ?_;intro _ _ hb)|(refine fT hb ?_;intro hb))|refine rt ?_|refine gA rfl ?_|refine gB rfl ?_|apply cT rfl|apply cF rfl|(apply DM.gbT;rfl)|(apply DM.gbF;rfl)|intro h
  rename Nat => b1
  have hsub0 : HSub H (H.setB b1 27 p.cells) := HSub.setB (HSub.refl _) hb
  apply R.AM.ghostO 5 52 4 (by decide)
  · simp only [Env.get, Nat.reduceBEq, cond_true, cond_false, beq_self_eq_true]
  intro tv htv
  have htv2 : H.tok tv = none := freshT_setB htv
  have hbp : (H.setB b1 27 p.cells).blk b1 = some (27, p.cells) := g_same
  generalize H.setB b1 27 p.cells = G at htv hsub0 hbp ⊢
  repeat' first|(apply Sp.go;·constructor<;>first|exact ss|(change _=_;first|(simp only[go_sem,Nat.reduceBEq,Nat.reduceAdd,Nat.reduceLeDiff,reduceIte]<;>rfl)|rfl)|exact Nat.le_of_ble_eq_true rfl|decide|(repeat' first|(apply Lk.go;constructor)|assumption|exact nb ‹_› ‹_›|exact nt ‹_› ‹_›))|(intro b hb;repeat first|(refine fe hb ?_;intro _ _ hb)|(refine fT hb ?_;intro hb))|refine rt ?_|refine gA rfl ?_|refine gB rfl ?_|apply cT rfl|apply cF rfl|(apply DM.gbT;rfl)|(apply DM.gbF;rfl)|intro h
  refine AM.loopX (X := Nat) 0 (fun i => [(1, .vs 5 (ds.map Decl_.row)), (2, .ptr b1 0), (6, .int .i64 i), (5, .own tv 4 (((p.hs.take i).map hPart).map (eRow ds)))]) (fun i H' => H' = G.setT tv (.frz 52 4 i) ∧ i ≤ p.hs.length) (fun i => p.hs.length - i) ⟨rfl, by omega⟩ ?_ ?_
  · (repeat first | exact envle_nil _ | (refine envle_cons ?_ ?_; · (simp only [go_sem, Nat.reduceBEq, Nat.reduceAdd]; exact AVLe.refl _)))
  · intro i H' ⟨e, hi⟩
    subst e
    have hl0 : (((p.hs.take i).map hPart).map (eRow ds)).length = i := by simp; omega
    have hbp2 : (G.setT tv (.frz 52 4 i)).blk b1 = some (27, p.cells) := g_T hbp
    repeat' first|(apply Sp.go;·constructor<;>first|exact ss|(change _=_;first|(simp only[go_sem,Nat.reduceBEq,Nat.reduceAdd,Nat.reduceLeDiff,reduceIte]<;>rfl)|rfl)|exact Nat.le_of_ble_eq_true rfl|decide|(repeat' first|(apply Lk.go;constructor)|assumption|exact nb ‹_› ‹_›|exact nt ‹_› ‹_›))|(intro b hb;repeat first|(refine fe hb ?_;intro _ _ hb)|(refine fT hb ?_;intro hb))|refine rt ?_|refine gA rfl ?_|refine gB rfl ?_|apply cT rfl|apply cF rfl|(apply DM.gbT;rfl)|(apply DM.gbF;rfl)|intro h
    (apply AM.cond; (· rfl))
    · intro h3
      simp at h3
      obtain ⟨v, hv⟩ := some_of h3
      have hlab := lab_hs hval (List.mem_of_getElem? hv)
      have c52 := p52 ds v.label hlab hd
      repeat' first|(apply Sp.go;·constructor<;>first|exact ss|(change _=_;first|(simp only[go_sem,Nat.reduceBEq,Nat.reduceAdd,Nat.reduceLeDiff,reduceIte]<;>rfl)|rfl)|exact Nat.le_of_ble_eq_true rfl|decide|(repeat' first|(apply Lk.go;constructor)|assumption|exact nb ‹_› ‹_›|exact nt ‹_› ‹_›))|(intro b hb;repeat first|(refine fe hb ?_;intro _ _ hb)|(refine fT hb ?_;intro hb))|refine rt ?_|refine gA rfl ?_|refine gB rfl ?_|apply cT rfl|apply cF rfl|(apply DM.gbT;rfl)|(apply DM.gbF;rfl)|intro h
      (apply DM.ixV (row := v.row) (z := (i : Int)) (by omega) (row_get Hd.row hv); (· rfl); (· rfl))
      repeat' first|(apply Sp.go;·constructor<;>first|exact ss|(change _=_;first|(simp only[go_sem,Nat.reduceBEq,Nat.reduceAdd,Nat.reduceLeDiff,reduceIte]<;>rfl)|rfl)|exact Nat.le_of_ble_eq_true rfl|decide|(repeat' first|(apply Lk.go;constructor)|assumption|exact nb ‹_› ‹_›|exact nt ‹_› ‹_›))|(intro b hb;repeat first|(refine fe hb ?_;intro _ _ hb)|(refine fT hb ?_;intro hb))|refine gA rfl ?_|refine gB rfl ?_|apply cT rfl|apply cF rfl|(apply DM.gbT;rfl)|(apply DM.gbF;rfl)|intro h
      (refine AM.reg [.vs 1 ((kindsL ds v.label).map irow)] ?_; simp only [annotate, AV.rows])
      repeat' first|(apply Sp.go;·constructor<;>first|exact ss|(change _=_;first|(simp only[go_sem,Nat.reduceBEq,Nat.reduceAdd,Nat.reduceLeDiff,reduceIte]<;>rfl)|rfl)|exact Nat.le_of_ble_eq_true rfl|decide|(repeat' first|(apply Lk.go;constructor)|assumption|exact nb ‹_› ‹_›|exact nt ‹_› ‹_›))|(intro b hb;repeat first|(refine fe hb ?_;intro _ _ hb)|(refine fT hb ?_;intro hb))|refine rt ?_|refine gA rfl ?_|refine gB rfl ?_|apply cT rfl|apply cF rfl|(apply DM.gbT;rfl)|(apply DM.gbF;rfl)|intro h
      (apply DM.pcRs (c52); (· simp only [go_sem, Nat.reduceBEq, Nat.reduceAdd] <;> rfl); (· exact AVLes.refl _))
      repeat' first|(apply Sp.go;·constructor<;>first|exact ss|(change _=_;first|(simp only[go_sem,Nat.reduceBEq,Nat.reduceAdd,Nat.reduceLeDiff,reduceIte]<;>rfl)|rfl)|exact Nat.le_of_ble_eq_true rfl|decide|(repeat' first|(apply Lk.go;constructor)|assumption|exact nb ‹_› ‹_›|exact nt ‹_› ‹_›))|(intro b hb;repeat first|(refine fe hb ?_;intro _ _ hb)|(refine fT hb ?_;intro hb))|refine rt ?_|refine gA rfl ?_|refine gB rfl ?_|apply cT rfl|apply cF rfl|(apply DM.gbT;rfl)|(apply DM.gbF;rfl)|intro h
      apply DM.apOr
      · simp only [EOpd.ev, Env.get, Nat.reduceBEq, cond_true, cond_false, beq_self_eq_true] <;> rfl
      · (· repeat' first|(apply Lk.go;constructor)|assumption|exact nb ‹_› ‹_›|exact nt ‹_› ‹_›|(apply Lm.go;constructor))
      · exact hl0
      · simp only [rowsOf, if_true, eq_self, EOpd.ev, Env.get, Nat.reduceBEq, cond_true, cond_false, beq_self_eq_true] <;> rfl
      · simp only [List.length_cons, List.length_nil]; omega
      · simp only [List.length_cons, List.length_nil, maxLen]; omega
      repeat' first|(apply Sp.go;·constructor<;>first|exact ss|(change _=_;first|(simp only[go_sem,Nat.reduceBEq,Nat.reduceAdd,Nat.reduceLeDiff,reduceIte]<;>rfl)|rfl)|exact Nat.le_of_ble_eq_true rfl|decide|(repeat' first|(apply Lk.go;constructor)|assumption|exact nb ‹_› ‹_›|exact nt ‹_› ‹_›))|(intro b hb;repeat first|(refine fe hb ?_;intro _ _ hb)|(refine fT hb ?_;intro hb))|refine rt ?_|refine gA rfl ?_|refine gB rfl ?_|apply cT rfl|apply cF rfl|(apply DM.gbT;rfl)|(apply DM.gbF;rfl)|intro h
      refine AM.forget (G.setT tv (.frz 52 4 (i + 1))) ?_ ?_
      · refine R.hsub_tok2 ?_ ?_ ?_
        · intro b x hx
          (· repeat' first|(apply Lk.go;constructor)|assumption|exact nb ‹_› ‹_›|exact nt ‹_› ‹_›)
        · intro t' x hn hx
          (· repeat' first|(apply Lk.go;constructor)|assumption|exact nb ‹_› ‹_›|exact nt ‹_› ‹_›|(apply Lm.go;constructor))
        · (· repeat' first|(apply Lk.go;constructor)|assumption|exact nb ‹_› ‹_›|exact nt ‹_› ‹_›|(apply Lm.go;constructor))
      refine AM.roundX (i + 1) ⟨rfl, by omega⟩ ?_ ?_
      · (repeat first | exact envle_nil _ | (refine envle_cons ?_ ?_; · (simp only [go_sem, Nat.reduceBEq, Nat.reduceAdd]; exact AVLe.refl _)))
        refine envle_cons ?_ ?_
        · simp only [go_sem, Nat.reduceBEq, Nat.reduceAdd]
          refine avle_int ?_
          rw [inc64 h3 (by unfold maxLen; omega)]
        refine envle_cons ?_ (envle_nil _)
        simp only [Env.get, Nat.reduceBEq, cond_true, cond_false, beq_self_eq_true]
        rw [List.take_add_one, hv]
        refine avle_eq ?_
        simp [hPart, eRow, psAv, rsAv, psOf]
      · show p.hs.length - (i + 1) < p.hs.length - i
        omega
    · intro h3
      simp at h3
      have : i = p.hs.length := by omega
      subst this
      repeat' first|(apply Sp.go;·constructor<;>first|exact ss|(change _=_;first|(simp only[go_sem,Nat.reduceBEq,Nat.reduceAdd,Nat.reduceLeDiff,reduceIte]<;>rfl)|rfl)|exact Nat.le_of_ble_eq_true rfl|decide|(repeat' first|(apply Lk.go;constructor)|assumption|exact nb ‹_› ‹_›|exact nt ‹_› ‹_›))|(intro b hb;repeat first|(refine fe hb ?_;intro _ _ hb)|(refine fT hb ?_;intro hb))|refine rt ?_|refine gA rfl ?_|refine gB rfl ?_|apply cT rfl|apply cF rfl|(apply DM.gbT;rfl)|(apply DM.gbF;rfl)|intro h
      refine AM.loopX (X := Nat) 0 (fun i => [(1, .vs 5 (ds.map Decl_.row)), (2, .ptr b1 0), (8, .int .i64 i), (5, .own tv 4 (eRows p ds i))]) (fun i H' => H' = G.setT tv (.frz 52 4 (pLen p i)) ∧ i ≤ p.os.length) (fun i => p.os.length - i) ⟨rfl, by omega⟩ ?_ ?_
      · refine envle_cons ?_ (envle_cons ?_ (envle_cons ?_ (envle_cons ?_ (envle_nil _))))
        · simp only [Env.get, Nat.reduceBEq, cond_true, cond_false, beq_self_eq_true]; exact AVLe.refl _
        · simp only [Env.get, Nat.reduceBEq, cond_true, cond_false, beq_self_eq_true]; exact AVLe.refl _
        · simp only [Env.get, Nat.reduceBEq, cond_true, cond_false, beq_self_eq_true]; exact AVLe.refl _
        · simp only [Env.get, Nat.reduceBEq, cond_true, cond_false, beq_self_eq_true]
          rw [List.take_length]
          exact avle_eq (by simp [eRows])
      · intro i H' ⟨e, hi⟩
        subst e
        have hl1 := eRows_len p ds i
        have hLi := hL i
        have hbp3 : (G.setT tv (.frz 52 4 (pLen p i))).blk b1 = some (27, p.cells) := g_T hbp
        repeat' first|(apply Sp.go;·constructor<;>first|exact ss|(change _=_;first|(simp only[go_sem,Nat.reduceBEq,Nat.reduceAdd,Nat.reduceLeDiff,reduceIte]<;>rfl)|rfl)|exact Nat.le_of_ble_eq_true rfl|decide|(repeat' first|(apply Lk.go;constructor)|assumption|exact nb ‹_› ‹_›|exact nt ‹_› ‹_›))|(intro b hb;repeat first|(refine fe hb ?_;intro _ _ hb)|(refine fT hb ?_;intro hb))|refine rt ?_|refine gA rfl ?_|refine gB rfl ?_|apply cT rfl|apply cF rfl|(apply DM.gbT;rfl)|(apply DM.gbF;rfl)|intro h
        (apply AM.cond; (· rfl))
        · intro h3
          simp at h3
          obtain ⟨v, hv⟩ := some_of h3
          have e1 := eRows_succ (ds := ds) hv
          have e2 := pLen_succ hv
          have hlab := lab_os hval (List.mem_of_getElem? hv)
          have c52 := p52 ds v.label hlab hd
          repeat' first|(apply Sp.go;·constructor<;>first|exact ss|(change _=_;first|(simp only[go_sem,Nat.reduceBEq,Nat.reduceAdd,Nat.reduceLeDiff,reduceIte]<;>rfl)|rfl)|exact Nat.le_of_ble_eq_true rfl|decide|(repeat' first|(apply Lk.go;constructor)|assumption|exact nb ‹_› ‹_›|exact nt ‹_› ‹_›))|(intro b hb;repeat first|(refine fe hb ?_;intro _ _ hb)|(refine fT hb ?_;intro hb))|refine rt ?_|refine gA rfl ?_|refine gB rfl ?_|apply cT rfl|apply cF rfl|(apply DM.gbT;rfl)|(apply DM.gbF;rfl)|intro h
          (apply DM.ixV (row := v.row) (z := (i : Int)) (by omega) (row_get Of_.row hv); (· rfl); (· rfl))
          repeat' first|(apply Sp.go;·constructor<;>first|exact ss|(change _=_;first|(simp only[go_sem,Nat.reduceBEq,Nat.reduceAdd,Nat.reduceLeDiff,reduceIte]<;>rfl)|rfl)|exact Nat.le_of_ble_eq_true rfl|decide|(repeat' first|(apply Lk.go;constructor)|assumption|exact nb ‹_› ‹_›|exact nt ‹_› ‹_›))|(intro b hb;repeat first|(refine fe hb ?_;intro _ _ hb)|(refine fT hb ?_;intro hb))|refine rt ?_|refine gA rfl ?_|refine gB rfl ?_|apply cT rfl|apply cF rfl|(apply DM.gbT;rfl)|(apply DM.gbF;rfl)|intro h
          (apply AM.cond; (· rfl))
          · intro h4
            simp at h4
            have eo : oParts v = [⟨v.cond, v.label, 1⟩, ⟨v.args, v.label, 2⟩] := by simp [oParts, h4]
            rw [eo] at e1 e2
            repeat' first|(apply Sp.go;·constructor<;>first|exact ss|(change _=_;first|(simp only[go_sem,Nat.reduceBEq,Nat.reduceAdd,Nat.reduceLeDiff,reduceIte]<;>rfl)|rfl)|exact Nat.le_of_ble_eq_true rfl|decide|(repeat' first|(apply Lk.go;constructor)|assumption|exact nb ‹_› ‹_›|exact nt ‹_› ‹_›))|(intro b hb;repeat first|(refine fe hb ?_;intro _ _ hb)|(refine fT hb ?_;intro hb))|refine rt ?_|refine gA rfl ?_|refine gB rfl ?_|apply cT rfl|apply cF rfl|(apply DM.gbT;rfl)|(apply DM.gbF;rfl)|intro h
            apply DM.apOr
            · simp only [EOpd.ev, Env.get, Nat.reduceBEq, cond_true, cond_false, beq_self_eq_true] <;> rfl
            · (· repeat' first|(apply Lk.go;constructor)|assumption|exact nb ‹_› ‹_›|exact nt ‹_› ‹_›|(apply Lm.go;constructor))
            · exact hl1
            · simp only [rowsOf, if_true, eq_self, EOpd.ev, Env.get, Nat.reduceBEq, cond_true, cond_false, beq_self_eq_true] <;> rfl
            · simp only [List.length_cons, List.length_nil]; omega
            · simp only [List.length_cons, List.length_nil, maxLen]; omega
            repeat' first|(apply Sp.go;·constructor<;>first|exact ss|(change _=_;first|(simp only[go_sem,Nat.reduceBEq,Nat.reduceAdd,Nat.reduceLeDiff,reduceIte]<;>rfl)|rfl)|exact Nat.le_of_ble_eq_true rfl|decide|(repeat' first|(apply Lk.go;constructor)|assumption|exact nb ‹_› ‹_›|exact nt ‹_› ‹_›))|(intro b hb;repeat first|(refine fe hb ?_;intro _ _ hb)|(refine fT hb ?_;intro hb))|refine gA rfl ?_|refine gB rfl ?_|apply cT rfl|apply cF rfl|(apply DM.gbT;rfl)|(apply DM.gbF;rfl)|intro h
            (refine AM.reg [.vs 1 ((kindsL ds v.label).map irow)] ?_; simp only [annotate, AV.rows])
            repeat' first|(apply Sp.go;·constructor<;>first|exact ss|(change _=_;first|(simp only[go_sem,Nat.reduceBEq,Nat.reduceAdd,Nat.reduceLeDiff,reduceIte]<;>rfl)|rfl)|exact Nat.le_of_ble_eq_true rfl|decide|(repeat' first|(apply Lk.go;constructor)|assumption|exact nb ‹_› ‹_›|exact nt ‹_› ‹_›))|(intro b hb;repeat first|(refine fe hb ?_;intro _ _ hb)|(refine fT hb ?_;intro hb))|refine rt ?_|refine gA rfl ?_|refine gB rfl ?_|apply cT rfl|apply cF rfl|(apply DM.gbT;rfl)|(apply DM.gbF;rfl)|intro h
            (apply DM.pcRs (c52); (· simp only [go_sem, Nat.reduceBEq, Nat.reduceAdd] <;> rfl); (· exact AVLes.refl _))
            repeat' first|(apply Sp.go;·constructor<;>first|exact ss|(change _=_;first|(simp only[go_sem,Nat.reduceBEq,Nat.reduceAdd,Nat.reduceLeDiff,reduceIte]<;>rfl)|rfl)|exact Nat.le_of_ble_eq_true rfl|decide|(repeat' first|(apply Lk.go;constructor)|assumption|exact nb ‹_› ‹_›|exact nt ‹_› ‹_›))|(intro b hb;repeat first|(refine fe hb ?_;intro _ _ hb)|(refine fT hb ?_;intro hb))|refine rt ?_|refine gA rfl ?_|refine gB rfl ?_|apply cT rfl|apply cF rfl|(apply DM.gbT;rfl)|(apply DM.gbF;rfl)|intro h
            apply DM.apOr
            · simp only [EOpd.ev, Env.get, Nat.reduceBEq, cond_true, cond_false, beq_self_eq_true] <;> rfl
            · (· repeat' first|(apply Lk.go;constructor)|assumption|exact nb ‹_› ‹_›|exact nt ‹_› ‹_›|(apply Lm.go;constructor))
            · rw [List.length_append, hl1]
            · simp only [rowsOf, if_true, eq_self, EOpd.ev, Env.get, Nat.reduceBEq, cond_true, cond_false, beq_self_eq_true] <;> rfl
            · simp only [List.length_cons, List.length_nil]; omega
            · simp only [List.length_cons, List.length_nil, maxLen]; omega
            repeat' first|(apply Sp.go;·constructor<;>first|exact ss|(change _=_;first|(simp only[go_sem,Nat.reduceBEq,Nat.reduceAdd,Nat.reduceLeDiff,reduceIte]<;>rfl)|rfl)|exact Nat.le_of_ble_eq_true rfl|decide|(repeat' first|(apply Lk.go;constructor)|assumption|exact nb ‹_› ‹_›|exact nt ‹_› ‹_›))|(intro b hb;repeat first|(refine fe hb ?_;intro _ _ hb)|(refine fT hb ?_;intro hb))|refine rt ?_|refine gA rfl ?_|refine gB rfl ?_|apply cT rfl|apply cF rfl|(apply DM.gbT;rfl)|(apply DM.gbF;rfl)|intro h
            refine AM.forget (G.setT tv (.frz 52 4 (pLen p (i + 1)))) ?_ ?_
            · refine R.hsub_tok2 ?_ ?_ ?_
              · intro b x hx
                (· repeat' first|(apply Lk.go;constructor)|assumption|exact nb ‹_› ‹_›|exact nt ‹_› ‹_›)
              · intro t' x hn hx
                (· repeat' first|(apply Lk.go;constructor)|assumption|exact nb ‹_› ‹_›|exact nt ‹_› ‹_›|(apply Lm.go;constructor))
              · rw [e2]
                (· repeat' first|(apply Lk.go;constructor)|assumption|exact nb ‹_› ‹_›|exact nt ‹_› ‹_›|(apply Lm.go;constructor))
            refine AM.roundX (i + 1) ⟨rfl, by omega⟩ ?_ ?_
            · (repeat first | exact envle_nil _ | (refine envle_cons ?_ ?_; · (simp only [go_sem, Nat.reduceBEq, Nat.reduceAdd]; exact AVLe.refl _)))
              refine envle_cons ?_ ?_
              · simp only [go_sem, Nat.reduceBEq, Nat.reduceAdd]
                refine avle_int ?_
                rw [inc64 h3 (by unfold maxLen; omega)]
              refine envle_cons ?_ (envle_nil _)
              simp only [Env.get, Nat.reduceBEq, cond_true, cond_false, beq_self_eq_true]
              rw [e1]
              refine avle_eq ?_
              simp [psAv, rsAv, rsOf]
            · show p.os.length - (i + 1) < p.os.length - i
              omega
          · intro h4
            simp at h4
            have eo : oParts v = [⟨v.args, v.label, 2⟩] := by simp [oParts, h4]
            rw [eo] at e1 e2
            repeat' first|(apply Sp.go;·constructor<;>first|exact ss|(change _=_;first|(simp only[go_sem,Nat.reduceBEq,Nat.reduceAdd,Nat.reduceLeDiff,reduceIte]<;>rfl)|rfl)|exact Nat.le_of_ble_eq_true rfl|decide|(repeat' first|(apply Lk.go;constructor)|assumption|exact nb ‹_› ‹_›|exact nt ‹_› ‹_›))|(intro b hb;repeat first|(refine fe hb ?_;intro _ _ hb)|(refine fT hb ?_;intro hb))|refine gA rfl ?_|refine gB rfl ?_|apply cT rfl|apply cF rfl|(apply DM.gbT;rfl)|(apply DM.gbF;rfl)|intro h
            (refine AM.reg [.vs 1 ((kindsL ds v.label).map irow)] ?_; simp only [annotate, AV.rows])
            repeat' first|(apply Sp.go;·constructor<;>first|exact ss|(change _=_;first|(simp only[go_sem,Nat.reduceBEq,Nat.reduceAdd,Nat.reduceLeDiff,reduceIte]<;>rfl)|rfl)|exact Nat.le_of_ble_eq_true rfl|decide|(repeat' first|(apply Lk.go;constructor)|assumption|exact nb ‹_› ‹_›|exact nt ‹_› ‹_›))|(intro b hb;repeat first|(refine fe hb ?_;intro _ _ hb)|(refine fT hb ?_;intro hb))|refine rt ?_|refine gA rfl ?_|refine gB rfl ?_|apply cT rfl|apply cF rfl|(apply DM.gbT;rfl)|(apply DM.gbF;rfl)|intro h
            (apply DM.pcRs (c52); (· simp only [go_sem, Nat.reduceBEq, Nat.reduceAdd] <;> rfl); (· exact AVLes.refl _))
            repeat' first|(apply Sp.go;·constructor<;>first|exact ss|(change _=_;first|(simp only[go_sem,Nat.reduceBEq,Nat.reduceAdd,Nat.reduceLeDiff,reduceIte]<;>rfl)|rfl)|exact Nat.le_of_ble_eq_true rfl|decide|(repeat' first|(apply Lk.go;constructor)|assumption|exact nb ‹_› ‹_›|exact nt ‹_› ‹_›))|(intro b hb;repeat first|(refine fe hb ?_;intro _ _ hb)|(refine fT hb ?_;intro hb))|refine rt ?_|refine gA rfl ?_|refine gB rfl ?_|apply cT rfl|apply cF rfl|(apply DM.gbT;rfl)|(apply DM.gbF;rfl)|intro h
            apply DM.apOr
            · simp only [EOpd.ev, Env.get, Nat.reduceBEq, cond_true, cond_false, beq_self_eq_true] <;> rfl
            · (· repeat' first|(apply Lk.go;constructor)|assumption|exact nb ‹_› ‹_›|exact nt ‹_› ‹_›|(apply Lm.go;constructor))
            · exact hl1
            · simp only [rowsOf, if_true, eq_self, EOpd.ev, Env.get, Nat.reduceBEq, cond_true, cond_false, beq_self_eq_true] <;> rfl
            · simp only [List.length_cons, List.length_nil]; omega
            · simp only [List.length_cons, List.length_nil, maxLen]; omega
            repeat' first|(apply Sp.go;·constructor<;>first|exact ss|(change _=_;first|(simp only[go_sem,Nat.reduceBEq,Nat.reduceAdd,Nat.reduceLeDiff,reduceIte]<;>rfl)|rfl)|exact Nat.le_of_ble_eq_true rfl|decide|(repeat' first|(apply Lk.go;constructor)|assumption|exact nb ‹_› ‹_›|exact nt ‹_› ‹_›))|(intro b hb;repeat first|(refine fe hb ?_;intro _ _ hb)|(refine fT hb ?_;intro hb))|refine rt ?_|refine gA rfl ?_|refine gB rfl ?_|apply cT rfl|apply cF rfl|(apply DM.gbT;rfl)|(apply DM.gbF;rfl)|intro h
            refine AM.forget (G.setT tv (.frz 52 4 (pLen p (i + 1)))) ?_ ?_
            · refine R.hsub_tok2 ?_ ?_ ?_
              · intro b x hx
                (· repeat' first|(apply Lk.go;constructor)|assumption|exact nb ‹_› ‹_›|exact nt ‹_› ‹_›)
              · intro t' x hn hx
                (· repeat' first|(apply Lk.go;constructor)|assumption|exact nb ‹_› ‹_›|exact nt ‹_› ‹_›|(apply Lm.go;constructor))
              · rw [e2]
                (· repeat' first|(apply Lk.go;constructor)|assumption|exact nb ‹_› ‹_›|exact nt ‹_› ‹_›|(apply Lm.go;constructor))
            refine AM.roundX (i + 1) ⟨rfl, by omega⟩ ?_ ?_
            · (repeat first | exact envle_nil _ | (refine envle_cons ?_ ?_; · (simp only [go_sem, Nat.reduceBEq, Nat.reduceAdd]; exact AVLe.refl _)))
              refine envle_cons ?_ ?_
              · simp only [go_sem, Nat.reduceBEq, Nat.reduceAdd]
                refine avle_int ?_
                rw [inc64 h3 (by unfold maxLen; omega)]
              refine envle_cons ?_ (envle_nil _)
              simp only [Env.get, Nat.reduceBEq, cond_true, cond_false, beq_self_eq_true]
              rw [e1]
              refine avle_eq ?_
              simp [psAv, rsAv, rsOf]
            · show p.os.length - (i + 1) < p.os.length - i
              omega
        · intro h3
          simp at h3
          have : i = p.os.length := by omega
          subst this
          repeat' first|(apply Sp.go;·constructor<;>first|exact ss|(change _=_;first|(simp only[go_sem,Nat.reduceBEq,Nat.reduceAdd,Nat.reduceLeDiff,reduceIte]<;>rfl)|rfl)|exact Nat.le_of_ble_eq_true rfl|decide|(repeat' first|(apply Lk.go;constructor)|assumption|exact nb ‹_› ‹_›|exact nt ‹_› ‹_›))|(intro b hb;repeat first|(refine fe hb ?_;intro _ _ hb)|(refine fT hb ?_;intro hb))|refine rt ?_|refine gA rfl ?_|refine gB rfl ?_|apply cT rfl|apply cF rfl|(apply DM.gbT;rfl)|(apply DM.gbF;rfl)|intro h
          (apply Sr.go;·constructor<;>first|(apply Lk.go;constructor<;>first|exact ss|(change _=_;first|(simp only[go_sem,Nat.reduceBEq,Nat.reduceAdd,Nat.reduceLeDiff,reduceIte]<;>rfl)|rfl)|exact Nat.le_of_ble_eq_true rfl|decide|(repeat' first|(apply Lk.go;constructor)|assumption|exact nb ‹_› ‹_›|exact nt ‹_› ‹_›))|assumption)
          simp only [eRows, List.take_length]
          exact AVLe.own
theorem rvC_le {m : Mem} : ∀ {az bs : List AV} {b o : Nat}, AVLes az bs → RvC m az b o → RvC m bs b o
  | [], bs, _, _, h, _ => by simp only [AVLes] at h; subst h; simp only [RvC]
  | a :: az, _, b, o, h, k => by
    obtain ⟨c, cs, rfl, h1, h2⟩ := h
    simp only [RvC] at k ⊢
    obtain ⟨⟨v, g1, g2, g3, g4⟩, g5⟩ := k
    exact ⟨⟨v, g1, g2, g3, h1 _ _ g4⟩, rvC_le h2 g5⟩
theorem avles_len : ∀ {az bs : List AV}, AVLes az bs → bs.length = az.length
  | [], _, h => by simp only [AVLes] at h; subst h; rfl
  | _ :: _, _, h => by obtain ⟨c, cs, rfl, _, h2⟩ := h; simp [avles_len h2]
def AVLr : List (List AV) → List (List AV) → Prop
  | [], l => l = []
  | r :: rs, l => ∃ r' rs', l = r' :: rs' ∧ AVLes r r' ∧ AVLr rs rs'
theorem avlr_nil : AVLr [] [] := rfl
theorem avlr_cons {r r' : List AV} {rs rs' : List (List AV)} (h : AVLes r r') (k : AVLr rs rs') : AVLr (r :: rs) (r' :: rs') := ⟨r', rs', rfl, h, k⟩
theorem avlr_len : ∀ {az bs : List (List AV)}, AVLr az bs → bs.length = az.length
  | [], _, h => by simp only [AVLr] at h; subst h; rfl
  | _ :: _, _, h => by obtain ⟨c, cs, rfl, _, h2⟩ := h; simp [avlr_len h2]
theorem rvR_le {m : Mem} {n : Nat} : ∀ {az bs : List (List AV)} {b o : Nat}, AVLr az bs → RvR m n az b o → RvR m n bs b o
  | [], bs, _, _, h, _ => by simp only [AVLr] at h; subst h; simp only [RvR]
  | a :: az, _, b, o, h, k => by
    obtain ⟨c, cs, rfl, h1, h2⟩ := h
    simp only [RvR] at k ⊢
    exact ⟨(avles_len h1).trans k.1, rvC_le h1 k.2.1, rvR_le h2 k.2.2⟩
theorem avle_vs {n : Nat} {az bs : List (List AV)} (h : AVLr az bs) : AVLe (.vs n az) (.vs n bs) := fun m v k => by
  have e := avlr_len h
  simp only [Rv] at k ⊢
  obtain ⟨a, len, cap, h1, h2, h3, h4⟩ := k
  refine ⟨a, len, cap, h1, h2.trans e.symm, h3, ?_⟩
  rcases h4 with h4 | ⟨b, o, g1, g2⟩
  · exact .inl (e.trans h4)
  · exact .inr ⟨b, o, g1, rvR_le h g2⟩
def pA : Prog := ⟨[115], 0, [⟨[110], ⟨1, 0, 9⟩, ⟨1, 0, []⟩⟩], [], [⟨1, 0, -1, 0⟩], [⟨3, 0, []⟩, ⟨24, 0, []⟩]⟩
def qA : Prog := ⟨[115], 0, [⟨[110], ⟨1, 0, 9⟩, ⟨1, 0, []⟩⟩], [], [⟨1, 0, -1, 0⟩], [⟨2, 0, [97]⟩, ⟨11, 0, []⟩, ⟨24, 0, []⟩]⟩
def dsA : List Decl_ := [⟨[109], [⟨[120], ⟨1, 0, 9⟩⟩], 0, [], []⟩]
theorem checkA : checkP pA dsA = (0, 0) := by decide +kernel
theorem checkB : checkP qA dsA = (1, 11) := by decide +kernel
theorem costA : costP pA 0 [] [1] = (2, 0, 0) := by decide +kernel
theorem le_dsA : AVLe (.vs 5 [[.str [109], .vs 4 [[.str [120], .int .i64 1, .int .i64 0, .int .i64 9]], .int .i64 0, .nilS, .nilS]]) (.vs 5 (dsA.map Decl_.row)) :=
  avle_vs (avlr_cons (avles_cons (AVLe.refl _) (avles_cons (AVLe.refl _) (avles_cons (AVLe.refl _) (avles_cons AVLe.nil (avles_cons AVLe.nil avles_nil))))) avlr_nil)
theorem le_prog {nm : List UInt8} {rl : Int} {vs : List Var_} {os : List Of_} {cs : List Ins_} : AVLe (.agg [.str nm, .int .i64 rl, .vs 7 (vs.map Var_.row), .nilS, .vs 4 (os.map Of_.row), .vs 3 (cs.map Ins_.row)]) (Prog.av ⟨nm, rl, vs, [], os, cs⟩) :=
  avle_agg (avles_cons (AVLe.refl _) (avles_cons (AVLe.refl _) (avles_cons (AVLe.refl _) (avles_cons AVLe.nil (avles_cons (AVLe.refl _) (avles_cons (AVLe.refl _) avles_nil))))))
set_option maxHeartbeats 4000000 in
theorem p15 : Pure Try.prog 15 [] (.bool true) := by
  have hd : ∀ d ∈ dsA, d.fields.length ≤ 1000 := fun d h => by simp [dsA] at h; subst h; simp
  have c1 := p21 pA dsA hd
  have c2 := p21 qA dsA hd
  have c3 := p17 pA 0 [] [1] (by simp)
  rw [checkA] at c1
  rw [checkB] at c2
  rw [costA] at c3
  refine pure_intro mo Try.func15 c15 fun H => ?_
  unfold e15 r15
  simp only [initEnv, initFrom]
  repeat' first|(apply Sp.go;·constructor<;>first|exact ss|(change _=_;first|(simp only[go_sem,Nat.reduceBEq,Nat.reduceAdd,Nat.reduceLeDiff,reduceIte]<;>rfl)|rfl)|exact Nat.le_of_ble_eq_true rfl|decide|(repeat' first|(apply Lk.go;constructor)|assumption|exact nb ‹_› ‹_›|exact nt ‹_› ‹_›))|(intro b hb;repeat first|(refine fe hb ?_;intro _ _ hb)|(refine fT hb ?_;intro hb))|refine gA rfl ?_|refine gB rfl ?_|apply cT rfl|apply cF rfl|(apply DM.gbT;rfl)|(apply DM.gbF;rfl)|intro h
  (refine AM.reg [.agg [.int .i64 1, .int .i64 0, .str []]] ?_; simp only [annotate, AV.rows])
  repeat' first|(apply Sp.go;·constructor<;>first|exact ss|(change _=_;first|(simp only[go_sem,Nat.reduceBEq,Nat.reduceAdd,Nat.reduceLeDiff,reduceIte]<;>rfl)|rfl)|exact Nat.le_of_ble_eq_true rfl|decide|(repeat' first|(apply Lk.go;constructor)|assumption|exact nb ‹_› ‹_›|exact nt ‹_› ‹_›))|(intro b hb;repeat first|(refine fe hb ?_;intro _ _ hb)|(refine fT hb ?_;intro hb))|refine rt ?_|refine gA rfl ?_|refine gB rfl ?_|apply cT rfl|apply cF rfl|(apply DM.gbT;rfl)|(apply DM.gbF;rfl)|intro h
  (apply DM.pcRs (p29 0); (· simp only [go_sem, Nat.reduceBEq, Nat.reduceAdd] <;> rfl); (· exact AVLes.refl _))
  repeat' first|(apply Sp.go;·constructor<;>first|exact ss|(change _=_;first|(simp only[go_sem,Nat.reduceBEq,Nat.reduceAdd,Nat.reduceLeDiff,reduceIte]<;>rfl)|rfl)|exact Nat.le_of_ble_eq_true rfl|decide|(repeat' first|(apply Lk.go;constructor)|assumption|exact nb ‹_› ‹_›|exact nt ‹_› ‹_›))|(intro b hb;repeat first|(refine fe hb ?_;intro _ _ hb)|(refine fT hb ?_;intro hb))|refine rt ?_|refine gA rfl ?_|refine gB rfl ?_|apply cT rfl|apply cF rfl|(apply DM.gbT;rfl)|(apply DM.gbF;rfl)|intro h
  apply DM.pcs c1
  · simp only [go_sem, Nat.reduceBEq, Nat.reduceAdd] <;> rfl
  · exact avles_cons (le_prog (nm := [115]) (rl := 0) (vs := pA.vars) (os := pA.os) (cs := pA.code)) (avles_cons le_dsA avles_nil)
  repeat' first|(apply Sp.go;·constructor<;>first|exact ss|(change _=_;first|(simp only[go_sem,Nat.reduceBEq,Nat.reduceAdd,Nat.reduceLeDiff,reduceIte]<;>rfl)|rfl)|exact Nat.le_of_ble_eq_true rfl|decide|(repeat' first|(apply Lk.go;constructor)|assumption|exact nb ‹_› ‹_›|exact nt ‹_› ‹_›))|(intro b hb;repeat first|(refine fe hb ?_;intro _ _ hb)|(refine fT hb ?_;intro hb))|refine rt ?_|refine gA rfl ?_|refine gB rfl ?_|apply cT rfl|apply cF rfl|(apply DM.gbT;rfl)|(apply DM.gbF;rfl)|intro h
  apply DM.pcs c2
  · simp only [go_sem, Nat.reduceBEq, Nat.reduceAdd] <;> rfl
  · exact avles_cons (le_prog (nm := [115]) (rl := 0) (vs := qA.vars) (os := qA.os) (cs := qA.code)) (avles_cons le_dsA avles_nil)
  repeat' first|(apply Sp.go;·constructor<;>first|exact ss|(change _=_;first|(simp only[go_sem,Nat.reduceBEq,Nat.reduceAdd,Nat.reduceLeDiff,reduceIte]<;>rfl)|rfl)|exact Nat.le_of_ble_eq_true rfl|decide|(repeat' first|(apply Lk.go;constructor)|assumption|exact nb ‹_› ‹_›|exact nt ‹_› ‹_›))|(intro b hb;repeat first|(refine fe hb ?_;intro _ _ hb)|(refine fT hb ?_;intro hb))|refine rt ?_|refine gA rfl ?_|refine gB rfl ?_|apply cT rfl|apply cF rfl|(apply DM.gbT;rfl)|(apply DM.gbF;rfl)|intro h
  apply DM.pcs c3
  · simp only [go_sem, Nat.reduceBEq, Nat.reduceAdd] <;> rfl
  · exact avles_cons (le_prog (nm := [115]) (rl := 0) (vs := pA.vars) (os := pA.os) (cs := pA.code)) (avles_cons (AVLe.refl _) (avles_cons AVLe.nil (avles_cons (AVLe.refl _) avles_nil)))
  repeat' first|(apply Sp.go;·constructor<;>first|exact ss|(change _=_;first|(simp only[go_sem,Nat.reduceBEq,Nat.reduceAdd,Nat.reduceLeDiff,reduceIte]<;>rfl)|rfl)|exact Nat.le_of_ble_eq_true rfl|decide|(repeat' first|(apply Lk.go;constructor)|assumption|exact nb ‹_› ‹_›|exact nt ‹_› ‹_›))|(intro b hb;repeat first|(refine fe hb ?_;intro _ _ hb)|(refine fT hb ?_;intro hb))|refine rt ?_|refine gA rfl ?_|refine gB rfl ?_|apply cT rfl|apply cF rfl|(apply DM.gbT;rfl)|(apply DM.gbF;rfl)|intro h
  (apply Sr.go;·constructor<;>first|(apply Lk.go;constructor<;>first|exact ss|(change _=_;first|(simp only[go_sem,Nat.reduceBEq,Nat.reduceAdd,Nat.reduceLeDiff,reduceIte]<;>rfl)|rfl)|exact Nat.le_of_ble_eq_true rfl|decide|(repeat' first|(apply Lk.go;constructor)|assumption|exact nb ‹_› ‹_›|exact nt ‹_› ‹_›))|assumption)
  exact AVLe.refl _
theorem few_len {p : Prog} (h : fewP p = true) : p.vars.length ≤ 1000 ∧ p.hs.length ≤ 1000 ∧ p.os.length ≤ 1000 ∧ p.code.length ≤ 1000 := by
  simp [fewP] at h; omega
def Prog.more (p : Prog) (cs : List Ins_) : Prog := ⟨p.name, p.role, p.vars, p.hs, p.os, p.code ++ cs⟩
theorem checkF_ok {p : Prog} {ds : List Decl_} : ∀ {l : List Part}, (checkF p ds l).2 = 0 → ∀ x ∈ l, x.label < (ds.length : Int) ∧ (costP p x.at_ (psOf ds x) (rsOf ds x)).2.2 = 0 ∧ (costP p x.at_ (psOf ds x) (rsOf ds x)).1 ≤ 5000
  | [], _, x, hx => by simp at hx
  | y :: l, h, x, hx => by
    rw [checkF] at h
    split at h
    · cases h
    · rename_i h1
      split at h
      · rename_i h2; exact absurd h h2
      · rename_i h2
        split at h
        · cases h
        · rename_i h3
          rcases List.mem_cons.1 hx with rfl | hx
          · exact ⟨by omega, by simpa using h2, by omega⟩
          · exact checkF_ok h x hx
theorem checkF_of {p : Prog} {ds : List Decl_} : ∀ {l : List Part}, (∀ x ∈ l, x.label < (ds.length : Int) ∧ (costP p x.at_ (psOf ds x) (rsOf ds x)).2.2 = 0 ∧ (costP p x.at_ (psOf ds x) (rsOf ds x)).1 ≤ 5000) → (checkF p ds l).2 = 0
  | [], _ => rfl
  | y :: l, h => by
    obtain ⟨h1, h2, h3⟩ := h y (by simp)
    rw [checkF, if_neg (by omega), if_neg (by simp [h2]), if_neg (by omega)]
    exact checkF_of fun x hx => h x (by simp [hx])
theorem check_valid {p : Prog} {ds : List Decl_} (h : (checkP p ds).2 = 0) : validP p = true ∧ (checkF p ds (partsP p)).2 = 0 := by
  unfold checkP at h
  cases hv : validP p with
  | false => rw [hv] at h; simp at h
  | true => rw [hv] at h; exact ⟨rfl, by simpa using h⟩
theorem get_app {α : Type} {l : List α} {i : Nat} (h : i < l.length) (m : List α) : (l ++ m)[i]? = l[i]? := List.getElem?_append_left h
theorem reachP_more {S : List (Option St2)} {j : Nat} (h : j < S.length) (s : St2) (m : List (Option St2)) : reachP (S ++ m) j s = ((reachP S j s).1, (reachP S j s).2 ++ m) := by
  unfold reachP
  rw [get_app h]
  cases hs : S[j]? with
  | none => simp only; rw [List.set_append_left _ _ h]
  | some o => 
    cases o with
    | none => simp only; rw [List.set_append_left _ _ h]
    | some old => 
      simp only
      split
      · split <;> rfl
      · rfl
theorem lookP_more {p : Prog} (hval : validP p = true) {cs : List Ins_} {ps rr : List Int} {S : List (Option St2)} (hS : S.length = p.code.length) {i : Nat} (hi : i < p.code.length) {s0 : St2} (hs : S[i]? = some (some s0)) (m : List (Option St2)) (h : (lookP p ps rr S i).1 = 0) :
    lookP (p.more cs) ps rr (S ++ m) i = (0, (lookP p ps rr S i).2 ++ m) := by
  obtain ⟨x, hx⟩ := some_of hi
  have hxm : x ∈ p.code := List.mem_of_getElem? hx
  unfold lookP at h ⊢
  rw [hx, hs] at h
  rw [show (p.more cs).code = p.code ++ cs from rfl, get_app hi, get_app (by omega : i < S.length), hx, hs]
  dsimp only at h ⊢
  rw [show valuesP (p.more cs) ps rr x s0.1 = valuesP p ps rr x s0.1 from rfl]
  cases hv : valuesP p ps rr x s0.1 with
  | none => rw [hv] at h; simp at h
  | some st => 
    rw [hv] at h
    dsimp only at h ⊢
    cases hl : loopsP p i x s0.2 with
    | none => rw [hl] at h; simp at h
    | some lo =>
      rw [hl] at h
      dsimp only at h ⊢
      have hl2 : loopsP (p.more cs) i x s0.2 = some lo ∧ (¬ (x.op = 19 ∨ x.op = 24) → i + 1 < p.code.length) := by
        unfold loopsP at hl ⊢
        cases hq : loopsQ i x s0.2 with
        | none => rw [hq] at hl; cases hl
        | some l =>
          rw [hq] at hl
          simp only [Option.bind_some] at hl ⊢
          unfold finP at hl ⊢
          by_cases hc : x.op = 19 ∨ x.op = 24 ∨ i + 1 < p.code.length
          · rw [if_pos hc] at hl
            have hc2 : x.op = 19 ∨ x.op = 24 ∨ i + 1 < (p.more cs).code.length := by
              rcases hc with h | h | h
              · exact .inl h
              · exact .inr (.inl h)
              · refine .inr (.inr ?_); simp only [Prog.more, List.length_append]; omega
            rw [if_pos hc2]
            exact ⟨hl, fun h => by rcases hc with h1 | h1 | h1; exact absurd (.inl h1) h; exact absurd (.inr h1) h; exact h1⟩
          · rw [if_neg hc] at hl; cases hl
      rw [hl2.1]
      dsimp only
      by_cases ha : x.op = 19 ∨ x.op = 24
      · rw [if_pos ha, if_pos ha] at *
        by_cases hb : x.op = 19 ∨ x.op = 20 ∨ x.op = 22
        · have ht := target_ok hval hxm hb
          rw [if_pos ⟨rfl, hb⟩] at h
          rw [if_pos ⟨rfl, hb⟩, if_pos ⟨rfl, hb⟩, reachP_more (by omega), h]
        · rw [if_neg (fun h => hb h.2), if_neg (fun h => hb h.2)]
      · rw [if_neg ha] at h
        rw [if_neg ha, if_neg ha]
        have hr := reachP_more (S := S) (j := i + 1) (by have := hl2.2 ha; omega) (st, lo) m
        have hrl := reachP_len S (i + 1) (st, lo)
        rw [hr]
        generalize reachP S (i + 1) (st, lo) = r1 at *
        dsimp only
        by_cases hb : r1.1 = 0 ∧ (x.op = 19 ∨ x.op = 20 ∨ x.op = 22)
        · have ht := target_ok hval hxm hb.2
          rw [if_pos hb] at h
          rw [if_pos hb, if_pos hb, reachP_more (by omega), h]
        · rw [if_neg hb] at h
          rw [if_neg hb, if_neg hb, h]
theorem costF_none {q : Prog} {ps rr : List Int} : ∀ (k i : Nat) (S : List (Option St2)) (c : Int), (∀ j, i ≤ j → j < i + k → S[j]? = some none) → costF q ps rr k i S c = (c, 0, 0)
  | 0, _, _, _, _ => rfl
  | k + 1, i, S, c, h => by
    rw [costF_skip (h i (Nat.le_refl _) (by omega))]
    exact costF_none k (i + 1) S c fun j h1 h2 => h j (by omega) (by omega)
theorem rounds_more {p : Prog} {cs : List Ins_} {lo : List Int} (h : ∀ b ∈ lo, 0 ≤ b ∧ b < p.code.length) : roundsP (p.more cs) lo = roundsP p lo := by
  unfold roundsP
  suffices ∀ n, lo.foldl (mulR (p.more cs)) n = lo.foldl (mulR p) n from this 1
  induction lo with
  | nil => intro n; rfl
  | cons b lo ih =>
    intro n
    have hb := h b (by simp)
    have e : mulR (p.more cs) n b = mulR p n b := by
      unfold mulR
      rw [show (p.more cs).code = p.code ++ cs from rfl, get_app (by omega)]
    rw [List.foldl_cons, List.foldl_cons, e]
    exact ih (fun x hx => h x (by simp [hx])) _
theorem costF_more {p : Prog} (hval : validP p = true) {cs : List Ins_} {ps rr : List Int} : ∀ (k i : Nat) (S : List (Option St2)) (c : Int), i + k = p.code.length → S.length = p.code.length → SOk p S → (costF p ps rr k i S c).2.2 = 0 → costF (p.more cs) ps rr (k + cs.length) i (S ++ List.replicate cs.length none) c = costF p ps rr k i S c
  | 0, i, S, c, h1, h2, h3, h4 => by
    rw [Nat.zero_add, costF_none]
    · rfl
    · intro j g1 g2
      rw [List.getElem?_append_right (by omega), List.getElem?_replicate, if_pos (by omega)]
  | k + 1, i, S, c, h1, h2, h3, h4 => by
    have hi : i < p.code.length := by omega
    obtain ⟨so, hso⟩ := some_of (show i < S.length by omega)
    have hso2 : (S ++ List.replicate cs.length none)[i]? = some so := by rw [get_app (by omega)]; exact hso
    rw [show k + 1 + cs.length = (k + cs.length) + 1 by omega]
    cases so with
    | none =>
      rw [costF_skip hso] at h4 ⊢
      rw [costF_skip hso2]
      exact costF_more hval k (i + 1) S c (by omega) h2 h3 h4
    | some s =>
      obtain ⟨l1, l2, l3⟩ := lookP_ok (ps := ps) (rr := rr) hi hso h3
      by_cases z : (lookP p ps rr S i).1 = 0
      · have e := lookP_more hval (cs := cs) h2 hi hso (List.replicate cs.length none) z
        rw [costF_ok hso z] at h4 ⊢
        rw [costF_ok hso2 (by rw [e]), e]
        dsimp only
        rw [rounds_more (fun b hb => (h3 s (List.mem_of_getElem? hso)).ix b hb)]
        exact costF_more hval k (i + 1) _ _ (by omega) (l2.trans h2) l1 h4
      · rw [costF_err hso z] at h4
        exact absurd h4 z
theorem start_more {n e m : Nat} (h : e < n) : start0 (n + m) e = start0 n e ++ List.replicate m none := by
  simp only [start0]
  rw [← List.replicate_append_replicate, List.set_append_left _ _ (by simp; exact h)]
theorem costP_more {p : Prog} (hval : validP p = true) {cs : List Ins_} (hq : validP (p.more cs) = true) {e : Int} {ps rr : List Int} (he : 0 ≤ e ∧ e < p.code.length) (h : (costP p e ps rr).2.2 = 0) : costP (p.more cs) e ps rr = costP p e ps rr := by
  have hl : (p.more cs).code.length = p.code.length + cs.length := by simp [Prog.more]
  unfold costP at h ⊢
  rw [if_neg (by rw [hval]; simp; omega)] at h
  rw [if_neg (show ¬ (validP (p.more cs) = false ∨ e < 0 ∨ ((p.more cs).code.length : Int) ≤ e) by rw [hq, hl]; simp; omega), if_neg (show ¬ (validP p = false ∨ e < 0 ∨ (p.code.length : Int) ≤ e) by rw [hval]; simp; omega)]
  rw [hl, start_more (by omega), show p.code.length + cs.length - e.toNat = p.code.length - e.toNat + cs.length by omega]
  exact costF_more hval _ _ _ _ (by omega) start_len start_ok h
theorem checkP_more {p : Prog} {ds : List Decl_} {cs : List Ins_} (h : (checkP p ds).2 = 0) (hq : validP (p.more cs) = true) : (checkP (p.more cs) ds).2 = 0 ∧ ∀ x ∈ partsP p, costP (p.more cs) x.at_ (psOf ds x) (rsOf ds x) = costP p x.at_ (psOf ds x) (rsOf ds x) := by
  obtain ⟨hval, h2⟩ := check_valid h
  have hpo := (parts_ok hval).2
  have h3 := checkF_ok h2
  have key : ∀ x ∈ partsP p, costP (p.more cs) x.at_ (psOf ds x) (rsOf ds x) = costP p x.at_ (psOf ds x) (rsOf ds x) := fun x hx => costP_more hval hq (hpo x hx).at_ (h3 x hx).2.1
  refine ⟨?_, key⟩
  unfold checkP
  rw [if_neg (by rw [hq]; simp)]
  refine checkF_of fun x hx => ?_
  have hx' : x ∈ partsP p := hx
  rw [key x hx']
  exact h3 x hx'
theorem psAv_le (ds : List Decl_) (x : Part) : AVLe (psAv ds x) (.vs 1 ((psOf ds x).map irow)) := by
  unfold psAv
  split
  · exact AVLe.refl _
  · rw [show psOf ds x = [] by simp [psOf, *]]; exact AVLe.nil
theorem rsAv_le (ds : List Decl_) (x : Part) : AVLe (rsAv ds x) (.vs 1 ((rsOf ds x).map irow)) := by
  unfold rsAv
  split
  · rw [show rsOf ds x = [] by simp [rsOf, *]]; exact AVLe.nil
  · exact AVLe.refl _
theorem psOf_len {ds : List Decl_} (hd : ∀ d ∈ ds, d.fields.length ≤ 1000) (x : Part) : (psOf ds x).length ≤ 1000 := by
  unfold psOf; split
  · exact kindsL_len hd _
  · simp
abbrev zeroP : List AV := [.str [], .int .i64 0, .nilS, .nilS, .nilS, .nilS]
theorem own3_le {t : Nat} {rows : List (List AV)} {l : List Ins_} (h : rows = l.map Ins_.row) : AVLe (.own t 3 rows) (.vs 3 (l.map Ins_.row)) := h ▸ AVLe.own
set_option maxHeartbeats 8000000 in
theorem p4 (p : Prog) (ds : List Decl_) (more : List Ins_) : Pure Try.prog 4 [p.av, .vs 5 (ds.map Decl_.row), .vs 3 (more.map Ins_.row)] (.bool true) := by
  refine pure_assume (G := ds.length ≤ maxLen) (fun m vs h => by simp only [RvL] at h; obtain ⟨_, _, _, _, _, _, _, h1, _⟩ := h; have := vs_len h1; simpa using this) fun hl => ?_
  refine pure_intro mo Try.func4 c4 fun H => ?_
  unfold e4 r4
  simp only [initEnv, initFrom]
  repeat' first|(apply Sp.go;·constructor<;>first|exact ss|(change _=_;first|(simp only[go_sem,Nat.reduceBEq,Nat.reduceAdd,Nat.reduceLeDiff,reduceIte]<;>rfl)|rfl)|exact Nat.le_of_ble_eq_true rfl|decide|(repeat' first|(apply Lk.go;constructor)|assumption|exact nb ‹_› ‹_›|exact nt ‹_› ‹_›))|(intro b hb;repeat first|(refine fe hb ?_;intro _ _ hb)|(refine fT hb ?_;intro hb))|refine rt ?_|refine gA rfl ?_|refine gB rfl ?_|apply cT rfl|apply cF rfl|(apply DM.gbT;rfl)|(apply DM.gbF;rfl)|intro h
  rename Nat => b3
  have hs3 : HSub H (H.setB b3 27 p.cells) := HSub.setB (HSub.refl _) hb
  have h3 : (H.setB b3 27 p.cells).blk b3 = some (27, p.cells) := g_same
  generalize H.setB b3 27 p.cells = G at hs3 h3 ⊢
  (apply DM.pcs (p15); (· simp only [go_sem, Nat.reduceBEq, Nat.reduceAdd] <;> rfl); (· exact AVLes.refl _))
  repeat' first|(apply Sp.go;·constructor<;>first|exact ss|(change _=_;first|(simp only[go_sem,Nat.reduceBEq,Nat.reduceAdd,Nat.reduceLeDiff,reduceIte]<;>rfl)|rfl)|exact Nat.le_of_ble_eq_true rfl|decide|(repeat' first|(apply Lk.go;constructor)|assumption|exact nb ‹_› ‹_›|exact nt ‹_› ‹_›))|(intro b hb;repeat first|(refine fe hb ?_;intro _ _ hb)|(refine fT hb ?_;intro hb))|refine rt ?_|refine gA rfl ?_|refine gB rfl ?_|apply cT rfl|apply cF rfl|(apply DM.gbT;rfl)|(apply DM.gbF;rfl)|intro h
  (apply DM.pcs (p16 p); (· simp only [go_sem, Nat.reduceBEq, Nat.reduceAdd] <;> rfl); (· exact AVLes.refl _))
  cases hf : fewP p with
  | false =>
    repeat' first|(apply Sp.go;·constructor<;>first|exact ss|(change _=_;first|(simp only[go_sem,Nat.reduceBEq,Nat.reduceAdd,Nat.reduceLeDiff,reduceIte]<;>rfl)|rfl)|exact Nat.le_of_ble_eq_true rfl|decide|(repeat' first|(apply Lk.go;constructor)|assumption|exact nb ‹_› ‹_›|exact nt ‹_› ‹_›))|(intro b hb;repeat first|(refine fe hb ?_;intro _ _ hb)|(refine fT hb ?_;intro hb))|refine rt ?_|refine gA rfl ?_|refine gB rfl ?_|apply cT rfl|apply cF rfl|(apply DM.gbT;rfl)|(apply DM.gbF;rfl)|intro h
    exact AM.ret (v := .bool true) rfl ⟨_, rfl, AVLe.refl _, hs3⟩
  | true =>
    have hl1 := few_len hf
    repeat' first|(apply Sp.go;·constructor<;>first|exact ss|(change _=_;first|(simp only[go_sem,Nat.reduceBEq,Nat.reduceAdd,Nat.reduceLeDiff,reduceIte]<;>rfl)|rfl)|exact Nat.le_of_ble_eq_true rfl|decide|(repeat' first|(apply Lk.go;constructor)|assumption|exact nb ‹_› ‹_›|exact nt ‹_› ‹_›))|(intro b hb;repeat first|(refine fe hb ?_;intro _ _ hb)|(refine fT hb ?_;intro hb))|refine rt ?_|refine gA rfl ?_|refine gB rfl ?_|apply cT rfl|apply cF rfl|(apply DM.gbT;rfl)|(apply DM.gbF;rfl)|intro h
    (apply DM.pcs (p20 ds hl); (· simp only [go_sem, Nat.reduceBEq, Nat.reduceAdd] <;> rfl); (· exact AVLes.refl _))
    cases hsd : shortD ds with
    | false =>
      repeat' first|(apply Sp.go;·constructor<;>first|exact ss|(change _=_;first|(simp only[go_sem,Nat.reduceBEq,Nat.reduceAdd,Nat.reduceLeDiff,reduceIte]<;>rfl)|rfl)|exact Nat.le_of_ble_eq_true rfl|decide|(repeat' first|(apply Lk.go;constructor)|assumption|exact nb ‹_› ‹_›|exact nt ‹_› ‹_›))|(intro b hb;repeat first|(refine fe hb ?_;intro _ _ hb)|(refine fT hb ?_;intro hb))|refine rt ?_|refine gA rfl ?_|refine gB rfl ?_|apply cT rfl|apply cF rfl|(apply DM.gbT;rfl)|(apply DM.gbF;rfl)|intro h
      exact AM.ret (v := .bool true) rfl ⟨_, rfl, AVLe.refl _, hs3⟩
    | true =>
      have hd : ∀ d ∈ ds, d.fields.length ≤ 1000 := fun d h => by
        simp only [shortD, Bool.and_eq_true, List.all_eq_true, decide_eq_true_eq] at hsd
        have := hsd.1 d h; omega
      by_cases h1 : 100 < more.length
      · have e1 : decide ((100 : Int) < ((more.map Ins_.row).length : Int)) = true := decide_eq_true (by rw [List.length_map]; omega)
        repeat' first|(apply Sp.go;·constructor<;>first|exact ss|(change _=_;first|(simp only[go_sem,Nat.reduceBEq,Nat.reduceAdd,Nat.reduceLeDiff,reduceIte, e1]<;>rfl)|rfl)|exact Nat.le_of_ble_eq_true rfl|decide|(repeat' first|(apply Lk.go;constructor)|assumption|exact nb ‹_› ‹_›|exact nt ‹_› ‹_›))|(intro b hb;repeat first|(refine fe hb ?_;intro _ _ hb)|(refine fT hb ?_;intro hb))|refine rt ?_|refine gA rfl ?_|refine gB rfl ?_|apply cT rfl|apply cF rfl|(apply DM.gbT;rfl)|(apply DM.gbF;rfl)|intro h
        exact AM.ret (v := .bool true) rfl ⟨_, rfl, AVLe.refl _, hs3⟩
      have e1 : decide ((100 : Int) < ((more.map Ins_.row).length : Int)) = false := decide_eq_false (by rw [List.length_map]; omega)
      repeat' first|(apply Sp.go;·constructor<;>first|exact ss|(change _=_;first|(simp only[go_sem,Nat.reduceBEq,Nat.reduceAdd,Nat.reduceLeDiff,reduceIte, e1]<;>rfl)|rfl)|exact Nat.le_of_ble_eq_true rfl|decide|(repeat' first|(apply Lk.go;constructor)|assumption|exact nb ‹_› ‹_›|exact nt ‹_› ‹_›))|(intro b hb;repeat first|(refine fe hb ?_;intro _ _ hb)|(refine fT hb ?_;intro hb))|refine rt ?_|refine gA rfl ?_|refine gB rfl ?_|apply cT rfl|apply cF rfl|(apply DM.gbT;rfl)|(apply DM.gbF;rfl)|intro h
      rename Nat => b7
      have hn7 : b3 ≠ b7 := (ne_blk hb h3).2
      (apply DM.bsO (rows := []); (· rfl); (· rfl); (· rfl); (· decide))
      intro tk htk
      replace htk := freshT_setB htk
      repeat' first|(apply Sp.go;·constructor<;>first|exact ss|(change _=_;first|(simp only[go_sem,Nat.reduceBEq,Nat.reduceAdd,Nat.reduceLeDiff,reduceIte]<;>rfl)|rfl)|exact Nat.le_of_ble_eq_true rfl|decide|(repeat' first|(apply Lk.go;constructor)|assumption|exact nb ‹_› ‹_›|exact nt ‹_› ‹_›))|(intro b hb;repeat first|(refine fe hb ?_;intro _ _ hb)|(refine fT hb ?_;intro hb))|refine rt ?_|refine gA rfl ?_|refine gB rfl ?_|apply cT rfl|apply cF rfl|(apply DM.gbT;rfl)|(apply DM.gbF;rfl)|intro h
      (apply DM.apO; (· rfl); (· exact t_same.trans (by simp)); (· simp only [rowsOf, if_true, eq_self, go_sem, Nat.reduceBEq, reduceIte] <;> rfl); (· (simp only [List.length_map, List.length_nil, maxLen]; omega)); (· (simp only [List.length_map, List.length_nil, maxLen]; omega)))
      repeat' first|(apply Sp.go;·constructor<;>first|exact ss|(change _=_;first|(simp only[go_sem,Nat.reduceBEq,Nat.reduceAdd,Nat.reduceLeDiff,reduceIte]<;>rfl)|rfl)|exact Nat.le_of_ble_eq_true rfl|decide|(repeat' first|(apply Lk.go;constructor)|assumption|exact nb ‹_› ‹_›|exact nt ‹_› ‹_›))|(intro b hb;repeat first|(refine fe hb ?_;intro _ _ hb)|(refine fT hb ?_;intro hb))|refine rt ?_|refine gA rfl ?_|refine gB rfl ?_|apply cT rfl|apply cF rfl|(apply DM.gbT;rfl)|(apply DM.gbF;rfl)|intro h
      (apply DM.apO; (· rfl); (· exact t_same.trans (by simp)); (· simp only [rowsOf, if_true, eq_self, go_sem, Nat.reduceBEq, reduceIte] <;> rfl); (· (simp only [List.length_map, List.length_append, List.length_nil, maxLen]; omega)); (· (simp only [List.length_map, List.length_append, List.length_nil, maxLen]; omega)))
      repeat' first|(apply Sp.go;·constructor<;>first|exact ss|(change _=_;first|(simp only[go_sem,Nat.reduceBEq,Nat.reduceAdd,Nat.reduceLeDiff,reduceIte]<;>rfl)|rfl)|exact Nat.le_of_ble_eq_true rfl|decide|(repeat' first|(apply Lk.go;constructor)|assumption|exact nb ‹_› ‹_›|exact nt ‹_› ‹_›))|(intro b hb;repeat first|(refine fe hb ?_;intro _ _ hb)|(refine fT hb ?_;intro hb))|refine gA rfl ?_|refine gB rfl ?_|apply cT rfl|apply cF rfl|(apply DM.gbT;rfl)|(apply DM.gbF;rfl)|intro h
      rw [setT_setT, setT_setT]
      refine AM.frzC b7 tk (T := 27) (Te := 3) (ver := 0) (size := 1) (rows := []) (cs := [.str p.name, .int .i64 p.role, .vs 7 (p.vars.map Var_.row), .vs 3 (p.hs.map Hd.row), .vs 4 (p.os.map Of_.row), .own tk 3 (p.code.map Ins_.row ++ more.map Ins_.row)]) (cs' := (p.more more).cells) g_same (FrzL.cons (Frz.same (HSub.dropT _ tk)) (FrzL.cons (Frz.same (HSub.dropT _ tk)) (FrzL.cons (Frz.same (HSub.dropT _ tk)) (FrzL.cons (Frz.same (HSub.dropT _ tk)) (FrzL.cons (Frz.same (HSub.dropT _ tk)) (FrzL.cons (Frz.le (HSub.dropT _ tk) (own3_le (rows := p.code.map Ins_.row ++ more.map Ins_.row) (by simp [Prog.more]))) FrzL.nil)))))) ?_
      refine AM.weakE [(1, .vs 5 (ds.map Decl_.row)), (3, .ptr b3 0), (7, .ptr b7 0)] ?_ ?_
      · (repeat first | exact envle_nil _ | (refine envle_cons ?_ ?_; · (simp only [go_sem, Nat.reduceBEq, Nat.reduceAdd]; exact AVLe.refl _)))
      refine AM.forget (G.setB b7 27 (p.more more).cells) ⟨fun y z h => ?_, fun y z h => ?_⟩ ?_
      · simp only [AHeap.setB, AHeap.setT, AHeap.dropT] at h ⊢
        by_cases e : y = b7 <;> simp_all
      · have hn : y ≠ tk := fun e => by subst e; simp only [AHeap.setB] at h; rw [htk] at h; cases h
        simp only [AHeap.setB, AHeap.setT, AHeap.dropT] at h ⊢
        simp [hn, h]
      have hs7 : HSub H (G.setB b7 27 (p.more more).cells) := hs3.trans (HSub.setB (HSub.refl _) hb)
      have h7 : (G.setB b7 27 (p.more more).cells).blk b7 = some (27, (p.more more).cells) := g_same
      have h37 : (G.setB b7 27 (p.more more).cells).blk b3 = some (27, p.cells) := g_ne hn7 h3
      clear hb
      generalize G.setB b7 27 (p.more more).cells = G1 at hs7 h7 h37 ⊢
      have hlq : (p.more more).vars.length ≤ 1000 ∧ (p.more more).hs.length ≤ 1000 ∧ (p.more more).os.length ≤ 1000 ∧ (p.more more).code.length ≤ 1000 := by
        have : p.code.length ≤ 300 := by simp [fewP] at hf; omega
        simp [Prog.more]; omega
      have c18 := p18 p hl1
      have c18q := p18 (p.more more) hlq
      have c21 := p21 p ds hd
      have c21q := p21 (p.more more) ds hd
      have c22q := R.p22 (p.more more)
      have c16q := p16 (p.more more)
      have hmore := fun h1 h2 => checkP_more (p := p) (ds := ds) (cs := more) h1 h2
      have hc17q := fun x => p17 (p.more more) x.at_ (psOf ds x) (rsOf ds x) (psOf_len hd x)
      generalize p.more more = q at *
      repeat' first|(apply Sp.go;·constructor<;>first|exact ss|(change _=_;first|(simp only[go_sem,Nat.reduceBEq,Nat.reduceAdd,Nat.reduceLeDiff,reduceIte]<;>rfl)|rfl)|exact Nat.le_of_ble_eq_true rfl|decide|(repeat' first|(apply Lk.go;constructor)|assumption|exact nb ‹_› ‹_›|exact nt ‹_› ‹_›))|(intro b hb;repeat first|(refine fe hb ?_;intro _ _ hb)|(refine fT hb ?_;intro hb))|refine gA rfl ?_|refine gB rfl ?_|apply cT rfl|apply cF rfl|(apply DM.gbT;rfl)|(apply DM.gbF;rfl)|intro h
      (refine AM.reg [p.av, q.av] ?_; simp only [annotate, AV.rows])
      repeat' first|(apply Sp.go;·constructor<;>first|exact ss|(change _=_;first|(simp only[go_sem,Nat.reduceBEq,Nat.reduceAdd,Nat.reduceLeDiff,reduceIte]<;>rfl)|rfl)|exact Nat.le_of_ble_eq_true rfl|decide|(repeat' first|(apply Lk.go;constructor)|assumption|exact nb ‹_› ‹_›|exact nt ‹_› ‹_›))|(intro b hb;repeat first|(refine fe hb ?_;intro _ _ hb)|(refine fT hb ?_;intro hb))|refine rt ?_|refine gA rfl ?_|refine gB rfl ?_|apply cT rfl|apply cF rfl|(apply DM.gbT;rfl)|(apply DM.gbF;rfl)|intro h
      (apply DM.pcRs (c18); (· simp only [go_sem, Nat.reduceBEq, Nat.reduceAdd] <;> rfl); (· exact AVLes.refl _))
      repeat' first|(apply Sp.go;·constructor<;>first|exact ss|(change _=_;first|(simp only[go_sem,Nat.reduceBEq,Nat.reduceAdd,Nat.reduceLeDiff,reduceIte]<;>rfl)|rfl)|exact Nat.le_of_ble_eq_true rfl|decide|(repeat' first|(apply Lk.go;constructor)|assumption|exact nb ‹_› ‹_›|exact nt ‹_› ‹_›))|(intro b hb;repeat first|(refine fe hb ?_;intro _ _ hb)|(refine fT hb ?_;intro hb))|refine rt ?_|refine gA rfl ?_|refine gB rfl ?_|apply cT rfl|apply cF rfl|(apply DM.gbT;rfl)|(apply DM.gbF;rfl)|intro h
      (apply DM.pcRs (c18q); (· simp only [go_sem, Nat.reduceBEq, Nat.reduceAdd] <;> rfl); (· exact AVLes.refl _))
      repeat' first|(apply Sp.go;·constructor<;>first|exact ss|(change _=_;first|(simp only[go_sem,Nat.reduceBEq,Nat.reduceAdd,Nat.reduceLeDiff,reduceIte]<;>rfl)|rfl)|exact Nat.le_of_ble_eq_true rfl|decide|(repeat' first|(apply Lk.go;constructor)|assumption|exact nb ‹_› ‹_›|exact nt ‹_› ‹_›))|(intro b hb;repeat first|(refine fe hb ?_;intro _ _ hb)|(refine fT hb ?_;intro hb))|refine rt ?_|refine gA rfl ?_|refine gB rfl ?_|apply cT rfl|apply cF rfl|(apply DM.gbT;rfl)|(apply DM.gbF;rfl)|intro h
      rename_i b8 hb8 hz hn98 hn89
      have k8 : ((((G1.setB b8 41 zeroP).setB b 41 zeroP).setB b8 41 p.cells).setB b 41 q.cells).blk b8 = some (41, p.cells) := g_ne hn89 g_same
      have k9 : ((((G1.setB b8 41 zeroP).setB b 41 zeroP).setB b8 41 p.cells).setB b 41 q.cells).blk b = some (41, q.cells) := g_same
      have hs9 : HSub G1 ((((G1.setB b8 41 zeroP).setB b 41 zeroP).setB b8 41 p.cells).setB b 41 q.cells) := HSub.setB (HSub.setB (HSub.setB (HSub.setB (HSub.refl _) hb8) hb) hb8) hb
      have m3 := hs9.blk _ _ h37
      have m7 := hs9.blk _ _ h7
      have hsF := hs7.trans hs9
      clear hb hz hb8
      generalize (((G1.setB b8 41 zeroP).setB b 41 zeroP).setB b8 41 p.cells).setB b 41 q.cells = F at *
      rename Nat => b9
      have fin : ∀ {k : List Item} {env : Env}, env.get 6 = .bool true → AM Try.prog r4 (fun o H' => ∃ a, o = Out.ret a ∧ AVLe a (AV.bool true) ∧ HSub H H') (.c .ret :: k) env F := fun he => AM.ret (v := .bool true) (by simp [Aw.results, r4, ERes.ev, he]) ⟨_, rfl, AVLe.refl _, hsF⟩
      (apply DM.pcs (c21); (· simp only [go_sem, Nat.reduceBEq, Nat.reduceAdd] <;> rfl); (· exact AVLes.refl _))
      by_cases z1 : (checkP p ds).2 = 0
      · have dz : (!decide ((checkP p ds).2 = 0)) = false := by simp [z1]
        repeat' first|(apply Sp.go;·constructor<;>first|exact ss|(change _=_;first|(simp only[go_sem,Nat.reduceBEq,Nat.reduceAdd,Nat.reduceLeDiff,reduceIte, dz]<;>rfl)|rfl)|exact Nat.le_of_ble_eq_true rfl|decide|(repeat' first|(apply Lk.go;constructor)|assumption|exact nb ‹_› ‹_›|exact nt ‹_› ‹_›))|(intro b hb;repeat first|(refine fe hb ?_;intro _ _ hb)|(refine fT hb ?_;intro hb))|refine rt ?_|refine gA rfl ?_|refine gB rfl ?_|apply cT rfl|apply cF rfl|(apply DM.gbT;rfl)|(apply DM.gbF;rfl)|intro h
        (apply DM.pcs (c16q); (· simp only [go_sem, Nat.reduceBEq, Nat.reduceAdd] <;> rfl); (· exact AVLes.refl _))
        cases hfq : fewP q with
        | false =>
          repeat' first|(apply Sp.go;·constructor<;>first|exact ss|(change _=_;first|(simp only[go_sem,Nat.reduceBEq,Nat.reduceAdd,Nat.reduceLeDiff,reduceIte]<;>rfl)|rfl)|exact Nat.le_of_ble_eq_true rfl|decide|(repeat' first|(apply Lk.go;constructor)|assumption|exact nb ‹_› ‹_›|exact nt ‹_› ‹_›))|(intro b hb;repeat first|(refine fe hb ?_;intro _ _ hb)|(refine fT hb ?_;intro hb))|refine rt ?_|refine gA rfl ?_|refine gB rfl ?_|apply cT rfl|apply cF rfl|(apply DM.gbT;rfl)|(apply DM.gbF;rfl)|intro h
          exact fin rfl
        | true =>
          repeat' first|(apply Sp.go;·constructor<;>first|exact ss|(change _=_;first|(simp only[go_sem,Nat.reduceBEq,Nat.reduceAdd,Nat.reduceLeDiff,reduceIte]<;>rfl)|rfl)|exact Nat.le_of_ble_eq_true rfl|decide|(repeat' first|(apply Lk.go;constructor)|assumption|exact nb ‹_› ‹_›|exact nt ‹_› ‹_›))|(intro b hb;repeat first|(refine fe hb ?_;intro _ _ hb)|(refine fT hb ?_;intro hb))|refine rt ?_|refine gA rfl ?_|refine gB rfl ?_|apply cT rfl|apply cF rfl|(apply DM.gbT;rfl)|(apply DM.gbF;rfl)|intro h
          (apply DM.pcs (c22q); (· simp only [go_sem, Nat.reduceBEq, Nat.reduceAdd] <;> rfl); (· exact AVLes.refl _))
          cases hvq : validP q with
          | false =>
            repeat' first|(apply Sp.go;·constructor<;>first|exact ss|(change _=_;first|(simp only[go_sem,Nat.reduceBEq,Nat.reduceAdd,Nat.reduceLeDiff,reduceIte]<;>rfl)|rfl)|exact Nat.le_of_ble_eq_true rfl|decide|(repeat' first|(apply Lk.go;constructor)|assumption|exact nb ‹_› ‹_›|exact nt ‹_› ‹_›))|(intro b hb;repeat first|(refine fe hb ?_;intro _ _ hb)|(refine fT hb ?_;intro hb))|refine rt ?_|refine gA rfl ?_|refine gB rfl ?_|apply cT rfl|apply cF rfl|(apply DM.gbT;rfl)|(apply DM.gbF;rfl)|intro h
            exact fin rfl
          | true =>
            obtain ⟨hcq, hall⟩ := hmore z1 hvq
            have hval := (check_valid z1).1
            have hpo := (parts_ok hval).2
            have c23 := p23 p ds hval hd
            have hc17 := fun x => p17 p x.at_ (psOf ds x) (rsOf ds x) (psOf_len hd x)
            rw [hcq] at c21q
            have hpl : (partsP p).length ≤ 120 := by
              obtain ⟨⟨hh, ho⟩, _⟩ := parts_ok hval
              have := oParts_len p.os
              simp only [partsP, List.length_append, List.length_map]; omega
            generalize partsP p = PS at *
            generalize (checkP q ds).1 = cq at *
            generalize (checkP p ds).1 = cp at *
            repeat' first|(apply Sp.go;·constructor<;>first|exact ss|(change _=_;first|(simp only[go_sem,Nat.reduceBEq,Nat.reduceAdd,Nat.reduceLeDiff,reduceIte]<;>rfl)|rfl)|exact Nat.le_of_ble_eq_true rfl|decide|(repeat' first|(apply Lk.go;constructor)|assumption|exact nb ‹_› ‹_›|exact nt ‹_› ‹_›))|(intro b hb;repeat first|(refine fe hb ?_;intro _ _ hb)|(refine fT hb ?_;intro hb))|refine rt ?_|refine gA rfl ?_|refine gB rfl ?_|apply cT rfl|apply cF rfl|(apply DM.gbT;rfl)|(apply DM.gbF;rfl)|intro h
            (apply DM.pcs (c21q); (· simp only [go_sem, Nat.reduceBEq, Nat.reduceAdd] <;> rfl); (· exact AVLes.refl _))
            repeat' first|(apply Sp.go;·constructor<;>first|exact ss|(change _=_;first|(simp only[go_sem,Nat.reduceBEq,Nat.reduceAdd,Nat.reduceLeDiff,reduceIte]<;>rfl)|rfl)|exact Nat.le_of_ble_eq_true rfl|decide|(repeat' first|(apply Lk.go;constructor)|assumption|exact nb ‹_› ‹_›|exact nt ‹_› ‹_›))|(intro b hb;repeat first|(refine fe hb ?_;intro _ _ hb)|(refine fT hb ?_;intro hb))|refine rt ?_|refine gA rfl ?_|refine gB rfl ?_|apply cT rfl|apply cF rfl|(apply DM.gbT;rfl)|(apply DM.gbF;rfl)|intro h
            (apply DM.pcs (c23); (· simp only [go_sem, Nat.reduceBEq, Nat.reduceAdd] <;> rfl); (· exact AVLes.refl _))
            repeat' first|(apply Sp.go;·constructor<;>first|exact ss|(change _=_;first|(simp only[go_sem,Nat.reduceBEq,Nat.reduceAdd,Nat.reduceLeDiff,reduceIte]<;>rfl)|rfl)|exact Nat.le_of_ble_eq_true rfl|decide|(repeat' first|(apply Lk.go;constructor)|assumption|exact nb ‹_› ‹_›|exact nt ‹_› ‹_›))|(intro b hb;repeat first|(refine fe hb ?_;intro _ _ hb)|(refine fT hb ?_;intro hb))|refine rt ?_|refine gA rfl ?_|refine gB rfl ?_|apply cT rfl|apply cF rfl|(apply DM.gbT;rfl)|(apply DM.gbF;rfl)|intro h
            refine AM.loopX (X := Nat) 0 (fun i => [(8, .ptr b8 0), (9, .ptr b9 0), (13, .int .i64 0), (14, .vs 4 (PS.map (eRow ds))), (15, .int .i64 i)]) (fun i H' => H' = F ∧ i ≤ PS.length) (fun i => PS.length - i) ⟨rfl, by omega⟩ ?_ ?_
            · (repeat first | exact envle_nil _ | (refine envle_cons ?_ ?_; · (simp only [go_sem, Nat.reduceBEq, Nat.reduceAdd]; exact AVLe.refl _)))
            · intro i H' ⟨e, hi⟩
              subst e
              repeat' first|(apply Sp.go;·constructor<;>first|exact ss|(change _=_;first|(simp only[go_sem,Nat.reduceBEq,Nat.reduceAdd,Nat.reduceLeDiff,reduceIte]<;>rfl)|rfl)|exact Nat.le_of_ble_eq_true rfl|decide|(repeat' first|(apply Lk.go;constructor)|assumption|exact nb ‹_› ‹_›|exact nt ‹_› ‹_›))|(intro b hb;repeat first|(refine fe hb ?_;intro _ _ hb)|(refine fT hb ?_;intro hb))|refine rt ?_|refine gA rfl ?_|refine gB rfl ?_|apply cT rfl|apply cF rfl|(apply DM.gbT;rfl)|(apply DM.gbF;rfl)|intro h
              (apply AM.cond; (· rfl))
              · intro h5
                simp at h5
                obtain ⟨x, hx⟩ := some_of h5
                have c17 := hc17 x
                have c17q := hc17q x
                rw [hall x (List.mem_of_getElem? hx)] at c17q
                generalize costP p x.at_ (psOf ds x) (rsOf ds x) = c at *
                repeat' first|(apply Sp.go;·constructor<;>first|exact ss|(change _=_;first|(simp only[go_sem,Nat.reduceBEq,Nat.reduceAdd,Nat.reduceLeDiff,reduceIte]<;>rfl)|rfl)|exact Nat.le_of_ble_eq_true rfl|decide|(repeat' first|(apply Lk.go;constructor)|assumption|exact nb ‹_› ‹_›|exact nt ‹_› ‹_›))|(intro b hb;repeat first|(refine fe hb ?_;intro _ _ hb)|(refine fT hb ?_;intro hb))|refine gA rfl ?_|refine gB rfl ?_|apply cT rfl|apply cF rfl|(apply DM.gbT;rfl)|(apply DM.gbF;rfl)|intro h
                (refine AM.reg [.tup [.int .i64 c.1, .int .i64 c.2.1, .int .i64 c.2.2]] ?_; simp only [annotate, AV.rows])
                repeat' first|(apply Sp.go;·constructor<;>first|exact ss|(change _=_;first|(simp only[go_sem,Nat.reduceBEq,Nat.reduceAdd,Nat.reduceLeDiff,reduceIte]<;>rfl)|rfl)|exact Nat.le_of_ble_eq_true rfl|decide|(repeat' first|(apply Lk.go;constructor)|assumption|exact nb ‹_› ‹_›|exact nt ‹_› ‹_›))|(intro b hb;repeat first|(refine fe hb ?_;intro _ _ hb)|(refine fT hb ?_;intro hb))|refine rt ?_|refine gA rfl ?_|refine gB rfl ?_|apply cT rfl|apply cF rfl|(apply DM.gbT;rfl)|(apply DM.gbF;rfl)|intro h
                (apply DM.ixV (row := eRow ds x) (z := (i : Int)) (by omega) (row_get (eRow ds) hx); (· rfl); (· rfl))
                repeat' first|(apply Sp.go;·constructor<;>first|exact ss|(change _=_;first|(simp only[go_sem,Nat.reduceBEq,Nat.reduceAdd,Nat.reduceLeDiff,reduceIte]<;>rfl)|rfl)|exact Nat.le_of_ble_eq_true rfl|decide|(repeat' first|(apply Lk.go;constructor)|assumption|exact nb ‹_› ‹_›|exact nt ‹_› ‹_›))|(intro b hb;repeat first|(refine fe hb ?_;intro _ _ hb)|(refine fT hb ?_;intro hb))|refine rt ?_|refine gA rfl ?_|refine gB rfl ?_|apply cT rfl|apply cF rfl|(apply DM.gbT;rfl)|(apply DM.gbF;rfl)|intro h
                (apply DM.ixV (row := eRow ds x) (z := (i : Int)) (by omega) (row_get (eRow ds) hx); (· rfl); (· rfl))
                repeat' first|(apply Sp.go;·constructor<;>first|exact ss|(change _=_;first|(simp only[go_sem,Nat.reduceBEq,Nat.reduceAdd,Nat.reduceLeDiff,reduceIte]<;>rfl)|rfl)|exact Nat.le_of_ble_eq_true rfl|decide|(repeat' first|(apply Lk.go;constructor)|assumption|exact nb ‹_› ‹_›|exact nt ‹_› ‹_›))|(intro b hb;repeat first|(refine fe hb ?_;intro _ _ hb)|(refine fT hb ?_;intro hb))|refine rt ?_|refine gA rfl ?_|refine gB rfl ?_|apply cT rfl|apply cF rfl|(apply DM.gbT;rfl)|(apply DM.gbF;rfl)|intro h
                (apply DM.ixV (row := eRow ds x) (z := (i : Int)) (by omega) (row_get (eRow ds) hx); (· rfl); (· rfl))
                repeat' first|(apply Sp.go;·constructor<;>first|exact ss|(change _=_;first|(simp only[go_sem,Nat.reduceBEq,Nat.reduceAdd,Nat.reduceLeDiff,reduceIte]<;>rfl)|rfl)|exact Nat.le_of_ble_eq_true rfl|decide|(repeat' first|(apply Lk.go;constructor)|assumption|exact nb ‹_› ‹_›|exact nt ‹_› ‹_›))|(intro b hb;repeat first|(refine fe hb ?_;intro _ _ hb)|(refine fT hb ?_;intro hb))|refine rt ?_|refine gA rfl ?_|refine gB rfl ?_|apply cT rfl|apply cF rfl|(apply DM.gbT;rfl)|(apply DM.gbF;rfl)|intro h
                apply DM.pcRs c17
                · simp only [go_sem, Nat.reduceBEq, Nat.reduceAdd] <;> rfl
                · exact avles_cons (AVLe.refl _) (avles_cons (AVLe.refl _) (avles_cons (psAv_le ds x) (avles_cons (rsAv_le ds x) avles_nil)))
                repeat' first|(apply Sp.go;·constructor<;>first|exact ss|(change _=_;first|(simp only[go_sem,Nat.reduceBEq,Nat.reduceAdd,Nat.reduceLeDiff,reduceIte]<;>rfl)|rfl)|exact Nat.le_of_ble_eq_true rfl|decide|(repeat' first|(apply Lk.go;constructor)|assumption|exact nb ‹_› ‹_›|exact nt ‹_› ‹_›))|(intro b hb;repeat first|(refine fe hb ?_;intro _ _ hb)|(refine fT hb ?_;intro hb))|refine gA rfl ?_|refine gB rfl ?_|apply cT rfl|apply cF rfl|(apply DM.gbT;rfl)|(apply DM.gbF;rfl)|intro h
                (refine AM.reg [.tup [.int .i64 c.1, .int .i64 c.2.1, .int .i64 c.2.2]] ?_; simp only [annotate, AV.rows])
                repeat' first|(apply Sp.go;·constructor<;>first|exact ss|(change _=_;first|(simp only[go_sem,Nat.reduceBEq,Nat.reduceAdd,Nat.reduceLeDiff,reduceIte]<;>rfl)|rfl)|exact Nat.le_of_ble_eq_true rfl|decide|(repeat' first|(apply Lk.go;constructor)|assumption|exact nb ‹_› ‹_›|exact nt ‹_› ‹_›))|(intro b hb;repeat first|(refine fe hb ?_;intro _ _ hb)|(refine fT hb ?_;intro hb))|refine rt ?_|refine gA rfl ?_|refine gB rfl ?_|apply cT rfl|apply cF rfl|(apply DM.gbT;rfl)|(apply DM.gbF;rfl)|intro h
                (apply DM.ixV (row := eRow ds x) (z := (i : Int)) (by omega) (row_get (eRow ds) hx); (· rfl); (· rfl))
                repeat' first|(apply Sp.go;·constructor<;>first|exact ss|(change _=_;first|(simp only[go_sem,Nat.reduceBEq,Nat.reduceAdd,Nat.reduceLeDiff,reduceIte]<;>rfl)|rfl)|exact Nat.le_of_ble_eq_true rfl|decide|(repeat' first|(apply Lk.go;constructor)|assumption|exact nb ‹_› ‹_›|exact nt ‹_› ‹_›))|(intro b hb;repeat first|(refine fe hb ?_;intro _ _ hb)|(refine fT hb ?_;intro hb))|refine rt ?_|refine gA rfl ?_|refine gB rfl ?_|apply cT rfl|apply cF rfl|(apply DM.gbT;rfl)|(apply DM.gbF;rfl)|intro h
                (apply DM.ixV (row := eRow ds x) (z := (i : Int)) (by omega) (row_get (eRow ds) hx); (· rfl); (· rfl))
                repeat' first|(apply Sp.go;·constructor<;>first|exact ss|(change _=_;first|(simp only[go_sem,Nat.reduceBEq,Nat.reduceAdd,Nat.reduceLeDiff,reduceIte]<;>rfl)|rfl)|exact Nat.le_of_ble_eq_true rfl|decide|(repeat' first|(apply Lk.go;constructor)|assumption|exact nb ‹_› ‹_›|exact nt ‹_› ‹_›))|(intro b hb;repeat first|(refine fe hb ?_;intro _ _ hb)|(refine fT hb ?_;intro hb))|refine rt ?_|refine gA rfl ?_|refine gB rfl ?_|apply cT rfl|apply cF rfl|(apply DM.gbT;rfl)|(apply DM.gbF;rfl)|intro h
                (apply DM.ixV (row := eRow ds x) (z := (i : Int)) (by omega) (row_get (eRow ds) hx); (· rfl); (· rfl))
                repeat' first|(apply Sp.go;·constructor<;>first|exact ss|(change _=_;first|(simp only[go_sem,Nat.reduceBEq,Nat.reduceAdd,Nat.reduceLeDiff,reduceIte]<;>rfl)|rfl)|exact Nat.le_of_ble_eq_true rfl|decide|(repeat' first|(apply Lk.go;constructor)|assumption|exact nb ‹_› ‹_›|exact nt ‹_› ‹_›))|(intro b hb;repeat first|(refine fe hb ?_;intro _ _ hb)|(refine fT hb ?_;intro hb))|refine rt ?_|refine gA rfl ?_|refine gB rfl ?_|apply cT rfl|apply cF rfl|(apply DM.gbT;rfl)|(apply DM.gbF;rfl)|intro h
                apply DM.pcRs c17q
                · simp only [go_sem, Nat.reduceBEq, Nat.reduceAdd] <;> rfl
                · exact avles_cons (AVLe.refl _) (avles_cons (AVLe.refl _) (avles_cons (psAv_le ds x) (avles_cons (rsAv_le ds x) avles_nil)))
                repeat' first|(apply Sp.go;·constructor<;>first|exact ss|(change _=_;first|(simp only[go_sem,Nat.reduceBEq,Nat.reduceAdd,Nat.reduceLeDiff,reduceIte, decide_true]<;>rfl)|rfl)|exact Nat.le_of_ble_eq_true rfl|decide|(repeat' first|(apply Lk.go;constructor)|assumption|exact nb ‹_› ‹_›|exact nt ‹_› ‹_›))|(intro b hb;repeat first|(refine fe hb ?_;intro _ _ hb)|(refine fT hb ?_;intro hb))|refine rt ?_|refine gA rfl ?_|refine gB rfl ?_|apply cT rfl|apply cF rfl|(apply DM.gbT;rfl)|(apply DM.gbF;rfl)|intro h
                refine AM.roundX (i + 1) ⟨rfl, by omega⟩ ?_ ?_
                · (repeat first | exact envle_nil _ | (refine envle_cons ?_ ?_; · (simp only [go_sem, Nat.reduceBEq, Nat.reduceAdd]; exact AVLe.refl _)))
                  refine envle_cons ?_ ?_
                  · simp only [go_sem, Nat.reduceBEq, Nat.reduceAdd]
                    refine avle_int ?_
                    rw [inc64 h5 (by unfold maxLen; omega)]
                  exact envle_nil _
                · show PS.length - (i + 1) < PS.length - i
                  omega
              · intro h5
                repeat' first|(apply Sp.go;·constructor<;>first|exact ss|(change _=_;first|(simp only[go_sem,Nat.reduceBEq,Nat.reduceAdd,Nat.reduceLeDiff,reduceIte]<;>rfl)|rfl)|exact Nat.le_of_ble_eq_true rfl|decide|(repeat' first|(apply Lk.go;constructor)|assumption|exact nb ‹_› ‹_›|exact nt ‹_› ‹_›))|(intro b hb;repeat first|(refine fe hb ?_;intro _ _ hb)|(refine fT hb ?_;intro hb))|refine rt ?_|refine gA rfl ?_|refine gB rfl ?_|apply cT rfl|apply cF rfl|(apply DM.gbT;rfl)|(apply DM.gbF;rfl)|intro h
                exact fin rfl
      · have dz : (!decide ((checkP p ds).2 = 0)) = true := by simp [z1]
        repeat' first|(apply Sp.go;·constructor<;>first|exact ss|(change _=_;first|(simp only[go_sem,Nat.reduceBEq,Nat.reduceAdd,Nat.reduceLeDiff,reduceIte, dz]<;>rfl)|rfl)|exact Nat.le_of_ble_eq_true rfl|decide|(repeat' first|(apply Lk.go;constructor)|assumption|exact nb ‹_› ‹_›|exact nt ‹_› ‹_›))|(intro b hb;repeat first|(refine fe hb ?_;intro _ _ hb)|(refine fT hb ?_;intro hb))|refine rt ?_|refine gA rfl ?_|refine gB rfl ?_|apply cT rfl|apply cF rfl|(apply DM.gbT;rfl)|(apply DM.gbF;rfl)|intro h
        exact fin rfl
end Go.Aw.T
