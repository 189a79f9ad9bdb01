/- Part of a proof; own work. -/
import Derived.Test.YtjjngpjdhjeckaaAS5
namespace Go.Aw.T
open Go Go.Aw Go.Proofs Go.RowKit
set_option maxRecDepth 100000
attribute [local irreducible] Go.Aw.DM Go.Aw.AHeap.setB Go.Aw.AHeap.setT
attribute [local go_sem] peval EOpd.ev Env.get binInt binStr binBool buildParts AV.cells AV.okc setRange minmaxAV AV.one AV.ofCells eqCells eqCell bslRows cond_true cond_false beq_self_eq_true Bool.not_true Bool.not_false beq_true beq_false eq_self if_true Option.some.injEq List.length_cons List.length_nil List.take_succ_cons List.take_zero List.drop_succ_cons List.drop_zero List.set_cons_succ List.set_cons_zero List.nil_append List.cons_append List.append_nil and_self Option.map_some List.map_cons List.map_nil Bool.false_eq_true if_false Nat.zero_add Nat.add_zero true_and and_true Bool.and_true Bool.true_and List.getElem?_cons_zero List.getElem?_cons_succ Nat.zero_le Nat.le_refl
set_option linter.unusedSimpArgs false
set_option linter.unusedVariables false
theorem DM.apOr {P : Program} {d : Nat} {l : List EI} {env : Env} {H : AHeap} {K : Env → AHeap → Prop} {Rp : AV → AHeap → Prop} {T size bytes t n : Nat} {x y : EOpd} {rows nw : List (List AV)} (hx : x.ev env = .own t size rows) (ht : H.tok t = some (.frz T size n)) (hn : rows.length = n) (hy : rowsOf size (y.ev env) = some nw) (hb : (n + nw.length) * bytes ≤ 140737488355328) (hm : n + nw.length ≤ maxLen) (h : DM P l ((d, .own t size (rows ++ nw)) :: env) (H.setT t (.frz T size (n + nw.length))) K Rp) : DM P (⟨some d, none, .append T size bytes x y⟩ :: l) env H K Rp := by
 subst hn
 exact DM.apO hx ht hy hb hm h
def pRows (p : Prog) (i : Nat) : List (List AV) := (p.hs.map hPart ++ (p.os.take i).flatMap oParts).map Part.row
def pLen (p : Prog) (i : Nat) : Nat := p.hs.length + ((p.os.take i).flatMap oParts).length
theorem pRows_len (p : Prog) (i : Nat) : (pRows p i).length = pLen p i := by simp [pRows, pLen]
theorem pRows_succ {p : Prog} {i : Nat} {o : Of_} (h : p.os[i]? = some o) : pRows p (i + 1) = pRows p i ++ (oParts o).map Part.row := by
 simp [pRows, List.take_add_one, h, List.flatMap_append]
theorem pLen_succ {p : Prog} {i : Nat} {o : Of_} (h : p.os[i]? = some o) : pLen p (i + 1) = pLen p i + (oParts o).length := by
 rw [← pRows_len, ← pRows_len, pRows_succ h]; simp
set_option maxHeartbeats 2000000 in
theorem p46 (p : Prog) (h1 : p.hs.length ≤ 100) (h2 : p.os.length ≤ 100) : Pure Try.prog 46 [p.av] (.vs 3 ((partsP p).map Part.row)) := by
 have hL : ∀ i, pLen p i ≤ 300 := fun i => by
  have := oParts_len (p.os.take i)
  simp only [pLen]
  have : (p.os.take i).length ≤ p.os.length := by simp; omega
  omega
 refine pure_intro mo Try.func46 c46 fun H => ?_
 unfold e46 r46
 simp only [initEnv, initFrom]
 repeat' first|(apply Sp.go;·constructor<;>first|exact ss|(change _=_;first|(simp only[go_sem,Nat.reduceBEq,Nat.reduceAdd,Nat.reduceLeDiff,reduceIte]<;>rfl)|rfl)|exact Nat.le_of_ble_eq_true rfl|decide|(repeat' first|(apply Lk.go;constructor)|assumption|exact nb ‹_› ‹_›|exact nt ‹_› ‹_›))|(intro b hb;repeat first|(refine fe hb ?_;intro _ _ hb)|(refine fT hb ?_;intro hb))|refine rt ?_|refine gA rfl ?_|refine gB rfl ?_|apply cT rfl|apply cF rfl|(apply DM.gbT;rfl)|(apply DM.gbF;rfl)|intro h
 rename Nat => b1
 have hsub0 : HSub H (H.setB b1 41 p.cells) := HSub.setB (HSub.refl _) hb
 apply R.AM.ghostO 3 138 3 (by decide)
 ·simp only [Env.get, Nat.reduceBEq, cond_true, cond_false, beq_self_eq_true]
 intro tv htv
 have htv2 : H.tok tv = none := freshT_setB htv
 have hbp : (H.setB b1 41 p.cells).blk b1 = some (41, p.cells) := g_same
 generalize H.setB b1 41 p.cells = G at htv hsub0 hbp ⊢
 repeat' first|(apply Sp.go;·constructor<;>first|exact ss|(change _=_;first|(simp only[go_sem,Nat.reduceBEq,Nat.reduceAdd,Nat.reduceLeDiff,reduceIte]<;>rfl)|rfl)|exact Nat.le_of_ble_eq_true rfl|decide|(repeat' first|(apply Lk.go;constructor)|assumption|exact nb ‹_› ‹_›|exact nt ‹_› ‹_›))|(intro b hb;repeat first|(refine fe hb ?_;intro _ _ hb)|(refine fT hb ?_;intro hb))|refine rt ?_|refine gA rfl ?_|refine gB rfl ?_|apply cT rfl|apply cF rfl|(apply DM.gbT;rfl)|(apply DM.gbF;rfl)|intro h
 refine AM.loopX (X := Nat) 0 (fun i => [(1, .ptr b1 0), (9, .vs 3 (p.hs.map Hd.row)), (10, .int .i64 p.hs.length), (11, .int .i64 i), (3, .own tv 3 (((p.hs.take i).map hPart).map Part.row))]) (fun i H' => H' = G.setT tv (.frz 138 3 i) ∧ i ≤ p.hs.length) (fun i => p.hs.length - i) ⟨rfl, by omega⟩ ?_ ?_
 ·refine envle_cons ?_ (envle_cons ?_ (envle_cons ?_ ?_))
  ·simp only [Env.get, Nat.reduceBEq, cond_true, cond_false, beq_self_eq_true]; exact AVLe.refl _
  ·simp only [Env.get, Nat.reduceBEq, cond_true, cond_false, beq_self_eq_true]; exact AVLe.refl _
  ·simp only [Env.get, Nat.reduceBEq, cond_true, cond_false, beq_self_eq_true]; exact avle_int (by simp)
  (repeat first | exact envle_nil _ | (refine envle_cons ?_ ?_; · (simp only [go_sem, Nat.reduceBEq, Nat.reduceAdd]; exact AVLe.refl _)))
 ·intro i H' ⟨e, hi⟩
  subst e
  have hl0 : (((p.hs.take i).map hPart).map Part.row).length = i := by simp; omega
  repeat' first|(apply Sp.go;·constructor<;>first|exact ss|(change _=_;first|(simp only[go_sem,Nat.reduceBEq,Nat.reduceAdd,Nat.reduceLeDiff,reduceIte]<;>rfl)|rfl)|exact Nat.le_of_ble_eq_true rfl|decide|(repeat' first|(apply Lk.go;constructor)|assumption|exact nb ‹_› ‹_›|exact nt ‹_› ‹_›))|(intro b hb;repeat first|(refine fe hb ?_;intro _ _ hb)|(refine fT hb ?_;intro hb))|refine rt ?_|refine gA rfl ?_|refine gB rfl ?_|apply cT rfl|apply cF rfl|(apply DM.gbT;rfl)|(apply DM.gbF;rfl)|intro h
  (apply AM.cond; (· rfl))
  ·intro h3
   simp at h3
   obtain ⟨v, hv⟩ := some_of h3
   repeat' first|(apply Sp.go;·constructor<;>first|exact ss|(change _=_;first|(simp only[go_sem,Nat.reduceBEq,Nat.reduceAdd,Nat.reduceLeDiff,reduceIte]<;>rfl)|rfl)|exact Nat.le_of_ble_eq_true rfl|decide|(repeat' first|(apply Lk.go;constructor)|assumption|exact nb ‹_› ‹_›|exact nt ‹_› ‹_›))|(intro b hb;repeat first|(refine fe hb ?_;intro _ _ hb)|(refine fT hb ?_;intro hb))|refine rt ?_|refine gA rfl ?_|refine gB rfl ?_|apply cT rfl|apply cF rfl|(apply DM.gbT;rfl)|(apply DM.gbF;rfl)|(apply DM.ixV (row := v.row) (z := (i : Int)) (by omega) (row_get Hd.row hv); (· rfl); (· rfl))|intro h
   apply DM.apOr
   ·simp only [EOpd.ev, Env.get, Nat.reduceBEq, cond_true, cond_false, beq_self_eq_true] <;> rfl
   ·(· repeat' first|(apply Lk.go;constructor)|assumption|exact nb ‹_› ‹_›|exact nt ‹_› ‹_›|(apply Lm.go;constructor))
   ·exact hl0
   ·simp only [rowsOf, if_true, eq_self, EOpd.ev, Env.get, Nat.reduceBEq, cond_true, cond_false, beq_self_eq_true] <;> rfl
   ·simp only [List.length_cons, List.length_nil]; omega
   ·simp only [List.length_cons, List.length_nil, maxLen]; omega
   repeat' first|(apply Sp.go;·constructor<;>first|exact ss|(change _=_;first|(simp only[go_sem,Nat.reduceBEq,Nat.reduceAdd,Nat.reduceLeDiff,reduceIte]<;>rfl)|rfl)|exact Nat.le_of_ble_eq_true rfl|decide|(repeat' first|(apply Lk.go;constructor)|assumption|exact nb ‹_› ‹_›|exact nt ‹_› ‹_›))|(intro b hb;repeat first|(refine fe hb ?_;intro _ _ hb)|(refine fT hb ?_;intro hb))|refine rt ?_|refine gA rfl ?_|refine gB rfl ?_|apply cT rfl|apply cF rfl|(apply DM.gbT;rfl)|(apply DM.gbF;rfl)|intro h
   refine AM.forget (G.setT tv (.frz 138 3 (i + 1))) ?_ ?_
   ·refine R.hsub_tok2 ?_ ?_ ?_
    ·intro b x hx
     (· repeat' first|(apply Lk.go;constructor)|assumption|exact nb ‹_› ‹_›|exact nt ‹_› ‹_›)
    ·intro t' x hn hx
     (· repeat' first|(apply Lk.go;constructor)|assumption|exact nb ‹_› ‹_›|exact nt ‹_› ‹_›|(apply Lm.go;constructor))
    ·(· repeat' first|(apply Lk.go;constructor)|assumption|exact nb ‹_› ‹_›|exact nt ‹_› ‹_›|(apply Lm.go;constructor))
   refine AM.roundX (i + 1) ⟨rfl, by omega⟩ ?_ ?_
   ·(repeat first | exact envle_nil _ | (refine envle_cons ?_ ?_; · (simp only [go_sem, Nat.reduceBEq, Nat.reduceAdd]; exact AVLe.refl _)))
    refine envle_cons ?_ ?_
    ·simp only [go_sem, Nat.reduceBEq, Nat.reduceAdd]
     refine avle_int ?_
     rw [inc64 h3 (by unfold maxLen; omega)]
    refine envle_cons ?_ (envle_nil _)
    simp only [Env.get, Nat.reduceBEq, cond_true, cond_false, beq_self_eq_true]
    rw [List.take_add_one, hv]
    refine avle_eq ?_
    simp [hPart]
   ·show p.hs.length - (i + 1) < p.hs.length - i
    omega
  ·intro h3
   simp at h3
   have : i = p.hs.length := by omega
   subst this
   have hbp2 : (G.setT tv (.frz 138 3 p.hs.length)).blk b1 = some (41, p.cells) := g_T hbp
   repeat' first|(apply Sp.go;·constructor<;>first|exact ss|(change _=_;first|(simp only[go_sem,Nat.reduceBEq,Nat.reduceAdd,Nat.reduceLeDiff,reduceIte]<;>rfl)|rfl)|exact Nat.le_of_ble_eq_true rfl|decide|(repeat' first|(apply Lk.go;constructor)|assumption|exact nb ‹_› ‹_›|exact nt ‹_› ‹_›))|(intro b hb;repeat first|(refine fe hb ?_;intro _ _ hb)|(refine fT hb ?_;intro hb))|refine rt ?_|refine gA rfl ?_|refine gB rfl ?_|apply cT rfl|apply cF rfl|(apply DM.gbT;rfl)|(apply DM.gbF;rfl)|intro h
   refine AM.loopX (X := Nat) 0 (fun i => [(25, .vs 4 (p.os.map Of_.row)), (26, .int .i64 p.os.length), (27, .int .i64 i), (3, .own tv 3 (pRows p i))]) (fun i H' => H' = G.setT tv (.frz 138 3 (pLen p i)) ∧ i ≤ p.os.length) (fun i => p.os.length - i) ⟨rfl, by omega⟩ ?_ ?_
   ·refine envle_cons ?_ (envle_cons ?_ (envle_cons ?_ (envle_cons ?_ (envle_nil _))))
    ·simp only [Env.get, Nat.reduceBEq, cond_true, cond_false, beq_self_eq_true]; exact AVLe.refl _
    ·simp only [Env.get, Nat.reduceBEq, cond_true, cond_false, beq_self_eq_true]; exact avle_int (by simp)
    ·simp only [Env.get, Nat.reduceBEq, cond_true, cond_false, beq_self_eq_true]; exact AVLe.refl _
    ·simp only [Env.get, Nat.reduceBEq, cond_true, cond_false, beq_self_eq_true]
     rw [List.take_length]
     exact avle_eq (by simp [pRows])
   ·intro i H' ⟨e, hi⟩
    subst e
    have hl1 := pRows_len p i
    have hLi := hL i
    repeat' first|(apply Sp.go;·constructor<;>first|exact ss|(change _=_;first|(simp only[go_sem,Nat.reduceBEq,Nat.reduceAdd,Nat.reduceLeDiff,reduceIte]<;>rfl)|rfl)|exact Nat.le_of_ble_eq_true rfl|decide|(repeat' first|(apply Lk.go;constructor)|assumption|exact nb ‹_› ‹_›|exact nt ‹_› ‹_›))|(intro b hb;repeat first|(refine fe hb ?_;intro _ _ hb)|(refine fT hb ?_;intro hb))|refine rt ?_|refine gA rfl ?_|refine gB rfl ?_|apply cT rfl|apply cF rfl|(apply DM.gbT;rfl)|(apply DM.gbF;rfl)|intro h
    (apply AM.cond; (· rfl))
    ·intro h3
     simp at h3
     obtain ⟨v, hv⟩ := some_of h3
     have e1 := pRows_succ hv
     have e2 := pLen_succ hv
     repeat' first|(apply Sp.go;·constructor<;>first|exact ss|(change _=_;first|(simp only[go_sem,Nat.reduceBEq,Nat.reduceAdd,Nat.reduceLeDiff,reduceIte]<;>rfl)|rfl)|exact Nat.le_of_ble_eq_true rfl|decide|(repeat' first|(apply Lk.go;constructor)|assumption|exact nb ‹_› ‹_›|exact nt ‹_› ‹_›))|(intro b hb;repeat first|(refine fe hb ?_;intro _ _ hb)|(refine fT hb ?_;intro hb))|refine rt ?_|refine gA rfl ?_|refine gB rfl ?_|apply cT rfl|apply cF rfl|(apply DM.gbT;rfl)|(apply DM.gbF;rfl)|(apply DM.ixV (row := v.row) (z := (i : Int)) (by omega) (row_get Of_.row hv); (· rfl); (· rfl))|intro h
     (apply AM.cond; (· rfl))
     ·intro h4
      simp at h4
      have eo : oParts v = [⟨v.cond, v.label, 1⟩, ⟨v.args, v.label, 2⟩] := by simp [oParts, h4]
      rw [eo] at e1 e2
      repeat' first|(apply Sp.go;·constructor<;>first|exact ss|(change _=_;first|(simp only[go_sem,Nat.reduceBEq,Nat.reduceAdd,Nat.reduceLeDiff,reduceIte]<;>rfl)|rfl)|exact Nat.le_of_ble_eq_true rfl|decide|(repeat' first|(apply Lk.go;constructor)|assumption|exact nb ‹_› ‹_›|exact nt ‹_› ‹_›))|(intro b hb;repeat first|(refine fe hb ?_;intro _ _ hb)|(refine fT hb ?_;intro hb))|refine rt ?_|refine gA rfl ?_|refine gB rfl ?_|apply cT rfl|apply cF rfl|(apply DM.gbT;rfl)|(apply DM.gbF;rfl)|intro h
      apply DM.apOr
      ·simp only [EOpd.ev, Env.get, Nat.reduceBEq, cond_true, cond_false, beq_self_eq_true] <;> rfl
      ·(· repeat' first|(apply Lk.go;constructor)|assumption|exact nb ‹_› ‹_›|exact nt ‹_› ‹_›|(apply Lm.go;constructor))
      ·exact hl1
      ·simp only [rowsOf, if_true, eq_self, EOpd.ev, Env.get, Nat.reduceBEq, cond_true, cond_false, beq_self_eq_true] <;> rfl
      ·simp only [List.length_cons, List.length_nil]; omega
      ·simp only [List.length_cons, List.length_nil, maxLen]; omega
      repeat' first|(apply Sp.go;·constructor<;>first|exact ss|(change _=_;first|(simp only[go_sem,Nat.reduceBEq,Nat.reduceAdd,Nat.reduceLeDiff,reduceIte]<;>rfl)|rfl)|exact Nat.le_of_ble_eq_true rfl|decide|(repeat' first|(apply Lk.go;constructor)|assumption|exact nb ‹_› ‹_›|exact nt ‹_› ‹_›))|(intro b hb;repeat first|(refine fe hb ?_;intro _ _ hb)|(refine fT hb ?_;intro hb))|refine rt ?_|refine gA rfl ?_|refine gB rfl ?_|apply cT rfl|apply cF rfl|(apply DM.gbT;rfl)|(apply DM.gbF;rfl)|intro h
      apply DM.apOr
      ·simp only [EOpd.ev, Env.get, Nat.reduceBEq, cond_true, cond_false, beq_self_eq_true] <;> rfl
      ·(· repeat' first|(apply Lk.go;constructor)|assumption|exact nb ‹_› ‹_›|exact nt ‹_› ‹_›|(apply Lm.go;constructor))
      ·rw [List.length_append, hl1]
      ·simp only [rowsOf, if_true, eq_self, EOpd.ev, Env.get, Nat.reduceBEq, cond_true, cond_false, beq_self_eq_true] <;> rfl
      ·simp only [List.length_cons, List.length_nil]; omega
      ·simp only [List.length_cons, List.length_nil, maxLen]; omega
      repeat' first|(apply Sp.go;·constructor<;>first|exact ss|(change _=_;first|(simp only[go_sem,Nat.reduceBEq,Nat.reduceAdd,Nat.reduceLeDiff,reduceIte]<;>rfl)|rfl)|exact Nat.le_of_ble_eq_true rfl|decide|(repeat' first|(apply Lk.go;constructor)|assumption|exact nb ‹_› ‹_›|exact nt ‹_› ‹_›))|(intro b hb;repeat first|(refine fe hb ?_;intro _ _ hb)|(refine fT hb ?_;intro hb))|refine rt ?_|refine gA rfl ?_|refine gB rfl ?_|apply cT rfl|apply cF rfl|(apply DM.gbT;rfl)|(apply DM.gbF;rfl)|intro h
      refine AM.forget (G.setT tv (.frz 138 3 (pLen p (i + 1)))) ?_ ?_
      ·refine R.hsub_tok2 ?_ ?_ ?_
       ·intro b x hx
        (· repeat' first|(apply Lk.go;constructor)|assumption|exact nb ‹_› ‹_›|exact nt ‹_› ‹_›)
       ·intro t' x hn hx
        (· repeat' first|(apply Lk.go;constructor)|assumption|exact nb ‹_› ‹_›|exact nt ‹_› ‹_›|(apply Lm.go;constructor))
       ·rw [e2]
        (· repeat' first|(apply Lk.go;constructor)|assumption|exact nb ‹_› ‹_›|exact nt ‹_› ‹_›|(apply Lm.go;constructor))
      refine AM.roundX (i + 1) ⟨rfl, by omega⟩ ?_ ?_
      ·(repeat first | exact envle_nil _ | (refine envle_cons ?_ ?_; · (simp only [go_sem, Nat.reduceBEq, Nat.reduceAdd]; exact AVLe.refl _)))
       refine envle_cons ?_ ?_
       ·simp only [go_sem, Nat.reduceBEq, Nat.reduceAdd]
        refine avle_int ?_
        rw [inc64 h3 (by unfold maxLen; omega)]
       refine envle_cons ?_ (envle_nil _)
       simp only [Env.get, Nat.reduceBEq, cond_true, cond_false, beq_self_eq_true]
       rw [e1]
       refine avle_eq ?_
       simp
      ·show p.os.length - (i + 1) < p.os.length - i
       omega
     ·intro h4
      simp at h4
      have eo : oParts v = [⟨v.args, v.label, 2⟩] := by simp [oParts, h4]
      rw [eo] at e1 e2
      repeat' first|(apply Sp.go;·constructor<;>first|exact ss|(change _=_;first|(simp only[go_sem,Nat.reduceBEq,Nat.reduceAdd,Nat.reduceLeDiff,reduceIte]<;>rfl)|rfl)|exact Nat.le_of_ble_eq_true rfl|decide|(repeat' first|(apply Lk.go;constructor)|assumption|exact nb ‹_› ‹_›|exact nt ‹_› ‹_›))|(intro b hb;repeat first|(refine fe hb ?_;intro _ _ hb)|(refine fT hb ?_;intro hb))|refine rt ?_|refine gA rfl ?_|refine gB rfl ?_|apply cT rfl|apply cF rfl|(apply DM.gbT;rfl)|(apply DM.gbF;rfl)|intro h
      apply DM.apOr
      ·simp only [EOpd.ev, Env.get, Nat.reduceBEq, cond_true, cond_false, beq_self_eq_true] <;> rfl
      ·(· repeat' first|(apply Lk.go;constructor)|assumption|exact nb ‹_› ‹_›|exact nt ‹_› ‹_›|(apply Lm.go;constructor))
      ·exact hl1
      ·simp only [rowsOf, if_true, eq_self, EOpd.ev, Env.get, Nat.reduceBEq, cond_true, cond_false, beq_self_eq_true] <;> rfl
      ·simp only [List.length_cons, List.length_nil]; omega
      ·simp only [List.length_cons, List.length_nil, maxLen]; omega
      repeat' first|(apply Sp.go;·constructor<;>first|exact ss|(change _=_;first|(simp only[go_sem,Nat.reduceBEq,Nat.reduceAdd,Nat.reduceLeDiff,reduceIte]<;>rfl)|rfl)|exact Nat.le_of_ble_eq_true rfl|decide|(repeat' first|(apply Lk.go;constructor)|assumption|exact nb ‹_› ‹_›|exact nt ‹_› ‹_›))|(intro b hb;repeat first|(refine fe hb ?_;intro _ _ hb)|(refine fT hb ?_;intro hb))|refine rt ?_|refine gA rfl ?_|refine gB rfl ?_|apply cT rfl|apply cF rfl|(apply DM.gbT;rfl)|(apply DM.gbF;rfl)|intro h
      refine AM.forget (G.setT tv (.frz 138 3 (pLen p (i + 1)))) ?_ ?_
      ·refine R.hsub_tok2 ?_ ?_ ?_
       ·intro b x hx
        (· repeat' first|(apply Lk.go;constructor)|assumption|exact nb ‹_› ‹_›|exact nt ‹_› ‹_›)
       ·intro t' x hn hx
        (· repeat' first|(apply Lk.go;constructor)|assumption|exact nb ‹_› ‹_›|exact nt ‹_› ‹_›|(apply Lm.go;constructor))
       ·rw [e2]
        (· repeat' first|(apply Lk.go;constructor)|assumption|exact nb ‹_› ‹_›|exact nt ‹_› ‹_›|(apply Lm.go;constructor))
      refine AM.roundX (i + 1) ⟨rfl, by omega⟩ ?_ ?_
      ·(repeat first | exact envle_nil _ | (refine envle_cons ?_ ?_; · (simp only [go_sem, Nat.reduceBEq, Nat.reduceAdd]; exact AVLe.refl _)))
       refine envle_cons ?_ ?_
       ·simp only [go_sem, Nat.reduceBEq, Nat.reduceAdd]
        refine avle_int ?_
        rw [inc64 h3 (by unfold maxLen; omega)]
       refine envle_cons ?_ (envle_nil _)
       simp only [Env.get, Nat.reduceBEq, cond_true, cond_false, beq_self_eq_true]
       rw [e1]
       refine avle_eq ?_
       simp
      ·show p.os.length - (i + 1) < p.os.length - i
       omega
    ·intro h3
     simp at h3
     have : i = p.os.length := by omega
     subst this
     repeat' first|(apply Sp.go;·constructor<;>first|exact ss|(change _=_;first|(simp only[go_sem,Nat.reduceBEq,Nat.reduceAdd,Nat.reduceLeDiff,reduceIte]<;>rfl)|rfl)|exact Nat.le_of_ble_eq_true rfl|decide|(repeat' first|(apply Lk.go;constructor)|assumption|exact nb ‹_› ‹_›|exact nt ‹_› ‹_›))|(intro b hb;repeat first|(refine fe hb ?_;intro _ _ hb)|(refine fT hb ?_;intro hb))|refine rt ?_|refine gA rfl ?_|refine gB rfl ?_|apply cT rfl|apply cF rfl|(apply DM.gbT;rfl)|(apply DM.gbF;rfl)|intro h
     (apply Sr.go;·constructor<;>first|(apply Lk.go;constructor<;>first|exact ss|(change _=_;first|(simp only[go_sem,Nat.reduceBEq,Nat.reduceAdd,Nat.reduceLeDiff,reduceIte]<;>rfl)|rfl)|exact Nat.le_of_ble_eq_true rfl|decide|(repeat' first|(apply Lk.go;constructor)|assumption|exact nb ‹_› ‹_›|exact nt ‹_› ‹_›))|assumption)
     simp only [pRows, List.take_length]
     exact AVLe.own
structure PartOk (p : Prog) (x : Part) : Prop where
 lab : 0 ≤ x.label ∧ x.label ≤ 39
 at_ : 0 ≤ x.at_ ∧ x.at_ < p.code.length
 kind : x.kind = 0 ∨ x.kind = 1 ∨ x.kind = 2
theorem parts_ok {p : Prog} (hv : validP p = true) : (p.hs.length ≤ 40 ∧ p.os.length ≤ 40) ∧ ∀ x ∈ partsP p, PartOk p x := by
 simp only [validP, partsOk, Bool.and_eq_true, decide_eq_true_eq] at hv
 obtain ⟨⟨⟨_, _⟩, ⟨⟨h1, h2⟩, h3⟩, h4⟩, _⟩ := hv
 refine ⟨⟨h3, h4⟩, fun x hx => ?_⟩
 simp only [allI, List.all_eq_true, List.mem_range] at h1 h2
 rcases List.mem_append.1 hx with hx | hx
 ·obtain ⟨h, hm, rfl⟩ := List.mem_map.1 hx
  obtain ⟨i, hi⟩ := List.getElem?_of_mem hm
  have := h1 i (List.getElem?_eq_some_iff.1 hi).1
  simp [okHd, hi, Prog.party, Prog.target, inB] at this
  exact ⟨by simp [hPart]; omega, by simp [hPart]; omega, .inl rfl⟩
 ·obtain ⟨o, hm, hx⟩ := List.mem_flatMap.1 hx
  obtain ⟨i, hi⟩ := List.getElem?_of_mem hm
  have := h2 i (List.getElem?_eq_some_iff.1 hi).1
  simp [okOf, hi, Prog.party, Prog.target, inB] at this
  unfold oParts at hx
  rcases List.mem_append.1 hx with hx | hx
  ·by_cases hc : o.cond = -1
   ·simp [hc] at hx
   ·simp [hc] at hx
    subst hx
    exact ⟨by simp; omega, by simp; omega, .inr (.inl rfl)⟩
  ·simp at hx
   subst hx
   exact ⟨by simp; omega, by simp; omega, .inr (.inr rfl)⟩
def kindsL (ds : List Decl_) (label : Int) : List Int := ((ds[label.toNat]?).map kindsD).getD []
def psOf (ds : List Decl_) (x : Part) : List Int := if x.kind = 0 then kindsL ds x.label else []
def rsOf (ds : List Decl_) (x : Part) : List Int := if x.kind = 0 then [] else if x.kind = 1 then [1] else kindsL ds x.label
def checkF (p : Prog) (ds : List Decl_) : List Part → Int × Int
 | [] => (0, 0)
 | x :: l => if (ds.length : Int) ≤ x.label then (x.at_, 10)
  else if (costP p x.at_ (psOf ds x) (rsOf ds x)).2.2 ≠ 0 then ((costP p x.at_ (psOf ds x) (rsOf ds x)).2.1, (costP p x.at_ (psOf ds x) (rsOf ds x)).2.2)
  else if 5000 < (costP p x.at_ (psOf ds x) (rsOf ds x)).1 then (x.at_, 6) else checkF p ds l
def checkP (p : Prog) (ds : List Decl_) : Int × Int := if validP p = false then (0, 1) else checkF p ds (partsP p)
theorem kindsL_len {ds : List Decl_} (hd : ∀ d ∈ ds, d.fields.length ≤ 1000) (n : Int) : (kindsL ds n).length ≤ 1000 := by
 unfold kindsL
 cases h : ds[n.toNat]? with
 | none => simp
 | some d => simp [kindsD]; exact hd d (List.mem_of_getElem? h)
set_option maxHeartbeats 4000000 in
theorem p21 (p : Prog) (ds : List Decl_) (hd : ∀ d ∈ ds, d.fields.length ≤ 1000) : Pure Try.prog 21 [p.av, .vs 5 (ds.map Decl_.row)] (.tup [.int .i64 (checkP p ds).1, .int .i64 (checkP p ds).2]) := by
 refine pure_intro mo Try.func21 c21 fun H => ?_
 unfold e21 r21
 simp only [initEnv, initFrom]
 repeat' first|(apply Sp.go;·constructor<;>first|exact ss|(change _=_;first|(simp only[go_sem,Nat.reduceBEq,Nat.reduceAdd,Nat.reduceLeDiff,reduceIte]<;>rfl)|rfl)|exact Nat.le_of_ble_eq_true rfl|decide|(repeat' first|(apply Lk.go;constructor)|assumption|exact nb ‹_› ‹_›|exact nt ‹_› ‹_›))|(intro b hb;repeat first|(refine fe hb ?_;intro _ _ hb)|(refine fT hb ?_;intro hb))|refine rt ?_|refine gA rfl ?_|refine gB rfl ?_|apply cT rfl|apply cF rfl|(apply DM.gbT;rfl)|(apply DM.gbF;rfl)|intro h
 rename Nat => b2
 (apply DM.pcs (p43 p); (· simp only [go_sem, Nat.reduceBEq, Nat.reduceAdd] <;> rfl); (· exact AVLes.refl _))
 repeat' first|(apply Sp.go;·constructor<;>first|exact ss|(change _=_;first|(simp only[go_sem,Nat.reduceBEq,Nat.reduceAdd,Nat.reduceLeDiff,reduceIte]<;>rfl)|rfl)|exact Nat.le_of_ble_eq_true rfl|decide|(repeat' first|(apply Lk.go;constructor)|assumption|exact nb ‹_› ‹_›|exact nt ‹_› ‹_›))|(intro b hb;repeat first|(refine fe hb ?_;intro _ _ hb)|(refine fT hb ?_;intro hb))|refine rt ?_|refine gA rfl ?_|refine gB rfl ?_|apply cT rfl|apply cF rfl|(apply DM.gbT;rfl)|(apply DM.gbF;rfl)|intro h
 (apply AM.cond; (· rfl))
 ·intro h
  have hv : validP p = false := by simpa using h
  rw [show checkP p ds = (0, 1) by simp [checkP, hv]]
  repeat' first|(apply Sp.go;·constructor<;>first|exact ss|(change _=_;first|(simp only[go_sem,Nat.reduceBEq,Nat.reduceAdd,Nat.reduceLeDiff,reduceIte]<;>rfl)|rfl)|exact Nat.le_of_ble_eq_true rfl|decide|(repeat' first|(apply Lk.go;constructor)|assumption|exact nb ‹_› ‹_›|exact nt ‹_› ‹_›))|(intro b hb;repeat first|(refine fe hb ?_;intro _ _ hb)|(refine fT hb ?_;intro hb))|refine rt ?_|refine gA rfl ?_|refine gB rfl ?_|apply cT rfl|apply cF rfl|(apply DM.gbT;rfl)|(apply DM.gbF;rfl)|intro h
  (apply Sr.go;·constructor<;>first|(apply Lk.go;constructor<;>first|exact ss|(change _=_;first|(simp only[go_sem,Nat.reduceBEq,Nat.reduceAdd,Nat.reduceLeDiff,reduceIte]<;>rfl)|rfl)|exact Nat.le_of_ble_eq_true rfl|decide|(repeat' first|(apply Lk.go;constructor)|assumption|exact nb ‹_› ‹_›|exact nt ‹_› ‹_›))|assumption)
  exact AVLe.refl _
 ·intro h
  have hv : validP p = true := by simpa using h
  rw [show checkP p ds = checkF p ds (partsP p) by simp [checkP, hv]]
  obtain ⟨⟨hh, ho⟩, hpo⟩ := parts_ok hv
  have c46 := p46 p (by omega) (by omega)
  repeat' first|(apply Sp.go;·constructor<;>first|exact ss|(change _=_;first|(simp only[go_sem,Nat.reduceBEq,Nat.reduceAdd,Nat.reduceLeDiff,reduceIte]<;>rfl)|rfl)|exact Nat.le_of_ble_eq_true rfl|decide|(repeat' first|(apply Lk.go;constructor)|assumption|exact nb ‹_› ‹_›|exact nt ‹_› ‹_›))|(intro b hb;repeat first|(refine fe hb ?_;intro _ _ hb)|(refine fT hb ?_;intro hb))|refine rt ?_|refine gA rfl ?_|refine gB rfl ?_|apply cT rfl|apply cF rfl|(apply DM.gbT;rfl)|(apply DM.gbF;rfl)|intro h
  (apply DM.pcs (c46); (· simp only [go_sem, Nat.reduceBEq, Nat.reduceAdd] <;> rfl); (· exact AVLes.refl _))
  have hpl : (partsP p).length ≤ 120 := by
   have := oParts_len p.os
   simp only [partsP, List.length_append, List.length_map]; omega
  generalize partsP p = PS at *
  have hsub0 : HSub H (H.setB b2 41 p.cells) := HSub.setB (HSub.refl _) hb
  have hbp : (H.setB b2 41 p.cells).blk b2 = some (41, p.cells) := g_same
  generalize H.setB b2 41 p.cells = G at hsub0 hbp ⊢
  repeat' first|(apply Sp.go;·constructor<;>first|exact ss|(change _=_;first|(simp only[go_sem,Nat.reduceBEq,Nat.reduceAdd,Nat.reduceLeDiff,reduceIte]<;>rfl)|rfl)|exact Nat.le_of_ble_eq_true rfl|decide|(repeat' first|(apply Lk.go;constructor)|assumption|exact nb ‹_› ‹_›|exact nt ‹_› ‹_›))|(intro b hb;repeat first|(refine fe hb ?_;intro _ _ hb)|(refine fT hb ?_;intro hb))|refine rt ?_|refine gA rfl ?_|refine gB rfl ?_|apply cT rfl|apply cF rfl|(apply DM.gbT;rfl)|(apply DM.gbF;rfl)|intro h
  refine AM.loopX (X := Nat) 0 (fun i => [(1, .vs 5 (ds.map Decl_.row)), (2, .ptr b2 0), (17, .vs 3 (PS.map Part.row)), (18, .int .i64 PS.length), (19, .int .i64 i)]) (fun i H' => H' = G ∧ i ≤ PS.length ∧ checkF p ds PS = checkF p ds (PS.drop i)) (fun i => PS.length - i) ⟨rfl, by omega, rfl⟩ ?_ ?_
  ·refine envle_cons ?_ (envle_cons ?_ (envle_cons ?_ (envle_cons ?_ (envle_cons ?_ (envle_nil _)))))
   ·simp only [Env.get, Nat.reduceBEq, cond_true, cond_false, beq_self_eq_true]; exact AVLe.refl _
   ·simp only [Env.get, Nat.reduceBEq, cond_true, cond_false, beq_self_eq_true]; exact AVLe.refl _
   ·simp only [Env.get, Nat.reduceBEq, cond_true, cond_false, beq_self_eq_true]; exact AVLe.refl _
   ·simp only [Env.get, Nat.reduceBEq, cond_true, cond_false, beq_self_eq_true]; exact avle_int (by simp)
   ·simp only [Env.get, Nat.reduceBEq, cond_true, cond_false, beq_self_eq_true]; exact AVLe.refl _
  ·intro i H' ⟨e, hi, he⟩
   subst e
   repeat' first|(apply Sp.go;·constructor<;>first|exact ss|(change _=_;first|(simp only[go_sem,Nat.reduceBEq,Nat.reduceAdd,Nat.reduceLeDiff,reduceIte]<;>rfl)|rfl)|exact Nat.le_of_ble_eq_true rfl|decide|(repeat' first|(apply Lk.go;constructor)|assumption|exact nb ‹_› ‹_›|exact nt ‹_› ‹_›))|(intro b hb;repeat first|(refine fe hb ?_;intro _ _ hb)|(refine fT hb ?_;intro hb))|refine rt ?_|refine gA rfl ?_|refine gB rfl ?_|apply cT rfl|apply cF rfl|(apply DM.gbT;rfl)|(apply DM.gbF;rfl)|intro h
   (apply AM.cond; (· rfl))
   ·intro h3
    simp at h3
    obtain ⟨x, hx⟩ := some_of h3
    have hxo := hpo x (List.mem_of_getElem? hx)
    rw [drop_of hx, checkF] at he
    repeat' first|(apply Sp.go;·constructor<;>first|exact ss|(change _=_;first|(simp only[go_sem,Nat.reduceBEq,Nat.reduceAdd,Nat.reduceLeDiff,reduceIte]<;>rfl)|rfl)|exact Nat.le_of_ble_eq_true rfl|decide|(repeat' first|(apply Lk.go;constructor)|assumption|exact nb ‹_› ‹_›|exact nt ‹_› ‹_›))|(intro b hb;repeat first|(refine fe hb ?_;intro _ _ hb)|(refine fT hb ?_;intro hb))|refine rt ?_|refine gA rfl ?_|refine gB rfl ?_|apply cT rfl|apply cF rfl|(apply DM.gbT;rfl)|(apply DM.gbF;rfl)|(apply DM.ixV (row := x.row) (z := (i : Int)) (by omega) (row_get Part.row hx); (· rfl); (· rfl))|intro h
    rename Nat => b7
    (apply AM.cond; (· rfl))
    ·intro h4
     simp at h4
     repeat' first|(apply Sp.go;·constructor<;>first|exact ss|(change _=_;first|(simp only[go_sem,Nat.reduceBEq,Nat.reduceAdd,Nat.reduceLeDiff,reduceIte]<;>rfl)|rfl)|exact Nat.le_of_ble_eq_true rfl|decide|(repeat' first|(apply Lk.go;constructor)|assumption|exact nb ‹_› ‹_›|exact nt ‹_› ‹_›))|(intro b hb;repeat first|(refine fe hb ?_;intro _ _ hb)|(refine fT hb ?_;intro hb))|refine rt ?_|refine gA rfl ?_|refine gB rfl ?_|apply cT rfl|apply cF rfl|(apply DM.gbT;rfl)|(apply DM.gbF;rfl)|intro h
     rw [he, if_pos h4]
     exact AM.ret (v := .tup [.int .i64 x.at_, .int .i64 10]) rfl ⟨_, rfl, AVLe.refl _, hsub0.trans (HSub.setB (HSub.refl _) hb)⟩
    ·intro h4
     simp at h4
     rw [if_neg (by omega)] at he
     obtain ⟨d, hdd⟩ := some_of (show x.label.toNat < ds.length by have := hxo.lab; omega)
     have hkl : kindsL ds x.label = kindsD d := by simp [kindsL, hdd]
     have hdl := hd d (List.mem_of_getElem? hdd)
     have hG7 : (H'.setB b7 138 x.row).blk b7 = some (138, x.row) := g_same
     have hG2 : (H'.setB b7 138 x.row).blk b2 = some (41, p.cells) := g_fresh hb hbp
     have hGs : HSub H' (H'.setB b7 138 x.row) := HSub.setB (HSub.refl _) hb
     have c17 := p17 p x.at_ (psOf ds x) (rsOf ds x) (by unfold psOf; split; exact kindsL_len hd _; simp)
     have hsub1 := hsub0.trans hGs
     generalize H'.setB b7 138 x.row = H2 at hG7 hG2 hGs hsub1 ⊢
     rcases hxo.kind with hk | hk | hk
     rw [show psOf ds x = kindsD d by simp [psOf, hk, hkl], show rsOf ds x = [] by simp [rsOf, hk]] at *
     repeat' first|(apply Sp.go;·constructor<;>first|exact ss|(change _=_;first|(simp only[go_sem,Nat.reduceBEq,Nat.reduceAdd,Nat.reduceLeDiff,reduceIte]<;>rfl)|rfl)|exact Nat.le_of_ble_eq_true rfl|decide|(repeat' first|(apply Lk.go;constructor)|assumption|exact nb ‹_› ‹_›|exact nt ‹_› ‹_›))|(intro b hb;repeat first|(refine fe hb ?_;intro _ _ hb)|(refine fT hb ?_;intro hb))|refine rt ?_|refine gA rfl ?_|refine gB rfl ?_|apply cT rfl|apply cF rfl|(apply DM.gbT;rfl)|(apply DM.gbF;rfl)|intro h
     simp only [hk]
     repeat' first|(apply Sp.go;·constructor<;>first|exact ss|(change _=_;first|(simp only[go_sem,Nat.reduceBEq,Nat.reduceAdd,Nat.reduceLeDiff,reduceIte]<;>rfl)|rfl)|exact Nat.le_of_ble_eq_true rfl|decide|(repeat' first|(apply Lk.go;constructor)|assumption|exact nb ‹_› ‹_›|exact nt ‹_› ‹_›))|(intro b hb;repeat first|(refine fe hb ?_;intro _ _ hb)|(refine fT hb ?_;intro hb))|refine rt ?_|refine gA rfl ?_|refine gB rfl ?_|apply cT rfl|apply cF rfl|(apply DM.gbT;rfl)|(apply DM.gbF;rfl)|(apply DM.ixV (row := d.row) (z := x.label) hxo.lab.1 (by rw [List.getElem?_map, hdd]; rfl); (· rfl); (· rfl))|(apply DM.pcs (p47 d hdl); (· simp only [go_sem, Nat.reduceBEq, Nat.reduceAdd] <;> rfl); (· exact AVLes.refl _))|intro h
     apply DM.pcs c17
     ·simp only [go_sem, Nat.reduceBEq, Nat.reduceAdd] <;> rfl
     ·exact avles_cons (AVLe.refl _) (avles_cons (AVLe.refl _) (avles_cons (by first | exact AVLe.refl _ | exact AVLe.nil) (avles_cons (by first | exact AVLe.refl _ | exact AVLe.nil) avles_nil)))
     rotate_left
     rw [show psOf ds x = [] by simp [psOf, hk], show rsOf ds x = [1] by simp [rsOf, hk]] at *
     repeat' first|(apply Sp.go;·constructor<;>first|exact ss|(change _=_;first|(simp only[go_sem,Nat.reduceBEq,Nat.reduceAdd,Nat.reduceLeDiff,reduceIte]<;>rfl)|rfl)|exact Nat.le_of_ble_eq_true rfl|decide|(repeat' first|(apply Lk.go;constructor)|assumption|exact nb ‹_› ‹_›|exact nt ‹_› ‹_›))|(intro b hb;repeat first|(refine fe hb ?_;intro _ _ hb)|(refine fT hb ?_;intro hb))|refine rt ?_|refine gA rfl ?_|refine gB rfl ?_|apply cT rfl|apply cF rfl|(apply DM.gbT;rfl)|(apply DM.gbF;rfl)|intro h
     simp only [hk]
     repeat' first|(apply Sp.go;·constructor<;>first|exact ss|(change _=_;first|(simp only[go_sem,Nat.reduceBEq,Nat.reduceAdd,Nat.reduceLeDiff,reduceIte]<;>rfl)|rfl)|exact Nat.le_of_ble_eq_true rfl|decide|(repeat' first|(apply Lk.go;constructor)|assumption|exact nb ‹_› ‹_›|exact nt ‹_› ‹_›))|(intro b hb;repeat first|(refine fe hb ?_;intro _ _ hb)|(refine fT hb ?_;intro hb))|refine rt ?_|refine gA rfl ?_|refine gB rfl ?_|apply cT rfl|apply cF rfl|(apply DM.gbT;rfl)|(apply DM.gbF;rfl)|intro h
     apply DM.pcs c17
     ·simp only [go_sem, Nat.reduceBEq, Nat.reduceAdd] <;> rfl
     ·exact avles_cons (AVLe.refl _) (avles_cons (AVLe.refl _) (avles_cons (by first | exact AVLe.refl _ | exact AVLe.nil) (avles_cons (by first | exact AVLe.refl _ | exact AVLe.nil) avles_nil)))
     rotate_left
     rw [show psOf ds x = [] by simp [psOf, hk], show rsOf ds x = kindsD d by simp [rsOf, hk, hkl]] at *
     repeat' first|(apply Sp.go;·constructor<;>first|exact ss|(change _=_;first|(simp only[go_sem,Nat.reduceBEq,Nat.reduceAdd,Nat.reduceLeDiff,reduceIte]<;>rfl)|rfl)|exact Nat.le_of_ble_eq_true rfl|decide|(repeat' first|(apply Lk.go;constructor)|assumption|exact nb ‹_› ‹_›|exact nt ‹_› ‹_›))|(intro b hb;repeat first|(refine fe hb ?_;intro _ _ hb)|(refine fT hb ?_;intro hb))|refine rt ?_|refine gA rfl ?_|refine gB rfl ?_|apply cT rfl|apply cF rfl|(apply DM.gbT;rfl)|(apply DM.gbF;rfl)|intro h
     simp only [hk]
     repeat' first|(apply Sp.go;·constructor<;>first|exact ss|(change _=_;first|(simp only[go_sem,Nat.reduceBEq,Nat.reduceAdd,Nat.reduceLeDiff,reduceIte]<;>rfl)|rfl)|exact Nat.le_of_ble_eq_true rfl|decide|(repeat' first|(apply Lk.go;constructor)|assumption|exact nb ‹_› ‹_›|exact nt ‹_› ‹_›))|(intro b hb;repeat first|(refine fe hb ?_;intro _ _ hb)|(refine fT hb ?_;intro hb))|refine rt ?_|refine gA rfl ?_|refine gB rfl ?_|apply cT rfl|apply cF rfl|(apply DM.gbT;rfl)|(apply DM.gbF;rfl)|(apply DM.ixV (row := d.row) (z := x.label) hxo.lab.1 (by rw [List.getElem?_map, hdd]; rfl); (· rfl); (· rfl))|(apply DM.pcs (p47 d hdl); (· simp only [go_sem, Nat.reduceBEq, Nat.reduceAdd] <;> rfl); (· exact AVLes.refl _))|intro h
     apply DM.pcs c17
     ·simp only [go_sem, Nat.reduceBEq, Nat.reduceAdd] <;> rfl
     ·exact avles_cons (AVLe.refl _) (avles_cons (AVLe.refl _) (avles_cons (by first | exact AVLe.refl _ | exact AVLe.nil) (avles_cons (by first | exact AVLe.refl _ | exact AVLe.nil) avles_nil)))
     rotate_left
     all_goals
      generalize costP p x.at_ _ _ = c at he ⊢
      repeat' first|(apply Sp.go;·constructor<;>first|exact ss|(change _=_;first|(simp only[go_sem,Nat.reduceBEq,Nat.reduceAdd,Nat.reduceLeDiff,reduceIte]<;>rfl)|rfl)|exact Nat.le_of_ble_eq_true rfl|decide|(repeat' first|(apply Lk.go;constructor)|assumption|exact nb ‹_› ‹_›|exact nt ‹_› ‹_›))|(intro b hb;repeat first|(refine fe hb ?_;intro _ _ hb)|(refine fT hb ?_;intro hb))|refine rt ?_|refine gA rfl ?_|refine gB rfl ?_|apply cT rfl|apply cF rfl|(apply DM.gbT;rfl)|(apply DM.gbF;rfl)|intro h
      by_cases z : c.2.2 = 0
      ·have dz : (!decide (c.2.2 = 0)) = false := by simp [z]
       simp only [dz]
       repeat' first|(apply Sp.go;·constructor<;>first|exact ss|(change _=_;first|(simp only[go_sem,Nat.reduceBEq,Nat.reduceAdd,Nat.reduceLeDiff,reduceIte]<;>rfl)|rfl)|exact Nat.le_of_ble_eq_true rfl|decide|(repeat' first|(apply Lk.go;constructor)|assumption|exact nb ‹_› ‹_›|exact nt ‹_› ‹_›))|(intro b hb;repeat first|(refine fe hb ?_;intro _ _ hb)|(refine fT hb ?_;intro hb))|refine rt ?_|refine gA rfl ?_|refine gB rfl ?_|apply cT rfl|apply cF rfl|(apply DM.gbT;rfl)|(apply DM.gbF;rfl)|intro h
       rw [if_neg (fun h => h z)] at he
       by_cases y : 5000 < c.1
       ·have dy : decide (5000 < c.1) = true := decide_eq_true y
        rw [if_pos y] at he
        simp only [dy]
        repeat' first|(apply Sp.go;·constructor<;>first|exact ss|(change _=_;first|(simp only[go_sem,Nat.reduceBEq,Nat.reduceAdd,Nat.reduceLeDiff,reduceIte]<;>rfl)|rfl)|exact Nat.le_of_ble_eq_true rfl|decide|(repeat' first|(apply Lk.go;constructor)|assumption|exact nb ‹_› ‹_›|exact nt ‹_› ‹_›))|(intro b hb;repeat first|(refine fe hb ?_;intro _ _ hb)|(refine fT hb ?_;intro hb))|refine rt ?_|refine gA rfl ?_|refine gB rfl ?_|apply cT rfl|apply cF rfl|(apply DM.gbT;rfl)|(apply DM.gbF;rfl)|intro h
        rw [he]
        exact AM.ret (v := .tup [.int .i64 x.at_, .int .i64 6]) rfl ⟨_, rfl, AVLe.refl _, hsub1⟩
       ·have dy : decide (5000 < c.1) = false := decide_eq_false y
        rw [if_neg y] at he
        simp only [dy]
        repeat' first|(apply Sp.go;·constructor<;>first|exact ss|(change _=_;first|(simp only[go_sem,Nat.reduceBEq,Nat.reduceAdd,Nat.reduceLeDiff,reduceIte]<;>rfl)|rfl)|exact Nat.le_of_ble_eq_true rfl|decide|(repeat' first|(apply Lk.go;constructor)|assumption|exact nb ‹_› ‹_›|exact nt ‹_› ‹_›))|(intro b hb;repeat first|(refine fe hb ?_;intro _ _ hb)|(refine fT hb ?_;intro hb))|refine rt ?_|refine gA rfl ?_|refine gB rfl ?_|apply cT rfl|apply cF rfl|(apply DM.gbT;rfl)|(apply DM.gbF;rfl)|intro h
        refine AM.forget H' hGs ?_
        refine AM.roundX (i + 1) ⟨rfl, by omega, he⟩ ?_ ?_
        ·(repeat first | exact envle_nil _ | (refine envle_cons ?_ ?_; · (simp only [go_sem, Nat.reduceBEq, Nat.reduceAdd]; exact AVLe.refl _)))
         refine envle_cons ?_ ?_
         ·simp only [go_sem, Nat.reduceBEq, Nat.reduceAdd]
          refine avle_int ?_
          rw [inc64 h3 (by unfold maxLen; omega)]
         exact envle_nil _
        ·show PS.length - (i + 1) < PS.length - i
         omega
      ·have dz : (!decide (c.2.2 = 0)) = true := by simp [z]
       simp only [dz]
       repeat' first|(apply Sp.go;·constructor<;>first|exact ss|(change _=_;first|(simp only[go_sem,Nat.reduceBEq,Nat.reduceAdd,Nat.reduceLeDiff,reduceIte]<;>rfl)|rfl)|exact Nat.le_of_ble_eq_true rfl|decide|(repeat' first|(apply Lk.go;constructor)|assumption|exact nb ‹_› ‹_›|exact nt ‹_› ‹_›))|(intro b hb;repeat first|(refine fe hb ?_;intro _ _ hb)|(refine fT hb ?_;intro hb))|refine rt ?_|refine gA rfl ?_|refine gB rfl ?_|apply cT rfl|apply cF rfl|(apply DM.gbT;rfl)|(apply DM.gbF;rfl)|intro h
       rw [if_pos z] at he
       rw [he]
       exact AM.ret (v := .tup [.int .i64 c.2.1, .int .i64 c.2.2]) rfl ⟨_, rfl, AVLe.refl _, hsub1⟩
   ·intro h3
    simp at h3
    rw [List.drop_eq_nil_of_le h3] at he
    repeat' first|(apply Sp.go;·constructor<;>first|exact ss|(change _=_;first|(simp only[go_sem,Nat.reduceBEq,Nat.reduceAdd,Nat.reduceLeDiff,reduceIte]<;>rfl)|rfl)|exact Nat.le_of_ble_eq_true rfl|decide|(repeat' first|(apply Lk.go;constructor)|assumption|exact nb ‹_› ‹_›|exact nt ‹_› ‹_›))|(intro b hb;repeat first|(refine fe hb ?_;intro _ _ hb)|(refine fT hb ?_;intro hb))|refine rt ?_|refine gA rfl ?_|refine gB rfl ?_|apply cT rfl|apply cF rfl|(apply DM.gbT;rfl)|(apply DM.gbF;rfl)|intro h
    (apply Sr.go;·constructor<;>first|(apply Lk.go;constructor<;>first|exact ss|(change _=_;first|(simp only[go_sem,Nat.reduceBEq,Nat.reduceAdd,Nat.reduceLeDiff,reduceIte]<;>rfl)|rfl)|exact Nat.le_of_ble_eq_true rfl|decide|(repeat' first|(apply Lk.go;constructor)|assumption|exact nb ‹_› ‹_›|exact nt ‹_› ‹_›))|assumption)
    rw [he]
    exact AVLe.refl _
end Go.Aw.T
namespace Go.Aw.T
open Go Go.Aw Go.Proofs Go.RowKit
set_option maxRecDepth 100000
attribute [local irreducible] Go.Aw.DM Go.Aw.AHeap.setB Go.Aw.AHeap.setT
attribute [local go_sem] peval EOpd.ev Env.get binInt binStr binBool buildParts AV.cells AV.okc setRange minmaxAV AV.one AV.ofCells eqCells eqCell bslRows cond_true cond_false beq_self_eq_true Bool.not_true Bool.not_false beq_true beq_false eq_self if_true Option.some.injEq List.length_cons List.length_nil List.take_succ_cons List.take_zero List.drop_succ_cons List.drop_zero List.set_cons_succ List.set_cons_zero List.nil_append List.cons_append List.append_nil and_self Option.map_some List.map_cons List.map_nil Bool.false_eq_true if_false Nat.zero_add Nat.add_zero true_and and_true Bool.and_true Bool.true_and List.getElem?_cons_zero List.getElem?_cons_succ Nat.zero_le Nat.le_refl
set_option linter.unusedSimpArgs false
set_option linter.unusedVariables false
set_option maxHeartbeats 2000000 in
theorem p52 (ds : List Decl_) (label : Int) (h0 : 0 ≤ label) (hd : ∀ d ∈ ds, d.fields.length ≤ 1000) : Pure Try.prog 52 [.vs 5 (ds.map Decl_.row), .int .i64 label] (.vs 1 ((kindsL ds label).map irow)) := by
 refine pure_intro mo Try.func52 c52 fun H => ?_
 unfold e52 r52
 simp only [initEnv, initFrom]
 repeat' first|(apply Sp.go;·constructor<;>first|exact ss|(change _=_;first|(simp only[go_sem,Nat.reduceBEq,Nat.reduceAdd,Nat.reduceLeDiff,reduceIte]<;>rfl)|rfl)|exact Nat.le_of_ble_eq_true rfl|decide|(repeat' first|(apply Lk.go;constructor)|assumption|exact nb ‹_› ‹_›|exact nt ‹_› ‹_›))|(intro b hb;repeat first|(refine fe hb ?_;intro _ _ hb)|(refine fT hb ?_;intro hb))|refine rt ?_|refine gA rfl ?_|refine gB rfl ?_|apply cT rfl|apply cF rfl|(apply DM.gbT;rfl)|(apply DM.gbF;rfl)|intro h
 apply R.AM.ghostO 5 3 1 (by decide)
 ·simp only [Env.get, Nat.reduceBEq, cond_true, cond_false, beq_self_eq_true]
 intro tv htv
 repeat' first|(apply Sp.go;·constructor<;>first|exact ss|(change _=_;first|(simp only[go_sem,Nat.reduceBEq,Nat.reduceAdd,Nat.reduceLeDiff,reduceIte]<;>rfl)|rfl)|exact Nat.le_of_ble_eq_true rfl|decide|(repeat' first|(apply Lk.go;constructor)|assumption|exact nb ‹_› ‹_›|exact nt ‹_› ‹_›))|(intro b hb;repeat first|(refine fe hb ?_;intro _ _ hb)|(refine fT hb ?_;intro hb))|refine rt ?_|refine gA rfl ?_|refine gB rfl ?_|apply cT rfl|apply cF rfl|(apply DM.gbT;rfl)|(apply DM.gbF;rfl)|intro h
 cases hdd : ds[label.toNat]? with
 | none =>
  have hl := List.getElem?_eq_none_iff.1 hdd
  have e1 : decide (label < ((ds.map Decl_.row).length : Int)) = false := decide_eq_false (by simp only [List.length_map]; omega)
  rw [show kindsL ds label = [] by simp [kindsL, hdd]]
  refine AM.loopX (X := Nat) 0 (fun i => [(0, .vs 5 (ds.map Decl_.row)), (1, .int .i64 label), (5, .own tv 1 [])]) (fun i H' => H' = H.setT tv (.frz 3 1 0)) (fun i => 0) rfl ?_ ?_
  ·(repeat first | exact envle_nil _ | (refine envle_cons ?_ ?_; · (simp only [go_sem, Nat.reduceBEq, Nat.reduceAdd]; exact AVLe.refl _)))
  ·intro i H' e
   subst e
   repeat' first|(apply Sp.go;·constructor<;>first|exact ss|(change _=_;first|(simp only[go_sem,Nat.reduceBEq,Nat.reduceAdd,Nat.reduceLeDiff,reduceIte, e1]<;>rfl)|rfl)|exact Nat.le_of_ble_eq_true rfl|decide|(repeat' first|(apply Lk.go;constructor)|assumption|exact nb ‹_› ‹_›|exact nt ‹_› ‹_›))|(intro b hb;repeat first|(refine fe hb ?_;intro _ _ hb)|(refine fT hb ?_;intro hb))|refine rt ?_|refine gA rfl ?_|refine gB rfl ?_|apply cT rfl|apply cF rfl|(apply DM.gbT;rfl)|(apply DM.gbF;rfl)|intro h
   (apply Sr.go;·constructor<;>first|(apply Lk.go;constructor<;>first|exact ss|(change _=_;first|(simp only[go_sem,Nat.reduceBEq,Nat.reduceAdd,Nat.reduceLeDiff,reduceIte]<;>rfl)|rfl)|exact Nat.le_of_ble_eq_true rfl|decide|(repeat' first|(apply Lk.go;constructor)|assumption|exact nb ‹_› ‹_›|exact nt ‹_› ‹_›))|assumption)
   exact AVLe.own
 | some d =>
  have hl := (List.getElem?_eq_some_iff.1 hdd).1
  have e1 : decide (label < ((ds.map Decl_.row).length : Int)) = true := decide_eq_true (by simp only [List.length_map]; omega)
  have hf := hd d (List.mem_of_getElem? hdd)
  rw [show kindsL ds label = kindsD d by simp [kindsL, hdd]]
  refine AM.loopX (X := Nat) 0 (fun i => [(0, .vs 5 (ds.map Decl_.row)), (1, .int .i64 label), (6, .int .i64 i), (5, .own tv 1 ((d.fields.take i).map fun f => irow f.sort.k))]) (fun i H' => H' = H.setT tv (.frz 3 1 i) ∧ i ≤ d.fields.length) (fun i => d.fields.length - i) ⟨rfl, by omega⟩ ?_ ?_
  ·(repeat first | exact envle_nil _ | (refine envle_cons ?_ ?_; · (simp only [go_sem, Nat.reduceBEq, Nat.reduceAdd]; exact AVLe.refl _)))
  ·intro i H' ⟨e, hi⟩
   subst e
   have hl0 : ((d.fields.take i).map fun f => irow f.sort.k).length = i := by simp; omega
   repeat' first|(apply Sp.go;·constructor<;>first|exact ss|(change _=_;first|(simp only[go_sem,Nat.reduceBEq,Nat.reduceAdd,Nat.reduceLeDiff,reduceIte, e1]<;>rfl)|rfl)|exact Nat.le_of_ble_eq_true rfl|decide|(repeat' first|(apply Lk.go;constructor)|assumption|exact nb ‹_› ‹_›|exact nt ‹_› ‹_›))|(intro b hb;repeat first|(refine fe hb ?_;intro _ _ hb)|(refine fT hb ?_;intro hb))|refine rt ?_|refine gA rfl ?_|refine gB rfl ?_|apply cT rfl|apply cF rfl|(apply DM.gbT;rfl)|(apply DM.gbF;rfl)|intro h
   (apply DM.ixV (row := d.row) (z := label) h0 (by rw [List.getElem?_map, hdd]; rfl); (· rfl); (· rfl))
   repeat' first|(apply Sp.go;·constructor<;>first|exact ss|(change _=_;first|(simp only[go_sem,Nat.reduceBEq,Nat.reduceAdd,Nat.reduceLeDiff,reduceIte]<;>rfl)|rfl)|exact Nat.le_of_ble_eq_true rfl|decide|(repeat' first|(apply Lk.go;constructor)|assumption|exact nb ‹_› ‹_›|exact nt ‹_› ‹_›))|(intro b hb;repeat first|(refine fe hb ?_;intro _ _ hb)|(refine fT hb ?_;intro hb))|refine rt ?_|refine gA rfl ?_|refine gB rfl ?_|apply cT rfl|apply cF rfl|(apply DM.gbT;rfl)|(apply DM.gbF;rfl)|intro h
   (apply AM.cond; (· rfl))
   ·intro h3
    simp at h3
    obtain ⟨v, hv⟩ := some_of h3
    repeat' first|(apply Sp.go;·constructor<;>first|exact ss|(change _=_;first|(simp only[go_sem,Nat.reduceBEq,Nat.reduceAdd,Nat.reduceLeDiff,reduceIte]<;>rfl)|rfl)|exact Nat.le_of_ble_eq_true rfl|decide|(repeat' first|(apply Lk.go;constructor)|assumption|exact nb ‹_› ‹_›|exact nt ‹_› ‹_›))|(intro b hb;repeat first|(refine fe hb ?_;intro _ _ hb)|(refine fT hb ?_;intro hb))|refine rt ?_|refine gA rfl ?_|refine gB rfl ?_|apply cT rfl|apply cF rfl|(apply DM.gbT;rfl)|(apply DM.gbF;rfl)|(apply DM.ixV (row := d.row) (z := label) h0 (by rw [List.getElem?_map, hdd]; rfl); (· rfl); (· rfl))|(apply DM.ixV (row := v.row) (z := (i : Int)) (by omega) (row_get Fld.row hv); (· rfl); (· rfl))|intro h
    apply DM.apOr
    ·simp only [EOpd.ev, Env.get, Nat.reduceBEq, cond_true, cond_false, beq_self_eq_true] <;> rfl
    ·(· repeat' first|(apply Lk.go;constructor)|assumption|exact nb ‹_› ‹_›|exact nt ‹_› ‹_›|(apply Lm.go;constructor))
    ·exact hl0
    ·simp only [rowsOf, if_true, eq_self, EOpd.ev, Env.get, Nat.reduceBEq, cond_true, cond_false, beq_self_eq_true] <;> rfl
    ·simp only [List.length_cons, List.length_nil]; omega
    ·simp only [List.length_cons, List.length_nil, maxLen]; omega
    repeat' first|(apply Sp.go;·constructor<;>first|exact ss|(change _=_;first|(simp only[go_sem,Nat.reduceBEq,Nat.reduceAdd,Nat.reduceLeDiff,reduceIte]<;>rfl)|rfl)|exact Nat.le_of_ble_eq_true rfl|decide|(repeat' first|(apply Lk.go;constructor)|assumption|exact nb ‹_› ‹_›|exact nt ‹_› ‹_›))|(intro b hb;repeat first|(refine fe hb ?_;intro _ _ hb)|(refine fT hb ?_;intro hb))|refine rt ?_|refine gA rfl ?_|refine gB rfl ?_|apply cT rfl|apply cF rfl|(apply DM.gbT;rfl)|(apply DM.gbF;rfl)|intro h
    refine AM.eqH (H2 := H.setT tv (.frz 3 1 (i + 1))) (by rw [setT_setT]; rfl) ?_
    refine AM.roundX (i + 1) ⟨rfl, by omega⟩ ?_ ?_
    ·(repeat first | exact envle_nil _ | (refine envle_cons ?_ ?_; · (simp only [go_sem, Nat.reduceBEq, Nat.reduceAdd]; exact AVLe.refl _)))
     refine envle_cons ?_ ?_
     ·simp only [go_sem, Nat.reduceBEq, Nat.reduceAdd]
      refine avle_int ?_
      rw [inc64 h3 (by unfold maxLen; omega)]
     refine envle_cons ?_ (envle_nil _)
     simp only [Env.get, Nat.reduceBEq, cond_true, cond_false, beq_self_eq_true]
     rw [List.take_add_one, hv]
     refine avle_eq ?_
     simp
    ·show d.fields.length - (i + 1) < d.fields.length - i
     omega
   ·intro h3
    simp at h3
    have : i = d.fields.length := by omega
    subst this
    repeat' first|(apply Sp.go;·constructor<;>first|exact ss|(change _=_;first|(simp only[go_sem,Nat.reduceBEq,Nat.reduceAdd,Nat.reduceLeDiff,reduceIte]<;>rfl)|rfl)|exact Nat.le_of_ble_eq_true rfl|decide|(repeat' first|(apply Lk.go;constructor)|assumption|exact nb ‹_› ‹_›|exact nt ‹_› ‹_›))|(intro b hb;repeat first|(refine fe hb ?_;intro _ _ hb)|(refine fT hb ?_;intro hb))|refine rt ?_|refine gA rfl ?_|refine gB rfl ?_|apply cT rfl|apply cF rfl|(apply DM.gbT;rfl)|(apply DM.gbF;rfl)|intro h
    (apply Sr.go;·constructor<;>first|(apply Lk.go;constructor<;>first|exact ss|(change _=_;first|(simp only[go_sem,Nat.reduceBEq,Nat.reduceAdd,Nat.reduceLeDiff,reduceIte]<;>rfl)|rfl)|exact Nat.le_of_ble_eq_true rfl|decide|(repeat' first|(apply Lk.go;constructor)|assumption|exact nb ‹_› ‹_›|exact nt ‹_› ‹_›))|assumption)
    rw [List.take_length]
    simp only [kindsD, List.map_map]
    exact AVLe.own
def shortD (ds : List Decl_) : Bool := ds.all (fun d => decide (d.fields.length ≤ 6)) && decide (ds.length ≤ 20)
theorem p20 (ds : List Decl_) (hl : ds.length ≤ maxLen) : Pure Try.prog 20 [.vs 5 (ds.map Decl_.row)] (.bool (shortD ds)) := by
 refine pure_intro mo Try.func20 c20 fun H => ?_
 unfold e20 r20
 simp only [initEnv, initFrom]
 repeat' first|(apply Sp.go;·constructor<;>first|exact ss|(change _=_;first|(simp only[go_sem,Nat.reduceBEq,Nat.reduceAdd,Nat.reduceLeDiff,reduceIte]<;>rfl)|rfl)|exact Nat.le_of_ble_eq_true rfl|decide|(repeat' first|(apply Lk.go;constructor)|assumption|exact nb ‹_› ‹_›|exact nt ‹_› ‹_›))|(intro b hb;repeat first|(refine fe hb ?_;intro _ _ hb)|(refine fT hb ?_;intro hb))|refine rt ?_|refine gA rfl ?_|refine gB rfl ?_|apply cT rfl|apply cF rfl|(apply DM.gbT;rfl)|(apply DM.gbF;rfl)|intro h
 refine AM.loopX (X := Nat) 0 (fun i => [(0, .vs 5 (ds.map Decl_.row)), (3, .int .i64 i)]) (fun i H' => H' = H ∧ i ≤ ds.length ∧ shortD ds = ((ds.drop i).all (fun d => decide (d.fields.length ≤ 6)) && decide (ds.length ≤ 20))) (fun i => ds.length - i) ⟨rfl, by omega, rfl⟩ ?_ ?_
 ·(repeat first | exact envle_nil _ | (refine envle_cons ?_ ?_; · (simp only [go_sem, Nat.reduceBEq, Nat.reduceAdd]; exact AVLe.refl _)))
 ·intro i H' ⟨e, hi, he⟩
  subst e
  repeat' first|(apply Sp.go;·constructor<;>first|exact ss|(change _=_;first|(simp only[go_sem,Nat.reduceBEq,Nat.reduceAdd,Nat.reduceLeDiff,reduceIte]<;>rfl)|rfl)|exact Nat.le_of_ble_eq_true rfl|decide|(repeat' first|(apply Lk.go;constructor)|assumption|exact nb ‹_› ‹_›|exact nt ‹_› ‹_›))|(intro b hb;repeat first|(refine fe hb ?_;intro _ _ hb)|(refine fT hb ?_;intro hb))|refine rt ?_|refine gA rfl ?_|refine gB rfl ?_|apply cT rfl|apply cF rfl|(apply DM.gbT;rfl)|(apply DM.gbF;rfl)|intro h
  (apply AM.cond; (· rfl))
  ·intro h3
   simp at h3
   obtain ⟨d, hdd⟩ := some_of h3
   rw [drop_of hdd, List.all_cons] at he
   repeat' first|(apply Sp.go;·constructor<;>first|exact ss|(change _=_;first|(simp only[go_sem,Nat.reduceBEq,Nat.reduceAdd,Nat.reduceLeDiff,reduceIte]<;>rfl)|rfl)|exact Nat.le_of_ble_eq_true rfl|decide|(repeat' first|(apply Lk.go;constructor)|assumption|exact nb ‹_› ‹_›|exact nt ‹_› ‹_›))|(intro b hb;repeat first|(refine fe hb ?_;intro _ _ hb)|(refine fT hb ?_;intro hb))|refine rt ?_|refine gA rfl ?_|refine gB rfl ?_|apply cT rfl|apply cF rfl|(apply DM.gbT;rfl)|(apply DM.gbF;rfl)|(apply DM.ixV (row := d.row) (z := (i : Int)) (by omega) (row_get Decl_.row hdd); (· rfl); (· rfl))|intro h
   (apply AM.cond; (· rfl))
   ·intro h4
    simp at h4
    repeat' first|(apply Sp.go;·constructor<;>first|exact ss|(change _=_;first|(simp only[go_sem,Nat.reduceBEq,Nat.reduceAdd,Nat.reduceLeDiff,reduceIte]<;>rfl)|rfl)|exact Nat.le_of_ble_eq_true rfl|decide|(repeat' first|(apply Lk.go;constructor)|assumption|exact nb ‹_› ‹_›|exact nt ‹_› ‹_›))|(intro b hb;repeat first|(refine fe hb ?_;intro _ _ hb)|(refine fT hb ?_;intro hb))|refine rt ?_|refine gA rfl ?_|refine gB rfl ?_|apply cT rfl|apply cF rfl|(apply DM.gbT;rfl)|(apply DM.gbF;rfl)|intro h
    (apply Sr.go;·constructor<;>first|(apply Lk.go;constructor<;>first|exact ss|(change _=_;first|(simp only[go_sem,Nat.reduceBEq,Nat.reduceAdd,Nat.reduceLeDiff,reduceIte]<;>rfl)|rfl)|exact Nat.le_of_ble_eq_true rfl|decide|(repeat' first|(apply Lk.go;constructor)|assumption|exact nb ‹_› ‹_›|exact nt ‹_› ‹_›))|assumption)
    rw [he, decide_eq_false (show ¬ d.fields.length ≤ 6 by omega)]
    exact AVLe.refl _
   ·intro h4
    simp at h4
    rw [decide_eq_true (show d.fields.length ≤ 6 by omega), Bool.true_and] at he
    repeat' first|(apply Sp.go;·constructor<;>first|exact ss|(change _=_;first|(simp only[go_sem,Nat.reduceBEq,Nat.reduceAdd,Nat.reduceLeDiff,reduceIte]<;>rfl)|rfl)|exact Nat.le_of_ble_eq_true rfl|decide|(repeat' first|(apply Lk.go;constructor)|assumption|exact nb ‹_› ‹_›|exact nt ‹_› ‹_›))|(intro b hb;repeat first|(refine fe hb ?_;intro _ _ hb)|(refine fT hb ?_;intro hb))|refine rt ?_|refine gA rfl ?_|refine gB rfl ?_|apply cT rfl|apply cF rfl|(apply DM.gbT;rfl)|(apply DM.gbF;rfl)|intro h
    refine AM.roundX (i + 1) ⟨rfl, by omega, he⟩ ?_ ?_
    ·(repeat first | exact envle_nil _ | (refine envle_cons ?_ ?_; · (simp only [go_sem, Nat.reduceBEq, Nat.reduceAdd]; exact AVLe.refl _)))
     refine envle_cons ?_ ?_
     ·simp only [go_sem, Nat.reduceBEq, Nat.reduceAdd]
      refine avle_int ?_
      rw [inc64 h3 hl]
     exact envle_nil _
    ·show ds.length - (i + 1) < ds.length - i
     omega
  ·intro h3
   simp at h3
   rw [List.drop_eq_nil_of_le h3] at he
   repeat' first|(apply Sp.go;·constructor<;>first|exact ss|(change _=_;first|(simp only[go_sem,Nat.reduceBEq,Nat.reduceAdd,Nat.reduceLeDiff,reduceIte]<;>rfl)|rfl)|exact Nat.le_of_ble_eq_true rfl|decide|(repeat' first|(apply Lk.go;constructor)|assumption|exact nb ‹_› ‹_›|exact nt ‹_› ‹_›))|(intro b hb;repeat first|(refine fe hb ?_;intro _ _ hb)|(refine fT hb ?_;intro hb))|refine rt ?_|refine gA rfl ?_|refine gB rfl ?_|apply cT rfl|apply cF rfl|(apply DM.gbT;rfl)|(apply DM.gbF;rfl)|intro h
   (apply Sr.go;·constructor<;>first|(apply Lk.go;constructor<;>first|exact ss|(change _=_;first|(simp only[go_sem,Nat.reduceBEq,Nat.reduceAdd,Nat.reduceLeDiff,reduceIte]<;>rfl)|rfl)|exact Nat.le_of_ble_eq_true rfl|decide|(repeat' first|(apply Lk.go;constructor)|assumption|exact nb ‹_› ‹_›|exact nt ‹_› ‹_›))|assumption)
   rw [he]
   refine avle_eq ?_
   simp only [List.all_nil, Bool.true_and, List.length_map, AV.bool.injEq]
   exact decide_eq_decide.2 (by omega)
end Go.Aw.T
namespace Go.Aw.T
open Go Go.Aw Go.Proofs Go.RowKit
set_option maxRecDepth 100000
attribute [local irreducible] Go.Aw.DM Go.Aw.AHeap.setB Go.Aw.AHeap.setT
attribute [local go_sem] peval EOpd.ev Env.get binInt binStr binBool buildParts AV.cells AV.okc setRange minmaxAV AV.one AV.ofCells eqCells eqCell bslRows cond_true cond_false beq_self_eq_true Bool.not_true Bool.not_false beq_true beq_false eq_self if_true Option.some.injEq List.length_cons List.length_nil List.take_succ_cons List.take_zero List.drop_succ_cons List.drop_zero List.set_cons_succ List.set_cons_zero List.nil_append List.cons_append List.append_nil and_self Option.map_some List.map_cons List.map_nil Bool.false_eq_true if_false Nat.zero_add Nat.add_zero true_and and_true Bool.and_true Bool.true_and List.getElem?_cons_zero List.getElem?_cons_succ Nat.zero_le Nat.le_refl
set_option linter.unusedSimpArgs false
set_option linter.unusedVariables false
def psAv (ds : List Decl_) (x : Part) : AV := if x.kind = 0 then .vs 1 ((psOf ds x).map irow) else .nilS
def rsAv (ds : List Decl_) (x : Part) : AV := if x.kind = 0 then .nilS else .vs 1 ((rsOf ds x).map irow)
abbrev eRow (ds : List Decl_) (x : Part) : List AV := [.int .i64 x.at_, .int .i64 x.label, psAv ds x, rsAv ds x]
def eRows (p : Prog) (ds : List Decl_) (i : Nat) : List (List AV) := (p.hs.map hPart ++ (p.os.take i).flatMap oParts).map (eRow ds)
theorem eRows_len (p : Prog) (ds : List Decl_) (i : Nat) : (eRows p ds i).length = pLen p i := by simp [eRows, pLen]
theorem eRows_succ {p : Prog} {ds : List Decl_} {i : Nat} {o : Of_} (h : p.os[i]? = some o) : eRows p ds (i + 1) = eRows p ds i ++ (oParts o).map (eRow ds) := by
 simp [eRows, List.take_add_one, h, List.flatMap_append]
theorem lab_hs {p : Prog} (hv : validP p = true) {h : Hd} (hm : h ∈ p.hs) : 0 ≤ h.label := ((parts_ok hv).2 (hPart h) (List.mem_append_left _ (List.mem_map_of_mem hm))).lab.1
theorem lab_os {p : Prog} (hv : validP p = true) {o : Of_} (hm : o ∈ p.os) : 0 ≤ o.label := ((parts_ok hv).2 ⟨o.args, o.label, 2⟩ (List.mem_append_right _ (List.mem_flatMap.2 ⟨o, hm, by simp [oParts]⟩))).lab.1
set_option maxHeartbeats 4000000 in
theorem p23 (p : Prog) (ds : List Decl_) (hval : validP p = true) (hd : ∀ d ∈ ds, d.fields.length ≤ 1000) : Pure Try.prog 23 [p.av, .vs 5 (ds.map Decl_.row)] (.vs 4 ((partsP p).map (eRow ds))) := by
 obtain ⟨⟨h1, h2⟩, _⟩ := parts_ok hval
 have hL : ∀ i, pLen p i ≤ 300 := fun i => by
  have := oParts_len (p.os.take i)
  simp only [pLen]
  have : (p.os.take i).length ≤ p.os.length := by simp; omega
  omega
 refine pure_intro mo Try.func23 c23 fun H => ?_
 unfold e23 r23
 simp only [initEnv, initFrom]
 repeat' first|(apply Sp.go;·constructor<;>first|exact ss|(change _=_;first|(simp only[go_sem,Nat.reduceBEq,Nat.reduceAdd,Nat.reduceLeDiff,reduceIte]<;>rfl)|rfl)|exact Nat.le_of_ble_eq_true rfl|decide|(repeat' first|(apply Lk.go;constructor)|assumption|exact nb ‹_› ‹_›|exact nt ‹_› ‹_›))|(intro b hb;repeat first|(refine fe hb ?_;intro _ _ hb)|(refine fT hb ?_;intro hb))|refine rt ?_|refine gA rfl ?_|refine gB rfl ?_|apply cT rfl|apply cF rfl|(apply DM.gbT;rfl)|(apply DM.gbF;rfl)|intro h
 rename Nat => b1
 have hsub0 : HSub H (H.setB b1 27 p.cells) := HSub.setB (HSub.refl _) hb
 apply R.AM.ghostO 5 52 4 (by decide)
 ·simp only [Env.get, Nat.reduceBEq, cond_true, cond_false, beq_self_eq_true]
 intro tv htv
 have htv2 : H.tok tv = none := freshT_setB htv
 have hbp : (H.setB b1 27 p.cells).blk b1 = some (27, p.cells) := g_same
 generalize H.setB b1 27 p.cells = G at htv hsub0 hbp ⊢
 repeat' first|(apply Sp.go;·constructor<;>first|exact ss|(change _=_;first|(simp only[go_sem,Nat.reduceBEq,Nat.reduceAdd,Nat.reduceLeDiff,reduceIte]<;>rfl)|rfl)|exact Nat.le_of_ble_eq_true rfl|decide|(repeat' first|(apply Lk.go;constructor)|assumption|exact nb ‹_› ‹_›|exact nt ‹_› ‹_›))|(intro b hb;repeat first|(refine fe hb ?_;intro _ _ hb)|(refine fT hb ?_;intro hb))|refine rt ?_|refine gA rfl ?_|refine gB rfl ?_|apply cT rfl|apply cF rfl|(apply DM.gbT;rfl)|(apply DM.gbF;rfl)|intro h
 refine AM.loopX (X := Nat) 0 (fun i => [(1, .vs 5 (ds.map Decl_.row)), (2, .ptr b1 0), (6, .int .i64 i), (5, .own tv 4 (((p.hs.take i).map hPart).map (eRow ds)))]) (fun i H' => H' = G.setT tv (.frz 52 4 i) ∧ i ≤ p.hs.length) (fun i => p.hs.length - i) ⟨rfl, by omega⟩ ?_ ?_
 ·(repeat first | exact envle_nil _ | (refine envle_cons ?_ ?_; · (simp only [go_sem, Nat.reduceBEq, Nat.reduceAdd]; exact AVLe.refl _)))
 ·intro i H' ⟨e, hi⟩
  subst e
  have hl0 : (((p.hs.take i).map hPart).map (eRow ds)).length = i := by simp; omega
  have hbp2 : (G.setT tv (.frz 52 4 i)).blk b1 = some (27, p.cells) := g_T hbp
  repeat' first|(apply Sp.go;·constructor<;>first|exact ss|(change _=_;first|(simp only[go_sem,Nat.reduceBEq,Nat.reduceAdd,Nat.reduceLeDiff,reduceIte]<;>rfl)|rfl)|exact Nat.le_of_ble_eq_true rfl|decide|(repeat' first|(apply Lk.go;constructor)|assumption|exact nb ‹_› ‹_›|exact nt ‹_› ‹_›))|(intro b hb;repeat first|(refine fe hb ?_;intro _ _ hb)|(refine fT hb ?_;intro hb))|refine rt ?_|refine gA rfl ?_|refine gB rfl ?_|apply cT rfl|apply cF rfl|(apply DM.gbT;rfl)|(apply DM.gbF;rfl)|intro h
  (apply AM.cond; (· rfl))
  ·intro h3
   simp at h3
   obtain ⟨v, hv⟩ := some_of h3
   have hlab := lab_hs hval (List.mem_of_getElem? hv)
   have c52 := p52 ds v.label hlab hd
   repeat' first|(apply Sp.go;·constructor<;>first|exact ss|(change _=_;first|(simp only[go_sem,Nat.reduceBEq,Nat.reduceAdd,Nat.reduceLeDiff,reduceIte]<;>rfl)|rfl)|exact Nat.le_of_ble_eq_true rfl|decide|(repeat' first|(apply Lk.go;constructor)|assumption|exact nb ‹_› ‹_›|exact nt ‹_› ‹_›))|(intro b hb;repeat first|(refine fe hb ?_;intro _ _ hb)|(refine fT hb ?_;intro hb))|refine rt ?_|refine gA rfl ?_|refine gB rfl ?_|apply cT rfl|apply cF rfl|(apply DM.gbT;rfl)|(apply DM.gbF;rfl)|intro h
   (apply DM.ixV (row := v.row) (z := (i : Int)) (by omega) (row_get Hd.row hv); (· rfl); (· rfl))
   repeat' first|(apply Sp.go;·constructor<;>first|exact ss|(change _=_;first|(simp only[go_sem,Nat.reduceBEq,Nat.reduceAdd,Nat.reduceLeDiff,reduceIte]<;>rfl)|rfl)|exact Nat.le_of_ble_eq_true rfl|decide|(repeat' first|(apply Lk.go;constructor)|assumption|exact nb ‹_› ‹_›|exact nt ‹_› ‹_›))|(intro b hb;repeat first|(refine fe hb ?_;intro _ _ hb)|(refine fT hb ?_;intro hb))|refine gA rfl ?_|refine gB rfl ?_|apply cT rfl|apply cF rfl|(apply DM.gbT;rfl)|(apply DM.gbF;rfl)|intro h
   (refine AM.reg [.vs 1 ((kindsL ds v.label).map irow)] ?_; simp only [annotate, AV.rows])
   repeat' first|(apply Sp.go;·constructor<;>first|exact ss|(change _=_;first|(simp only[go_sem,Nat.reduceBEq,Nat.reduceAdd,Nat.reduceLeDiff,reduceIte]<;>rfl)|rfl)|exact Nat.le_of_ble_eq_true rfl|decide|(repeat' first|(apply Lk.go;constructor)|assumption|exact nb ‹_› ‹_›|exact nt ‹_› ‹_›))|(intro b hb;repeat first|(refine fe hb ?_;intro _ _ hb)|(refine fT hb ?_;intro hb))|refine rt ?_|refine gA rfl ?_|refine gB rfl ?_|apply cT rfl|apply cF rfl|(apply DM.gbT;rfl)|(apply DM.gbF;rfl)|(apply DM.pcRs (c52); (· simp only [go_sem, Nat.reduceBEq, Nat.reduceAdd] <;> rfl); (· exact AVLes.refl _))|intro h
   apply DM.apOr
   ·simp only [EOpd.ev, Env.get, Nat.reduceBEq, cond_true, cond_false, beq_self_eq_true] <;> rfl
   ·(· repeat' first|(apply Lk.go;constructor)|assumption|exact nb ‹_› ‹_›|exact nt ‹_› ‹_›|(apply Lm.go;constructor))
   ·exact hl0
   ·simp only [rowsOf, if_true, eq_self, EOpd.ev, Env.get, Nat.reduceBEq, cond_true, cond_false, beq_self_eq_true] <;> rfl
   ·simp only [List.length_cons, List.length_nil]; omega
   ·simp only [List.length_cons, List.length_nil, maxLen]; omega
   repeat' first|(apply Sp.go;·constructor<;>first|exact ss|(change _=_;first|(simp only[go_sem,Nat.reduceBEq,Nat.reduceAdd,Nat.reduceLeDiff,reduceIte]<;>rfl)|rfl)|exact Nat.le_of_ble_eq_true rfl|decide|(repeat' first|(apply Lk.go;constructor)|assumption|exact nb ‹_› ‹_›|exact nt ‹_› ‹_›))|(intro b hb;repeat first|(refine fe hb ?_;intro _ _ hb)|(refine fT hb ?_;intro hb))|refine rt ?_|refine gA rfl ?_|refine gB rfl ?_|apply cT rfl|apply cF rfl|(apply DM.gbT;rfl)|(apply DM.gbF;rfl)|intro h
   refine AM.forget (G.setT tv (.frz 52 4 (i + 1))) ?_ ?_
   ·refine R.hsub_tok2 ?_ ?_ ?_
    ·intro b x hx
     (· repeat' first|(apply Lk.go;constructor)|assumption|exact nb ‹_› ‹_›|exact nt ‹_› ‹_›)
    ·intro t' x hn hx
     (· repeat' first|(apply Lk.go;constructor)|assumption|exact nb ‹_› ‹_›|exact nt ‹_› ‹_›|(apply Lm.go;constructor))
    ·(· repeat' first|(apply Lk.go;constructor)|assumption|exact nb ‹_› ‹_›|exact nt ‹_› ‹_›|(apply Lm.go;constructor))
   refine AM.roundX (i + 1) ⟨rfl, by omega⟩ ?_ ?_
   ·(repeat first | exact envle_nil _ | (refine envle_cons ?_ ?_; · (simp only [go_sem, Nat.reduceBEq, Nat.reduceAdd]; exact AVLe.refl _)))
    refine envle_cons ?_ ?_
    ·simp only [go_sem, Nat.reduceBEq, Nat.reduceAdd]
     refine avle_int ?_
     rw [inc64 h3 (by unfold maxLen; omega)]
    refine envle_cons ?_ (envle_nil _)
    simp only [Env.get, Nat.reduceBEq, cond_true, cond_false, beq_self_eq_true]
    rw [List.take_add_one, hv]
    refine avle_eq ?_
    simp [hPart, eRow, psAv, rsAv, psOf]
   ·show p.hs.length - (i + 1) < p.hs.length - i
    omega
  ·intro h3
   simp at h3
   have : i = p.hs.length := by omega
   subst this
   repeat' first|(apply Sp.go;·constructor<;>first|exact ss|(change _=_;first|(simp only[go_sem,Nat.reduceBEq,Nat.reduceAdd,Nat.reduceLeDiff,reduceIte]<;>rfl)|rfl)|exact Nat.le_of_ble_eq_true rfl|decide|(repeat' first|(apply Lk.go;constructor)|assumption|exact nb ‹_› ‹_›|exact nt ‹_› ‹_›))|(intro b hb;repeat first|(refine fe hb ?_;intro _ _ hb)|(refine fT hb ?_;intro hb))|refine rt ?_|refine gA rfl ?_|refine gB rfl ?_|apply cT rfl|apply cF rfl|(apply DM.gbT;rfl)|(apply DM.gbF;rfl)|intro h
   refine AM.loopX (X := Nat) 0 (fun i => [(1, .vs 5 (ds.map Decl_.row)), (2, .ptr b1 0), (8, .int .i64 i), (5, .own tv 4 (eRows p ds i))]) (fun i H' => H' = G.setT tv (.frz 52 4 (pLen p i)) ∧ i ≤ p.os.length) (fun i => p.os.length - i) ⟨rfl, by omega⟩ ?_ ?_
   ·refine envle_cons ?_ (envle_cons ?_ (envle_cons ?_ (envle_cons ?_ (envle_nil _))))
    ·simp only [Env.get, Nat.reduceBEq, cond_true, cond_false, beq_self_eq_true]; exact AVLe.refl _
    ·simp only [Env.get, Nat.reduceBEq, cond_true, cond_false, beq_self_eq_true]; exact AVLe.refl _
    ·simp only [Env.get, Nat.reduceBEq, cond_true, cond_false, beq_self_eq_true]; exact AVLe.refl _
    ·simp only [Env.get, Nat.reduceBEq, cond_true, cond_false, beq_self_eq_true]
     rw [List.take_length]
     exact avle_eq (by simp [eRows])
   ·intro i H' ⟨e, hi⟩
    subst e
    have hl1 := eRows_len p ds i
    have hLi := hL i
    have hbp3 : (G.setT tv (.frz 52 4 (pLen p i))).blk b1 = some (27, p.cells) := g_T hbp
    repeat' first|(apply Sp.go;·constructor<;>first|exact ss|(change _=_;first|(simp only[go_sem,Nat.reduceBEq,Nat.reduceAdd,Nat.reduceLeDiff,reduceIte]<;>rfl)|rfl)|exact Nat.le_of_ble_eq_true rfl|decide|(repeat' first|(apply Lk.go;constructor)|assumption|exact nb ‹_› ‹_›|exact nt ‹_› ‹_›))|(intro b hb;repeat first|(refine fe hb ?_;intro _ _ hb)|(refine fT hb ?_;intro hb))|refine rt ?_|refine gA rfl ?_|refine gB rfl ?_|apply cT rfl|apply cF rfl|(apply DM.gbT;rfl)|(apply DM.gbF;rfl)|intro h
    (apply AM.cond; (· rfl))
    ·intro h3
     simp at h3
     obtain ⟨v, hv⟩ := some_of h3
     have e1 := eRows_succ (ds := ds) hv
     have e2 := pLen_succ hv
     have hlab := lab_os hval (List.mem_of_getElem? hv)
     have c52 := p52 ds v.label hlab hd
     repeat' first|(apply Sp.go;·constructor<;>first|exact ss|(change _=_;first|(simp only[go_sem,Nat.reduceBEq,Nat.reduceAdd,Nat.reduceLeDiff,reduceIte]<;>rfl)|rfl)|exact Nat.le_of_ble_eq_true rfl|decide|(repeat' first|(apply Lk.go;constructor)|assumption|exact nb ‹_› ‹_›|exact nt ‹_› ‹_›))|(intro b hb;repeat first|(refine fe hb ?_;intro _ _ hb)|(refine fT hb ?_;intro hb))|refine rt ?_|refine gA rfl ?_|refine gB rfl ?_|apply cT rfl|apply cF rfl|(apply DM.gbT;rfl)|(apply DM.gbF;rfl)|(apply DM.ixV (row := v.row) (z := (i : Int)) (by omega) (row_get Of_.row hv); (· rfl); (· rfl))|intro h
     (apply AM.cond; (· rfl))
     ·intro h4
      simp at h4
      have eo : oParts v = [⟨v.cond, v.label, 1⟩, ⟨v.args, v.label, 2⟩] := by simp [oParts, h4]
      rw [eo] at e1 e2
      repeat' first|(apply Sp.go;·constructor<;>first|exact ss|(change _=_;first|(simp only[go_sem,Nat.reduceBEq,Nat.reduceAdd,Nat.reduceLeDiff,reduceIte]<;>rfl)|rfl)|exact Nat.le_of_ble_eq_true rfl|decide|(repeat' first|(apply Lk.go;constructor)|assumption|exact nb ‹_› ‹_›|exact nt ‹_› ‹_›))|(intro b hb;repeat first|(refine fe hb ?_;intro _ _ hb)|(refine fT hb ?_;intro hb))|refine rt ?_|refine gA rfl ?_|refine gB rfl ?_|apply cT rfl|apply cF rfl|(apply DM.gbT;rfl)|(apply DM.gbF;rfl)|intro h
      apply DM.apOr
      ·simp only [EOpd.ev, Env.get, Nat.reduceBEq, cond_true, cond_false, beq_self_eq_true] <;> rfl
      ·(· repeat' first|(apply Lk.go;constructor)|assumption|exact nb ‹_› ‹_›|exact nt ‹_› ‹_›|(apply Lm.go;constructor))
      ·exact hl1
      ·simp only [rowsOf, if_true, eq_self, EOpd.ev, Env.get, Nat.reduceBEq, cond_true, cond_false, beq_self_eq_true] <;> rfl
      ·simp only [List.length_cons, List.length_nil]; omega
      ·simp only [List.length_cons, List.length_nil, maxLen]; omega
      repeat' first|(apply Sp.go;·constructor<;>first|exact ss|(change _=_;first|(simp only[go_sem,Nat.reduceBEq,Nat.reduceAdd,Nat.reduceLeDiff,reduceIte]<;>rfl)|rfl)|exact Nat.le_of_ble_eq_true rfl|decide|(repeat' first|(apply Lk.go;constructor)|assumption|exact nb ‹_› ‹_›|exact nt ‹_› ‹_›))|(intro b hb;repeat first|(refine fe hb ?_;intro _ _ hb)|(refine fT hb ?_;intro hb))|refine gA rfl ?_|refine gB rfl ?_|apply cT rfl|apply cF rfl|(apply DM.gbT;rfl)|(apply DM.gbF;rfl)|intro h
      (refine AM.reg [.vs 1 ((kindsL ds v.label).map irow)] ?_; simp only [annotate, AV.rows])
      repeat' first|(apply Sp.go;·constructor<;>first|exact ss|(change _=_;first|(simp only[go_sem,Nat.reduceBEq,Nat.reduceAdd,Nat.reduceLeDiff,reduceIte]<;>rfl)|rfl)|exact Nat.le_of_ble_eq_true rfl|decide|(repeat' first|(apply Lk.go;constructor)|assumption|exact nb ‹_› ‹_›|exact nt ‹_› ‹_›))|(intro b hb;repeat first|(refine fe hb ?_;intro _ _ hb)|(refine fT hb ?_;intro hb))|refine rt ?_|refine gA rfl ?_|refine gB rfl ?_|apply cT rfl|apply cF rfl|(apply DM.gbT;rfl)|(apply DM.gbF;rfl)|(apply DM.pcRs (c52); (· simp only [go_sem, Nat.reduceBEq, Nat.reduceAdd] <;> rfl); (· exact AVLes.refl _))|intro h
      apply DM.apOr
      ·simp only [EOpd.ev, Env.get, Nat.reduceBEq, cond_true, cond_false, beq_self_eq_true] <;> rfl
      ·(· repeat' first|(apply Lk.go;constructor)|assumption|exact nb ‹_› ‹_›|exact nt ‹_› ‹_›|(apply Lm.go;constructor))
      ·rw [List.length_append, hl1]
      ·simp only [rowsOf, if_true, eq_self, EOpd.ev, Env.get, Nat.reduceBEq, cond_true, cond_false, beq_self_eq_true] <;> rfl
      ·simp only [List.length_cons, List.length_nil]; omega
      ·simp only [List.length_cons, List.length_nil, maxLen]; omega
      repeat' first|(apply Sp.go;·constructor<;>first|exact ss|(change _=_;first|(simp only[go_sem,Nat.reduceBEq,Nat.reduceAdd,Nat.reduceLeDiff,reduceIte]<;>rfl)|rfl)|exact Nat.le_of_ble_eq_true rfl|decide|(repeat' first|(apply Lk.go;constructor)|assumption|exact nb ‹_› ‹_›|exact nt ‹_› ‹_›))|(intro b hb;repeat first|(refine fe hb ?_;intro _ _ hb)|(refine fT hb ?_;intro hb))|refine rt ?_|refine gA rfl ?_|refine gB rfl ?_|apply cT rfl|apply cF rfl|(apply DM.gbT;rfl)|(apply DM.gbF;rfl)|intro h
      refine AM.forget (G.setT tv (.frz 52 4 (pLen p (i + 1)))) ?_ ?_
      ·refine R.hsub_tok2 ?_ ?_ ?_
       ·intro b x hx
        (· repeat' first|(apply Lk.go;constructor)|assumption|exact nb ‹_› ‹_›|exact nt ‹_› ‹_›)
       ·intro t' x hn hx
        (· repeat' first|(apply Lk.go;constructor)|assumption|exact nb ‹_› ‹_›|exact nt ‹_› ‹_›|(apply Lm.go;constructor))
       ·rw [e2]
        (· repeat' first|(apply Lk.go;constructor)|assumption|exact nb ‹_› ‹_›|exact nt ‹_› ‹_›|(apply Lm.go;constructor))
      refine AM.roundX (i + 1) ⟨rfl, by omega⟩ ?_ ?_
      ·(repeat first | exact envle_nil _ | (refine envle_cons ?_ ?_; · (simp only [go_sem, Nat.reduceBEq, Nat.reduceAdd]; exact AVLe.refl _)))
       refine envle_cons ?_ ?_
       ·simp only [go_sem, Nat.reduceBEq, Nat.reduceAdd]
        refine avle_int ?_
        rw [inc64 h3 (by unfold maxLen; omega)]
       refine envle_cons ?_ (envle_nil _)
       simp only [Env.get, Nat.reduceBEq, cond_true, cond_false, beq_self_eq_true]
       rw [e1]
       refine avle_eq ?_
       simp [psAv, rsAv, rsOf]
      ·show p.os.length - (i + 1) < p.os.length - i
       omega
     ·intro h4
      simp at h4
      have eo : oParts v = [⟨v.args, v.label, 2⟩] := by simp [oParts, h4]
      rw [eo] at e1 e2
      repeat' first|(apply Sp.go;·constructor<;>first|exact ss|(change _=_;first|(simp only[go_sem,Nat.reduceBEq,Nat.reduceAdd,Nat.reduceLeDiff,reduceIte]<;>rfl)|rfl)|exact Nat.le_of_ble_eq_true rfl|decide|(repeat' first|(apply Lk.go;constructor)|assumption|exact nb ‹_› ‹_›|exact nt ‹_› ‹_›))|(intro b hb;repeat first|(refine fe hb ?_;intro _ _ hb)|(refine fT hb ?_;intro hb))|refine gA rfl ?_|refine gB rfl ?_|apply cT rfl|apply cF rfl|(apply DM.gbT;rfl)|(apply DM.gbF;rfl)|intro h
      (refine AM.reg [.vs 1 ((kindsL ds v.label).map irow)] ?_; simp only [annotate, AV.rows])
      repeat' first|(apply Sp.go;·constructor<;>first|exact ss|(change _=_;first|(simp only[go_sem,Nat.reduceBEq,Nat.reduceAdd,Nat.reduceLeDiff,reduceIte]<;>rfl)|rfl)|exact Nat.le_of_ble_eq_true rfl|decide|(repeat' first|(apply Lk.go;constructor)|assumption|exact nb ‹_› ‹_›|exact nt ‹_› ‹_›))|(intro b hb;repeat first|(refine fe hb ?_;intro _ _ hb)|(refine fT hb ?_;intro hb))|refine rt ?_|refine gA rfl ?_|refine gB rfl ?_|apply cT rfl|apply cF rfl|(apply DM.gbT;rfl)|(apply DM.gbF;rfl)|(apply DM.pcRs (c52); (· simp only [go_sem, Nat.reduceBEq, Nat.reduceAdd] <;> rfl); (· exact AVLes.refl _))|intro h
      apply DM.apOr
      ·simp only [EOpd.ev, Env.get, Nat.reduceBEq, cond_true, cond_false, beq_self_eq_true] <;> rfl
      ·(· repeat' first|(apply Lk.go;constructor)|assumption|exact nb ‹_› ‹_›|exact nt ‹_› ‹_›|(apply Lm.go;constructor))
      ·exact hl1
      ·simp only [rowsOf, if_true, eq_self, EOpd.ev, Env.get, Nat.reduceBEq, cond_true, cond_false, beq_self_eq_true] <;> rfl
      ·simp only [List.length_cons, List.length_nil]; omega
      ·simp only [List.length_cons, List.length_nil, maxLen]; omega
      repeat' first|(apply Sp.go;·constructor<;>first|exact ss|(change _=_;first|(simp only[go_sem,Nat.reduceBEq,Nat.reduceAdd,Nat.reduceLeDiff,reduceIte]<;>rfl)|rfl)|exact Nat.le_of_ble_eq_true rfl|decide|(repeat' first|(apply Lk.go;constructor)|assumption|exact nb ‹_› ‹_›|exact nt ‹_› ‹_›))|(intro b hb;repeat first|(refine fe hb ?_;intro _ _ hb)|(refine fT hb ?_;intro hb))|refine rt ?_|refine gA rfl ?_|refine gB rfl ?_|apply cT rfl|apply cF rfl|(apply DM.gbT;rfl)|(apply DM.gbF;rfl)|intro h
      refine AM.forget (G.setT tv (.frz 52 4 (pLen p (i + 1)))) ?_ ?_
      ·refine R.hsub_tok2 ?_ ?_ ?_
       ·intro b x hx
        (· repeat' first|(apply Lk.go;constructor)|assumption|exact nb ‹_› ‹_›|exact nt ‹_› ‹_›)
       ·intro t' x hn hx
        (· repeat' first|(apply Lk.go;constructor)|assumption|exact nb ‹_› ‹_›|exact nt ‹_› ‹_›|(apply Lm.go;constructor))
       ·rw [e2]
        (· repeat' first|(apply Lk.go;constructor)|assumption|exact nb ‹_› ‹_›|exact nt ‹_› ‹_›|(apply Lm.go;constructor))
      refine AM.roundX (i + 1) ⟨rfl, by omega⟩ ?_ ?_
      ·(repeat first | exact envle_nil _ | (refine envle_cons ?_ ?_; · (simp only [go_sem, Nat.reduceBEq, Nat.reduceAdd]; exact AVLe.refl _)))
       refine envle_cons ?_ ?_
       ·simp only [go_sem, Nat.reduceBEq, Nat.reduceAdd]
        refine avle_int ?_
        rw [inc64 h3 (by unfold maxLen; omega)]
       refine envle_cons ?_ (envle_nil _)
       simp only [Env.get, Nat.reduceBEq, cond_true, cond_false, beq_self_eq_true]
       rw [e1]
       refine avle_eq ?_
       simp [psAv, rsAv, rsOf]
      ·show p.os.length - (i + 1) < p.os.length - i
       omega
    ·intro h3
     simp at h3
     have : i = p.os.length := by omega
     subst this
     repeat' first|(apply Sp.go;·constructor<;>first|exact ss|(change _=_;first|(simp only[go_sem,Nat.reduceBEq,Nat.reduceAdd,Nat.reduceLeDiff,reduceIte]<;>rfl)|rfl)|exact Nat.le_of_ble_eq_true rfl|decide|(repeat' first|(apply Lk.go;constructor)|assumption|exact nb ‹_› ‹_›|exact nt ‹_› ‹_›))|(intro b hb;repeat first|(refine fe hb ?_;intro _ _ hb)|(refine fT hb ?_;intro hb))|refine rt ?_|refine gA rfl ?_|refine gB rfl ?_|apply cT rfl|apply cF rfl|(apply DM.gbT;rfl)|(apply DM.gbF;rfl)|intro h
     (apply Sr.go;·constructor<;>first|(apply Lk.go;constructor<;>first|exact ss|(change _=_;first|(simp only[go_sem,Nat.reduceBEq,Nat.reduceAdd,Nat.reduceLeDiff,reduceIte]<;>rfl)|rfl)|exact Nat.le_of_ble_eq_true rfl|decide|(repeat' first|(apply Lk.go;constructor)|assumption|exact nb ‹_› ‹_›|exact nt ‹_› ‹_›))|assumption)
     simp only [eRows, List.take_length]
     exact AVLe.own
theorem rvC_le {m : Mem} : ∀ {az bs : List AV} {b o : Nat}, AVLes az bs → RvC m az b o → RvC m bs b o
 | [], bs, _, _, h, _ => by simp only [AVLes] at h; subst h; simp only [RvC]
 | a :: az, _, b, o, h, k => by
  obtain ⟨c, cs, rfl, h1, h2⟩ := h
  simp only [RvC] at k ⊢
  obtain ⟨⟨v, g1, g2, g3, g4⟩, g5⟩ := k
  exact ⟨⟨v, g1, g2, g3, h1 _ _ g4⟩, rvC_le h2 g5⟩
theorem avles_len : ∀ {az bs : List AV}, AVLes az bs → bs.length = az.length
 | [], _, h => by simp only [AVLes] at h; subst h; rfl
 | _ :: _, _, h => by obtain ⟨c, cs, rfl, _, h2⟩ := h; simp [avles_len h2]
def AVLr : List (List AV) → List (List AV) → Prop
 | [], l => l = []
 | r :: rs, l => ∃ r' rs', l = r' :: rs' ∧ AVLes r r' ∧ AVLr rs rs'
theorem avlr_nil : AVLr [] [] := rfl
theorem avlr_cons {r r' : List AV} {rs rs' : List (List AV)} (h : AVLes r r') (k : AVLr rs rs') : AVLr (r :: rs) (r' :: rs') := ⟨r', rs', rfl, h, k⟩
theorem avlr_len : ∀ {az bs : List (List AV)}, AVLr az bs → bs.length = az.length
 | [], _, h => by simp only [AVLr] at h; subst h; rfl
 | _ :: _, _, h => by obtain ⟨c, cs, rfl, _, h2⟩ := h; simp [avlr_len h2]
theorem rvR_le {m : Mem} {n : Nat} : ∀ {az bs : List (List AV)} {b o : Nat}, AVLr az bs → RvR m n az b o → RvR m n bs b o
 | [], bs, _, _, h, _ => by simp only [AVLr] at h; subst h; simp only [RvR]
 | a :: az, _, b, o, h, k => by
  obtain ⟨c, cs, rfl, h1, h2⟩ := h
  simp only [RvR] at k ⊢
  exact ⟨(avles_len h1).trans k.1, rvC_le h1 k.2.1, rvR_le h2 k.2.2⟩
theorem avle_vs {n : Nat} {az bs : List (List AV)} (h : AVLr az bs) : AVLe (.vs n az) (.vs n bs) := fun m v k => by
 have e := avlr_len h
 simp only [Rv] at k ⊢
 obtain ⟨a, len, cap, h1, h2, h3, h4⟩ := k
 refine ⟨a, len, cap, h1, h2.trans e.symm, h3, ?_⟩
 rcases h4 with h4 | ⟨b, o, g1, g2⟩
 ·exact .inl (e.trans h4)
 ·exact .inr ⟨b, o, g1, rvR_le h g2⟩
def pA : Prog := ⟨[115], 0, [⟨[110], ⟨1, 0, 9⟩, ⟨1, 0, []⟩⟩], [], [⟨1, 0, -1, 0⟩], [⟨3, 0, []⟩, ⟨24, 0, []⟩]⟩
def qA : Prog := ⟨[115], 0, [⟨[110], ⟨1, 0, 9⟩, ⟨1, 0, []⟩⟩], [], [⟨1, 0, -1, 0⟩], [⟨2, 0, [97]⟩, ⟨11, 0, []⟩, ⟨24, 0, []⟩]⟩
def dsA : List Decl_ := [⟨[109], [⟨[120], ⟨1, 0, 9⟩⟩], 0, [], []⟩]
theorem checkA : checkP pA dsA = (0, 0) := by decide +kernel
theorem checkB : checkP qA dsA = (1, 11) := by decide +kernel
theorem costA : costP pA 0 [] [1] = (2, 0, 0) := by decide +kernel
theorem le_dsA : AVLe (.vs 5 [[.str [109], .vs 4 [[.str [120], .int .i64 1, .int .i64 0, .int .i64 9]], .int .i64 0, .nilS, .nilS]]) (.vs 5 (dsA.map Decl_.row)) :=
 avle_vs (avlr_cons (avles_cons (AVLe.refl _) (avles_cons (AVLe.refl _) (avles_cons (AVLe.refl _) (avles_cons AVLe.nil (avles_cons AVLe.nil avles_nil))))) avlr_nil)
theorem le_prog {nm : List UInt8} {rl : Int} {vs : List Var_} {os : List Of_} {cs : List Ins_} : AVLe (.agg [.str nm, .int .i64 rl, .vs 7 (vs.map Var_.row), .nilS, .vs 4 (os.map Of_.row), .vs 3 (cs.map Ins_.row)]) (Prog.av ⟨nm, rl, vs, [], os, cs⟩) :=
 avle_agg (avles_cons (AVLe.refl _) (avles_cons (AVLe.refl _) (avles_cons (AVLe.refl _) (avles_cons AVLe.nil (avles_cons (AVLe.refl _) (avles_cons (AVLe.refl _) avles_nil))))))
set_option maxHeartbeats 4000000 in
theorem p15 : Pure Try.prog 15 [] (.bool true) := by
 have hd : ∀ d ∈ dsA, d.fields.length ≤ 1000 := fun d h => by simp [dsA] at h; subst h; simp
 have c1 := p21 pA dsA hd
 have c2 := p21 qA dsA hd
 have c3 := p17 pA 0 [] [1] (by simp)
 rw [checkA] at c1
 rw [checkB] at c2
 rw [costA] at c3
 refine pure_intro mo Try.func15 c15 fun H => ?_
 unfold e15 r15
 simp only [initEnv, initFrom]
 repeat' first|(apply Sp.go;·constructor<;>first|exact ss|(change _=_;first|(simp only[go_sem,Nat.reduceBEq,Nat.reduceAdd,Nat.reduceLeDiff,reduceIte]<;>rfl)|rfl)|exact Nat.le_of_ble_eq_true rfl|decide|(repeat' first|(apply Lk.go;constructor)|assumption|exact nb ‹_› ‹_›|exact nt ‹_› ‹_›))|(intro b hb;repeat first|(refine fe hb ?_;intro _ _ hb)|(refine fT hb ?_;intro hb))|refine gA rfl ?_|refine gB rfl ?_|apply cT rfl|apply cF rfl|(apply DM.gbT;rfl)|(apply DM.gbF;rfl)|intro h
 (refine AM.reg [.agg [.int .i64 1, .int .i64 0, .str []]] ?_; simp only [annotate, AV.rows])
 repeat' first|(apply Sp.go;·constructor<;>first|exact ss|(change _=_;first|(simp only[go_sem,Nat.reduceBEq,Nat.reduceAdd,Nat.reduceLeDiff,reduceIte]<;>rfl)|rfl)|exact Nat.le_of_ble_eq_true rfl|decide|(repeat' first|(apply Lk.go;constructor)|assumption|exact nb ‹_› ‹_›|exact nt ‹_› ‹_›))|(intro b hb;repeat first|(refine fe hb ?_;intro _ _ hb)|(refine fT hb ?_;intro hb))|refine rt ?_|refine gA rfl ?_|refine gB rfl ?_|apply cT rfl|apply cF rfl|(apply DM.gbT;rfl)|(apply DM.gbF;rfl)|(apply DM.pcRs (p29 0); (· simp only [go_sem, Nat.reduceBEq, Nat.reduceAdd] <;> rfl); (· exact AVLes.refl _))|intro h
 apply DM.pcs c1
 ·simp only [go_sem, Nat.reduceBEq, Nat.reduceAdd] <;> rfl
 ·exact avles_cons (le_prog (nm := [115]) (rl := 0) (vs := pA.vars) (os := pA.os) (cs := pA.code)) (avles_cons le_dsA avles_nil)
 repeat' first|(apply Sp.go;·constructor<;>first|exact ss|(change _=_;first|(simp only[go_sem,Nat.reduceBEq,Nat.reduceAdd,Nat.reduceLeDiff,reduceIte]<;>rfl)|rfl)|exact Nat.le_of_ble_eq_true rfl|decide|(repeat' first|(apply Lk.go;constructor)|assumption|exact nb ‹_› ‹_›|exact nt ‹_› ‹_›))|(intro b hb;repeat first|(refine fe hb ?_;intro _ _ hb)|(refine fT hb ?_;intro hb))|refine rt ?_|refine gA rfl ?_|refine gB rfl ?_|apply cT rfl|apply cF rfl|(apply DM.gbT;rfl)|(apply DM.gbF;rfl)|intro h
 apply DM.pcs c2
 ·simp only [go_sem, Nat.reduceBEq, Nat.reduceAdd] <;> rfl
 ·exact avles_cons (le_prog (nm := [115]) (rl := 0) (vs := qA.vars) (os := qA.os) (cs := qA.code)) (avles_cons le_dsA avles_nil)
 repeat' first|(apply Sp.go;·constructor<;>first|exact ss|(change _=_;first|(simp only[go_sem,Nat.reduceBEq,Nat.reduceAdd,Nat.reduceLeDiff,reduceIte]<;>rfl)|rfl)|exact Nat.le_of_ble_eq_true rfl|decide|(repeat' first|(apply Lk.go;constructor)|assumption|exact nb ‹_› ‹_›|exact nt ‹_› ‹_›))|(intro b hb;repeat first|(refine fe hb ?_;intro _ _ hb)|(refine fT hb ?_;intro hb))|refine rt ?_|refine gA rfl ?_|refine gB rfl ?_|apply cT rfl|apply cF rfl|(apply DM.gbT;rfl)|(apply DM.gbF;rfl)|intro h
 apply DM.pcs c3
 ·simp only [go_sem, Nat.reduceBEq, Nat.reduceAdd] <;> rfl
 ·exact avles_cons (le_prog (nm := [115]) (rl := 0) (vs := pA.vars) (os := pA.os) (cs := pA.code)) (avles_cons (AVLe.refl _) (avles_cons AVLe.nil (avles_cons (AVLe.refl _) avles_nil)))
 repeat' first|(apply Sp.go;·constructor<;>first|exact ss|(change _=_;first|(simp only[go_sem,Nat.reduceBEq,Nat.reduceAdd,Nat.reduceLeDiff,reduceIte]<;>rfl)|rfl)|exact Nat.le_of_ble_eq_true rfl|decide|(repeat' first|(apply Lk.go;constructor)|assumption|exact nb ‹_› ‹_›|exact nt ‹_› ‹_›))|(intro b hb;repeat first|(refine fe hb ?_;intro _ _ hb)|(refine fT hb ?_;intro hb))|refine rt ?_|refine gA rfl ?_|refine gB rfl ?_|apply cT rfl|apply cF rfl|(apply DM.gbT;rfl)|(apply DM.gbF;rfl)|intro h
 (apply Sr.go;·constructor<;>first|(apply Lk.go;constructor<;>first|exact ss|(change _=_;first|(simp only[go_sem,Nat.reduceBEq,Nat.reduceAdd,Nat.reduceLeDiff,reduceIte]<;>rfl)|rfl)|exact Nat.le_of_ble_eq_true rfl|decide|(repeat' first|(apply Lk.go;constructor)|assumption|exact nb ‹_› ‹_›|exact nt ‹_› ‹_›))|assumption)
 exact AVLe.refl _
theorem checkF_ok {p : Prog} {ds : List Decl_} : ∀ {l : List Part}, (checkF p ds l).2 = 0 → ∀ x ∈ l, x.label < (ds.length : Int) ∧ (costP p x.at_ (psOf ds x) (rsOf ds x)).2.2 = 0 ∧ (costP p x.at_ (psOf ds x) (rsOf ds x)).1 ≤ 5000
 | [], _, x, hx => by simp at hx
 | y :: l, h, x, hx => by
  rw [checkF] at h
  split at h
  ·cases h
  ·rename_i h1
   split at h
   ·rename_i h2; exact absurd h h2
   ·rename_i h2
    split at h
    ·cases h
    ·rename_i h3
     rcases List.mem_cons.1 hx with rfl | hx
     ·exact ⟨by omega, by simpa using h2, by omega⟩
     ·exact checkF_ok h x hx
theorem check_valid {p : Prog} {ds : List Decl_} (h : (checkP p ds).2 = 0) : validP p = true ∧ (checkF p ds (partsP p)).2 = 0 := by
 unfold checkP at h
 cases hv : validP p with
 | false => rw [hv] at h; simp at h
 | true => rw [hv] at h; exact ⟨rfl, by simpa using h⟩
theorem psAv_le (ds : List Decl_) (x : Part) : AVLe (psAv ds x) (.vs 1 ((psOf ds x).map irow)) := by
 unfold psAv
 split
 ·exact AVLe.refl _
 ·rw [show psOf ds x = [] by simp [psOf, *]]; exact AVLe.nil
theorem rsAv_le (ds : List Decl_) (x : Part) : AVLe (rsAv ds x) (.vs 1 ((rsOf ds x).map irow)) := by
 unfold rsAv
 split
 ·rw [show rsOf ds x = [] by simp [rsOf, *]]; exact AVLe.nil
 ·exact AVLe.refl _
theorem psOf_len {ds : List Decl_} (hd : ∀ d ∈ ds, d.fields.length ≤ 1000) (x : Part) : (psOf ds x).length ≤ 1000 := by
 unfold psOf; split
 ·exact kindsL_len hd _
 ·simp
def WV (v : Val) : Prop := (v.k = 1 ∧ v.s = []) ∨ (v.k = 2 ∧ v.n = 0 ∧ v.s.length ≤ 40 ∧ printable v.s = true)
theorem wv_valid {v : Val} (h : validV v = true) : WV v := by
 simp only [validV, Bool.or_eq_true, Bool.and_eq_true, decide_eq_true_eq] at h
 rcases h with h | h
 ·exact .inl ⟨h.1.1.1, h.2⟩
 ·exact .inr ⟨h.1.1.1, h.1.1.2, h.1.2, h.2⟩
theorem WV.kk {v : Val} (h : WV v) : v.k = 1 ∨ v.k = 2 := by
 rcases h with h | h
 ·exact .inl h.1
 ·exact .inr h.1
structure TS (st : List Val) (ks : List Int) : Prop where
 k : st.map (fun v => v.k) = ks
 wv : ∀ v ∈ st, WV v
abbrev FV (p : Prog) (vs : List Val) : Prop := eqF (fun (v : Var_) (x : Val) => fitsV v.sort x) p.vars vs = true
theorem TS.len {st : List Val} {ks : List Int} (h : TS st ks) : ks.length = st.length := by rw [← h.k]; simp
theorem TS.push {st : List Val} {ks : List Int} {v : Val} {k : Int} (h : TS st ks) (hk : v.k = k) (hw : WV v) : TS (st ++ [v]) (ks ++ [k]) :=
 ⟨by rw [List.map_append, h.k]; simp [hk], fun u hu => by
  rcases List.mem_append.1 hu with hu | hu
  ·exact h.wv u hu
  ·simp at hu; subst hu; exact hw⟩
theorem TS.snoc {st : List Val} {l : List Int} {a : Int} (h : TS st (l ++ [a])) : ∃ s v, st = s ++ [v] ∧ v.k = a ∧ WV v ∧ TS s l := by
 rcases List.eq_nil_or_concat st with e | ⟨s, v, e⟩
 ·subst e; have := h.k; simp at this
 ·have e : st = s ++ [v] := by simpa using e
  subst e
  have hk := h.k
  simp only [List.map_append, List.map_cons, List.map_nil] at hk
  obtain ⟨h1, h2⟩ := List.append_inj' hk rfl
  exact ⟨s, v, rfl, by simpa using h2, h.wv v (by simp), h1, fun u hu => h.wv u (by simp [hu])⟩
theorem TS.nil {st : List Val} (h : TS st []) : st = [] := by have := h.k; simpa using this
theorem pop_ok {M : Mach} {s : List Val} {v : Val} {k : Int} (ht : M.tr = false) (hs : M.stack = s ++ [v]) (hk : k = 0 ∨ v.k = k) : pop k M = (v, { M with stack := s }) := by
 have h1 : M.stack.getLast? = some v := by rw [hs]; simp
 have h2 : popTrap k M = false := by
  unfold popTrap
  rw [h1, ht]
  simp
  intro h; exact hk.resolve_left h
 unfold pop
 rw [h2, h1, hs]
 simp
theorem pop_tr {M : Mach} {k : Int} (h : popTrap k M = true) : pop k M = (val0, { M with tr := true }) := by
 unfold pop; rw [h]; rfl
theorem pop_tr1 {M : Mach} {k : Int} (h : M.tr = true) : (pop k M).2.tr = true := by
 rw [pop_tr (by simp [popTrap, h])]
theorem pop_nilT {M : Mach} {k : Int} (h : M.stack = []) : (pop k M).2.tr = true := by
 rw [pop_tr (by simp [popTrap, h])]
theorem pop_badT {M : Mach} {s : List Val} {v : Val} {k : Int} (hs : M.stack = s ++ [v]) (hk : k ≠ 0) (hv : v.k ≠ k) : (pop k M).2.tr = true := by
 rw [pop_tr (by simp [popTrap, hs, hk, hv])]
theorem result_tr {n : Int} {M : Mach} (h : M.tr = true) : (result n M).tr = true := by unfold result; rw [if_pos h]; exact h
theorem push_ty {M : Mach} {v : Val} {k : Int} {ks ks' : List Int} (h : TS M.stack ks) (hp : pushK k ks = some ks') (hk : v.k = k) (hw : WV v) : push v M = { M with stack := M.stack ++ [v] } ∧ TS (M.stack ++ [v]) ks' := by
 have hl := h.len
 unfold pushK at hp
 split at hp
 ·cases hp
  exact ⟨by unfold push; rw [if_neg (by omega)], h.push hk hw⟩
 ·cases hp
theorem push_no {M : Mach} {v : Val} {k : Int} {ks : List Int} (h : TS M.stack ks) (hp : pushK k ks = none) : (push v M).tr = true := by
 have hl := h.len
 unfold pushK at hp
 split at hp
 ·cases hp
 ·unfold push; rw [if_pos (by omega)]
theorem result_ty {M : Mach} {n : Int} {ks : List Int} (ht : M.tr = false) (h : TS M.stack ks) (hl : ks.length < 16) : result n M = { M with stack := M.stack ++ [intV n] } ∧ TS (M.stack ++ [intV n]) (ks ++ [1]) := by
 have := push_ty (v := intV n) (k := 1) h (show pushK 1 ks = some (ks ++ [1]) by simp [pushK, hl]) rfl (.inl ⟨rfl, rfl⟩)
 have e : result n M = push (intV n) M := by unfold result; rw [if_neg (by rw [ht]; simp)]
 rw [e]
 exact this
abbrev StepTo (p : Prog) (ps : List Val) (x : Ins_) (M : Mach) (o : Option (List Int)) : Prop :=
 (∀ st', o = some st' → ∃ stk vs, stepX p ps x M = { M with stack := stk, vars := vs } ∧ TS stk st' ∧ FV p vs) ∧ (o = none → (stepX p ps x M).tr = true)
theorem sto_some {p : Prog} {ps : List Val} {x : Ins_} {M : Mach} {st : List Int} {o : Option (List Int)} (e : o = some st) (stk vs : List Val) (h1 : stepX p ps x M = { M with stack := stk, vars := vs }) (h2 : TS stk st) (h3 : FV p vs) : StepTo p ps x M o :=
 ⟨fun st' h => (by rw [e] at h; cases h; exact ⟨stk, vs, h1, h2, h3⟩), fun h => (by rw [e] at h; cases h)⟩
theorem sto_none {p : Prog} {ps : List Val} {x : Ins_} {M : Mach} {o : Option (List Int)} (e : o = none) (h : (stepX p ps x M).tr = true) : StepTo p ps x M o :=
 ⟨fun st' h => (by rw [e] at h; cases h), fun _ => h⟩
theorem sort_ok {p : Prog} (hval : validP p = true) {w : Var_} (hw : w ∈ p.vars) : validS w.sort = true := by
 obtain ⟨i, hi⟩ := List.getElem?_of_mem hw
 simp only [validP, varsOk, Bool.and_eq_true] at hval
 have h := hval.1.1.2.1
 simp only [allI, List.all_eq_true, List.mem_range] at h
 have := h i (List.getElem?_eq_some_iff.1 hi).1
 simp [okVar, hi, fitsV] at this
 exact this.2.1.1.1.1
theorem clampN_valid {v : Val} (h : WV v) : validV (clampN v) = true := by
 have a : -1000 ≤ max (-1000) (min 1000 v.n) ∧ max (-1000) (min 1000 v.n) ≤ 1000 := by omega
 unfold validV clampN
 rcases h with ⟨h1, h2⟩ | ⟨h1, h2, h3, h4⟩
 ·simp [h1, h2, a.1, a.2]
 ·simp [h1, h2, h3, h4]; decide
theorem fv_get {p : Prog} {vs : List Val} (h : FV p vs) {i : Nat} {w : Var_} (hw : p.vars[i]? = some w) : ∃ v, vs[i]? = some v ∧ fitsV w.sort v = true := by
 have hf := eqF_iff.1 h
 obtain ⟨v, hv⟩ := some_of (show i < vs.length by have := (List.getElem?_eq_some_iff.1 hw).1; omega)
 exact ⟨v, hv, hf.2 i w v hw hv⟩
theorem fits_kv {s : Sort_} {v : Val} (h : fitsV s v = true) : v.k = s.k ∧ validV v = true := by
 simp only [fitsV, Bool.and_eq_true, decide_eq_true_eq] at h
 exact ⟨h.1.1.2.symm, h.1.1.1.2⟩
theorem fv_set {p : Prog} {vs : List Val} (h : FV p vs) {i : Nat} {w : Var_} {c : Val} (hw : p.vars[i]? = some w) (hc : fitsV w.sort c = true) : FV p (vs.set i c) := by
 have hf := eqF_iff.1 h
 refine eqF_iff.2 ⟨by simpa using hf.1, fun j a b ha hb => ?_⟩
 by_cases e : j = i
 ·subst e
  rw [hw] at ha
  cases ha
  rw [List.getElem?_set_self (by have := (List.getElem?_eq_some_iff.1 hw).1; have := hf.1; omega)] at hb
  cases hb
  exact hc
 ·rw [List.getElem?_set_ne (Ne.symm e)] at hb
  exact hf.2 j a b ha hb
theorem store_ty {p : Prog} (hval : validP p = true) {M : Mach} {st : List Int} (ht : M.tr = false) (hs : TS M.stack st) (hf : FV p M.vars) {i : Nat} {w : Var_} (hw : p.vars[i]? = some w) :
  (∀ st', popK w.sort.k st = some st' → ∃ stk vs, storeM w.sort i M = { M with stack := stk, vars := vs } ∧ TS stk st' ∧ FV p vs) ∧ (popK w.sort.k st = none → (storeM w.sort i M).tr = true) := by
 have hso := sort_ok hval (List.mem_of_getElem? hw)
 have hk0 : w.sort.k ≠ 0 := by
  intro e; simp [validS, e] at hso
 rcases concat_cases st with rfl | ⟨l, a, rfl⟩
 ·refine ⟨fun st' h => (by cases h), fun _ => ?_⟩
  have := pop_nilT (k := w.sort.k) hs.nil
  unfold storeM; rw [if_pos this]; exact this
 ·obtain ⟨s, v, e1, e2, e3, e4⟩ := hs.snoc
  rw [pop_snoc]
  by_cases ha : a = w.sort.k
  ·rw [if_pos ha]
   refine ⟨fun st' h => ?_, fun h => by cases h⟩
   cases h
   have hp := pop_ok (k := w.sort.k) ht e1 (.inr (e2.trans ha))
   have hcl : (clampV w.sort (clampN v)).2 = 0 := by
    unfold clampV
    rw [if_neg (by rw [hso, clampN_valid e3]; simp), if_neg (by show ¬ w.sort.k ≠ v.k; rw [e2, ha]; simp)]
    split <;> rfl
   refine ⟨s, M.vars.set i (clampV w.sort (clampN v)).1, ?_, e4, fv_set hf hw (clamp_fits hcl)⟩
   unfold storeM
   rw [hp]
   dsimp only
   rw [if_neg (by rw [ht]; simp), if_pos hcl]
  ·rw [if_neg ha]
   refine ⟨fun st' h => (by cases h), fun _ => ?_⟩
   have := pop_badT (k := w.sort.k) e1 hk0 (by rw [e2]; exact ha)
   unfold storeM; rw [if_pos this]; exact this
theorem pop1_res {p : Prog} {ps : List Val} {x : Ins_} {M : Mach} {st : List Int} (k : Int) (hk : k ≠ 0) (hst : st.length ≤ 16) (ht : M.tr = false) (hs : TS M.stack st) (hf : FV p M.vars) (f : Val → Int) (he : stepX p ps x M = result (f (pop k M).1) (pop k M).2) :
  StepTo p ps x M ((popsK [k] st).bind (pushK 1)) := by
 rcases concat_cases st with rfl | ⟨l, a, rfl⟩
 ·exact sto_none rfl (by rw [he]; exact result_tr (pop_nilT hs.nil))
 ·obtain ⟨s, v, e1, e2, e3, e4⟩ := hs.snoc
  have hl : l.length < 16 := by simp at hst; omega
  by_cases ha : a = k
  ·refine sto_some (st := l ++ [1]) (by rw [popsK, pop_snoc, if_pos ha]; simp [popsK, pushK, hl]) (s ++ [intV (f v)]) M.vars ?_ (e4.push rfl (.inl ⟨rfl, rfl⟩)) hf
   rw [he, pop_ok ht e1 (.inr (e2.trans ha))]
   exact (result_ty (M := { M with stack := s }) ht e4 hl).1
  ·exact sto_none (by rw [popsK, pop_snoc, if_neg ha]; rfl) (by rw [he]; exact result_tr (pop_badT e1 hk (by rw [e2]; exact ha)))
theorem pop2_ty {M : Mach} {st : List Int} (k : Int) (hk : k ≠ 0) (ht : M.tr = false) (hs : TS M.stack st) :
  (∀ st', popsK [k, k] st = some st' → ∃ s u v, pop k M = (v, { M with stack := s ++ [u] }) ∧ pop k { M with stack := s ++ [u] } = (u, { M with stack := s }) ∧ WV u ∧ WV v ∧ u.k = k ∧ v.k = k ∧ TS s st' ∧ st'.length + 2 = st.length) ∧ (popsK [k, k] st = none → (pop k (pop k M).2).2.tr = true) := by
 rcases concat_cases st with rfl | ⟨l, a, rfl⟩
 ·exact ⟨fun st' h => (by cases h), fun _ => pop_tr1 (pop_nilT hs.nil)⟩
 ·obtain ⟨s, v, e1, e2, e3, e4⟩ := hs.snoc
  rw [popsK, pop_snoc]
  by_cases ha : a = k
  ·rw [if_pos ha, Option.bind_some]
   have h1 := pop_ok (k := k) ht e1 (.inr (e2.trans ha))
   rcases concat_cases l with rfl | ⟨l, b, rfl⟩
   ·refine ⟨fun st' h => (by cases h), fun _ => ?_⟩
    rw [h1]
    exact pop_nilT e4.nil
   ·obtain ⟨s2, u, g1, g2, g3, g4⟩ := e4.snoc
    rw [popsK, pop_snoc]
    by_cases hb : b = k
    ·rw [if_pos hb]
     refine ⟨fun st' h => ?_, fun h => by cases h⟩
     simp [popsK] at h
     subst h
     subst g1
     exact ⟨s2, u, v, h1, pop_ok (M := { M with stack := s2 ++ [u] }) ht rfl (.inr (g2.trans hb)), g3, e3, g2.trans hb, e2.trans ha, g4, by simp⟩
    ·rw [if_neg hb]
     refine ⟨fun st' h => (by cases h), fun _ => ?_⟩
     rw [h1]
     exact pop_badT (M := { M with stack := s }) g1 hk (by rw [g2]; exact hb)
  ·rw [if_neg ha]
   exact ⟨fun st' h => (by cases h), fun _ => pop_tr1 (pop_badT e1 hk (by rw [e2]; exact ha))⟩
theorem pop2_res {p : Prog} {ps : List Val} {x : Ins_} {M : Mach} {st : List Int} (k : Int) (hk : k ≠ 0) (hst : st.length ≤ 16) (ht : M.tr = false) (hs : TS M.stack st) (hf : FV p M.vars) (f : Val → Val → Int) (he : stepX p ps x M = result (f (pop k (pop k M).2).1 (pop k M).1) (pop k (pop k M).2).2) :
  StepTo p ps x M ((popsK [k, k] st).bind (pushK 1)) := by
 obtain ⟨h1, h2⟩ := pop2_ty k hk ht hs
 cases hp : popsK [k, k] st with
 | none => exact sto_none rfl (by rw [he]; exact result_tr (h2 hp))
 | some st' =>
  obtain ⟨s, u, v, g1, g2, _, _, _, _, g5, g6⟩ := h1 st' hp
  refine sto_some (st := st' ++ [1]) (by simp [pushK]; omega) (s ++ [intV (f u v)]) M.vars ?_ (g5.push rfl (.inl ⟨rfl, rfl⟩)) hf
  rw [he, g1]
  dsimp only
  rw [g2]
  exact (result_ty (M := { M with stack := s }) ht g5 (by omega)).1
theorem printable_app {a b : List UInt8} (h1 : printable a = true) (h2 : printable b = true) : printable ((a ++ b).take 40) = true := by
 simp only [printable, List.all_eq_true] at *
 intro x hx
 rcases List.mem_append.1 (List.mem_of_mem_take hx) with h | h
 ·exact h1 x h
 ·exact h2 x h
theorem vals_step {p : Prog} (hval : validP p = true) {ps : List Val} {rr : List Int} {x : Ins_} (hx : x ∈ p.code) {M : Mach} {st : List Int} (hst : st.length ≤ 16) (ht : M.tr = false) (hs : TS M.stack st) (hf : FV p M.vars) (hps : ∀ v ∈ ps, validV v = true) (hop : ¬ (19 ≤ x.op ∧ x.op ≤ 24)) :
  StepTo p ps x M (valuesP p (ps.map fun v => v.k) rr x st) := by
 have hok := jump_ok hval hx
 have hin := insOk hval hx
 by_cases h1 : x.op = 1
 ·have ev : valuesP p (ps.map fun v => v.k) rr x st = pushK 1 st := by simp [valuesP, h1]
  have es : stepX p ps x M = push (intV x.n) M := by simp [stepX, h1]
  rw [ev]
  cases hp : pushK 1 st with
  | none => exact sto_none rfl (by rw [es]; exact push_no hs hp)
  | some st' =>
   obtain ⟨g1, g2⟩ := push_ty (v := intV x.n) hs hp rfl (.inl ⟨rfl, rfl⟩)
   exact sto_some rfl _ M.vars (es.trans g1) g2 hf
 by_cases h2 : x.op = 2
 ·have ev : valuesP p (ps.map fun v => v.k) rr x st = pushK 2 st := by simp [valuesP, h2]
  have es : stepX p ps x M = push ⟨2, 0, x.s⟩ M := by simp [stepX, h2]
  have hfm : validV ⟨2, 0, x.s⟩ = true := by
   simp only [okIns, Bool.and_eq_true] at hok
   have := hok.1
   rw [formed, if_pos h2, Bool.and_eq_true] at this
   exact this.2
  rw [ev]
  cases hp : pushK 2 st with
  | none => exact sto_none rfl (by rw [es]; exact push_no hs hp)
  | some st' =>
   obtain ⟨g1, g2⟩ := push_ty (v := ⟨2, 0, x.s⟩) hs hp rfl (wv_valid hfm)
   exact sto_some rfl _ M.vars (es.trans g1) g2 hf
 by_cases h3 : x.op = 3
 ·obtain ⟨w, hw⟩ := some_of (show x.n.toNat < p.vars.length by have := hin.var (.inl h3); omega)
  obtain ⟨v, hv, hfit⟩ := fv_get hf hw
  obtain ⟨k1, k2⟩ := fits_kv hfit
  have ev : valuesP p (ps.map fun v => v.k) rr x st = pushK w.sort.k st := by simp [valuesP, h3, hw]
  have es : stepX p ps x M = push v M := by simp [stepX, h3, hv]
  rw [ev]
  cases hp : pushK w.sort.k st with
  | none => exact sto_none rfl (by rw [es]; exact push_no hs hp)
  | some st' =>
   obtain ⟨g1, g2⟩ := push_ty (v := v) hs hp k1 (wv_valid k2)
   exact sto_some rfl _ M.vars (es.trans g1) g2 hf
 by_cases h4 : x.op = 4
 ·have hn := hin.par h4
  cases hv : ps[x.n.toNat]? with
  | none =>
   have hq := List.getElem?_eq_none_iff.1 hv
   have ev : valuesP p (ps.map fun v => v.k) rr x st = none := by
    simp only [valuesP, if_neg h1, if_neg h2, if_neg h3, if_pos h4]
    rw [if_neg (by simp; omega)]
   exact sto_none ev (by simp [stepX, h4, hv])
  | some v =>
   have hq := (List.getElem?_eq_some_iff.1 hv).1
   have ev : valuesP p (ps.map fun v => v.k) rr x st = pushK v.k st := by
    simp only [valuesP, if_neg h1, if_neg h2, if_neg h3, if_pos h4]
    rw [if_pos (by simp; omega), List.getElem?_map, hv]
    rfl
   have es : stepX p ps x M = push v M := by simp [stepX, h4, hv]
   rw [ev]
   cases hp : pushK v.k st with
   | none => exact sto_none rfl (by rw [es]; exact push_no hs hp)
   | some st' =>
    obtain ⟨g1, g2⟩ := push_ty (v := v) hs hp rfl (wv_valid (hps v (List.mem_of_getElem? hv)))
    exact sto_some rfl _ M.vars (es.trans g1) g2 hf
 by_cases h5 : x.op = 5
 ·obtain ⟨w, hw⟩ := some_of (show x.n.toNat < p.vars.length by have := hin.var (.inr h5); omega)
  have ev : valuesP p (ps.map fun v => v.k) rr x st = popK w.sort.k st := by
   simp only [valuesP, if_neg h1, if_neg h2, if_neg h3, if_neg h4, if_pos h5, hw, Option.bind_some, popsK]
   cases popK w.sort.k st <;> rfl
  have es : stepX p ps x M = storeM w.sort x.n.toNat M := by simp [stepX, h5, hw]
  rw [ev]
  unfold StepTo
  rw [es]
  exact store_ty hval ht hs hf hw
 by_cases ha : isArith x.op = true
 ·have n1 : x.op ≠ 11 ∧ x.op ≠ 14 ∧ x.op ≠ 12 ∧ x.op ≠ 17 ∧ x.op ≠ 18 := by simp [isArith] at ha; omega
  have ev : valuesP p (ps.map fun v => v.k) rr x st = (popsK [1, 1] st).bind (pushK 1) := by simp [valuesP, h1, h2, h3, h4, h5, ha]
  have es : stepX p ps x M = arithM x.op M := by
   simp only [stepX, if_neg h1, if_neg h2, if_neg h3, if_neg h4, if_neg h5, if_neg n1.1, if_neg n1.2.1, if_neg (show ¬ (x.op = 12 ∨ x.op = 17 ∨ x.op = 18) by omega), if_pos ha]
  rw [ev]
  exact pop2_res 1 (by decide) hst ht hs hf (fun u v => arith x.op u.n v.n) es
 by_cases h11 : x.op = 11
 ·have ev : valuesP p (ps.map fun v => v.k) rr x st = (popsK [1] st).bind (pushK 1) := by simp [valuesP, h11, isArith]
  have es : stepX p ps x M = result (W (0 - (pop 1 M).1.n)) (pop 1 M).2 := by simp [stepX, h11]
  rw [ev]
  exact pop1_res 1 (by decide) hst ht hs hf (fun v => W (0 - v.n)) es
 by_cases h14 : x.op = 14
 ·have ev : valuesP p (ps.map fun v => v.k) rr x st = (popsK [1] st).bind (pushK 1) := by simp [valuesP, h14, isArith]
  have es : stepX p ps x M = result (if (pop 1 M).1.n = 0 then 1 else 0) (pop 1 M).2 := by simp [stepX, h14]
  rw [ev]
  exact pop1_res 1 (by decide) hst ht hs hf (fun v => if v.n = 0 then 1 else 0) es
 by_cases h12 : x.op = 12
 ·have es : stepX p ps x M = result (if valEq (pop (pop 0 M).1.k (pop 0 M).2).1 (pop 0 M).1 then 1 else 0) (pop (pop 0 M).1.k (pop 0 M).2).2 := by simp [stepX, h12, textsM]
  have e1 : valuesP p (ps.map fun v => v.k) rr x st = match st.getLast? with
   | none => none
   | some k => if k = 1 ∨ k = 2 then (popsK [k, k] st).bind (pushK 1) else none := by
   simp [valuesP, h12, isArith]
   cases st.getLast? <;> rfl
  rcases concat_cases st with rfl | ⟨l, a, rfl⟩
  ·exact sto_none e1 (by rw [es]; exact result_tr (pop_tr1 (pop_nilT hs.nil)))
  ·obtain ⟨s, v, q1, q2, q3, q4⟩ := hs.snoc
   have hk := q3.kk
   rw [q2] at hk
   have hk0 : a ≠ 0 := by omega
   have p0 := pop_ok (k := 0) ht q1 (.inl rfl)
   have p1 := pop_ok (k := a) ht q1 (.inr q2)
   have e2 : valuesP p (ps.map fun v => v.k) rr x (l ++ [a]) = (popsK [a, a] (l ++ [a])).bind (pushK 1) := by
    rw [e1]
    simp only [List.getLast?_append, List.getLast?_singleton, Option.some_or]
    rw [if_pos hk]
   rw [e2]
   refine pop2_res a hk0 hst ht hs hf (fun u v => if valEq u v then 1 else 0) ?_
   rw [es, p0, p1]
   dsimp only
   rw [q2]
 by_cases h17 : x.op = 17
 ·have ev : valuesP p (ps.map fun v => v.k) rr x st = (popsK [2, 2] st).bind (pushK 2) := by simp [valuesP, h17, isArith]
  have es : stepX p ps x M = if (pop 2 (pop 2 M).2).2.tr then (pop 2 (pop 2 M).2).2 else push ⟨2, 0, ((pop 2 (pop 2 M).2).1.s ++ (pop 2 M).1.s).take 40⟩ (pop 2 (pop 2 M).2).2 := by simp [stepX, h17, textsM]
  rw [ev]
  obtain ⟨g1, g2⟩ := pop2_ty (M := M) 2 (by decide) ht hs
  cases hp : popsK [2, 2] st with
  | none =>
   have := g2 hp
   exact sto_none rfl (by rw [es, if_pos this]; exact this)
  | some st' =>
   obtain ⟨s, u, v, k1, k2, k3, k4, k5, k6, k7, k8⟩ := g1 st' hp
   have hu : printable u.s = true := by rcases k3 with h | h; omega; exact h.2.2.2
   have hv : printable v.s = true := by rcases k4 with h | h; omega; exact h.2.2.2
   obtain ⟨r1, r2⟩ := push_ty (M := { M with stack := s }) (v := ⟨2, 0, (u.s ++ v.s).take 40⟩) (k := 2) k7 (show pushK 2 st' = some (st' ++ [2]) by simp [pushK]; omega) rfl (.inr ⟨rfl, rfl, by simp; omega, printable_app hu hv⟩)
   refine sto_some (st := st' ++ [2]) (by simp [pushK]; omega) _ M.vars ?_ r2 hf
   rw [es, k1]
   dsimp only
   rw [k2]
   dsimp only
   rw [if_neg (by rw [ht]; simp)]
   exact r1
 by_cases h18 : x.op = 18
 ·have ev : valuesP p (ps.map fun v => v.k) rr x st = (popsK [2] st).bind (pushK 1) := by simp [valuesP, h18, isArith]
  have es : stepX p ps x M = result (pop 2 M).1.s.length (pop 2 M).2 := by simp [stepX, h18, textsM]
  rw [ev]
  exact pop1_res 2 (by decide) hst ht hs hf (fun v => v.s.length) es
 have hz : isArith x.op = false := by simpa using ha
 have ev : valuesP p (ps.map fun v => v.k) rr x st = some st := by
  simp only [valuesP, if_neg h1, if_neg h2, if_neg h3, if_neg h4, if_neg h5, if_neg ha, if_neg (show ¬ (x.op = 11 ∨ x.op = 14) by omega), if_neg h12, if_neg h17, if_neg h18, if_neg (show ¬ x.op = 20 by omega), if_neg (show ¬ x.op = 24 by omega)]
 have es : stepX p ps x M = M := by
  simp only [stepX, if_neg h1, if_neg h2, if_neg h3, if_neg h4, if_neg h5, if_neg h11, if_neg h14, if_neg (show ¬ (x.op = 12 ∨ x.op = 17 ∨ x.op = 18) by omega), if_neg ha, controlM, if_neg (show ¬ x.op = 19 by omega), if_neg (show ¬ x.op = 20 by omega), if_neg (show ¬ x.op = 21 by omega), if_neg (show ¬ x.op = 22 by omega), if_neg (show ¬ x.op = 23 by omega), if_neg (show ¬ x.op = 24 by omega)]
 exact sto_some ev M.stack M.vars es hs hf
theorem stepX_control {p : Prog} {ps : List Val} {x : Ins_} {M : Mach} (h : 19 ≤ x.op ∧ x.op ≤ 24) : stepX p ps x M = controlM x M := by
 have ha : ¬ isArith x.op = true := by simp [isArith]; omega
 simp only [stepX, if_neg (show ¬ x.op = 1 by omega), if_neg (show ¬ x.op = 2 by omega), if_neg (show ¬ x.op = 3 by omega), if_neg (show ¬ x.op = 4 by omega), if_neg (show ¬ x.op = 5 by omega), if_neg (show ¬ x.op = 11 by omega), if_neg (show ¬ x.op = 14 by omega), if_neg (show ¬ (x.op = 12 ∨ x.op = 17 ∨ x.op = 18) by omega), if_neg ha]
theorem vals_control {p : Prog} {ps rr : List Int} {x : Ins_} {st : List Int} (h : 19 ≤ x.op ∧ x.op ≤ 24) : valuesP p ps rr x st = if x.op = 20 then popK 1 st else if x.op = 24 then (if st = rr then some st else none) else some st := by
 have ha : ¬ isArith x.op = true := by simp [isArith]; omega
 simp only [valuesP, if_neg (show ¬ x.op = 1 by omega), if_neg (show ¬ x.op = 2 by omega), if_neg (show ¬ x.op = 3 by omega), if_neg (show ¬ x.op = 4 by omega), if_neg (show ¬ x.op = 5 by omega), if_neg ha, if_neg (show ¬ (x.op = 11 ∨ x.op = 14) by omega), if_neg (show ¬ x.op = 12 by omega), if_neg (show ¬ x.op = 17 by omega), if_neg (show ¬ x.op = 18 by omega), popsK]
 split
 ·cases popK 1 st <;> rfl
 ·rfl
def LookOk (p : Prog) (ps rr : List Int) (S : List (Option St2)) (i : Nat) (x : Ins_) (s : St2) : Prop :=
 ∃ st lo, valuesP p ps rr x s.1 = some st ∧ loopsP p i x s.2 = some lo ∧ (¬ (x.op = 19 ∨ x.op = 24) → S[i + 1]? = some (some (st, lo))) ∧ (x.op = 19 ∨ x.op = 20 ∨ x.op = 22 → S[x.n.toNat]? = some (some (st, lo)))
def LoOk (p : Prog) (S : List (Option St2)) (j : Nat) (lo : List Int) : Prop := ∀ b ∈ lo, b < (j : Int) ∧ (∃ s, S[b.toNat + 1]? = some (some s)) ∧ ∃ x, p.code[b.toNat]? = some x ∧ x.op = 21
structure TI (p : Prog) (e : Nat) (S : List (Option St2)) : Prop where
 len : S.length = p.code.length
 ok : SOk p S
 ge : ∀ (j : Nat) (s : St2), S[j]? = some (some s) → e ≤ j
 lo : ∀ (j : Nat) (s : St2), S[j]? = some (some s) → LoOk p S j s.2
structure Grow (S S' : List (Option St2)) (i : Nat) : Prop where
 len : S'.length = S.length
 keep : ∀ (j : Nat) (s : St2), S[j]? = some (some s) → S'[j]? = some (some s)
 low : ∀ j : Nat, j ≤ i → S'[j]? = S[j]?
theorem Grow.refl (S : List (Option St2)) (i : Nat) : Grow S S i := ⟨rfl, fun _ _ h => h, fun _ _ => rfl⟩
theorem Grow.trans {A B C : List (Option St2)} {i j : Nat} (h : Grow A B i) (k : Grow B C j) (hij : i ≤ j) : Grow A C i := ⟨k.len.trans h.len, fun a s x => k.keep a s (h.keep a s x), fun a ha => (k.low a (by omega)).trans (h.low a ha)⟩
theorem reach_ok {S : List (Option St2)} {j : Nat} {s : St2} (hj : j < S.length) (h : (reachP S j s).1 = 0) :
  (reachP S j s).2[j]? = some (some s) ∧ (∀ (k : Nat) (t : St2), S[k]? = some (some t) → (reachP S j s).2[k]? = some (some t)) ∧ (∀ k : Nat, k ≠ j → (reachP S j s).2[k]? = S[k]?) ∧ ((∃ t, S[j]? = some (some t)) → (reachP S j s).2 = S) := by
 obtain ⟨so, hso⟩ := some_of hj
 unfold reachP at h ⊢
 rw [hso] at h ⊢
 cases so with
 | none =>
  dsimp only at h ⊢
  refine ⟨by rw [List.getElem?_set_self hj], fun k t hk => ?_, fun k hk => by rw [List.getElem?_set_ne (Ne.symm hk)], fun ⟨t, ht⟩ => by cases ht⟩
  have : k ≠ j := fun e => by subst e; rw [hso] at hk; cases hk
  rw [List.getElem?_set_ne (Ne.symm this)]; exact hk
 | some old =>
  dsimp only at h ⊢
  by_cases h1 : old.1 = s.1
  ·rw [if_pos h1] at h ⊢
   by_cases h2 : old.2 = s.2
   ·rw [if_pos h2]
    have : old = s := Prod.ext h1 h2
    subst this
    exact ⟨hso, fun _ _ h => h, fun _ _ => rfl, fun _ => rfl⟩
   ·rw [if_neg h2] at h; cases h
  ·rw [if_neg h1] at h; cases h
theorem LoOk.mono {p : Prog} {S S' : List (Option St2)} {j j' : Nat} {lo : List Int} (h : LoOk p S j lo) (hj : j ≤ j') (hk : ∀ (a : Nat) (s : St2), S[a]? = some (some s) → S'[a]? = some (some s)) : LoOk p S' j' lo := fun b hb => by
 obtain ⟨h1, ⟨s, h2⟩, h3⟩ := h b hb
 exact ⟨by omega, ⟨s, hk _ _ h2⟩, h3⟩
theorem reach_TI {p : Prog} {e : Nat} {S : List (Option St2)} {j : Nat} {s : St2} (hT : TI p e S) (hj : j < p.code.length) (he : e ≤ j) (hs : StOk p s) (hl : LoOk p (reachP S j s).2 j s.2) (h : (reachP S j s).1 = 0) : TI p e (reachP S j s).2 := by
 obtain ⟨h1, h2, h3, _⟩ := reach_ok (by rw [hT.len]; exact hj) h
 refine ⟨(reachP_len S j s).trans hT.len, reachP_ok hT.ok hs, fun k t hk => ?_, fun k t hk => ?_⟩
 ·by_cases e1 : k = j
  ·omega
  ·rw [h3 k e1] at hk; exact hT.ge k t hk
 ·by_cases e1 : k = j
  ·subst e1
   rw [h1] at hk
   cases hk
   exact hl
  ·rw [h3 k e1] at hk
   exact (hT.lo k t hk).mono (Nat.le_refl _) h2
theorem look_TI {p : Prog} (hval : validP p = true) {ps rr : List Int} {e i : Nat} {S : List (Option St2)} {s : St2} {x : Ins_} (hT : TI p e S) (hx : p.code[i]? = some x) (hS : S[i]? = some (some s)) (h : (lookP p ps rr S i).1 = 0) :
  TI p e (lookP p ps rr S i).2 ∧ Grow S (lookP p ps rr S i).2 i ∧ LookOk p ps rr (lookP p ps rr S i).2 i x s := by
 have hi := (List.getElem?_eq_some_iff.1 hx).1
 have hxm : x ∈ p.code := List.mem_of_getElem? hx
 have he := hT.ge i s hS
 have hso := hT.ok s (List.mem_of_getElem? hS)
 have hlo := hT.lo i s hS
 unfold lookP at h ⊢
 rw [hx, hS] at h ⊢
 dsimp only at h ⊢
 cases hv : valuesP p ps rr x s.1 with
 | none => rw [hv] at h; cases h
 | some st =>
  rw [hv] at h
  dsimp only at h ⊢
  cases hl : loopsP p i x s.2 with
  | none => rw [hl] at h; cases h
  | some lo =>
   rw [hl] at h
   dsimp only at h ⊢
   obtain ⟨g1, g2⟩ := loopsP_ok hi hso.lo hso.ix hl
   have hst' : StOk p (st, lo) := ⟨valuesP_len hso.st hv, g1, g2⟩
   -- the loops behind it
   have hlq : ∃ l, loopsQ i x s.2 = some l ∧ finP p i x l = some lo := by
    unfold loopsP at hl
    cases hq : loopsQ i x s.2 with
    | none => rw [hq] at hl; cases hl
    | some l => rw [hq] at hl; exact ⟨l, rfl, hl⟩
   obtain ⟨l, hq, hfin⟩ := hlq
   have hfin2 : l = lo ∧ (x.op = 19 ∨ x.op = 24 ∨ i + 1 < p.code.length) := by
    unfold finP at hfin
    by_cases hc : x.op = 19 ∨ x.op = 24 ∨ i + 1 < p.code.length
    ·rw [if_pos hc] at hfin; cases hfin; exact ⟨rfl, hc⟩
    ·rw [if_neg hc] at hfin; cases hfin
   obtain ⟨rfl, hnx⟩ := hfin2
   have lok : ∀ S' : List (Option St2), (∀ (a : Nat) (t : St2), S[a]? = some (some t) → S'[a]? = some (some t)) → (x.op = 21 → ∃ t, S'[i + 1]? = some (some t)) → LoOk p S' (i + 1) l := by
    intro S' hk h21
    unfold loopsQ at hq
    by_cases c21 : x.op = 21
    ·rw [if_pos c21] at hq
     by_cases c : s.2.length < 4
     ·rw [if_pos c] at hq
      cases hq
      intro b hb
      rcases List.mem_append.1 hb with hb | hb
      ·exact hlo.mono (by omega) hk b hb
      ·simp at hb
       subst hb
       exact ⟨by omega, by simpa using h21 c21, x, by simpa using hx, c21⟩
     ·rw [if_neg c] at hq; cases hq
    ·rw [if_neg c21] at hq
     have hsub : ∀ b ∈ l, b ∈ s.2 := by
      intro b hb
      by_cases c22 : x.op = 22
      ·rw [if_pos c22] at hq
       cases hg : s.2.getLast? with
       | none => rw [hg] at hq; cases hq
       | some b2 =>
        rw [hg] at hq
        dsimp only at hq
        split at hq
        ·cases hq; exact hb
        ·cases hq
      rw [if_neg c22] at hq
      by_cases c23 : x.op = 23
      ·rw [if_pos c23] at hq
       split at hq
       ·cases hq
       ·cases hq; exact List.dropLast_subset _ hb
      rw [if_neg c23] at hq
      by_cases c24 : x.op = 24
      ·rw [if_pos c24] at hq
       split at hq
       ·cases hq; exact hb
       ·cases hq
      rw [if_neg c24] at hq
      split at hq
      ·split at hq
       ·cases hq; exact hb
       ·cases hq
      ·cases hq; exact hb
     intro b hb
     exact hlo.mono (by omega) hk b (hsub b hb)
   -- the first reach
   have first : ∀ r1, r1 = (if x.op = 19 ∨ x.op = 24 then ((0, S) : Int × List (Option St2)) else reachP S (i + 1) (st, l)) → r1.1 = 0 → TI p e r1.2 ∧ Grow S r1.2 i ∧ (¬ (x.op = 19 ∨ x.op = 24) → r1.2[i + 1]? = some (some (st, l))) ∧ LoOk p r1.2 (i + 1) l := by
    intro r1 e1 hz
    by_cases ha : x.op = 19 ∨ x.op = 24
    ·rw [if_pos ha] at e1
     subst e1
     exact ⟨hT, Grow.refl _ _, fun h => absurd ha h, lok S (fun _ _ h => h) (fun h => by omega)⟩
    ·rw [if_neg ha] at e1
     subst e1
     have hi1 : i + 1 < p.code.length := by omega
     obtain ⟨k1, k2, k3, _⟩ := reach_ok (by rw [hT.len]; exact hi1) hz
     have hll := lok _ k2 (fun _ => ⟨_, k1⟩)
     exact ⟨reach_TI hT hi1 (by omega) hst' hll hz, ⟨reachP_len _ _ _, k2, fun j hj => k3 j (by omega)⟩, fun _ => k1, hll⟩
   generalize hr1 : (if x.op = 19 ∨ x.op = 24 then ((0, S) : Int × List (Option St2)) else reachP S (i + 1) (st, l)) = r1 at h ⊢
   have f := first r1 hr1.symm
   by_cases hb : r1.1 = 0 ∧ (x.op = 19 ∨ x.op = 20 ∨ x.op = 22)
   ·rw [if_pos hb] at h
    rw [if_pos hb]
    obtain ⟨f1, f2, f3, f4⟩ := f hb.1
    have ht := target_ok hval hxm hb.2
    have htl : x.n.toNat < r1.2.length := by rw [f1.len]; omega
    obtain ⟨k1, k2, k3, k4⟩ := reach_ok htl h
    have hfw : x.op = 22 ∨ i < x.n.toNat := by
     unfold loopsQ at hq
     rcases hb.2 with c | c | c
     ·rw [if_neg (by omega), if_neg (by omega), if_neg (by omega), if_neg (by omega), if_pos (.inl c)] at hq
      split at hq
      ·right; omega
      ·cases hq
     ·rw [if_neg (by omega), if_neg (by omega), if_neg (by omega), if_neg (by omega), if_pos (.inr c)] at hq
      split at hq
      ·right; omega
      ·cases hq
     ·exact .inl c
    rcases hfw with c22 | hfw
    ·-- Again: its target is known
     have hkn : ∃ t, r1.2[x.n.toNat]? = some (some t) := by
      unfold loopsQ at hq
      rw [if_neg (by omega), if_pos c22] at hq
      cases hg : s.2.getLast? with
      | none => rw [hg] at hq; cases hq
      | some b2 =>
       rw [hg] at hq
       dsimp only at hq
       split at hq
       ·rename_i hn
        obtain ⟨_, ⟨t, q⟩, _⟩ := hlo b2 (List.mem_of_getLast? hg)
        have h0 := (hso.ix b2 (List.mem_of_getLast? hg)).1
        have e2 : x.n.toNat = b2.toNat + 1 := by omega
        rw [e2]
        exact ⟨t, f2.keep _ _ q⟩
       ·cases hq
     have e3 := k4 hkn
     rw [e3] at k1 ⊢
     exact ⟨f1, f2, st, l, hv, hl, f3, fun _ => k1⟩
    ·have g2' : Grow r1.2 (reachP r1.2 x.n.toNat (st, l)).2 i := ⟨reachP_len _ _ _, k2, fun j hj => k3 j (by omega)⟩
     exact ⟨reach_TI f1 (by omega) (by omega) hst' (f4.mono (by omega) k2) h, f2.trans g2' (Nat.le_refl _), st, l, hv, hl, fun q => k2 _ _ (f3 q), fun _ => k1⟩
   ·rw [if_neg hb] at h
    rw [if_neg hb]
    obtain ⟨f1, f2, f3, f4⟩ := f h
    exact ⟨f1, f2, st, l, hv, hl, f3, fun q => absurd ⟨h, q⟩ hb⟩
theorem LookOk.mono {p : Prog} {ps rr : List Int} {S S' : List (Option St2)} {i : Nat} {x : Ins_} {s : St2} (h : LookOk p ps rr S i x s) (hk : ∀ (a : Nat) (t : St2), S[a]? = some (some t) → S'[a]? = some (some t)) : LookOk p ps rr S' i x s := by
 obtain ⟨st, lo, h1, h2, h3, h4⟩ := h
 exact ⟨st, lo, h1, h2, fun q => hk _ _ (h3 q), fun q => hk _ _ (h4 q)⟩
def NB (p : Prog) (b : Int) : Nat := (((p.code[b.toNat]?).map (fun x : Ins_ => x.n)).getD 0).toNat
def roundsN (p : Prog) : List Int → Nat
 | [] => 1
 | b :: lo => NB p b * roundsN p lo
theorem begin_n {p : Prog} (hval : validP p = true) {x : Ins_} (hx : x ∈ p.code) (h : x.op = 21) : 1 ≤ x.n ∧ x.n ≤ 50 := by
 have hok := jump_ok hval hx
 simp only [okIns, Bool.and_eq_true] at hok
 have := hok.1
 rw [formed, if_neg (by omega)] at this
 rw [h] at this
 have e : numd 21 = (1, 50, true) := by decide
 rw [e] at this
 simp [inB] at this
 omega
def BOk (p : Prog) (b : Int) : Prop := ∃ x, p.code[b.toNat]? = some x ∧ x.op = 21
theorem nb_of {p : Prog} (hval : validP p = true) {b : Int} (h : BOk p b) : ((p.code[b.toNat]?).map (fun x : Ins_ => x.n)).getD 0 = (NB p b : Int) ∧ 1 ≤ NB p b ∧ NB p b ≤ 50 := by
 obtain ⟨x, hx, h21⟩ := h
 have := begin_n hval (List.mem_of_getElem? hx) h21
 unfold NB
 rw [hx]
 simp only [Option.map_some, Option.getD_some]
 omega
theorem rounds_bd {p : Prog} (hval : validP p = true) : ∀ {lo : List Int}, (∀ b ∈ lo, BOk p b) → 1 ≤ roundsN p lo ∧ roundsN p lo ≤ 50 ^ lo.length
 | [], _ => by simp [roundsN]
 | b :: lo, h => by
  obtain ⟨_, h1, h2⟩ := nb_of hval (h b (by simp))
  obtain ⟨h3, h4⟩ := rounds_bd hval (lo := lo) fun x hx => h x (by simp [hx])
  simp only [roundsN, List.length_cons, Nat.pow_succ]
  refine ⟨Nat.mul_pos h1 h3, ?_⟩
  rw [Nat.mul_comm]
  exact Nat.mul_le_mul h4 h2
theorem fold_rounds {p : Prog} (hval : validP p = true) : ∀ (lo : List Int) (n : Nat), (∀ b ∈ lo, BOk p b) → n * 50 ^ lo.length ≤ 6250000 → lo.foldl (mulR p) (n : Int) = ((n * roundsN p lo : Nat) : Int)
 | [], n, _, _ => by simp [roundsN]
 | b :: lo, n, h, hn => by
  obtain ⟨h0, h1, h2⟩ := nb_of hval (h b (by simp))
  have e : mulR p (n : Int) b = ((n * NB p b : Nat) : Int) := by
   unfold mulR
   rw [h0, ← Int.natCast_mul]
   have : n * NB p b ≤ n * 50 := Nat.mul_le_mul_left _ h2
   have hp : 1 ≤ 50 ^ lo.length := Nat.one_le_pow _ _ (by decide)
   have h5 : n * 50 ≤ n * 50 ^ (b :: lo).length := by
    simp only [List.length_cons, Nat.pow_succ]
    exact Nat.mul_le_mul_left _ (Nat.le_mul_of_pos_left _ hp)
   exact wrap64 (by omega) (by omega)
  rw [List.foldl_cons, e, fold_rounds hval lo (n * NB p b) (fun x hx => h x (by simp [hx])) ?_]
  ·simp only [roundsN, Nat.mul_assoc]
  ·refine Nat.le_trans ?_ hn
   simp only [List.length_cons, Nat.pow_succ, Nat.mul_assoc]
   rw [Nat.mul_comm (NB p b), Nat.mul_comm (50 ^ lo.length) 50, Nat.mul_comm _ (NB p b)]
   exact Nat.mul_le_mul_left _ (Nat.mul_le_mul_right _ h2)
theorem rounds_eq {p : Prog} (hval : validP p = true) {lo : List Int} (hl : lo.length ≤ 4) (h : ∀ b ∈ lo, BOk p b) : roundsP p lo = (roundsN p lo : Int) ∧ roundsN p lo ≤ 6250000 := by
 have hp : 50 ^ lo.length ≤ 50 ^ 4 := Nat.pow_le_pow_right (by decide) hl
 have e : (50 : Nat) ^ 4 = 6250000 := by decide
 refine ⟨?_, by have := (rounds_bd hval h).2; omega⟩
 have := fold_rounds hval lo 1 h (by omega)
 unfold roundsP
 rw [show (1 : Int) = ((1 : Nat) : Int) from rfl, this, Nat.one_mul]
def wt (p : Prog) : Option St2 → Nat
 | none => 0
 | some s => roundsN p s.2
def sumW (p : Prog) (S : List (Option St2)) : Nat := (S.map (wt p)).sum
theorem cost_table {p : Prog} (hval : validP p = true) {ps rr : List Int} {e : Nat} : ∀ (k i : Nat) (S : List (Option St2)) (c : Nat), i + k = p.code.length → TI p e S → c ≤ 6250000 * i →
  (∀ (j : Nat) (s : St2) (x : Ins_), j < i → S[j]? = some (some s) → p.code[j]? = some x → LookOk p ps rr S j x s) → (costF p ps rr k i S (c : Int)).2.2 = 0 →
  ∃ S', TI p e S' ∧ S'.length = S.length ∧ (∀ (j : Nat) (s : St2), S[j]? = some (some s) → S'[j]? = some (some s)) ∧ (∀ j : Nat, j < i → S'[j]? = S[j]?) ∧ (∀ (j : Nat) (s : St2) (x : Ins_), S'[j]? = some (some s) → p.code[j]? = some x → LookOk p ps rr S' j x s) ∧ (costF p ps rr k i S (c : Int)).1 = ((c + sumW p (S'.drop i) : Nat) : Int)
 | 0, i, S, c, h1, hT, hc, hL, h => by
  refine ⟨S, hT, rfl, fun _ _ h => h, fun _ _ => rfl, fun j s x hs hx => hL j s x ?_ hs hx, ?_⟩
  ·have := (List.getElem?_eq_some_iff.1 hx).1; omega
  ·rw [List.drop_eq_nil_of_le (by rw [hT.len]; omega)]
   simp [costF, sumW]
 | k + 1, i, S, c, h1, hT, hc, hL, h => by
  have hi : i < p.code.length := by omega
  obtain ⟨so, hso⟩ := some_of (show i < S.length by rw [hT.len]; exact hi)
  obtain ⟨x, hx⟩ := some_of hi
  cases so with
  | none =>
   rw [costF_skip hso] at h ⊢
   obtain ⟨S', a1, a2, a3, a4, a5, a6⟩ := cost_table hval k (i + 1) S c (by omega) hT (by omega) (fun j s y hj hs hy => by
    have : j ≠ i := fun q => by subst q; rw [hso] at hs; cases hs
    exact hL j s y (by omega) hs hy) h
   refine ⟨S', a1, a2, a3, fun j hj => a4 j (by omega), a5, ?_⟩
   rw [a6, List.drop_eq_getElem_cons (show i < S'.length by rw [a1.len]; exact hi)]
   have : S'[i]'(by rw [a1.len]; exact hi) = none := by
    have := a4 i (by omega)
    rw [hso, List.getElem?_eq_getElem (by rw [a1.len]; exact hi)] at this
    simpa using this
   rw [this]
   simp [sumW, wt]
  | some s =>
   by_cases z : (lookP p ps rr S i).1 = 0
   ·rw [costF_ok hso z] at h ⊢
    obtain ⟨t1, t2, t3⟩ := look_TI (ps := ps) (rr := rr) hval hT hx hso z
    have hsi := hT.ok s (List.mem_of_getElem? hso)
    obtain ⟨r1, r2⟩ := rounds_eq hval hsi.lo (fun b hb => (hT.lo i s hso b hb).2.2)
    have hcl := code_len hval
    have ew : IntKind.i64.wrap ((c : Int) + roundsP p s.2) = ((c + roundsN p s.2 : Nat) : Int) := by
     rw [r1, wrap64 (by omega) (by omega)]; omega
    rw [ew] at h ⊢
    obtain ⟨S', a1, a2, a3, a4, a5, a6⟩ := cost_table hval k (i + 1) (lookP p ps rr S i).2 (c + roundsN p s.2) (by omega) t1 (by omega) (fun j t y hj ht hy => by
     by_cases q : j = i
     ·subst q
      rw [t2.low j (Nat.le_refl _), hso] at ht
      cases ht
      rw [hx] at hy
      cases hy
      exact t3
     ·rw [t2.low j (by omega)] at ht
      exact (hL j t y (by omega) ht hy).mono t2.keep) h
    refine ⟨S', a1, a2.trans t2.len, fun j t q => a3 j t (t2.keep j t q), fun j hj => (a4 j (by omega)).trans (t2.low j (by omega)), a5, ?_⟩
    rw [a6, List.drop_eq_getElem_cons (show i < S'.length by rw [a1.len]; exact hi)]
    have : S'[i]'(by rw [a1.len]; exact hi) = some s := by
     have := (a4 i (by omega)).trans (t2.low i (Nat.le_refl _))
     rw [hso, List.getElem?_eq_getElem (by rw [a1.len]; exact hi)] at this
     simpa using this
    rw [this]
    simp only [sumW, List.map_cons, List.sum_cons, wt]
    omega
   ·rw [costF_err hso z] at h
    exact absurd h z
theorem start_TI {p : Prog} {e : Nat} (he : e < p.code.length) : TI p e (start0 p.code.length e) := by
 have key : ∀ (j : Nat) (s : St2), (start0 p.code.length e)[j]? = some (some s) → j = e ∧ s = ([], []) := by
  intro j s h
  by_cases q : j = e
  ·subst q
   rw [start0, List.getElem?_set_self (by simpa using he)] at h
   cases h
   exact ⟨rfl, rfl⟩
  ·rw [start0, List.getElem?_set_ne (Ne.symm q), List.getElem?_replicate] at h
   split at h <;> simp at h
 refine ⟨start_len, start_ok, fun j s h => by rw [(key j s h).1]; exact Nat.le_refl _, fun j s h => ?_⟩
 rw [(key j s h).2]
 intro b hb
 simp at hb
theorem verified {p : Prog} (hval : validP p = true) {ps rr : List Int} {e : Int} (he : 0 ≤ e ∧ e < p.code.length) (h : (costP p e ps rr).2.2 = 0) :
  ∃ S, TI p e.toNat S ∧ S[e.toNat]? = some (some ([], [])) ∧ (∀ (j : Nat) (s : St2) (x : Ins_), S[j]? = some (some s) → p.code[j]? = some x → LookOk p ps rr S j x s) ∧ (costP p e ps rr).1 = (sumW p S : Int) := by
 have hc : costP p e ps rr = costF p ps rr (p.code.length - e.toNat) e.toNat (start0 p.code.length e.toNat) ((0 : Nat) : Int) := by
  unfold costP; rw [if_neg (by rw [hval]; simp; omega)]; rfl
 rw [hc] at h ⊢
 have hel : e.toNat < p.code.length := by omega
 obtain ⟨S', a1, a2, a3, a4, a5, a6⟩ := cost_table hval _ e.toNat _ 0 (by omega) (start_TI hel) (by omega) (fun j s x hj hs _ => by
  have := (start_TI hel).ge j s hs; omega) h
 refine ⟨S', a1, a3 _ _ (by rw [start0, List.getElem?_set_self (by simpa using hel)]), a5, ?_⟩
 rw [a6, Nat.zero_add]
 congr 1
 have hz : sumW p (S'.take e.toNat) = 0 := by
  have : ∀ a ∈ S'.take e.toNat, wt p a = 0 := by
   intro a ha
   cases a with
   | none => rfl
   | some s =>
    obtain ⟨j, hj⟩ := List.getElem?_of_mem ha
    rw [List.getElem?_take] at hj
    split at hj
    ·have := a1.ge j s hj; omega
    ·cases hj
  unfold sumW
  generalize S'.take e.toNat = L at this
  induction L with
  | nil => rfl
  | cons a L ih => simp only [List.map_cons, List.sum_cons, this a (by simp), ih (fun b hb => this b (by simp [hb]))]
 have := congrArg (sumW p) (List.take_append_drop e.toNat S')
 rw [← this]
 unfold sumW at hz ⊢
 rw [List.map_append, List.sum_append, hz, Nat.zero_add]
def ltL : List Nat → List Nat → Bool
 | _, [] => false
 | [], _ :: _ => true
 | a :: x, b :: y => decide (a < b) || (decide (a = b) && ltL x y)
theorem ltL_irrefl : ∀ a, ltL a a = false
 | [] => rfl
 | a :: x => by simp [ltL, ltL_irrefl x]
theorem ltL_trans : ∀ {a b c : List Nat}, ltL a b = true → ltL b c = true → ltL a c = true
 | _, [], _, h, _ => by simp [ltL] at h
 | _, _ :: _, [], _, h => by simp [ltL] at h
 | [], _ :: _, _ :: _, _, _ => by simp [ltL]
 | a :: x, b :: y, c :: z, h, k => by
  simp only [ltL, Bool.or_eq_true, Bool.and_eq_true, decide_eq_true_eq] at h k ⊢
  rcases h with h | ⟨h1, h2⟩ <;> rcases k with k | ⟨k1, k2⟩
  ·exact .inl (by omega)
  ·exact .inl (by omega)
  ·exact .inl (by omega)
  ·exact .inr ⟨by omega, ltL_trans h2 k2⟩
theorem ltL_pre : ∀ (l a b : List Nat), ltL (l ++ a) (l ++ b) = ltL a b
 | [], _, _ => rfl
 | x :: l, a, b => by simp [ltL, ltL_pre l a b]
theorem countP_lt {α : Type} {q r : α → Bool} (h : ∀ a, q a = true → r a = true) : ∀ {l : List α} {x : α}, x ∈ l → r x = true → q x = false → l.countP q < l.countP r
 | y :: l, x, hx, h1, h2 => by
  have hle : l.countP q ≤ l.countP r := List.countP_mono_left fun a _ => h a
  rcases List.mem_cons.1 hx with e | hx
  ·subst e
   simp [h1, h2]; omega
  ·have ih := countP_lt h hx h1 h2
   simp only [List.countP_cons]
   have : (if q y = true then 1 else 0) ≤ (if r y = true then 1 else 0) := by
    by_cases hq : q y = true
    ·rw [if_pos hq, if_pos (h y hq)]; exact Nat.le_refl _
    ·rw [if_neg hq]; exact Nat.zero_le _
   omega
def stamps (p : Prog) (pc : Nat) : List Int → List (List Nat)
 | [] => [[pc]]
 | b :: lo => (List.range (NB p b)).flatMap fun r => (stamps p pc lo).map fun t => b.toNat :: r :: t
theorem stamps_len (p : Prog) (pc : Nat) : ∀ lo, (stamps p pc lo).length = roundsN p lo
 | [] => rfl
 | b :: lo => by
  have key : ∀ l : List Nat, (l.flatMap fun r => (stamps p pc lo).map fun t => b.toNat :: r :: t).length = l.length * roundsN p lo := by
   intro l
   induction l with
   | nil => simp
   | cons a l ih => rw [List.flatMap_cons, List.length_append, ih, List.length_map, stamps_len p pc lo, List.length_cons, Nat.add_mul]; omega
  simp only [stamps, roundsN]
  rw [key, List.length_range]
def stampsO (p : Prog) (x : Option St2 × Nat) : List (List Nat) := match x.1 with
 | none => []
 | some s => stamps p x.2 s.2
def allT (p : Prog) (S : List (Option St2)) : List (List Nat) := S.zipIdx.flatMap (stampsO p)
theorem allT_len (p : Prog) (S : List (Option St2)) : (allT p S).length = sumW p S := by
 unfold allT sumW
 suffices ∀ n, ((S.zipIdx n).flatMap (stampsO p)).length = (S.map (wt p)).sum from this 0
 induction S with
 | nil => intro n; rfl
 | cons o S ih =>
  intro n
  simp only [List.zipIdx_cons, List.flatMap_cons, List.length_append, List.map_cons, List.sum_cons, ih (n + 1)]
  congr 1
  cases o with
  | none => rfl
  | some s => exact stamps_len p n s.2
theorem mem_allT {p : Prog} {S : List (Option St2)} {i : Nat} {s : St2} {t : List Nat} (h : S[i]? = some (some s)) (ht : t ∈ stamps p i s.2) : t ∈ allT p S := by
 unfold allT
 refine List.mem_flatMap.2 ⟨(some s, i), ?_, ht⟩
 exact List.mem_zipIdx_iff_getElem?.2 h
def pre (p : Prog) : List Int → List Int → List Nat
 | b :: lo, c :: cs => b.toNat :: (NB p b - (max c 1).toNat) :: pre p lo cs
 | _, _ => []
abbrev stamp (p : Prog) (pc : Nat) (lo cs : List Int) : List Nat := pre p lo cs ++ [pc]
def CO (p : Prog) (u : Nat) : List Int → List Int → Prop
 | [], [] => True
 | b :: lo, c :: cs => (-(u : Int) ≤ c ∧ c ≤ NB p b ∧ 1 ≤ NB p b) ∧ CO p u lo cs
 | _, _ => False
theorem CO.len {p : Prog} {u : Nat} : ∀ {lo cs : List Int}, CO p u lo cs → lo.length = cs.length
 | [], [], _ => rfl
 | _ :: _, _ :: _, h => by simp [CO.len h.2]
 | [], _ :: _, h => h.elim
 | _ :: _, [], h => h.elim
theorem CO.mono {p : Prog} {u : Nat} : ∀ {lo cs : List Int}, CO p u lo cs → CO p (u + 1) lo cs
 | [], [], _ => trivial
 | _ :: _, _ :: _, h => ⟨⟨by have := h.1.1; omega, h.1.2⟩, CO.mono h.2⟩
 | [], _ :: _, h => h.elim
 | _ :: _, [], h => h.elim
theorem CO.app {p : Prog} {u : Nat} : ∀ {lo cs : List Int} {b c : Int}, CO p u lo cs → CO p u [b] [c] → CO p u (lo ++ [b]) (cs ++ [c])
 | [], [], _, _, _, h => h
 | _ :: _, _ :: _, _, _, h, k => ⟨h.1, CO.app h.2 k⟩
 | [], _ :: _, _, _, h, _ => h.elim
 | _ :: _, [], _, _, h, _ => h.elim
theorem CO.snoc {p : Prog} {u : Nat} : ∀ {lo cs : List Int} {b : Int}, CO p u (lo ++ [b]) cs → ∃ cs' c, cs = cs' ++ [c] ∧ CO p u lo cs' ∧ CO p u [b] [c]
 | [], [c], b, h => ⟨[], c, rfl, trivial, h⟩
 | [], [], _, h => h.elim
 | [], _ :: _ :: _, _, h => h.2.elim
 | _ :: lo, [], _, h => h.elim
 | a :: lo, c :: cs, b, h => by
  obtain ⟨cs', d, e, h1, h2⟩ := CO.snoc h.2
  exact ⟨c :: cs', d, by rw [e]; rfl, ⟨h.1, h1⟩, h2⟩
theorem pre_app {p : Prog} {u : Nat} : ∀ {lo cs : List Int} {b c : Int}, CO p u lo cs → pre p (lo ++ [b]) (cs ++ [c]) = pre p lo cs ++ [b.toNat, NB p b - (max c 1).toNat]
 | [], [], _, _, _ => rfl
 | _ :: _, _ :: _, _, _, h => by simp [pre, pre_app h.2]
 | [], _ :: _, _, _, h => h.elim
 | _ :: _, [], _, _, h => h.elim
theorem stamp_mem {p : Prog} {u : Nat} (pc : Nat) : ∀ {lo cs : List Int}, CO p u lo cs → stamp p pc lo cs ∈ stamps p pc lo
 | [], [], _ => by simp [stamps, pre]
 | b :: lo, c :: cs, h => by
  simp only [stamps, pre, List.cons_append]
  refine List.mem_flatMap.2 ⟨NB p b - (max c 1).toNat, List.mem_range.2 (by have := h.1.2.2; omega), List.mem_map.2 ⟨_, stamp_mem pc h.2, rfl⟩⟩
 | [], _ :: _, h => h.elim
 | _ :: _, [], h => h.elim
def cnt (p : Prog) (S : List (Option St2)) (T : List Nat) : Nat := (allT p S).countP fun t => !ltL t T
theorem cnt_lt {p : Prog} {S : List (Option St2)} {T T' : List Nat} (hm : T ∈ allT p S) (h : ltL T T' = true) : cnt p S T' < cnt p S T := by
 refine countP_lt (fun a ha => ?_) hm (by rw [ltL_irrefl]; rfl) (by rw [h]; rfl)
 cases q : ltL a T with
 | false => rfl
 | true => rw [ltL_trans q h] at ha; cases ha
theorem cnt_le {p : Prog} {S : List (Option St2)} {T : List Nat} : cnt p S T ≤ sumW p S := by
 rw [← allT_len]; exact List.countP_le_length
structure MI (p : Prog) (S : List (Option St2)) (u i : Nat) (s : St2) (M : Mach) : Prop where
 tr : M.tr = false
 dn : M.dn = false
 fv : FV p M.vars
 pc : M.pc = (i : Int)
 tb : S[i]? = some (some s)
 st : TS M.stack s.1
 lo : CO p u s.2 M.loops
theorem lo_of {p : Prog} {i : Nat} {x : Ins_} {lo l : List Int} (h : loopsP p i x lo = some l) : structR p i x lo = true ∧ l = loR i x lo := by
 rw [lo_struct] at h
 split at h
 ·cases h
 ·rename_i hs
  cases h
  exact ⟨by simpa using hs, rfl⟩
theorem ltL_pc (l : List Nat) {a b : Nat} (h : a < b) : ltL (l ++ [a]) (l ++ [b]) = true := by rw [ltL_pre]; simp [ltL, h]
set_option maxHeartbeats 1000000 in
theorem mi_step {p : Prog} (hval : validP p = true) {ps : List Val} {rr : List Int} {e : Nat} {S : List (Option St2)} (hT : TI p e S)
  (hL : ∀ (j : Nat) (s : St2) (x : Ins_), S[j]? = some (some s) → p.code[j]? = some x → LookOk p (ps.map fun v => v.k) rr S j x s) (hps : ∀ v ∈ ps, validV v = true)
  {u i : Nat} {s : St2} {M : Mach} (h : MI p S u i s M) (hu : u ≤ 100000) :
  (stepM p ps M).tr = false ∧ (((stepM p ps M).dn = true ∧ (stepM p ps M).stack.map (fun v => v.k) = rr ∧ FV p (stepM p ps M).vars) ∨ ∃ i' s', MI p S (u + 1) i' s' (stepM p ps M) ∧ ltL (stamp p i s.2 M.loops) (stamp p i' s'.2 (stepM p ps M).loops) = true) := by
 have hi : i < p.code.length := by have := (List.getElem?_eq_some_iff.1 h.tb).1; rwa [hT.len] at this
 have hcl := code_len hval
 obtain ⟨x, hx⟩ := some_of hi
 have hxm : x ∈ p.code := List.mem_of_getElem? hx
 have hW : W ((i : Int) + 1) = ((i + 1 : Nat) : Int) := inc64 hi (by unfold maxLen; omega)
 obtain ⟨st, lo, hv, hl, h1, h2⟩ := hL i s x h.tb hx
 obtain ⟨hsr, hlo⟩ := lo_of hl
 have hso := hT.ok s (List.mem_of_getElem? h.tb)
 have hll := hT.lo i s h.tb
 have hco := h.lo
 have hcl2 := hco.len
 have e0 : stepM p ps M = stepX p ps x { M with pc := ((i + 1 : Nat) : Int) } := by simp [stepM, h.pc, hx, hW]
 rw [e0]
 -- the next instruction, with the same loops
 have next : ∀ (i' : Nat) (stk vs : List Val), i < i' → S[i']? = some (some (st, s.2)) → TS stk st → FV p vs → ∃ j s', MI p S (u + 1) j s' { M with pc := (i' : Int), stack := stk, vars := vs } ∧ ltL (stamp p i s.2 M.loops) (stamp p j s'.2 M.loops) = true :=
  fun i' stk vs q1 q2 q3 q4 => ⟨i', (st, s.2), ⟨h.tr, h.dn, q4, rfl, q2, q3, hco.mono⟩, ltL_pc _ q1⟩
 by_cases hop : 19 ≤ x.op ∧ x.op ≤ 24
 ·rw [stepX_control hop]
  rw [vals_control hop] at hv
  by_cases c19 : x.op = 19
  ·have est : s.1 = st := by simpa [c19] using hv
   have elo : lo = s.2 := by rw [hlo]; simp [loR, c19]
   rw [elo] at h2
   have hn : (i : Int) < x.n := by simpa [structR, c19] using hsr
   have ec : controlM x { M with pc := ((i + 1 : Nat) : Int) } = { M with pc := ((x.n.toNat : Nat) : Int) } := by
    simp only [controlM, if_pos c19]
    rw [show ((x.n.toNat : Nat) : Int) = x.n by omega]
   rw [ec]
   exact ⟨h.tr, .inr (next x.n.toNat M.stack M.vars (by omega) (h2 (.inl c19)) (est ▸ h.st) h.fv)⟩
  by_cases c20 : x.op = 20
  ·rw [if_pos c20] at hv
   have elo : lo = s.2 := by rw [hlo]; simp [loR, c20]
   rw [elo] at h1 h2
   have hn : (i : Int) < x.n := by
    simp [structR, c20] at hsr; exact hsr.1
   have hs1 := h.st
   rcases concat_cases s.1 with e1 | ⟨l, a, e1⟩
   ·rw [e1] at hv; cases hv
   ·rw [e1, pop_snoc] at hv
    by_cases ha : a = 1
    ·rw [if_pos ha] at hv
     cases hv
     rw [e1] at hs1
     obtain ⟨k, v, g1, g2, g3, g4⟩ := hs1.snoc
     have hp := pop_ok (M := { M with pc := ((i + 1 : Nat) : Int) }) (k := 1) h.tr g1 (.inr (g2.trans ha))
     by_cases hz : v.n = 0
     ·have ec : controlM x { M with pc := ((i + 1 : Nat) : Int) } = { M with pc := ((x.n.toNat : Nat) : Int), stack := k } := by
       simp only [controlM, if_neg c19, if_pos c20, hp]
       rw [if_pos ⟨h.tr, hz⟩, show ((x.n.toNat : Nat) : Int) = x.n by omega]
      rw [ec]
      exact ⟨h.tr, .inr (next x.n.toNat k M.vars (by omega) (h2 (.inr (.inl c20))) g4 h.fv)⟩
     ·have ec : controlM x { M with pc := ((i + 1 : Nat) : Int) } = { M with pc := ((i + 1 : Nat) : Int), stack := k } := by
       simp only [controlM, if_neg c19, if_pos c20, hp]
       rw [if_neg (fun q => hz q.2)]
      rw [ec]
      exact ⟨h.tr, .inr (next (i + 1) k M.vars (by omega) (h1 (by omega)) g4 h.fv)⟩
    ·rw [if_neg ha] at hv; cases hv
  rw [if_neg c20] at hv
  by_cases c24 : x.op = 24
  ·rw [if_pos c24] at hv
   have hst : s.1 = rr := by
    by_cases q : s.1 = rr
    ·exact q
    ·rw [if_neg q] at hv; cases hv
   have ec : controlM x { M with pc := ((i + 1 : Nat) : Int) } = { M with pc := ((i + 1 : Nat) : Int), dn := true } := by simp [controlM, c24]
   rw [ec]
   exact ⟨h.tr, .inl ⟨rfl, h.st.k.trans hst, h.fv⟩⟩
  rw [if_neg c24] at hv
  have est : s.1 = st := by simpa using hv
  have hne : ¬ (x.op = 19 ∨ x.op = 24) := by omega
  have hS1 := h1 hne
  by_cases c21 : x.op = 21
  ·have elo : lo = s.2 ++ [(i : Int)] := by rw [hlo]; simp [loR, c21]
   have h4 : s.2.length < 4 := by simp [structR, c21] at hsr; exact hsr.1
   have hbn := begin_n hval hxm c21
   have hNB : (NB p (i : Int) : Int) = x.n := by
    have := (nb_of hval (b := (i : Int)) ⟨x, by simpa using hx, c21⟩).1
    rw [← this]
    simp [hx]
   have ec : controlM x { M with pc := ((i + 1 : Nat) : Int) } = { M with pc := ((i + 1 : Nat) : Int), loops := M.loops ++ [x.n] } := by
    simp only [controlM, if_neg c19, if_neg c20, if_pos c21]
    rw [if_neg (by omega)]
   rw [ec]
   refine ⟨h.tr, .inr ⟨i + 1, (st, lo), ⟨h.tr, h.dn, h.fv, rfl, hS1, est ▸ h.st, ?_⟩, ?_⟩⟩
   ·show CO p (u + 1) lo (M.loops ++ [x.n])
    rw [elo]
    exact hco.mono.app ⟨⟨by omega, by omega, by omega⟩, trivial⟩
   ·show ltL (pre p s.2 M.loops ++ [i]) (pre p lo (M.loops ++ [x.n]) ++ [i + 1]) = true
    rw [elo, pre_app hco, List.append_assoc, ltL_pre]
    simp [ltL]
  by_cases c22 : x.op = 22
  ·have elo : lo = s.2 := by rw [hlo]; simp [loR, c22]
   rw [elo] at hS1 h2
   rcases concat_cases s.2 with q | ⟨l, b, q⟩
   ·rw [q] at hsr; simp [structR, c22] at hsr
   ·have hb := hll b (by rw [q]; simp)
    have hb0 := (hso.ix b (by rw [q]; simp)).1
    have hxn : x.n = b + 1 := by
     simp [structR, c22, q] at hsr; omega
    have hS2 := h2 (.inr (.inr c22))
    rw [q] at hco hS1 hS2
    obtain ⟨c0, c, q2, q3, q4⟩ := hco.snoc
    have q4' := q4.1
    have hWc : W (c - 1) = c - 1 := wrap64 (by omega) (by have := (nb_of hval hb.2.2).2.2; omega)
    have hgl : M.loops.getLast? = some c := by rw [q2]; simp
    have hdl : M.loops.dropLast = c0 := by rw [q2]; simp
    by_cases hpos : 0 < c - 1
    ·have ec : controlM x { M with pc := ((i + 1 : Nat) : Int) } = { M with pc := ((b.toNat + 1 : Nat) : Int), loops := c0 ++ [c - 1] } := by
      simp only [controlM, if_neg c19, if_neg c20, if_neg c21, if_pos c22, hgl, hWc, if_pos hpos, hdl]
      rw [show ((b.toNat + 1 : Nat) : Int) = x.n by omega]
     rw [ec]
     refine ⟨h.tr, .inr ⟨b.toNat + 1, (st, l ++ [b]), ⟨h.tr, h.dn, h.fv, rfl, ?_, est ▸ h.st, q3.mono.app ⟨⟨by omega, by omega, q4'.2.2⟩, trivial⟩⟩, ?_⟩⟩
     ·rw [show b.toNat + 1 = x.n.toNat by omega]; exact hS2
     ·show ltL (pre p s.2 M.loops ++ [i]) (pre p (l ++ [b]) (c0 ++ [c - 1]) ++ [b.toNat + 1]) = true
      rw [q, q2, pre_app q3, pre_app q3, List.append_assoc, List.append_assoc, ltL_pre]
      have : NB p b - (max c 1).toNat < NB p b - (max (c - 1) 1).toNat := by omega
      simp [ltL, this]
    ·have ec : controlM x { M with pc := ((i + 1 : Nat) : Int) } = { M with pc := ((i + 1 : Nat) : Int), loops := c0 ++ [c - 1] } := by
      simp only [controlM, if_neg c19, if_neg c20, if_neg c21, if_pos c22, hgl, hWc, if_neg hpos, hdl]
     rw [ec]
     refine ⟨h.tr, .inr ⟨i + 1, (st, l ++ [b]), ⟨h.tr, h.dn, h.fv, rfl, hS1, est ▸ h.st, q3.mono.app ⟨⟨by omega, by omega, q4'.2.2⟩, trivial⟩⟩, ?_⟩⟩
     show ltL (pre p s.2 M.loops ++ [i]) (pre p (l ++ [b]) (c0 ++ [c - 1]) ++ [i + 1]) = true
     rw [q, q2, pre_app q3, pre_app q3, List.append_assoc, List.append_assoc, ltL_pre]
     have e2 : (max c 1).toNat = 1 := by omega
     have e3 : (max (c - 1) 1).toNat = 1 := by omega
     rw [e2, e3]
     simp [ltL]
  have c23 : x.op = 23 := by omega
  have elo : lo = s.2.take (s.2.length - 1) := by rw [hlo]; simp [loR, c23]
  rcases concat_cases s.2 with q | ⟨l, b, q⟩
  ·rw [q] at hsr; simp [structR, c23] at hsr
  ·have hb := hll b (by rw [q]; simp)
   have elo2 : lo = l := by rw [elo, q]; simp
   rw [elo2] at hS1
   rw [q] at hco
   obtain ⟨c0, c, q2, q3, q4⟩ := hco.snoc
   have hgl : M.loops.getLast? = some c := by rw [q2]; simp
   have hdl : M.loops.dropLast = c0 := by rw [q2]; simp
   have ec : controlM x { M with pc := ((i + 1 : Nat) : Int) } = { M with pc := ((i + 1 : Nat) : Int), loops := c0 } := by
    simp only [controlM, if_neg c19, if_neg c20, if_neg c21, if_neg c22, if_pos c23, hgl, hdl]
   rw [ec]
   refine ⟨h.tr, .inr ⟨i + 1, (st, l), ⟨h.tr, h.dn, h.fv, rfl, hS1, est ▸ h.st, q3.mono⟩, ?_⟩⟩
   show ltL (pre p s.2 M.loops ++ [i]) (pre p l c0 ++ [i + 1]) = true
   rw [q, q2, pre_app q3, List.append_assoc, ltL_pre]
   have : b.toNat < i + 1 := by have := hb.1; omega
   simp [ltL, this]
 ·obtain ⟨g1, _⟩ := vals_step hval (rr := rr) hxm (M := { M with pc := ((i + 1 : Nat) : Int) }) hso.st h.tr h.st h.fv hps hop
  obtain ⟨stk, vs, r1, r2, r3⟩ := g1 st hv
  have elo : lo = s.2 := by rw [hlo, loR, if_neg (by omega), if_neg (by omega)]
  rw [elo] at h1
  rw [r1]
  exact ⟨h.tr, .inr (next (i + 1) stk vs (by omega) (h1 (by omega)) r2 r3)⟩
theorem runs_ok {p : Prog} (hval : validP p = true) {ps : List Val} {rr : List Int} {e : Nat} {S : List (Option St2)} (hT : TI p e S)
  (hL : ∀ (j : Nat) (s : St2) (x : Ins_), S[j]? = some (some s) → p.code[j]? = some x → LookOk p (ps.map fun v => v.k) rr S j x s) (hps : ∀ v ∈ ps, validV v = true) :
  ∀ (fuel u i : Nat) (s : St2) (M : Mach), MI p S u i s M → cnt p S (stamp p i s.2 M.loops) ≤ fuel → u + fuel ≤ 100000 → ∃ (stk vs : List Val) (w : Nat), runF p ps fuel M u = ⟨stk, vs, (w : Int), 0⟩ ∧ stk.map (fun v => v.k) = rr ∧ FV p vs ∧ w ≤ u + cnt p S (stamp p i s.2 M.loops)
 | fuel, u, i, s, M, h, hc, hu => by
  have hm : stamp p i s.2 M.loops ∈ allT p S := mem_allT h.tb (stamp_mem i h.lo)
  have hpos : 1 ≤ cnt p S (stamp p i s.2 M.loops) := List.countP_pos_iff.2 ⟨_, hm, by rw [ltL_irrefl]; rfl⟩
  have hi : i < p.code.length := by have := (List.getElem?_eq_some_iff.1 h.tb).1; rwa [hT.len] at this
  match fuel with
  | 0 => omega
  | fuel + 1 =>
   obtain ⟨k1, k2⟩ := mi_step hval hT hL hps h (by omega)
   rw [runF_go h.dn (by rw [h.pc]; omega) k1]
   rcases k2 with ⟨k2, k3, k4⟩ | ⟨i', s', k2, k3⟩
   ·rw [runF_done k2]
    exact ⟨_, _, u + 1, rfl, k3, k4, by omega⟩
   ·have hlt := cnt_lt hm k3
    obtain ⟨stk, vs, w, a1, a2, a3, a4⟩ := runs_ok hval hT hL hps fuel (u + 1) i' s' _ k2 (by omega) (by omega)
    exact ⟨stk, vs, w, a1, a2, a3, by omega⟩
theorem entry_ok {p : Prog} {vars ps : List Val} {rr : List Int} {e : Int} (hsd : soundP p vars = true) (hps : ∀ v ∈ ps, validV v = true) (hpl : ps.length ≤ 4) (he : 0 ≤ e ∧ e < p.code.length) (h : (costP p e (ps.map fun v => v.k) rr).2.2 = 0) (hc : (costP p e (ps.map fun v => v.k) rr).1 ≤ 5000) :
  ∃ (stk vs : List Val) (w : Nat), runP p e vars ps 5000 = ⟨stk, vs, (w : Int), 0⟩ ∧ stk.map (fun v => v.k) = rr ∧ soundP p vs = true ∧ (w : Int) ≤ (costP p e (ps.map fun v => v.k) rr).1 := by
 have hsd2 := hsd
 simp only [soundP, Bool.and_eq_true] at hsd2
 obtain ⟨hval, hfv⟩ := hsd2
 obtain ⟨S, hT, hS0, hL, hsum⟩ := verified hval he h
 have hbad : badArgs p e vars ps = false := by
  simp only [badArgs, hsd, Bool.not_true, Bool.false_or, Bool.or_eq_false_iff, decide_eq_false_iff_not, List.any_eq_false]
  exact ⟨⟨⟨by omega, by omega⟩, by omega⟩, fun v hv => by rw [hps v hv]; simp⟩
 have hrun : runP p e vars ps 5000 = runF p ps 5000 (mach0 vars e) 0 := by rw [runP, hbad]; rfl
 have hMI : MI p S 0 e.toNat ([], []) (mach0 vars e) := ⟨rfl, rfl, hfv, by simp [mach0]; omega, hS0, ⟨rfl, fun v hv => by simp [mach0] at hv⟩, trivial⟩
 have hle := cnt_le (p := p) (S := S) (T := stamp p e.toNat (([], []) : St2).2 (mach0 vars e).loops)
 obtain ⟨stk, vs, w, a1, a2, a3, a4⟩ := runs_ok hval hT hL hps 5000 0 e.toNat ([], []) (mach0 vars e) hMI (by omega) (by omega)
 refine ⟨stk, vs, w, hrun.trans a1, a2, ?_, by omega⟩
 simp only [soundP, Bool.and_eq_true]
 exact ⟨hval, a3⟩
def leastV (s : Sort_) : Val × Int := if validS s = false then (val0, 1) else if s.k = 1 then (⟨1, s.lo, []⟩, 0) else (⟨2, 0, List.replicate s.lo.toNat 97⟩, 0)
theorem p66 (s : Sort_) : Pure Try.prog 66 [s.av] (.tup [(leastV s).1.av, .int .i64 (leastV s).2]) := by
 refine pure_intro mo Try.func66 c66 fun H => ?_
 unfold e66 r66
 simp only [initEnv, initFrom]
 repeat' first|(apply Sp.go;·constructor<;>first|exact ss|(change _=_;first|(simp only[go_sem,Nat.reduceBEq,Nat.reduceAdd,Nat.reduceLeDiff,reduceIte]<;>rfl)|rfl)|exact Nat.le_of_ble_eq_true rfl|decide|(repeat' first|(apply Lk.go;constructor)|assumption|exact nb ‹_› ‹_›|exact nt ‹_› ‹_›))|(intro b hb;repeat first|(refine fe hb ?_;intro _ _ hb)|(refine fT hb ?_;intro hb))|refine rt ?_|refine gA rfl ?_|refine gB rfl ?_|apply cT rfl|apply cF rfl|(apply DM.gbT;rfl)|(apply DM.gbF;rfl)|intro h
 (apply DM.pcs (R.p38 s); (· simp only [go_sem, Nat.reduceBEq, Nat.reduceAdd] <;> rfl); (· exact AVLes.refl _))
 cases hv : validS s with
 | false =>
  rw [show leastV s = (val0, 1) by simp [leastV, hv]]
  repeat' first|(apply Sp.go;·constructor<;>first|exact ss|(change _=_;first|(simp only[go_sem,Nat.reduceBEq,Nat.reduceAdd,Nat.reduceLeDiff,reduceIte]<;>rfl)|rfl)|exact Nat.le_of_ble_eq_true rfl|decide|(repeat' first|(apply Lk.go;constructor)|assumption|exact nb ‹_› ‹_›|exact nt ‹_› ‹_›))|(intro b hb;repeat first|(refine fe hb ?_;intro _ _ hb)|(refine fT hb ?_;intro hb))|refine rt ?_|refine gA rfl ?_|refine gB rfl ?_|apply cT rfl|apply cF rfl|(apply DM.gbT;rfl)|(apply DM.gbF;rfl)|intro h
  (apply Sr.go;·constructor<;>first|(apply Lk.go;constructor<;>first|exact ss|(change _=_;first|(simp only[go_sem,Nat.reduceBEq,Nat.reduceAdd,Nat.reduceLeDiff,reduceIte]<;>rfl)|rfl)|exact Nat.le_of_ble_eq_true rfl|decide|(repeat' first|(apply Lk.go;constructor)|assumption|exact nb ‹_› ‹_›|exact nt ‹_› ‹_›))|assumption)
  exact AVLe.refl _
 | true =>
  by_cases h1 : s.k = 1
  ·rw [show leastV s = (⟨1, s.lo, []⟩, 0) by simp [leastV, hv, h1]]
   have d1 : decide (s.k = 1) = true := decide_eq_true h1
   repeat' first|(apply Sp.go;·constructor<;>first|exact ss|(change _=_;first|(simp only[go_sem,Nat.reduceBEq,Nat.reduceAdd,Nat.reduceLeDiff,reduceIte]<;>rfl)|rfl)|exact Nat.le_of_ble_eq_true rfl|decide|(repeat' first|(apply Lk.go;constructor)|assumption|exact nb ‹_› ‹_›|exact nt ‹_› ‹_›))|(intro b hb;repeat first|(refine fe hb ?_;intro _ _ hb)|(refine fT hb ?_;intro hb))|refine rt ?_|refine gA rfl ?_|refine gB rfl ?_|apply cT rfl|apply cF rfl|(apply DM.gbT;rfl)|(apply DM.gbF;rfl)|intro h
   simp only [d1]
   repeat' first|(apply Sp.go;·constructor<;>first|exact ss|(change _=_;first|(simp only[go_sem,Nat.reduceBEq,Nat.reduceAdd,Nat.reduceLeDiff,reduceIte]<;>rfl)|rfl)|exact Nat.le_of_ble_eq_true rfl|decide|(repeat' first|(apply Lk.go;constructor)|assumption|exact nb ‹_› ‹_›|exact nt ‹_› ‹_›))|(intro b hb;repeat first|(refine fe hb ?_;intro _ _ hb)|(refine fT hb ?_;intro hb))|refine rt ?_|refine gA rfl ?_|refine gB rfl ?_|apply cT rfl|apply cF rfl|(apply DM.gbT;rfl)|(apply DM.gbF;rfl)|(apply DM.pcs (p29 s.lo); (· simp only [go_sem, Nat.reduceBEq, Nat.reduceAdd] <;> rfl); (· exact AVLes.refl _))|intro h
   (apply Sr.go;·constructor<;>first|(apply Lk.go;constructor<;>first|exact ss|(change _=_;first|(simp only[go_sem,Nat.reduceBEq,Nat.reduceAdd,Nat.reduceLeDiff,reduceIte]<;>rfl)|rfl)|exact Nat.le_of_ble_eq_true rfl|decide|(repeat' first|(apply Lk.go;constructor)|assumption|exact nb ‹_› ‹_›|exact nt ‹_› ‹_›))|assumption)
   exact AVLe.refl _
  ·rw [show leastV s = (⟨2, 0, List.replicate s.lo.toNat 97⟩, 0) by simp [leastV, hv, h1]]
   have d1 : decide (s.k = 1) = false := decide_eq_false h1
   have hlo : s.lo ≤ 1000 := by simp [validS] at hv; omega
   repeat' first|(apply Sp.go;·constructor<;>first|exact ss|(change _=_;first|(simp only[go_sem,Nat.reduceBEq,Nat.reduceAdd,Nat.reduceLeDiff,reduceIte]<;>rfl)|rfl)|exact Nat.le_of_ble_eq_true rfl|decide|(repeat' first|(apply Lk.go;constructor)|assumption|exact nb ‹_› ‹_›|exact nt ‹_› ‹_›))|(intro b hb;repeat first|(refine fe hb ?_;intro _ _ hb)|(refine fT hb ?_;intro hb))|refine rt ?_|refine gA rfl ?_|refine gB rfl ?_|apply cT rfl|apply cF rfl|(apply DM.gbT;rfl)|(apply DM.gbF;rfl)|intro h
   simp only [d1]
   repeat' first|(apply Sp.go;·constructor<;>first|exact ss|(change _=_;first|(simp only[go_sem,Nat.reduceBEq,Nat.reduceAdd,Nat.reduceLeDiff,reduceIte]<;>rfl)|rfl)|exact Nat.le_of_ble_eq_true rfl|decide|(repeat' first|(apply Lk.go;constructor)|assumption|exact nb ‹_› ‹_›|exact nt ‹_› ‹_›))|(intro b hb;repeat first|(refine fe hb ?_;intro _ _ hb)|(refine fT hb ?_;intro hb))|refine rt ?_|refine gA rfl ?_|refine gB rfl ?_|apply cT rfl|apply cF rfl|(apply DM.gbT;rfl)|(apply DM.gbF;rfl)|(apply DM.pcs (R.p105 s.lo hlo); (· simp only [go_sem, Nat.reduceBEq, Nat.reduceAdd] <;> rfl); (· exact AVLes.refl _))|(apply DM.pcs (R.p31 (List.replicate s.lo.toNat 97)); (· simp only [go_sem, Nat.reduceBEq, Nat.reduceAdd] <;> rfl); (· exact AVLes.refl _))|intro h
   (apply Sr.go;·constructor<;>first|(apply Lk.go;constructor<;>first|exact ss|(change _=_;first|(simp only[go_sem,Nat.reduceBEq,Nat.reduceAdd,Nat.reduceLeDiff,reduceIte]<;>rfl)|rfl)|exact Nat.le_of_ble_eq_true rfl|decide|(repeat' first|(apply Lk.go;constructor)|assumption|exact nb ‹_› ‹_›|exact nt ‹_› ‹_›))|assumption)
   exact AVLe.refl _
def clampedV (s : Sort_) (v : Val) : Val := if (clampV s v).2 = 0 then (clampV s v).1 else (leastV s).1
theorem least_fits {s : Sort_} (h : validS s = true) : fitsV s (leastV s).1 = true := by
 have hs := h
 simp [validS] at hs
 unfold leastV
 rw [if_neg (by rw [h]; simp)]
 by_cases h1 : s.k = 1
 ·rw [if_pos h1]
  simp [fitsV, h, h1, validV, numberV]; omega
 ·rw [if_neg h1]
  have h2 : s.k = 2 := by omega
  have hp : printable (List.replicate s.lo.toNat 97) = true := by
   simp only [printable, List.all_eq_true]
   intro x hx
   obtain ⟨_, rfl⟩ := List.mem_replicate.1 hx
   rfl
  simp [fitsV, h, h2, validV, numberV, hp]; omega
theorem clamped_fits {s : Sort_} (h : validS s = true) (v : Val) : fitsV s (clampedV s v) = true := by
 unfold clampedV
 split
 ·rename_i h1; exact clamp_fits h1
 ·exact least_fits h
theorem p39 (s : Sort_) (v : Val) : Pure Try.prog 39 [s.av, v.av] (clampedV s v).av := by
 refine pure_intro mo Try.func39 c39 fun H => ?_
 unfold e39 r39
 simp only [initEnv, initFrom]
 repeat' first|(apply Sp.go;·constructor<;>first|exact ss|(change _=_;first|(simp only[go_sem,Nat.reduceBEq,Nat.reduceAdd,Nat.reduceLeDiff,reduceIte]<;>rfl)|rfl)|exact Nat.le_of_ble_eq_true rfl|decide|(repeat' first|(apply Lk.go;constructor)|assumption|exact nb ‹_› ‹_›|exact nt ‹_› ‹_›))|(intro b hb;repeat first|(refine fe hb ?_;intro _ _ hb)|(refine fT hb ?_;intro hb))|refine rt ?_|refine gA rfl ?_|refine gB rfl ?_|apply cT rfl|apply cF rfl|(apply DM.gbT;rfl)|(apply DM.gbF;rfl)|(apply DM.pcs (R.p65 s v); (· simp only [go_sem, Nat.reduceBEq, Nat.reduceAdd] <;> rfl); (· exact AVLes.refl _))|intro h
 by_cases h1 : (clampV s v).2 = 0
 ·have d1 : (!decide ((clampV s v).2 = 0)) = false := by simp [h1]
  rw [show clampedV s v = (clampV s v).1 by simp [clampedV, h1]]
  simp only [d1]
  repeat' first|(apply Sp.go;·constructor<;>first|exact ss|(change _=_;first|(simp only[go_sem,Nat.reduceBEq,Nat.reduceAdd,Nat.reduceLeDiff,reduceIte]<;>rfl)|rfl)|exact Nat.le_of_ble_eq_true rfl|decide|(repeat' first|(apply Lk.go;constructor)|assumption|exact nb ‹_› ‹_›|exact nt ‹_› ‹_›))|(intro b hb;repeat first|(refine fe hb ?_;intro _ _ hb)|(refine fT hb ?_;intro hb))|refine rt ?_|refine gA rfl ?_|refine gB rfl ?_|apply cT rfl|apply cF rfl|(apply DM.gbT;rfl)|(apply DM.gbF;rfl)|intro h
  (apply Sr.go;·constructor<;>first|(apply Lk.go;constructor<;>first|exact ss|(change _=_;first|(simp only[go_sem,Nat.reduceBEq,Nat.reduceAdd,Nat.reduceLeDiff,reduceIte]<;>rfl)|rfl)|exact Nat.le_of_ble_eq_true rfl|decide|(repeat' first|(apply Lk.go;constructor)|assumption|exact nb ‹_› ‹_›|exact nt ‹_› ‹_›))|assumption)
  exact AVLe.refl _
 ·have d1 : (!decide ((clampV s v).2 = 0)) = true := by simp [h1]
  rw [show clampedV s v = (leastV s).1 by simp [clampedV, h1]]
  simp only [d1]
  repeat' first|(apply Sp.go;·constructor<;>first|exact ss|(change _=_;first|(simp only[go_sem,Nat.reduceBEq,Nat.reduceAdd,Nat.reduceLeDiff,reduceIte]<;>rfl)|rfl)|exact Nat.le_of_ble_eq_true rfl|decide|(repeat' first|(apply Lk.go;constructor)|assumption|exact nb ‹_› ‹_›|exact nt ‹_› ‹_›))|(intro b hb;repeat first|(refine fe hb ?_;intro _ _ hb)|(refine fT hb ?_;intro hb))|refine rt ?_|refine gA rfl ?_|refine gB rfl ?_|apply cT rfl|apply cF rfl|(apply DM.gbT;rfl)|(apply DM.gbF;rfl)|(apply DM.pcs (p66 s); (· simp only [go_sem, Nat.reduceBEq, Nat.reduceAdd] <;> rfl); (· exact AVLes.refl _))|intro h
  (apply Sr.go;·constructor<;>first|(apply Lk.go;constructor<;>first|exact ss|(change _=_;first|(simp only[go_sem,Nat.reduceBEq,Nat.reduceAdd,Nat.reduceLeDiff,reduceIte]<;>rfl)|rfl)|exact Nat.le_of_ble_eq_true rfl|decide|(repeat' first|(apply Lk.go;constructor)|assumption|exact nb ‹_› ‹_›|exact nt ‹_› ‹_›))|assumption)
  exact AVLe.refl _
def kindsV (xs : List Val) : List Int := xs.map fun v => v.k
theorem p41 (xs : List Val) (hx : xs.length ≤ 1000) : Pure Try.prog 41 [.vs 3 (xs.map Val.row)] (.vs 1 ((kindsV xs).map irow)) := by
 refine pure_intro mo Try.func41 c41 fun H => ?_
 unfold e41 r41
 simp only [initEnv, initFrom]
 repeat' first|(apply Sp.go;·constructor<;>first|exact ss|(change _=_;first|(simp only[go_sem,Nat.reduceBEq,Nat.reduceAdd,Nat.reduceLeDiff,reduceIte]<;>rfl)|rfl)|exact Nat.le_of_ble_eq_true rfl|decide|(repeat' first|(apply Lk.go;constructor)|assumption|exact nb ‹_› ‹_›|exact nt ‹_› ‹_›))|(intro b hb;repeat first|(refine fe hb ?_;intro _ _ hb)|(refine fT hb ?_;intro hb))|refine rt ?_|refine gA rfl ?_|refine gB rfl ?_|apply cT rfl|apply cF rfl|(apply DM.gbT;rfl)|(apply DM.gbF;rfl)|intro h
 apply R.AM.ghostO 3 3 1 (by decide)
 ·simp only [Env.get, Nat.reduceBEq, cond_true, cond_false, beq_self_eq_true]
 intro tv htv
 repeat' first|(apply Sp.go;·constructor<;>first|exact ss|(change _=_;first|(simp only[go_sem,Nat.reduceBEq,Nat.reduceAdd,Nat.reduceLeDiff,reduceIte]<;>rfl)|rfl)|exact Nat.le_of_ble_eq_true rfl|decide|(repeat' first|(apply Lk.go;constructor)|assumption|exact nb ‹_› ‹_›|exact nt ‹_› ‹_›))|(intro b hb;repeat first|(refine fe hb ?_;intro _ _ hb)|(refine fT hb ?_;intro hb))|refine rt ?_|refine gA rfl ?_|refine gB rfl ?_|apply cT rfl|apply cF rfl|(apply DM.gbT;rfl)|(apply DM.gbF;rfl)|intro h
 refine AM.loopX (X := Nat) 0 (fun i => [(0, .vs 3 (xs.map Val.row)), (4, .int .i64 i), (3, .own tv 1 ((kindsV (xs.take i)).map irow))]) (fun i H' => H' = H.setT tv (.frz 3 1 i) ∧ i ≤ xs.length) (fun i => xs.length - i) ⟨rfl, by omega⟩ ?_ ?_
 ·(repeat first | exact envle_nil _ | (refine envle_cons ?_ ?_; · (simp only [go_sem, Nat.reduceBEq, Nat.reduceAdd]; exact AVLe.refl _)))
 ·intro i H' ⟨e, hi⟩
  subst e
  have hl0 : ((kindsV (xs.take i)).map irow).length = i := by simp [kindsV]; omega
  repeat' first|(apply Sp.go;·constructor<;>first|exact ss|(change _=_;first|(simp only[go_sem,Nat.reduceBEq,Nat.reduceAdd,Nat.reduceLeDiff,reduceIte]<;>rfl)|rfl)|exact Nat.le_of_ble_eq_true rfl|decide|(repeat' first|(apply Lk.go;constructor)|assumption|exact nb ‹_› ‹_›|exact nt ‹_› ‹_›))|(intro b hb;repeat first|(refine fe hb ?_;intro _ _ hb)|(refine fT hb ?_;intro hb))|refine rt ?_|refine gA rfl ?_|refine gB rfl ?_|apply cT rfl|apply cF rfl|(apply DM.gbT;rfl)|(apply DM.gbF;rfl)|intro h
  (apply AM.cond; (· rfl))
  ·intro h3
   simp at h3
   obtain ⟨v, hv⟩ := some_of h3
   repeat' first|(apply Sp.go;·constructor<;>first|exact ss|(change _=_;first|(simp only[go_sem,Nat.reduceBEq,Nat.reduceAdd,Nat.reduceLeDiff,reduceIte]<;>rfl)|rfl)|exact Nat.le_of_ble_eq_true rfl|decide|(repeat' first|(apply Lk.go;constructor)|assumption|exact nb ‹_› ‹_›|exact nt ‹_› ‹_›))|(intro b hb;repeat first|(refine fe hb ?_;intro _ _ hb)|(refine fT hb ?_;intro hb))|refine rt ?_|refine gA rfl ?_|refine gB rfl ?_|apply cT rfl|apply cF rfl|(apply DM.gbT;rfl)|(apply DM.gbF;rfl)|(apply DM.ixV (row := v.row) (z := (i : Int)) (by omega) (row_get Val.row hv); (· rfl); (· rfl))|intro h
   apply DM.apOr
   ·simp only [EOpd.ev, Env.get, Nat.reduceBEq, cond_true, cond_false, beq_self_eq_true] <;> rfl
   ·(· repeat' first|(apply Lk.go;constructor)|assumption|exact nb ‹_› ‹_›|exact nt ‹_› ‹_›|(apply Lm.go;constructor))
   ·exact hl0
   ·simp only [rowsOf, if_true, eq_self, EOpd.ev, Env.get, Nat.reduceBEq, cond_true, cond_false, beq_self_eq_true] <;> rfl
   ·simp only [List.length_cons, List.length_nil]; omega
   ·simp only [List.length_cons, List.length_nil, maxLen]; omega
   repeat' first|(apply Sp.go;·constructor<;>first|exact ss|(change _=_;first|(simp only[go_sem,Nat.reduceBEq,Nat.reduceAdd,Nat.reduceLeDiff,reduceIte]<;>rfl)|rfl)|exact Nat.le_of_ble_eq_true rfl|decide|(repeat' first|(apply Lk.go;constructor)|assumption|exact nb ‹_› ‹_›|exact nt ‹_› ‹_›))|(intro b hb;repeat first|(refine fe hb ?_;intro _ _ hb)|(refine fT hb ?_;intro hb))|refine rt ?_|refine gA rfl ?_|refine gB rfl ?_|apply cT rfl|apply cF rfl|(apply DM.gbT;rfl)|(apply DM.gbF;rfl)|intro h
   refine AM.eqH (H2 := H.setT tv (.frz 3 1 (i + 1))) (by rw [setT_setT]; rfl) ?_
   refine AM.roundX (i + 1) ⟨rfl, by omega⟩ ?_ ?_
   ·(repeat first | exact envle_nil _ | (refine envle_cons ?_ ?_; · (simp only [go_sem, Nat.reduceBEq, Nat.reduceAdd]; exact AVLe.refl _)))
    refine envle_cons ?_ ?_
    ·simp only [go_sem, Nat.reduceBEq, Nat.reduceAdd]
     refine avle_int ?_
     rw [inc64 h3 (by unfold maxLen; omega)]
    refine envle_cons ?_ (envle_nil _)
    simp only [Env.get, Nat.reduceBEq, cond_true, cond_false, beq_self_eq_true]
    rw [List.take_add_one, hv]
    refine avle_eq ?_
    simp [kindsV]
   ·show xs.length - (i + 1) < xs.length - i
    omega
  ·intro h3
   simp at h3
   have : i = xs.length := by omega
   subst this
   repeat' first|(apply Sp.go;·constructor<;>first|exact ss|(change _=_;first|(simp only[go_sem,Nat.reduceBEq,Nat.reduceAdd,Nat.reduceLeDiff,reduceIte]<;>rfl)|rfl)|exact Nat.le_of_ble_eq_true rfl|decide|(repeat' first|(apply Lk.go;constructor)|assumption|exact nb ‹_› ‹_›|exact nt ‹_› ‹_›))|(intro b hb;repeat first|(refine fe hb ?_;intro _ _ hb)|(refine fT hb ?_;intro hb))|refine rt ?_|refine gA rfl ?_|refine gB rfl ?_|apply cT rfl|apply cF rfl|(apply DM.gbT;rfl)|(apply DM.gbF;rfl)|intro h
   (apply Sr.go;·constructor<;>first|(apply Lk.go;constructor<;>first|exact ss|(change _=_;first|(simp only[go_sem,Nat.reduceBEq,Nat.reduceAdd,Nat.reduceLeDiff,reduceIte]<;>rfl)|rfl)|exact Nat.le_of_ble_eq_true rfl|decide|(repeat' first|(apply Lk.go;constructor)|assumption|exact nb ‹_› ‹_›|exact nt ‹_› ‹_›))|assumption)
   rw [List.take_length]
   exact AVLe.own
theorem p40 (a b : List Int) : Pure Try.prog 40 [.vs 1 (a.map irow), .vs 1 (b.map irow)] (.bool (decide (a = b))) := by
 refine pure_assume (G := a.length ≤ maxLen) (fun m vs h => by simp only [RvL, Rv] at h; obtain ⟨_, _, _, ⟨_, _, _, _, h1, h2, _⟩, _⟩ := h; simp at h1; omega) fun hs => ?_
 refine pure_intro mo Try.func40 c40 fun H => ?_
 unfold e40 r40
 simp only [initEnv, initFrom]
 repeat' first|(apply Sp.go;·constructor<;>first|exact ss|(change _=_;first|(simp only[go_sem,Nat.reduceBEq,Nat.reduceAdd,Nat.reduceLeDiff,reduceIte]<;>rfl)|rfl)|exact Nat.le_of_ble_eq_true rfl|decide|(repeat' first|(apply Lk.go;constructor)|assumption|exact nb ‹_› ‹_›|exact nt ‹_› ‹_›))|(intro b hb;repeat first|(refine fe hb ?_;intro _ _ hb)|(refine fT hb ?_;intro hb))|refine rt ?_|refine gA rfl ?_|refine gB rfl ?_|apply cT rfl|apply cF rfl|(apply DM.gbT;rfl)|(apply DM.gbF;rfl)|intro h
 (apply AM.cond; (· rfl))
 ·intro h1
  simp at h1
  repeat' first|(apply Sp.go;·constructor<;>first|exact ss|(change _=_;first|(simp only[go_sem,Nat.reduceBEq,Nat.reduceAdd,Nat.reduceLeDiff,reduceIte]<;>rfl)|rfl)|exact Nat.le_of_ble_eq_true rfl|decide|(repeat' first|(apply Lk.go;constructor)|assumption|exact nb ‹_› ‹_›|exact nt ‹_› ‹_›))|(intro b hb;repeat first|(refine fe hb ?_;intro _ _ hb)|(refine fT hb ?_;intro hb))|refine rt ?_|refine gA rfl ?_|refine gB rfl ?_|apply cT rfl|apply cF rfl|(apply DM.gbT;rfl)|(apply DM.gbF;rfl)|intro h
  (apply Sr.go;·constructor<;>first|(apply Lk.go;constructor<;>first|exact ss|(change _=_;first|(simp only[go_sem,Nat.reduceBEq,Nat.reduceAdd,Nat.reduceLeDiff,reduceIte]<;>rfl)|rfl)|exact Nat.le_of_ble_eq_true rfl|decide|(repeat' first|(apply Lk.go;constructor)|assumption|exact nb ‹_› ‹_›|exact nt ‹_› ‹_›))|assumption)
  refine avle_eq ?_
  rw [decide_eq_false (fun e => h1 (by rw [e]))]
 ·intro h1
  simp at h1
  repeat' first|(apply Sp.go;·constructor<;>first|exact ss|(change _=_;first|(simp only[go_sem,Nat.reduceBEq,Nat.reduceAdd,Nat.reduceLeDiff,reduceIte]<;>rfl)|rfl)|exact Nat.le_of_ble_eq_true rfl|decide|(repeat' first|(apply Lk.go;constructor)|assumption|exact nb ‹_› ‹_›|exact nt ‹_› ‹_›))|(intro b hb;repeat first|(refine fe hb ?_;intro _ _ hb)|(refine fT hb ?_;intro hb))|refine rt ?_|refine gA rfl ?_|refine gB rfl ?_|apply cT rfl|apply cF rfl|(apply DM.gbT;rfl)|(apply DM.gbF;rfl)|intro h
  refine AM.loopX (X := Nat) 0 (fun i => [(0, .vs 1 (a.map irow)), (1, .vs 1 (b.map irow)), (5, .int .i64 i)]) (fun i H' => H' = H ∧ i ≤ a.length ∧ (a = b ↔ a.drop i = b.drop i)) (fun i => a.length - i) ⟨rfl, by omega, Iff.rfl⟩ ?_ ?_
  ·(repeat first | exact envle_nil _ | (refine envle_cons ?_ ?_; · (simp only [go_sem, Nat.reduceBEq, Nat.reduceAdd]; exact AVLe.refl _)))
  ·intro i H' ⟨e, hi, he⟩
   subst e
   repeat' first|(apply Sp.go;·constructor<;>first|exact ss|(change _=_;first|(simp only[go_sem,Nat.reduceBEq,Nat.reduceAdd,Nat.reduceLeDiff,reduceIte]<;>rfl)|rfl)|exact Nat.le_of_ble_eq_true rfl|decide|(repeat' first|(apply Lk.go;constructor)|assumption|exact nb ‹_› ‹_›|exact nt ‹_› ‹_›))|(intro b hb;repeat first|(refine fe hb ?_;intro _ _ hb)|(refine fT hb ?_;intro hb))|refine rt ?_|refine gA rfl ?_|refine gB rfl ?_|apply cT rfl|apply cF rfl|(apply DM.gbT;rfl)|(apply DM.gbF;rfl)|intro h
   (apply AM.cond; (· rfl))
   ·intro h3
    simp at h3
    obtain ⟨c, hc⟩ := some_of h3
    obtain ⟨d, hd⟩ := some_of (show i < b.length by omega)
    rw [drop_of hc, drop_of hd] at he
    repeat' first|(apply Sp.go;·constructor<;>first|exact ss|(change _=_;first|(simp only[go_sem,Nat.reduceBEq,Nat.reduceAdd,Nat.reduceLeDiff,reduceIte]<;>rfl)|rfl)|exact Nat.le_of_ble_eq_true rfl|decide|(repeat' first|(apply Lk.go;constructor)|assumption|exact nb ‹_› ‹_›|exact nt ‹_› ‹_›))|(intro b hb;repeat first|(refine fe hb ?_;intro _ _ hb)|(refine fT hb ?_;intro hb))|refine rt ?_|refine gA rfl ?_|refine gB rfl ?_|apply cT rfl|apply cF rfl|(apply DM.gbT;rfl)|(apply DM.gbF;rfl)|(apply DM.ixV (row := irow c) (z := (i : Int)) (by omega) (row_get irow hc); (· rfl); (· rfl))|(apply DM.ixV (row := irow d) (z := (i : Int)) (by omega) (row_get irow hd); (· rfl); (· rfl))|intro h
    (apply AM.cond; (· rfl))
    ·intro h4
     simp at h4
     repeat' first|(apply Sp.go;·constructor<;>first|exact ss|(change _=_;first|(simp only[go_sem,Nat.reduceBEq,Nat.reduceAdd,Nat.reduceLeDiff,reduceIte]<;>rfl)|rfl)|exact Nat.le_of_ble_eq_true rfl|decide|(repeat' first|(apply Lk.go;constructor)|assumption|exact nb ‹_› ‹_›|exact nt ‹_› ‹_›))|(intro b hb;repeat first|(refine fe hb ?_;intro _ _ hb)|(refine fT hb ?_;intro hb))|refine rt ?_|refine gA rfl ?_|refine gB rfl ?_|apply cT rfl|apply cF rfl|(apply DM.gbT;rfl)|(apply DM.gbF;rfl)|intro h
     (apply Sr.go;·constructor<;>first|(apply Lk.go;constructor<;>first|exact ss|(change _=_;first|(simp only[go_sem,Nat.reduceBEq,Nat.reduceAdd,Nat.reduceLeDiff,reduceIte]<;>rfl)|rfl)|exact Nat.le_of_ble_eq_true rfl|decide|(repeat' first|(apply Lk.go;constructor)|assumption|exact nb ‹_› ‹_›|exact nt ‹_› ‹_›))|assumption)
     refine avle_eq ?_
     rw [decide_eq_false (fun e => h4 (by have := he.1 e; simp at this; exact this.1))]
    ·intro h4
     simp at h4
     subst h4
     repeat' first|(apply Sp.go;·constructor<;>first|exact ss|(change _=_;first|(simp only[go_sem,Nat.reduceBEq,Nat.reduceAdd,Nat.reduceLeDiff,reduceIte]<;>rfl)|rfl)|exact Nat.le_of_ble_eq_true rfl|decide|(repeat' first|(apply Lk.go;constructor)|assumption|exact nb ‹_› ‹_›|exact nt ‹_› ‹_›))|(intro b hb;repeat first|(refine fe hb ?_;intro _ _ hb)|(refine fT hb ?_;intro hb))|refine rt ?_|refine gA rfl ?_|refine gB rfl ?_|apply cT rfl|apply cF rfl|(apply DM.gbT;rfl)|(apply DM.gbF;rfl)|intro h
     refine AM.roundX (i + 1) ⟨rfl, by omega, he.trans (by simp)⟩ ?_ ?_
     ·(repeat first | exact envle_nil _ | (refine envle_cons ?_ ?_; · (simp only [go_sem, Nat.reduceBEq, Nat.reduceAdd]; exact AVLe.refl _)))
      refine envle_cons ?_ ?_
      ·simp only [go_sem, Nat.reduceBEq, Nat.reduceAdd]
       refine avle_int ?_
       rw [inc64 h3 hs]
      exact envle_nil _
     ·show a.length - (i + 1) < a.length - i
      omega
   ·intro h3
    simp at h3
    repeat' first|(apply Sp.go;·constructor<;>first|exact ss|(change _=_;first|(simp only[go_sem,Nat.reduceBEq,Nat.reduceAdd,Nat.reduceLeDiff,reduceIte]<;>rfl)|rfl)|exact Nat.le_of_ble_eq_true rfl|decide|(repeat' first|(apply Lk.go;constructor)|assumption|exact nb ‹_› ‹_›|exact nt ‹_› ‹_›))|(intro b hb;repeat first|(refine fe hb ?_;intro _ _ hb)|(refine fT hb ?_;intro hb))|refine rt ?_|refine gA rfl ?_|refine gB rfl ?_|apply cT rfl|apply cF rfl|(apply DM.gbT;rfl)|(apply DM.gbF;rfl)|intro h
    (apply Sr.go;·constructor<;>first|(apply Lk.go;constructor<;>first|exact ss|(change _=_;first|(simp only[go_sem,Nat.reduceBEq,Nat.reduceAdd,Nat.reduceLeDiff,reduceIte]<;>rfl)|rfl)|exact Nat.le_of_ble_eq_true rfl|decide|(repeat' first|(apply Lk.go;constructor)|assumption|exact nb ‹_› ‹_›|exact nt ‹_› ‹_›))|assumption)
    refine avle_eq ?_
    rw [decide_eq_true (he.2 (by rw [List.drop_eq_nil_of_le h3, List.drop_eq_nil_of_le (by omega)]))]
def fieldsOk (d : Decl_) : Prop := ∀ f ∈ d.fields, validS f.sort = true ∧ d.fields.length ≤ 4
def gAt (gs : List Val) (i : Nat) : Val := (gs[i % gs.length]?).getD val0
theorem gAt_get {gs : List Val} (h : gs.length ≠ 0) (i : Nat) : gs[i % gs.length]? = some (gAt gs i) := by
 have : i % gs.length < gs.length := Nat.mod_lt _ (by omega)
 obtain ⟨v, hv⟩ := some_of this
 simp [gAt, hv]
def varsN (p : Prog) (gs : List Val) (n : Nat) : List Val := (List.range n).map fun j => clampedV (((p.vars[j]?).map (fun w : Var_ => w.sort)).getD ⟨0, 0, 0⟩) (gAt gs j)
theorem varsN_succ {p : Prog} {gs : List Val} {n : Nat} {w : Var_} (h : p.vars[n]? = some w) : varsN p gs (n + 1) = varsN p gs n ++ [clampedV w.sort (gAt gs n)] := by
 simp [varsN, List.range_succ, h]
theorem varsN_len (p : Prog) (gs : List Val) (n : Nat) : (varsN p gs n).length = n := by simp [varsN]
theorem varsN_sound {p : Prog} (hval : validP p = true) (gs : List Val) : soundP p (varsN p gs p.vars.length) = true := by
 simp only [soundP, Bool.and_eq_true]
 refine ⟨hval, eqF_iff.2 ⟨(varsN_len p gs _).symm, fun i a b ha hb => ?_⟩⟩
 have hi := (List.getElem?_eq_some_iff.1 ha).1
 simp only [varsN, List.getElem?_map, List.getElem?_range hi, Option.map_some, ha, Option.getD_some, Option.some.injEq] at hb
 subst hb
 exact clamped_fits (sort_ok hval (List.mem_of_getElem? ha)) _
def parN (d : Decl_) (gs : List Val) (i n : Nat) : List Val := (List.range n).map fun j => clampedV (((d.fields[j]?).map (fun f : Fld => f.sort)).getD ⟨0, 0, 0⟩) (gAt gs (i + j))
theorem parN_succ {d : Decl_} {gs : List Val} {i n : Nat} {f : Fld} (h : d.fields[n]? = some f) : parN d gs i (n + 1) = parN d gs i n ++ [clampedV f.sort (gAt gs (i + n))] := by
 simp [parN, List.range_succ, h]
theorem parN_len (d : Decl_) (gs : List Val) (i n : Nat) : (parN d gs i n).length = n := by simp [parN]
theorem parN_ok {d : Decl_} (hd : fieldsOk d) (gs : List Val) (i : Nat) : ∀ {n : Nat}, n ≤ d.fields.length → kindsV (parN d gs i n) = (d.fields.take n).map (fun f => f.sort.k) ∧ ∀ v ∈ parN d gs i n, validV v = true
 | 0, _ => ⟨by simp [parN, kindsV], fun v hv => by simp [parN] at hv⟩
 | n + 1, h => by
  obtain ⟨f, hf⟩ := some_of (show n < d.fields.length by omega)
  obtain ⟨h1, h2⟩ := parN_ok hd gs i (n := n) (by omega)
  obtain ⟨k1, k2⟩ := fits_kv (clamped_fits (hd f (List.mem_of_getElem? hf)).1 (gAt gs (i + n)))
  rw [parN_succ hf]
  refine ⟨?_, fun v hv => ?_⟩
  ·rw [List.take_add_one, hf]
   simp only [kindsV, List.map_append, Option.toList_some, List.map_cons, List.map_nil] at h1 ⊢
   rw [h1, k1]
  ·rcases List.mem_append.1 hv with hv | hv
   ·exact h2 v hv
   ·simp at hv; subst hv; exact k2
abbrev eRow2 (ds : List Decl_) (x : Part) : List AV := [.int .i64 x.at_, .int .i64 x.label, .vs 1 ((psOf ds x).map irow), .vs 1 ((rsOf ds x).map irow)]
theorem avlr_map {α : Type} {f g : α → List AV} (h : ∀ x, AVLes (f x) (g x)) : ∀ l : List α, AVLr (l.map f) (l.map g)
 | [] => avlr_nil
 | x :: l => avlr_cons (h x) (avlr_map h l)
theorem eRow_le (ds : List Decl_) (PS : List Part) : AVLe (.vs 4 (PS.map (eRow ds))) (.vs 4 (PS.map (eRow2 ds))) :=
 avle_vs (avlr_map (fun x => avles_cons (AVLe.refl _) (avles_cons (AVLe.refl _) (avles_cons (psAv_le ds x) (avles_cons (rsAv_le ds x) avles_nil)))) PS)
set_option maxHeartbeats 16000000 in
theorem p12 (hR : RepeatOk) (p : Prog) (hby : p.vars.length * 72 ≤ 140737488355328 ∧ p.hs.length * 24 ≤ 140737488355328 ∧ p.os.length * 32 ≤ 140737488355328 ∧ p.code.length * 32 ≤ 140737488355328) (ds : List Decl_) (gs : List Val) : Pure Try.prog 12 [p.av, .vs 5 (ds.map Decl_.row), .vs 3 (gs.map Val.row)] (.bool true) := by
 refine pure_assume (G := ds.length ≤ maxLen) (fun m vs h => by simp only [RvL] at h; obtain ⟨_, _, _, _, _, _, _, h1, _⟩ := h; have := vs_len h1; simpa using this) fun hl => ?_
 refine pure_intro mo Try.func12 c12 fun H => ?_
 unfold e12 r12
 simp only [initEnv, initFrom]
 repeat' first|(apply Sp.go;·constructor<;>first|exact ss|(change _=_;first|(simp only[go_sem,Nat.reduceBEq,Nat.reduceAdd,Nat.reduceLeDiff,reduceIte]<;>rfl)|rfl)|exact Nat.le_of_ble_eq_true rfl|decide|(repeat' first|(apply Lk.go;constructor)|assumption|exact nb ‹_› ‹_›|exact nt ‹_› ‹_›))|(intro b hb;repeat first|(refine fe hb ?_;intro _ _ hb)|(refine fT hb ?_;intro hb))|refine rt ?_|refine gA rfl ?_|refine gB rfl ?_|apply cT rfl|apply cF rfl|(apply DM.gbT;rfl)|(apply DM.gbF;rfl)|intro h
 rename Nat => b3
 have hs3 : HSub H (H.setB b3 27 p.cells) := HSub.setB (HSub.refl _) hb
 have h3 : (H.setB b3 27 p.cells).blk b3 = some (27, p.cells) := g_same
 generalize H.setB b3 27 p.cells = G at hs3 h3 ⊢
 clear hb
 (apply DM.pcs (p15); (· simp only [go_sem, Nat.reduceBEq, Nat.reduceAdd] <;> rfl); (· exact AVLes.refl _))
 repeat' first|(apply Sp.go;·constructor<;>first|exact ss|(change _=_;first|(simp only[go_sem,Nat.reduceBEq,Nat.reduceAdd,Nat.reduceLeDiff,reduceIte]<;>rfl)|rfl)|exact Nat.le_of_ble_eq_true rfl|decide|(repeat' first|(apply Lk.go;constructor)|assumption|exact nb ‹_› ‹_›|exact nt ‹_› ‹_›))|(intro b hb;repeat first|(refine fe hb ?_;intro _ _ hb)|(refine fT hb ?_;intro hb))|refine rt ?_|refine gA rfl ?_|refine gB rfl ?_|apply cT rfl|apply cF rfl|(apply DM.gbT;rfl)|(apply DM.gbF;rfl)|intro h
 have c18 := p18b p hby
 (apply DM.pcs (c18); (· simp only [go_sem, Nat.reduceBEq, Nat.reduceAdd] <;> rfl); (· exact AVLes.refl _))
 repeat' first|(apply Sp.go;·constructor<;>first|exact ss|(change _=_;first|(simp only[go_sem,Nat.reduceBEq,Nat.reduceAdd,Nat.reduceLeDiff,reduceIte]<;>rfl)|rfl)|exact Nat.le_of_ble_eq_true rfl|decide|(repeat' first|(apply Lk.go;constructor)|assumption|exact nb ‹_› ‹_›|exact nt ‹_› ‹_›))|(intro b hb;repeat first|(refine fe hb ?_;intro _ _ hb)|(refine fT hb ?_;intro hb))|refine rt ?_|refine gA rfl ?_|refine gB rfl ?_|apply cT rfl|apply cF rfl|(apply DM.gbT;rfl)|(apply DM.gbF;rfl)|intro h
 rename Nat => b7
 have hn37 : b3 ≠ b7 := (ne_blk hb h3).2
 have m3 : (G.setB b7 41 p.cells).blk b3 = some (27, p.cells) := g_ne hn37 h3
 have m7 : (G.setB b7 41 p.cells).blk b7 = some (41, p.cells) := g_same
 have hsF : HSub H (G.setB b7 41 p.cells) := hs3.trans (HSub.setB (HSub.refl _) hb)
 clear hb
 generalize G.setB b7 41 p.cells = F at m3 m7 hsF ⊢
 have fin : ∀ {k : List Item} {env : Env} {H' : AHeap}, HSub F H' → env.get 6 = .bool true → AM Try.prog r12 (fun o H' => ∃ a, o = Out.ret a ∧ AVLe a (.bool true) ∧ HSub H H') (.c .ret :: k) env H' := fun hh he => AM.ret (v := .bool true) (by simp [Aw.results, r12, ERes.ev, he]) ⟨_, rfl, AVLe.refl _, hsF.trans hh⟩
 (apply DM.pcs (p16 p); (· simp only [go_sem, Nat.reduceBEq, Nat.reduceAdd] <;> rfl); (· exact AVLes.refl _))
 cases hf : fewP p with
 | false =>
  repeat' first|(apply Sp.go;·constructor<;>first|exact ss|(change _=_;first|(simp only[go_sem,Nat.reduceBEq,Nat.reduceAdd,Nat.reduceLeDiff,reduceIte]<;>rfl)|rfl)|exact Nat.le_of_ble_eq_true rfl|decide|(repeat' first|(apply Lk.go;constructor)|assumption|exact nb ‹_› ‹_›|exact nt ‹_› ‹_›))|(intro b hb;repeat first|(refine fe hb ?_;intro _ _ hb)|(refine fT hb ?_;intro hb))|refine rt ?_|refine gA rfl ?_|refine gB rfl ?_|apply cT rfl|apply cF rfl|(apply DM.gbT;rfl)|(apply DM.gbF;rfl)|intro h
  exact fin (HSub.refl _) rfl
 | true =>
  repeat' first|(apply Sp.go;·constructor<;>first|exact ss|(change _=_;first|(simp only[go_sem,Nat.reduceBEq,Nat.reduceAdd,Nat.reduceLeDiff,reduceIte]<;>rfl)|rfl)|exact Nat.le_of_ble_eq_true rfl|decide|(repeat' first|(apply Lk.go;constructor)|assumption|exact nb ‹_› ‹_›|exact nt ‹_› ‹_›))|(intro b hb;repeat first|(refine fe hb ?_;intro _ _ hb)|(refine fT hb ?_;intro hb))|refine rt ?_|refine gA rfl ?_|refine gB rfl ?_|apply cT rfl|apply cF rfl|(apply DM.gbT;rfl)|(apply DM.gbF;rfl)|intro h
  (apply DM.pcs (p20 ds hl); (· simp only [go_sem, Nat.reduceBEq, Nat.reduceAdd] <;> rfl); (· exact AVLes.refl _))
  cases hsd : shortD ds with
  | false =>
   repeat' first|(apply Sp.go;·constructor<;>first|exact ss|(change _=_;first|(simp only[go_sem,Nat.reduceBEq,Nat.reduceAdd,Nat.reduceLeDiff,reduceIte]<;>rfl)|rfl)|exact Nat.le_of_ble_eq_true rfl|decide|(repeat' first|(apply Lk.go;constructor)|assumption|exact nb ‹_› ‹_›|exact nt ‹_› ‹_›))|(intro b hb;repeat first|(refine fe hb ?_;intro _ _ hb)|(refine fT hb ?_;intro hb))|refine rt ?_|refine gA rfl ?_|refine gB rfl ?_|apply cT rfl|apply cF rfl|(apply DM.gbT;rfl)|(apply DM.gbF;rfl)|intro h
   exact fin (HSub.refl _) rfl
  | true =>
   have hd6 : ∀ d ∈ ds, d.fields.length ≤ 6 := fun d h => by
    simp only [shortD, Bool.and_eq_true, List.all_eq_true, decide_eq_true_eq] at hsd
    exact hsd.1 d h
   have hd : ∀ d ∈ ds, d.fields.length ≤ 1000 := fun d h => by have := hd6 d h; omega
   have hd20 : ds.length ≤ 20 := by
    simp only [shortD, Bool.and_eq_true, List.all_eq_true, decide_eq_true_eq] at hsd
    exact hsd.2
   by_cases h1 : 40 < gs.length
   ·have e1 : decide ((40 : Int) < ((gs.map Val.row).length : Int)) = true := decide_eq_true (by rw [List.length_map]; omega)
    repeat' first|(apply Sp.go;·constructor<;>first|exact ss|(change _=_;first|(simp only[go_sem,Nat.reduceBEq,Nat.reduceAdd,Nat.reduceLeDiff,reduceIte, e1]<;>rfl)|rfl)|exact Nat.le_of_ble_eq_true rfl|decide|(repeat' first|(apply Lk.go;constructor)|assumption|exact nb ‹_› ‹_›|exact nt ‹_› ‹_›))|(intro b hb;repeat first|(refine fe hb ?_;intro _ _ hb)|(refine fT hb ?_;intro hb))|refine rt ?_|refine gA rfl ?_|refine gB rfl ?_|apply cT rfl|apply cF rfl|(apply DM.gbT;rfl)|(apply DM.gbF;rfl)|intro h
    exact fin (HSub.refl _) rfl
   have e1 : decide ((40 : Int) < ((gs.map Val.row).length : Int)) = false := decide_eq_false (by rw [List.length_map]; omega)
   by_cases h0 : gs.length = 0
   ·have e2 : decide (((gs.map Val.row).length : Int) = 0) = true := decide_eq_true (by rw [List.length_map]; omega)
    repeat' first|(apply Sp.go;·constructor<;>first|exact ss|(change _=_;first|(simp only[go_sem,Nat.reduceBEq,Nat.reduceAdd,Nat.reduceLeDiff,reduceIte, e1, e2]<;>rfl)|rfl)|exact Nat.le_of_ble_eq_true rfl|decide|(repeat' first|(apply Lk.go;constructor)|assumption|exact nb ‹_› ‹_›|exact nt ‹_› ‹_›))|(intro b hb;repeat first|(refine fe hb ?_;intro _ _ hb)|(refine fT hb ?_;intro hb))|refine rt ?_|refine gA rfl ?_|refine gB rfl ?_|apply cT rfl|apply cF rfl|(apply DM.gbT;rfl)|(apply DM.gbF;rfl)|intro h
    exact fin (HSub.refl _) rfl
   have e2 : decide (((gs.map Val.row).length : Int) = 0) = false := decide_eq_false (by rw [List.length_map]; omega)
   repeat' first|(apply Sp.go;·constructor<;>first|exact ss|(change _=_;first|(simp only[go_sem,Nat.reduceBEq,Nat.reduceAdd,Nat.reduceLeDiff,reduceIte, e1, e2]<;>rfl)|rfl)|exact Nat.le_of_ble_eq_true rfl|decide|(repeat' first|(apply Lk.go;constructor)|assumption|exact nb ‹_› ‹_›|exact nt ‹_› ‹_›))|(intro b hb;repeat first|(refine fe hb ?_;intro _ _ hb)|(refine fT hb ?_;intro hb))|refine rt ?_|refine gA rfl ?_|refine gB rfl ?_|apply cT rfl|apply cF rfl|(apply DM.gbT;rfl)|(apply DM.gbF;rfl)|intro h
   refine AM.loopX (X := Nat) 0 (fun i => [(1, .vs 5 (ds.map Decl_.row)), (2, .vs 3 (gs.map Val.row)), (3, .ptr b3 0), (7, .ptr b7 0), (8, .int .i64 i)]) (fun i H' => H' = F ∧ i ≤ ds.length ∧ ∀ (j : Nat) (d : Decl_), j < i → ds[j]? = some d → fieldsOk d) (fun i => ds.length - i) ⟨rfl, by omega, fun j d hj => by omega⟩ ?_ ?_
   ·(repeat first | exact envle_nil _ | (refine envle_cons ?_ ?_; · (simp only [go_sem, Nat.reduceBEq, Nat.reduceAdd]; exact AVLe.refl _)))
   ·intro i H' ⟨e, hi, hok⟩
    subst e
    repeat' first|(apply Sp.go;·constructor<;>first|exact ss|(change _=_;first|(simp only[go_sem,Nat.reduceBEq,Nat.reduceAdd,Nat.reduceLeDiff,reduceIte]<;>rfl)|rfl)|exact Nat.le_of_ble_eq_true rfl|decide|(repeat' first|(apply Lk.go;constructor)|assumption|exact nb ‹_› ‹_›|exact nt ‹_› ‹_›))|(intro b hb;repeat first|(refine fe hb ?_;intro _ _ hb)|(refine fT hb ?_;intro hb))|refine rt ?_|refine gA rfl ?_|refine gB rfl ?_|apply cT rfl|apply cF rfl|(apply DM.gbT;rfl)|(apply DM.gbF;rfl)|intro h
    (apply AM.cond; (· rfl))
    ·intro h5
     simp at h5
     obtain ⟨d, hdd⟩ := some_of h5
     repeat' first|(apply Sp.go;·constructor<;>first|exact ss|(change _=_;first|(simp only[go_sem,Nat.reduceBEq,Nat.reduceAdd,Nat.reduceLeDiff,reduceIte]<;>rfl)|rfl)|exact Nat.le_of_ble_eq_true rfl|decide|(repeat' first|(apply Lk.go;constructor)|assumption|exact nb ‹_› ‹_›|exact nt ‹_› ‹_›))|(intro b hb;repeat first|(refine fe hb ?_;intro _ _ hb)|(refine fT hb ?_;intro hb))|refine rt ?_|refine gA rfl ?_|refine gB rfl ?_|apply cT rfl|apply cF rfl|(apply DM.gbT;rfl)|(apply DM.gbF;rfl)|intro h
     refine AM.loopX (X := Nat) 0 (fun k => [(1, .vs 5 (ds.map Decl_.row)), (2, .vs 3 (gs.map Val.row)), (3, .ptr b3 0), (7, .ptr b7 0), (8, .int .i64 i), (9, .int .i64 k)]) (fun k H'' => H'' = H' ∧ k ≤ d.fields.length ∧ ∀ (j : Nat) (f : Fld), j < k → d.fields[j]? = some f → validS f.sort = true ∧ d.fields.length ≤ 4) (fun k => d.fields.length - k) ⟨rfl, by omega, fun j f hj => by omega⟩ ?_ ?_
     ·(repeat first | exact envle_nil _ | (refine envle_cons ?_ ?_; · (simp only [go_sem, Nat.reduceBEq, Nat.reduceAdd]; exact AVLe.refl _)))
     ·intro k H'' ⟨e, hk, hfo⟩
      subst e
      have hdl := hd6 d (List.mem_of_getElem? hdd)
      repeat' first|(apply Sp.go;·constructor<;>first|exact ss|(change _=_;first|(simp only[go_sem,Nat.reduceBEq,Nat.reduceAdd,Nat.reduceLeDiff,reduceIte]<;>rfl)|rfl)|exact Nat.le_of_ble_eq_true rfl|decide|(repeat' first|(apply Lk.go;constructor)|assumption|exact nb ‹_› ‹_›|exact nt ‹_› ‹_›))|(intro b hb;repeat first|(refine fe hb ?_;intro _ _ hb)|(refine fT hb ?_;intro hb))|refine rt ?_|refine gA rfl ?_|refine gB rfl ?_|apply cT rfl|apply cF rfl|(apply DM.gbT;rfl)|(apply DM.gbF;rfl)|(apply DM.ixV (row := d.row) (z := (i : Int)) (by omega) (row_get Decl_.row hdd); (· rfl); (· rfl))|intro h
      (apply AM.cond; (· rfl))
      ·intro h6
       simp at h6
       obtain ⟨f, hff⟩ := some_of h6
       repeat' first|(apply Sp.go;·constructor<;>first|exact ss|(change _=_;first|(simp only[go_sem,Nat.reduceBEq,Nat.reduceAdd,Nat.reduceLeDiff,reduceIte]<;>rfl)|rfl)|exact Nat.le_of_ble_eq_true rfl|decide|(repeat' first|(apply Lk.go;constructor)|assumption|exact nb ‹_› ‹_›|exact nt ‹_› ‹_›))|(intro b hb;repeat first|(refine fe hb ?_;intro _ _ hb)|(refine fT hb ?_;intro hb))|refine rt ?_|refine gA rfl ?_|refine gB rfl ?_|apply cT rfl|apply cF rfl|(apply DM.gbT;rfl)|(apply DM.gbF;rfl)|(apply DM.ixV (row := d.row) (z := (i : Int)) (by omega) (row_get Decl_.row hdd); (· rfl); (· rfl))|(apply DM.ixV (row := f.row) (z := (k : Int)) (by omega) (row_get Fld.row hff); (· rfl); (· rfl))|intro h
       (apply DM.pcs (R.p38 f.sort); (· simp only [go_sem, Nat.reduceBEq, Nat.reduceAdd] <;> rfl); (· exact AVLes.refl _))
       cases hvs : validS f.sort with
       | false =>
        repeat' first|(apply Sp.go;·constructor<;>first|exact ss|(change _=_;first|(simp only[go_sem,Nat.reduceBEq,Nat.reduceAdd,Nat.reduceLeDiff,reduceIte]<;>rfl)|rfl)|exact Nat.le_of_ble_eq_true rfl|decide|(repeat' first|(apply Lk.go;constructor)|assumption|exact nb ‹_› ‹_›|exact nt ‹_› ‹_›))|(intro b hb;repeat first|(refine fe hb ?_;intro _ _ hb)|(refine fT hb ?_;intro hb))|refine rt ?_|refine gA rfl ?_|refine gB rfl ?_|apply cT rfl|apply cF rfl|(apply DM.gbT;rfl)|(apply DM.gbF;rfl)|intro h
        exact fin (HSub.refl _) rfl
       | true =>
        repeat' first|(apply Sp.go;·constructor<;>first|exact ss|(change _=_;first|(simp only[go_sem,Nat.reduceBEq,Nat.reduceAdd,Nat.reduceLeDiff,reduceIte]<;>rfl)|rfl)|exact Nat.le_of_ble_eq_true rfl|decide|(repeat' first|(apply Lk.go;constructor)|assumption|exact nb ‹_› ‹_›|exact nt ‹_› ‹_›))|(intro b hb;repeat first|(refine fe hb ?_;intro _ _ hb)|(refine fT hb ?_;intro hb))|refine rt ?_|refine gA rfl ?_|refine gB rfl ?_|apply cT rfl|apply cF rfl|(apply DM.gbT;rfl)|(apply DM.gbF;rfl)|intro h
        (apply DM.ixV (row := d.row) (z := (i : Int)) (by omega) (row_get Decl_.row hdd); (· rfl); (· rfl))
        by_cases h7 : 4 < d.fields.length
        ·have e3 : decide ((4 : Int) < ((d.fields.map Fld.row).length : Int)) = true := decide_eq_true (by rw [List.length_map]; omega)
         repeat' first|(apply Sp.go;·constructor<;>first|exact ss|(change _=_;first|(simp only[go_sem,Nat.reduceBEq,Nat.reduceAdd,Nat.reduceLeDiff,reduceIte, e3]<;>rfl)|rfl)|exact Nat.le_of_ble_eq_true rfl|decide|(repeat' first|(apply Lk.go;constructor)|assumption|exact nb ‹_› ‹_›|exact nt ‹_› ‹_›))|(intro b hb;repeat first|(refine fe hb ?_;intro _ _ hb)|(refine fT hb ?_;intro hb))|refine rt ?_|refine gA rfl ?_|refine gB rfl ?_|apply cT rfl|apply cF rfl|(apply DM.gbT;rfl)|(apply DM.gbF;rfl)|intro h
         exact fin (HSub.refl _) rfl
        ·have e3 : decide ((4 : Int) < ((d.fields.map Fld.row).length : Int)) = false := decide_eq_false (by rw [List.length_map]; omega)
         repeat' first|(apply Sp.go;·constructor<;>first|exact ss|(change _=_;first|(simp only[go_sem,Nat.reduceBEq,Nat.reduceAdd,Nat.reduceLeDiff,reduceIte, e3]<;>rfl)|rfl)|exact Nat.le_of_ble_eq_true rfl|decide|(repeat' first|(apply Lk.go;constructor)|assumption|exact nb ‹_› ‹_›|exact nt ‹_› ‹_›))|(intro b hb;repeat first|(refine fe hb ?_;intro _ _ hb)|(refine fT hb ?_;intro hb))|refine rt ?_|refine gA rfl ?_|refine gB rfl ?_|apply cT rfl|apply cF rfl|(apply DM.gbT;rfl)|(apply DM.gbF;rfl)|intro h
         refine AM.roundX (k + 1) ⟨rfl, by omega, fun j f' hj hf' => ?_⟩ ?_ ?_
         ·by_cases q : j = k
          ·subst q
           rw [hff] at hf'
           cases hf'
           exact ⟨hvs, by omega⟩
          ·exact hfo j f' (by omega) hf'
         ·(repeat first | exact envle_nil _ | (refine envle_cons ?_ ?_; · (simp only [go_sem, Nat.reduceBEq, Nat.reduceAdd]; exact AVLe.refl _)))
          refine envle_cons ?_ ?_
          ·simp only [go_sem, Nat.reduceBEq, Nat.reduceAdd]
           refine avle_int ?_
           rw [inc64 h6 (by unfold maxLen; omega)]
          exact envle_nil _
         ·show d.fields.length - (k + 1) < d.fields.length - k
          omega
      ·intro h6
       simp at h6
       repeat' first|(apply Sp.go;·constructor<;>first|exact ss|(change _=_;first|(simp only[go_sem,Nat.reduceBEq,Nat.reduceAdd,Nat.reduceLeDiff,reduceIte]<;>rfl)|rfl)|exact Nat.le_of_ble_eq_true rfl|decide|(repeat' first|(apply Lk.go;constructor)|assumption|exact nb ‹_› ‹_›|exact nt ‹_› ‹_›))|(intro b hb;repeat first|(refine fe hb ?_;intro _ _ hb)|(refine fT hb ?_;intro hb))|refine rt ?_|refine gA rfl ?_|refine gB rfl ?_|apply cT rfl|apply cF rfl|(apply DM.gbT;rfl)|(apply DM.gbF;rfl)|intro h
       refine AM.roundX (i + 1) ⟨rfl, by omega, fun j d' hj hd' => ?_⟩ ?_ ?_
       ·by_cases q : j = i
        ·subst q
         rw [hdd] at hd'
         cases hd'
         intro f hf'
         obtain ⟨a, ha⟩ := List.getElem?_of_mem hf'
         exact hfo a f (by have := (List.getElem?_eq_some_iff.1 ha).1; omega) ha
        ·exact hok j d' (by omega) hd'
       ·(repeat first | exact envle_nil _ | (refine envle_cons ?_ ?_; · (simp only [go_sem, Nat.reduceBEq, Nat.reduceAdd]; exact AVLe.refl _)))
        refine envle_cons ?_ ?_
        ·simp only [go_sem, Nat.reduceBEq, Nat.reduceAdd]
         refine avle_int ?_
         rw [inc64 h5 hl]
        exact envle_nil _
       ·show ds.length - (i + 1) < ds.length - i
        omega
    ·intro h5
     simp at h5
     have hokA : ∀ d ∈ ds, fieldsOk d := fun d hdm => by
      obtain ⟨a, ha⟩ := List.getElem?_of_mem hdm
      exact hok a d (by have := (List.getElem?_eq_some_iff.1 ha).1; omega) ha
     clear hok
     have c21 := p21 p ds hd
     repeat' first|(apply Sp.go;·constructor<;>first|exact ss|(change _=_;first|(simp only[go_sem,Nat.reduceBEq,Nat.reduceAdd,Nat.reduceLeDiff,reduceIte]<;>rfl)|rfl)|exact Nat.le_of_ble_eq_true rfl|decide|(repeat' first|(apply Lk.go;constructor)|assumption|exact nb ‹_› ‹_›|exact nt ‹_› ‹_›))|(intro b hb;repeat first|(refine fe hb ?_;intro _ _ hb)|(refine fT hb ?_;intro hb))|refine rt ?_|refine gA rfl ?_|refine gB rfl ?_|apply cT rfl|apply cF rfl|(apply DM.gbT;rfl)|(apply DM.gbF;rfl)|intro h
     (apply DM.pcs (c21); (· simp only [go_sem, Nat.reduceBEq, Nat.reduceAdd] <;> rfl); (· exact AVLes.refl _))
     by_cases z1 : (checkP p ds).2 = 0
     ·have dz : (!decide ((checkP p ds).2 = 0)) = false := by simp [z1]
      generalize (checkP p ds).1 = cp at *
      repeat' first|(apply Sp.go;·constructor<;>first|exact ss|(change _=_;first|(simp only[go_sem,Nat.reduceBEq,Nat.reduceAdd,Nat.reduceLeDiff,reduceIte, dz]<;>rfl)|rfl)|exact Nat.le_of_ble_eq_true rfl|decide|(repeat' first|(apply Lk.go;constructor)|assumption|exact nb ‹_› ‹_›|exact nt ‹_› ‹_›))|(intro b hb;repeat first|(refine fe hb ?_;intro _ _ hb)|(refine fT hb ?_;intro hb))|refine rt ?_|refine gA rfl ?_|refine gB rfl ?_|apply cT rfl|apply cF rfl|(apply DM.gbT;rfl)|(apply DM.gbF;rfl)|intro h
      have hval := (check_valid z1).1
      obtain ⟨⟨hph, hpo⟩, hpok⟩ := parts_ok hval
      have hchk := checkF_ok (check_valid z1).2
      have hv12 : p.vars.length ≤ 12 := by simp [validP, varsOk] at hval; omega
      have hsd0 := varsN_sound hval gs
      have c23 := p23 p ds hval hd
      have hpl : (partsP p).length ≤ 120 := by
       have := oParts_len p.os
       simp only [partsP, List.length_append, List.length_map]; omega
      have hml : ∀ i : Nat, ((i : Int)).tmod (((gs.map Val.row).length : Nat) : Int) = ((i % gs.length : Nat) : Int) := fun i => by rw [List.length_map]; rfl
      have hgl : ∀ i : Nat, (gs.map Val.row)[(((i % gs.length : Nat) : Int)).toNat]? = some (gAt gs i).row := fun i => by rw [Int.toNat_natCast, List.getElem?_map, gAt_get h0]; rfl
      have hnz : (((gs.map Val.row).length : Nat) : Int) ≠ 0 := by rw [List.length_map]; omega
      apply R.AM.ghostO 12 70 3 (by decide)
      ·simp only [Env.get, Nat.reduceBEq, cond_true, cond_false, beq_self_eq_true]
      intro tv htv
      refine AM.loopX (X := Nat) 0 (fun i => [(1, .vs 5 (ds.map Decl_.row)), (2, .vs 3 (gs.map Val.row)), (3, .ptr b3 0), (7, .ptr b7 0), (13, .int .i64 i), (12, .own tv 3 ((varsN p gs i).map Val.row))]) (fun i H'' => H'' = H'.setT tv (.frz 70 3 i) ∧ i ≤ p.vars.length) (fun i => p.vars.length - i) ⟨rfl, by omega⟩ ?_ ?_
      ·(repeat first | exact envle_nil _ | (refine envle_cons ?_ ?_; · (simp only [go_sem, Nat.reduceBEq, Nat.reduceAdd]; exact AVLe.refl _)))
      ·intro i H'' ⟨e, hi⟩
       subst e
       have n3 : (H'.setT tv (.frz 70 3 i)).blk b3 = some (27, p.cells) := g_T m3
       have n7 : (H'.setT tv (.frz 70 3 i)).blk b7 = some (41, p.cells) := g_T m7
       have hl0 : ((varsN p gs i).map Val.row).length = i := by rw [List.length_map, varsN_len]
       repeat' first|(apply Sp.go;·constructor<;>first|exact ss|(change _=_;first|(simp only[go_sem,Nat.reduceBEq,Nat.reduceAdd,Nat.reduceLeDiff,reduceIte]<;>rfl)|rfl)|exact Nat.le_of_ble_eq_true rfl|decide|(repeat' first|(apply Lk.go;constructor)|assumption|exact nb ‹_› ‹_›|exact nt ‹_› ‹_›))|(intro b hb;repeat first|(refine fe hb ?_;intro _ _ hb)|(refine fT hb ?_;intro hb))|refine rt ?_|refine gA rfl ?_|refine gB rfl ?_|apply cT rfl|apply cF rfl|(apply DM.gbT;rfl)|(apply DM.gbF;rfl)|intro h
       (apply AM.cond; (· rfl))
       ·intro h6
        simp at h6
        obtain ⟨w, hw⟩ := some_of h6
        repeat' first|(apply Sp.go;·constructor<;>first|exact ss|(change _=_;first|(simp only[go_sem,Nat.reduceBEq,Nat.reduceAdd,Nat.reduceLeDiff,reduceIte]<;>rfl)|rfl)|exact Nat.le_of_ble_eq_true rfl|decide|(repeat' first|(apply Lk.go;constructor)|assumption|exact nb ‹_› ‹_›|exact nt ‹_› ‹_›))|(intro b hb;repeat first|(refine fe hb ?_;intro _ _ hb)|(refine fT hb ?_;intro hb))|refine gA rfl ?_|refine gB rfl ?_|apply cT rfl|apply cF rfl|(apply DM.gbT;rfl)|(apply DM.gbF;rfl)|intro h
        (refine AM.reg [(clampedV w.sort (gAt gs i)).av] ?_; simp only [annotate, AV.rows])
        repeat' first|(apply Sp.go;·constructor<;>first|exact ss|(change _=_;first|(simp only[go_sem,Nat.reduceBEq,Nat.reduceAdd,Nat.reduceLeDiff,reduceIte]<;>rfl)|rfl)|exact Nat.le_of_ble_eq_true rfl|decide|(repeat' first|(apply Lk.go;constructor)|assumption|exact nb ‹_› ‹_›|exact nt ‹_› ‹_›))|(intro b hb;repeat first|(refine fe hb ?_;intro _ _ hb)|(refine fT hb ?_;intro hb))|refine rt ?_|refine gA rfl ?_|refine gB rfl ?_|apply cT rfl|apply cF rfl|(apply DM.gbT;rfl)|(apply DM.gbF;rfl)|(apply DM.ixV (row := w.row) (z := (i : Int)) (by omega) (row_get Var_.row hw); (· rfl); (· rfl))|intro h
        (apply DM.remI; (· rfl); (· rfl); (· exact hnz))
        simp only [hml]
        repeat' first|(apply Sp.go;·constructor<;>first|exact ss|(change _=_;first|(simp only[go_sem,Nat.reduceBEq,Nat.reduceAdd,Nat.reduceLeDiff,reduceIte]<;>rfl)|rfl)|exact Nat.le_of_ble_eq_true rfl|decide|(repeat' first|(apply Lk.go;constructor)|assumption|exact nb ‹_› ‹_›|exact nt ‹_› ‹_›))|(intro b hb;repeat first|(refine fe hb ?_;intro _ _ hb)|(refine fT hb ?_;intro hb))|refine rt ?_|refine gA rfl ?_|refine gB rfl ?_|apply cT rfl|apply cF rfl|(apply DM.gbT;rfl)|(apply DM.gbF;rfl)|(apply DM.ixV (row := (gAt gs i).row) (z := ((i % gs.length : Nat) : Int)) (by omega) (hgl i); (· rfl); (· rfl))|(apply DM.pcRs (p39 w.sort (gAt gs i)); (· simp only [go_sem, Nat.reduceBEq, Nat.reduceAdd] <;> rfl); (· exact AVLes.refl _))|intro h
        apply DM.apOr
        ·simp only [EOpd.ev, Env.get, Nat.reduceBEq, cond_true, cond_false, beq_self_eq_true] <;> rfl
        ·(· repeat' first|(apply Lk.go;constructor)|assumption|exact nb ‹_› ‹_›|exact nt ‹_› ‹_›|(apply Lm.go;constructor))
        ·exact hl0
        ·simp only [rowsOf, if_true, eq_self, EOpd.ev, Env.get, Nat.reduceBEq, cond_true, cond_false, beq_self_eq_true] <;> rfl
        ·simp only [List.length_cons, List.length_nil]; omega
        ·simp only [List.length_cons, List.length_nil, maxLen]; omega
        repeat' first|(apply Sp.go;·constructor<;>first|exact ss|(change _=_;first|(simp only[go_sem,Nat.reduceBEq,Nat.reduceAdd,Nat.reduceLeDiff,reduceIte]<;>rfl)|rfl)|exact Nat.le_of_ble_eq_true rfl|decide|(repeat' first|(apply Lk.go;constructor)|assumption|exact nb ‹_› ‹_›|exact nt ‹_› ‹_›))|(intro b hb;repeat first|(refine fe hb ?_;intro _ _ hb)|(refine fT hb ?_;intro hb))|refine rt ?_|refine gA rfl ?_|refine gB rfl ?_|apply cT rfl|apply cF rfl|(apply DM.gbT;rfl)|(apply DM.gbF;rfl)|intro h
        refine AM.eqH (H2 := H'.setT tv (.frz 70 3 (i + 1))) (by rw [setT_setT]; rfl) ?_
        refine AM.roundX (i + 1) ⟨rfl, by omega⟩ ?_ ?_
        ·(repeat first | exact envle_nil _ | (refine envle_cons ?_ ?_; · (simp only [go_sem, Nat.reduceBEq, Nat.reduceAdd]; exact AVLe.refl _)))
         refine envle_cons ?_ ?_
         ·simp only [go_sem, Nat.reduceBEq, Nat.reduceAdd]
          refine avle_int ?_
          rw [inc64 h6 (by unfold maxLen; omega)]
         refine envle_cons ?_ (envle_nil _)
         simp only [Env.get, Nat.reduceBEq, cond_true, cond_false, beq_self_eq_true]
         rw [varsN_succ hw]
         refine avle_eq ?_
         simp
        ·show p.vars.length - (i + 1) < p.vars.length - i
         omega
       ·intro h6
        simp at h6
        have : i = p.vars.length := by omega
        subst this
        have hsT : HSub H' (H'.setT tv (.frz 70 3 p.vars.length)) := HSub.setT (HSub.refl _) htv
        generalize H'.setT tv (.frz 70 3 p.vars.length) = E at n3 n7 hsT ⊢
        generalize varsN p gs p.vars.length = VN at *
        repeat' first|(apply Sp.go;·constructor<;>first|exact ss|(change _=_;first|(simp only[go_sem,Nat.reduceBEq,Nat.reduceAdd,Nat.reduceLeDiff,reduceIte]<;>rfl)|rfl)|exact Nat.le_of_ble_eq_true rfl|decide|(repeat' first|(apply Lk.go;constructor)|assumption|exact nb ‹_› ‹_›|exact nt ‹_› ‹_›))|(intro b hb;repeat first|(refine fe hb ?_;intro _ _ hb)|(refine fT hb ?_;intro hb))|refine rt ?_|refine gA rfl ?_|refine gB rfl ?_|apply cT rfl|apply cF rfl|(apply DM.gbT;rfl)|(apply DM.gbF;rfl)|intro h
        (apply DM.pcs (c23); (· simp only [go_sem, Nat.reduceBEq, Nat.reduceAdd] <;> rfl); (· exact AVLes.refl _))
        generalize partsP p = PS at *
        repeat' first|(apply Sp.go;·constructor<;>first|exact ss|(change _=_;first|(simp only[go_sem,Nat.reduceBEq,Nat.reduceAdd,Nat.reduceLeDiff,reduceIte]<;>rfl)|rfl)|exact Nat.le_of_ble_eq_true rfl|decide|(repeat' first|(apply Lk.go;constructor)|assumption|exact nb ‹_› ‹_›|exact nt ‹_› ‹_›))|(intro b hb;repeat first|(refine fe hb ?_;intro _ _ hb)|(refine fT hb ?_;intro hb))|refine rt ?_|refine gA rfl ?_|refine gB rfl ?_|apply cT rfl|apply cF rfl|(apply DM.gbT;rfl)|(apply DM.gbF;rfl)|intro h
        refine AM.loopX (X := Nat) 0 (fun i => [(1, .vs 5 (ds.map Decl_.row)), (2, .vs 3 (gs.map Val.row)), (7, .ptr b7 0), (12, .vs 3 (VN.map Val.row)), (14, .vs 4 (PS.map (eRow2 ds))), (15, .int .i64 i)]) (fun i H'' => H'' = E ∧ i ≤ PS.length) (fun i => PS.length - i) ⟨rfl, by omega⟩ ?_ ?_
        ·refine envle_cons ?_ (envle_cons ?_ (envle_cons ?_ (envle_cons ?_ (envle_cons ?_ (envle_cons ?_ (envle_nil _))))))
         ·simp only [Env.get, Nat.reduceBEq, cond_true, cond_false, beq_self_eq_true]; exact AVLe.refl _
         ·simp only [Env.get, Nat.reduceBEq, cond_true, cond_false, beq_self_eq_true]; exact AVLe.refl _
         ·simp only [Env.get, Nat.reduceBEq, cond_true, cond_false, beq_self_eq_true]; exact AVLe.refl _
         ·simp only [Env.get, Nat.reduceBEq, cond_true, cond_false, beq_self_eq_true]; exact AVLe.own
         ·simp only [Env.get, Nat.reduceBEq, cond_true, cond_false, beq_self_eq_true]; exact eRow_le ds PS
         ·simp only [Env.get, Nat.reduceBEq, cond_true, cond_false, beq_self_eq_true]; exact AVLe.refl _
        ·intro i H'' ⟨e, hi⟩
         subst e
         repeat' first|(apply Sp.go;·constructor<;>first|exact ss|(change _=_;first|(simp only[go_sem,Nat.reduceBEq,Nat.reduceAdd,Nat.reduceLeDiff,reduceIte]<;>rfl)|rfl)|exact Nat.le_of_ble_eq_true rfl|decide|(repeat' first|(apply Lk.go;constructor)|assumption|exact nb ‹_› ‹_›|exact nt ‹_› ‹_›))|(intro b hb;repeat first|(refine fe hb ?_;intro _ _ hb)|(refine fT hb ?_;intro hb))|refine rt ?_|refine gA rfl ?_|refine gB rfl ?_|apply cT rfl|apply cF rfl|(apply DM.gbT;rfl)|(apply DM.gbF;rfl)|intro h
         (apply AM.cond; (· rfl))
         ·intro h7
          simp at h7
          obtain ⟨x, hx⟩ := some_of h7
          have hxm := List.mem_of_getElem? hx
          have hxo := hpok x hxm
          obtain ⟨q1, q2, q3⟩ := hchk x hxm
          have hlen : (psOf ds x).length ≤ 1000 := psOf_len hd x
          obtain ⟨d, hdd⟩ := some_of (show x.label.toNat < ds.length by have := hxo.lab; omega)
          have hdm := List.mem_of_getElem? hdd
          have hpsl : (psOf ds x).length ≤ d.fields.length ∧ psOf ds x = (d.fields.take (psOf ds x).length).map (fun f => f.sort.k) ∧ (psOf ds x).length ≤ 4 := by
           unfold psOf kindsL
           rw [hdd]
           by_cases hk : x.kind = 0
           ·rw [if_pos hk]
            simp only [Option.map_some, Option.getD_some, kindsD, List.length_map]
            refine ⟨Nat.le_refl _, by rw [List.take_length], ?_⟩
            cases hff : d.fields with
            | nil => simp
            | cons f fs => rw [← hff]; exact (hokA d hdm f (by rw [hff]; simp)).2
           ·rw [if_neg hk]; simp
          obtain ⟨r1, r2⟩ := parN_ok (hokA d hdm) gs i hpsl.1
          rw [← hpsl.2.1] at r1
          have c17 := p17 p x.at_ (psOf ds x) (rsOf ds x) (psOf_len hd x)
          have hen := entry_ok (p := p) (vars := VN) (ps := parN d gs i (psOf ds x).length) (rr := rsOf ds x) (e := x.at_) hsd0 r2 (by rw [parN_len]; exact hpsl.2.2) hxo.at_ (by show (costP p x.at_ (kindsV _) _).2.2 = 0; rw [r1]; exact q2) (by show (costP p x.at_ (kindsV _) _).1 ≤ 5000; rw [r1]; exact q3)
          obtain ⟨stk, vs, w, a1, a2, a3, a4⟩ := hen
          have a4' : (w : Int) ≤ (costP p x.at_ (psOf ds x) (rsOf ds x)).1 := by rw [← r1]; exact a4
          have c26 := p26 p x.at_ VN (parN d gs i (psOf ds x).length) 5000 (.inl hR) (by omega)
          rw [a1] at c26
          rw [q2] at c17
          generalize (costP p x.at_ (psOf ds x) (rsOf ds x)).1 = cc at *
          generalize (costP p x.at_ (psOf ds x) (rsOf ds x)).2.1 = cd at *
          have dl : decide (((ds.map Decl_.row).length : Int) ≤ x.label) = false := decide_eq_false (by simp only [List.length_map]; omega)
          repeat' first|(apply Sp.go;·constructor<;>first|exact ss|(change _=_;first|(simp only[go_sem,Nat.reduceBEq,Nat.reduceAdd,Nat.reduceLeDiff,reduceIte]<;>rfl)|rfl)|exact Nat.le_of_ble_eq_true rfl|decide|(repeat' first|(apply Lk.go;constructor)|assumption|exact nb ‹_› ‹_›|exact nt ‹_› ‹_›))|(intro b hb;repeat first|(refine fe hb ?_;intro _ _ hb)|(refine fT hb ?_;intro hb))|refine rt ?_|refine gA rfl ?_|refine gB rfl ?_|apply cT rfl|apply cF rfl|(apply DM.gbT;rfl)|(apply DM.gbF;rfl)|intro h
          (apply DM.ixV (row := eRow2 ds x) (z := (i : Int)) (by omega) (row_get (eRow2 ds) hx); (· rfl); (· rfl))
          repeat' first|(apply Sp.go;·constructor<;>first|exact ss|(change _=_;first|(simp only[go_sem,Nat.reduceBEq,Nat.reduceAdd,Nat.reduceLeDiff,reduceIte, dl]<;>rfl)|rfl)|exact Nat.le_of_ble_eq_true rfl|decide|(repeat' first|(apply Lk.go;constructor)|assumption|exact nb ‹_› ‹_›|exact nt ‹_› ‹_›))|(intro b hb;repeat first|(refine fe hb ?_;intro _ _ hb)|(refine fT hb ?_;intro hb))|refine rt ?_|refine gA rfl ?_|refine gB rfl ?_|apply cT rfl|apply cF rfl|(apply DM.gbT;rfl)|(apply DM.gbF;rfl)|intro h
          apply R.AM.ghostO 16 70 3 (by decide)
          ·simp only [Env.get, Nat.reduceBEq, cond_true, cond_false, beq_self_eq_true]
          intro tp htp
          repeat' first|(apply Sp.go;·constructor<;>first|exact ss|(change _=_;first|(simp only[go_sem,Nat.reduceBEq,Nat.reduceAdd,Nat.reduceLeDiff,reduceIte]<;>rfl)|rfl)|exact Nat.le_of_ble_eq_true rfl|decide|(repeat' first|(apply Lk.go;constructor)|assumption|exact nb ‹_› ‹_›|exact nt ‹_› ‹_›))|(intro b hb;repeat first|(refine fe hb ?_;intro _ _ hb)|(refine fT hb ?_;intro hb))|refine rt ?_|refine gA rfl ?_|refine gB rfl ?_|apply cT rfl|apply cF rfl|(apply DM.gbT;rfl)|(apply DM.gbF;rfl)|intro h
          refine AM.loopX (X := Nat) 0 (fun k => [(1, .vs 5 (ds.map Decl_.row)), (2, .vs 3 (gs.map Val.row)), (7, .ptr b7 0), (12, .vs 3 (VN.map Val.row)), (14, .vs 4 (PS.map (eRow2 ds))), (15, .int .i64 i), (17, .int .i64 k), (16, .own tp 3 ((parN d gs i k).map Val.row))]) (fun k H3 => H3 = H''.setT tp (.frz 70 3 k) ∧ k ≤ (psOf ds x).length) (fun k => (psOf ds x).length - k) ⟨rfl, by omega⟩ ?_ ?_
          ·(repeat first | exact envle_nil _ | (refine envle_cons ?_ ?_; · (simp only [go_sem, Nat.reduceBEq, Nat.reduceAdd]; exact AVLe.refl _)))
          ·intro k H3 ⟨e, hk⟩
           subst e
           have k7 : (H''.setT tp (.frz 70 3 k)).blk b7 = some (41, p.cells) := g_T n7
           have hl0 : ((parN d gs i k).map Val.row).length = k := by rw [List.length_map, parN_len]
           repeat' first|(apply Sp.go;·constructor<;>first|exact ss|(change _=_;first|(simp only[go_sem,Nat.reduceBEq,Nat.reduceAdd,Nat.reduceLeDiff,reduceIte]<;>rfl)|rfl)|exact Nat.le_of_ble_eq_true rfl|decide|(repeat' first|(apply Lk.go;constructor)|assumption|exact nb ‹_› ‹_›|exact nt ‹_› ‹_›))|(intro b hb;repeat first|(refine fe hb ?_;intro _ _ hb)|(refine fT hb ?_;intro hb))|refine rt ?_|refine gA rfl ?_|refine gB rfl ?_|apply cT rfl|apply cF rfl|(apply DM.gbT;rfl)|(apply DM.gbF;rfl)|(apply DM.ixV (row := eRow2 ds x) (z := (i : Int)) (by omega) (row_get (eRow2 ds) hx); (· rfl); (· rfl))|intro h
           (apply AM.cond; (· rfl))
           ·intro h8
            simp at h8
            obtain ⟨f, hff⟩ := some_of (show k < d.fields.length by omega)
            have hik : IntKind.i64.wrap ((i : Int) + (k : Int)) = ((i + k : Nat) : Int) := by
             rw [wrap64 (by omega) (by omega)]; omega
            repeat' first|(apply Sp.go;·constructor<;>first|exact ss|(change _=_;first|(simp only[go_sem,Nat.reduceBEq,Nat.reduceAdd,Nat.reduceLeDiff,reduceIte]<;>rfl)|rfl)|exact Nat.le_of_ble_eq_true rfl|decide|(repeat' first|(apply Lk.go;constructor)|assumption|exact nb ‹_› ‹_›|exact nt ‹_› ‹_›))|(intro b hb;repeat first|(refine fe hb ?_;intro _ _ hb)|(refine fT hb ?_;intro hb))|refine gA rfl ?_|refine gB rfl ?_|apply cT rfl|apply cF rfl|(apply DM.gbT;rfl)|(apply DM.gbF;rfl)|intro h
            (refine AM.reg [(clampedV f.sort (gAt gs (i + k))).av] ?_; simp only [annotate, AV.rows])
            repeat' first|(apply Sp.go;·constructor<;>first|exact ss|(change _=_;first|(simp only[go_sem,Nat.reduceBEq,Nat.reduceAdd,Nat.reduceLeDiff,reduceIte]<;>rfl)|rfl)|exact Nat.le_of_ble_eq_true rfl|decide|(repeat' first|(apply Lk.go;constructor)|assumption|exact nb ‹_› ‹_›|exact nt ‹_› ‹_›))|(intro b hb;repeat first|(refine fe hb ?_;intro _ _ hb)|(refine fT hb ?_;intro hb))|refine rt ?_|refine gA rfl ?_|refine gB rfl ?_|apply cT rfl|apply cF rfl|(apply DM.gbT;rfl)|(apply DM.gbF;rfl)|(apply DM.ixV (row := eRow2 ds x) (z := (i : Int)) (by omega) (row_get (eRow2 ds) hx); (· rfl); (· rfl))|(apply DM.ixV (row := d.row) (z := x.label) hxo.lab.1 (by rw [List.getElem?_map, hdd]; rfl); (· rfl); (· rfl))|(apply DM.ixV (row := f.row) (z := (k : Int)) (by omega) (row_get Fld.row hff); (· rfl); (· rfl))|intro h
            simp only [hik]
            repeat' first|(apply Sp.go;·constructor<;>first|exact ss|(change _=_;first|(simp only[go_sem,Nat.reduceBEq,Nat.reduceAdd,Nat.reduceLeDiff,reduceIte]<;>rfl)|rfl)|exact Nat.le_of_ble_eq_true rfl|decide|(repeat' first|(apply Lk.go;constructor)|assumption|exact nb ‹_› ‹_›|exact nt ‹_› ‹_›))|(intro b hb;repeat first|(refine fe hb ?_;intro _ _ hb)|(refine fT hb ?_;intro hb))|refine rt ?_|refine gA rfl ?_|refine gB rfl ?_|apply cT rfl|apply cF rfl|(apply DM.gbT;rfl)|(apply DM.gbF;rfl)|intro h
            (apply DM.remI; (· rfl); (· rfl); (· exact hnz))
            simp only [hml]
            repeat' first|(apply Sp.go;·constructor<;>first|exact ss|(change _=_;first|(simp only[go_sem,Nat.reduceBEq,Nat.reduceAdd,Nat.reduceLeDiff,reduceIte]<;>rfl)|rfl)|exact Nat.le_of_ble_eq_true rfl|decide|(repeat' first|(apply Lk.go;constructor)|assumption|exact nb ‹_› ‹_›|exact nt ‹_› ‹_›))|(intro b hb;repeat first|(refine fe hb ?_;intro _ _ hb)|(refine fT hb ?_;intro hb))|refine rt ?_|refine gA rfl ?_|refine gB rfl ?_|apply cT rfl|apply cF rfl|(apply DM.gbT;rfl)|(apply DM.gbF;rfl)|(apply DM.ixV (row := (gAt gs (i + k)).row) (z := (((i + k) % gs.length : Nat) : Int)) (by omega) (hgl (i + k)); (· rfl); (· rfl))|(apply DM.pcRs (p39 f.sort (gAt gs (i + k))); (· simp only [go_sem, Nat.reduceBEq, Nat.reduceAdd] <;> rfl); (· exact AVLes.refl _))|intro h
            apply DM.apOr
            ·simp only [EOpd.ev, Env.get, Nat.reduceBEq, cond_true, cond_false, beq_self_eq_true] <;> rfl
            ·(· repeat' first|(apply Lk.go;constructor)|assumption|exact nb ‹_› ‹_›|exact nt ‹_› ‹_›|(apply Lm.go;constructor))
            ·exact hl0
            ·simp only [rowsOf, if_true, eq_self, EOpd.ev, Env.get, Nat.reduceBEq, cond_true, cond_false, beq_self_eq_true] <;> rfl
            ·simp only [List.length_cons, List.length_nil]; omega
            ·simp only [List.length_cons, List.length_nil, maxLen]; omega
            repeat' first|(apply Sp.go;·constructor<;>first|exact ss|(change _=_;first|(simp only[go_sem,Nat.reduceBEq,Nat.reduceAdd,Nat.reduceLeDiff,reduceIte]<;>rfl)|rfl)|exact Nat.le_of_ble_eq_true rfl|decide|(repeat' first|(apply Lk.go;constructor)|assumption|exact nb ‹_› ‹_›|exact nt ‹_› ‹_›))|(intro b hb;repeat first|(refine fe hb ?_;intro _ _ hb)|(refine fT hb ?_;intro hb))|refine rt ?_|refine gA rfl ?_|refine gB rfl ?_|apply cT rfl|apply cF rfl|(apply DM.gbT;rfl)|(apply DM.gbF;rfl)|intro h
            refine AM.eqH (H2 := H''.setT tp (.frz 70 3 (k + 1))) (by rw [setT_setT]; rfl) ?_
            refine AM.roundX (k + 1) ⟨rfl, by omega⟩ ?_ ?_
            ·(repeat first | exact envle_nil _ | (refine envle_cons ?_ ?_; · (simp only [go_sem, Nat.reduceBEq, Nat.reduceAdd]; exact AVLe.refl _)))
             refine envle_cons ?_ ?_
             ·simp only [go_sem, Nat.reduceBEq, Nat.reduceAdd]
              refine avle_int ?_
              rw [inc64 h8 (by unfold maxLen; omega)]
             refine envle_cons ?_ (envle_nil _)
             simp only [Env.get, Nat.reduceBEq, cond_true, cond_false, beq_self_eq_true]
             rw [parN_succ hff]
             refine avle_eq ?_
             simp
            ·show (psOf ds x).length - (k + 1) < (psOf ds x).length - k
             omega
           ·intro h8
            simp at h8
            have : k = (psOf ds x).length := by omega
            subst this
            have hsP : HSub H'' (H''.setT tp (.frz 70 3 (psOf ds x).length)) := HSub.setT (HSub.refl _) htp
            generalize H''.setT tp (.frz 70 3 (psOf ds x).length) = E2 at k7 hsP ⊢
            generalize parN d gs i (psOf ds x).length = PN at *
            repeat' first|(apply Sp.go;·constructor<;>first|exact ss|(change _=_;first|(simp only[go_sem,Nat.reduceBEq,Nat.reduceAdd,Nat.reduceLeDiff,reduceIte]<;>rfl)|rfl)|exact Nat.le_of_ble_eq_true rfl|decide|(repeat' first|(apply Lk.go;constructor)|assumption|exact nb ‹_› ‹_›|exact nt ‹_› ‹_›))|(intro b hb;repeat first|(refine fe hb ?_;intro _ _ hb)|(refine fT hb ?_;intro hb))|refine gA rfl ?_|refine gB rfl ?_|apply cT rfl|apply cF rfl|(apply DM.gbT;rfl)|(apply DM.gbF;rfl)|intro h
            (refine AM.reg [.tup [.int .i64 cc, .int .i64 cd, .int .i64 0]] ?_; simp only [annotate, AV.rows])
            repeat' first|(apply Sp.go;·constructor<;>first|exact ss|(change _=_;first|(simp only[go_sem,Nat.reduceBEq,Nat.reduceAdd,Nat.reduceLeDiff,reduceIte]<;>rfl)|rfl)|exact Nat.le_of_ble_eq_true rfl|decide|(repeat' first|(apply Lk.go;constructor)|assumption|exact nb ‹_› ‹_›|exact nt ‹_› ‹_›))|(intro b hb;repeat first|(refine fe hb ?_;intro _ _ hb)|(refine fT hb ?_;intro hb))|refine rt ?_|refine gA rfl ?_|refine gB rfl ?_|apply cT rfl|apply cF rfl|(apply DM.gbT;rfl)|(apply DM.gbF;rfl)|(apply DM.ixV (row := eRow2 ds x) (z := (i : Int)) (by omega) (row_get (eRow2 ds) hx); (· rfl); (· rfl))|intro h
            (apply DM.pcRs (c17); (· simp only [go_sem, Nat.reduceBEq, Nat.reduceAdd] <;> rfl); (· exact AVLes.refl _))
            repeat' first|(apply Sp.go;·constructor<;>first|exact ss|(change _=_;first|(simp only[go_sem,Nat.reduceBEq,Nat.reduceAdd,Nat.reduceLeDiff,reduceIte]<;>rfl)|rfl)|exact Nat.le_of_ble_eq_true rfl|decide|(repeat' first|(apply Lk.go;constructor)|assumption|exact nb ‹_› ‹_›|exact nt ‹_› ‹_›))|(intro b hb;repeat first|(refine fe hb ?_;intro _ _ hb)|(refine fT hb ?_;intro hb))|refine gA rfl ?_|refine gB rfl ?_|apply cT rfl|apply cF rfl|(apply DM.gbT;rfl)|(apply DM.gbF;rfl)|intro h
            (refine AM.reg [(⟨stk, vs, (w : Int), 0⟩ : Res).av] ?_; simp only [annotate, AV.rows])
            repeat' first|(apply Sp.go;·constructor<;>first|exact ss|(change _=_;first|(simp only[go_sem,Nat.reduceBEq,Nat.reduceAdd,Nat.reduceLeDiff,reduceIte]<;>rfl)|rfl)|exact Nat.le_of_ble_eq_true rfl|decide|(repeat' first|(apply Lk.go;constructor)|assumption|exact nb ‹_› ‹_›|exact nt ‹_› ‹_›))|(intro b hb;repeat first|(refine fe hb ?_;intro _ _ hb)|(refine fT hb ?_;intro hb))|refine rt ?_|refine gA rfl ?_|refine gB rfl ?_|apply cT rfl|apply cF rfl|(apply DM.gbT;rfl)|(apply DM.gbF;rfl)|(apply DM.ixV (row := eRow2 ds x) (z := (i : Int)) (by omega) (row_get (eRow2 ds) hx); (· rfl); (· rfl))|intro h
            apply DM.pcRs c26
            ·simp only [go_sem, Nat.reduceBEq, Nat.reduceAdd] <;> rfl
            ·exact avles_cons (AVLe.refl _) (avles_cons (AVLe.refl _) (avles_cons (AVLe.refl _) (avles_cons AVLe.own (avles_cons (AVLe.refl _) avles_nil))))
            repeat' first|(apply Sp.go;·constructor<;>first|exact ss|(change _=_;first|(simp only[go_sem,Nat.reduceBEq,Nat.reduceAdd,Nat.reduceLeDiff,reduceIte]<;>rfl)|rfl)|exact Nat.le_of_ble_eq_true rfl|decide|(repeat' first|(apply Lk.go;constructor)|assumption|exact nb ‹_› ‹_›|exact nt ‹_› ‹_›))|(intro b hb;repeat first|(refine fe hb ?_;intro _ _ hb)|(refine fT hb ?_;intro hb))|refine gA rfl ?_|refine gB rfl ?_|apply cT rfl|apply cF rfl|(apply DM.gbT;rfl)|(apply DM.gbF;rfl)|intro h
            have hsl : stk.length ≤ 1000 := by
             have e9 : stk.length = (rsOf ds x).length := by rw [← a2]; simp
             rw [e9]
             unfold rsOf
             split
             ·simp
             ·split
              ·simp
              ·exact kindsL_len hd _
            have c41 := p41 stk hsl
            have c40 := p40 (kindsV stk) (rsOf ds x)
            rw [show (decide (kindsV stk = rsOf ds x)) = true from decide_eq_true a2] at c40
            have c28 := p28 p vs
            rw [a3] at c28
            have d5 : decide (5000 < cc) = false := decide_eq_false (by omega)
            have d6 : decide (cc < (w : Int)) = false := decide_eq_false (by omega)
            rename Nat => b21
            have k21 : ∀ cs, (E2.setB b21 60 cs).blk b21 = some (60, cs) := fun cs => g_same
            (refine AM.reg [.vs 1 ((kindsV stk).map irow), .bool true, .bool true] ?_; simp only [annotate, AV.rows])
            repeat' first|(apply Sp.go;·constructor<;>first|exact ss|(change _=_;first|(simp only[go_sem,Nat.reduceBEq,Nat.reduceAdd,Nat.reduceLeDiff,reduceIte, d5, d6]<;>rfl)|rfl)|exact Nat.le_of_ble_eq_true rfl|decide|(repeat' first|(apply Lk.go;constructor)|assumption|exact nb ‹_› ‹_›|exact nt ‹_› ‹_›))|(intro b hb;repeat first|(refine fe hb ?_;intro _ _ hb)|(refine fT hb ?_;intro hb))|refine rt ?_|refine gA rfl ?_|refine gB rfl ?_|apply cT rfl|apply cF rfl|(apply DM.gbT;rfl)|(apply DM.gbF;rfl)|intro h
            (apply DM.pcRs (c41); (· simp only [go_sem, Nat.reduceBEq, Nat.reduceAdd] <;> rfl); (· exact AVLes.refl _))
            repeat' first|(apply Sp.go;·constructor<;>first|exact ss|(change _=_;first|(simp only[go_sem,Nat.reduceBEq,Nat.reduceAdd,Nat.reduceLeDiff,reduceIte, d5, d6]<;>rfl)|rfl)|exact Nat.le_of_ble_eq_true rfl|decide|(repeat' first|(apply Lk.go;constructor)|assumption|exact nb ‹_› ‹_›|exact nt ‹_› ‹_›))|(intro b hb;repeat first|(refine fe hb ?_;intro _ _ hb)|(refine fT hb ?_;intro hb))|refine rt ?_|refine gA rfl ?_|refine gB rfl ?_|apply cT rfl|apply cF rfl|(apply DM.gbT;rfl)|(apply DM.gbF;rfl)|intro h
            (apply DM.ixV (row := eRow2 ds x) (z := (i : Int)) (by omega) (row_get (eRow2 ds) hx); (· rfl); (· rfl))
            repeat' first|(apply Sp.go;·constructor<;>first|exact ss|(change _=_;first|(simp only[go_sem,Nat.reduceBEq,Nat.reduceAdd,Nat.reduceLeDiff,reduceIte, d5, d6]<;>rfl)|rfl)|exact Nat.le_of_ble_eq_true rfl|decide|(repeat' first|(apply Lk.go;constructor)|assumption|exact nb ‹_› ‹_›|exact nt ‹_› ‹_›))|(intro b hb;repeat first|(refine fe hb ?_;intro _ _ hb)|(refine fT hb ?_;intro hb))|refine rt ?_|refine gA rfl ?_|refine gB rfl ?_|apply cT rfl|apply cF rfl|(apply DM.gbT;rfl)|(apply DM.gbF;rfl)|intro h
            (apply DM.pcRs (c40); (· simp only [go_sem, Nat.reduceBEq, Nat.reduceAdd] <;> rfl); (· exact AVLes.refl _))
            repeat' first|(apply Sp.go;·constructor<;>first|exact ss|(change _=_;first|(simp only[go_sem,Nat.reduceBEq,Nat.reduceAdd,Nat.reduceLeDiff,reduceIte, d5, d6]<;>rfl)|rfl)|exact Nat.le_of_ble_eq_true rfl|decide|(repeat' first|(apply Lk.go;constructor)|assumption|exact nb ‹_› ‹_›|exact nt ‹_› ‹_›))|(intro b hb;repeat first|(refine fe hb ?_;intro _ _ hb)|(refine fT hb ?_;intro hb))|refine rt ?_|refine gA rfl ?_|refine gB rfl ?_|apply cT rfl|apply cF rfl|(apply DM.gbT;rfl)|(apply DM.gbF;rfl)|intro h
            (apply DM.pcRs (c28); (· simp only [go_sem, Nat.reduceBEq, Nat.reduceAdd] <;> rfl); (· exact AVLes.refl _))
            repeat' first|(apply Sp.go;·constructor<;>first|exact ss|(change _=_;first|(simp only[go_sem,Nat.reduceBEq,Nat.reduceAdd,Nat.reduceLeDiff,reduceIte]<;>rfl)|rfl)|exact Nat.le_of_ble_eq_true rfl|decide|(repeat' first|(apply Lk.go;constructor)|assumption|exact nb ‹_› ‹_›|exact nt ‹_› ‹_›))|(intro b hb;repeat first|(refine fe hb ?_;intro _ _ hb)|(refine fT hb ?_;intro hb))|refine rt ?_|refine gA rfl ?_|refine gB rfl ?_|apply cT rfl|apply cF rfl|(apply DM.gbT;rfl)|(apply DM.gbF;rfl)|intro h
            refine AM.forget H'' ?_ ?_
            ·have hbE : E2.blk b21 = none := by assumption
             exact hsP.trans (HSub.setB (HSub.refl _) hbE)
            refine AM.roundX (i + 1) ⟨rfl, by omega⟩ ?_ ?_
            ·(repeat first | exact envle_nil _ | (refine envle_cons ?_ ?_; · (simp only [go_sem, Nat.reduceBEq, Nat.reduceAdd]; exact AVLe.refl _)))
             refine envle_cons ?_ ?_
             ·simp only [go_sem, Nat.reduceBEq, Nat.reduceAdd]
              refine avle_int ?_
              rw [inc64 h7 (by unfold maxLen; omega)]
             exact envle_nil _
            ·show PS.length - (i + 1) < PS.length - i
             omega
         ·intro h7
          repeat' first|(apply Sp.go;·constructor<;>first|exact ss|(change _=_;first|(simp only[go_sem,Nat.reduceBEq,Nat.reduceAdd,Nat.reduceLeDiff,reduceIte]<;>rfl)|rfl)|exact Nat.le_of_ble_eq_true rfl|decide|(repeat' first|(apply Lk.go;constructor)|assumption|exact nb ‹_› ‹_›|exact nt ‹_› ‹_›))|(intro b hb;repeat first|(refine fe hb ?_;intro _ _ hb)|(refine fT hb ?_;intro hb))|refine rt ?_|refine gA rfl ?_|refine gB rfl ?_|apply cT rfl|apply cF rfl|(apply DM.gbT;rfl)|(apply DM.gbF;rfl)|intro h
          exact fin hsT rfl
     ·have dz : (!decide ((checkP p ds).2 = 0)) = true := by simp [z1]
      repeat' first|(apply Sp.go;·constructor<;>first|exact ss|(change _=_;first|(simp only[go_sem,Nat.reduceBEq,Nat.reduceAdd,Nat.reduceLeDiff,reduceIte, dz]<;>rfl)|rfl)|exact Nat.le_of_ble_eq_true rfl|decide|(repeat' first|(apply Lk.go;constructor)|assumption|exact nb ‹_› ‹_›|exact nt ‹_› ‹_›))|(intro b hb;repeat first|(refine fe hb ?_;intro _ _ hb)|(refine fT hb ?_;intro hb))|refine rt ?_|refine gA rfl ?_|refine gB rfl ?_|apply cT rfl|apply cF rfl|(apply DM.gbT;rfl)|(apply DM.gbF;rfl)|intro h
      exact fin (HSub.refl _) rfl
end Go.Aw.T
