/- Part of a proof; own work. -/
import Derived.Test.YtjjngpjdhjeckaaAS4
namespace Go.Aw.T
open Go Go.Aw Go.Proofs Go.RowKit
set_option maxRecDepth 100000
attribute [local irreducible] Go.Aw.DM Go.Aw.AHeap.setB Go.Aw.AHeap.setT
attribute [local go_sem] peval EOpd.ev Env.get binInt binStr binBool buildParts AV.cells AV.okc setRange minmaxAV AV.one AV.ofCells eqCells eqCell bslRows cond_true cond_false beq_self_eq_true Bool.not_true Bool.not_false beq_true beq_false eq_self if_true Option.some.injEq List.length_cons List.length_nil List.take_succ_cons List.take_zero List.drop_succ_cons List.drop_zero List.set_cons_succ List.set_cons_zero List.nil_append List.cons_append List.append_nil and_self Option.map_some List.map_cons List.map_nil Bool.false_eq_true if_false Nat.zero_add Nat.add_zero true_and and_true Bool.and_true Bool.true_and List.getElem?_cons_zero List.getElem?_cons_succ Nat.zero_le Nat.le_refl
set_option linter.unusedSimpArgs false
set_option linter.unusedVariables false
theorem p74 (xs : List Int) (hl : xs.length ≤ 1000) : PureM Try.prog 74 [.vs 1 (xs.map irow)] 3 1 (xs.map irow) := by
 refine pureM_intro mo Try.func74 c74 (by decide) fun H => ?_
 have tail : ∀ (env : Env), env.get 0 = .vs 1 (xs.map irow) → AM Try.prog r74 (fun o H' => HSub H H' ∧ ((∃ t ver, o = .ret (.ms t ver) ∧ H'.tok t = some (.mu 3 1 ver (xs.map irow)) ∧ H.tok t = none) ∨ (o = .ret .nilS ∧ xs.map irow = [])))
   [.c (.region [⟨some 5, none, .bsliceM 3 1 0 [.int .i64 0] []⟩, ⟨some 6, none, .mv (.t 0)⟩, ⟨some 7, none, .appendM 3 1 8 (.t 5) (.t 6)⟩, ⟨some 2, none, .mv (.t 7)⟩] false), .c .ret] env H := by
  intro env he
  unfold r74
  repeat' first|(apply Sp.go;·constructor<;>first|exact ss|(change _=_;first|(simp only[go_sem,Nat.reduceBEq,Nat.reduceAdd,Nat.reduceLeDiff,reduceIte]<;>rfl)|rfl)|exact Nat.le_of_ble_eq_true rfl|decide|(repeat' first|(apply Lk.go;constructor)|assumption|exact nb ‹_› ‹_›|exact nt ‹_› ‹_›))|(intro b hb;repeat first|(refine fe hb ?_;intro _ _ hb)|(refine fT hb ?_;intro hb))|refine rt ?_|refine gA rfl ?_|refine gB rfl ?_|apply cT rfl|apply cF rfl|(apply DM.gbT;rfl)|(apply DM.gbF;rfl)|intro h
  apply DM.bslM (rows := [])
  ·rfl
  ·rfl
  ·rfl
  ·decide
  intro t ht
  apply DM.p
  ·simp only [peval, EOpd.ev, Env.get, Nat.reduceBEq, cond_true, cond_false, beq_self_eq_true, he] <;> rfl
  apply DM.apM
  ·simp only [EOpd.ev, Env.get, Nat.reduceBEq, cond_true, cond_false, beq_self_eq_true] <;> rfl
  ·exact t_same
  ·simp only [rowsOf, reduceIte, if_true, eq_self, EOpd.ev, Env.get, Nat.reduceBEq, cond_true, cond_false, beq_self_eq_true] <;> rfl
  ·simp only [List.length_map, List.length_nil]; omega
  ·simp only [List.length_map, List.length_nil, maxLen]; omega
  rw [setT_setT]
  repeat' first|(apply Sp.go;·constructor<;>first|exact ss|(change _=_;first|(simp only[go_sem,Nat.reduceBEq,Nat.reduceAdd,Nat.reduceLeDiff,reduceIte]<;>rfl)|rfl)|exact Nat.le_of_ble_eq_true rfl|decide|(repeat' first|(apply Lk.go;constructor)|assumption|exact nb ‹_› ‹_›|exact nt ‹_› ‹_›))|(intro b hb;repeat first|(refine fe hb ?_;intro _ _ hb)|(refine fT hb ?_;intro hb))|refine rt ?_|refine gA rfl ?_|refine gB rfl ?_|apply cT rfl|apply cF rfl|(apply DM.gbT;rfl)|(apply DM.gbF;rfl)|intro h
  refine AM.ret (v := .ms t 1) (by simp only [Aw.results, ERes.ev, Env.get, Nat.reduceBEq, cond_true, cond_false, beq_self_eq_true]) ⟨HSub.setT (HSub.refl _) ht, .inl ⟨t, 1, rfl, t_same, ht⟩⟩
 unfold e74
 simp only [initEnv, initFrom]
 repeat' first|(apply Sp.go;·constructor<;>first|exact ss|(change _=_;first|(simp only[go_sem,Nat.reduceBEq,Nat.reduceAdd,Nat.reduceLeDiff,reduceIte]<;>rfl)|rfl)|exact Nat.le_of_ble_eq_true rfl|decide|(repeat' first|(apply Lk.go;constructor)|assumption|exact nb ‹_› ‹_›|exact nt ‹_› ‹_›))|(intro b hb;repeat first|(refine fe hb ?_;intro _ _ hb)|(refine fT hb ?_;intro hb))|refine rt ?_|refine gA rfl ?_|refine gB rfl ?_|apply cT rfl|apply cF rfl|(apply DM.gbT;rfl)|(apply DM.gbF;rfl)|intro h
 cases xs with
 | cons a xs =>
  apply DM.isF
  ·simp only [EOpd.ev, Env.get, Nat.reduceBEq, cond_true, cond_false, beq_self_eq_true] <;> rfl
  ·simp
  refine DM.nil ?_
  refine AM.condF ?_ ?_
  ·simp only [EOpd.ev, Env.get, Nat.reduceBEq, cond_true, cond_false, beq_self_eq_true]
  refine AM.skip ?_
  refine AM.seq ?_
  refine tail _ ?_
  simp only [Env.get, Nat.reduceBEq, cond_true, cond_false, beq_self_eq_true]
 | nil =>
  apply DM.isU
  ·simp only [EOpd.ev, Env.get, Nat.reduceBEq, cond_true, cond_false, beq_self_eq_true] <;> rfl
  intro b
  refine DM.nil ?_
  cases b with
  | true =>
   refine AM.condT ?_ ?_
   ·simp only [EOpd.ev, Env.get, Nat.reduceBEq, cond_true, cond_false, beq_self_eq_true]
   unfold r74
   repeat' first|(apply Sp.go;·constructor<;>first|exact ss|(change _=_;first|(simp only[go_sem,Nat.reduceBEq,Nat.reduceAdd,Nat.reduceLeDiff,reduceIte]<;>rfl)|rfl)|exact Nat.le_of_ble_eq_true rfl|decide|(repeat' first|(apply Lk.go;constructor)|assumption|exact nb ‹_› ‹_›|exact nt ‹_› ‹_›))|(intro b hb;repeat first|(refine fe hb ?_;intro _ _ hb)|(refine fT hb ?_;intro hb))|refine rt ?_|refine gA rfl ?_|refine gB rfl ?_|apply cT rfl|apply cF rfl|(apply DM.gbT;rfl)|(apply DM.gbF;rfl)|intro h
   exact AM.ret (v := .nilS) (by simp only [Aw.results, ERes.ev, Env.get, Nat.reduceBEq, cond_true, cond_false, beq_self_eq_true]) ⟨HSub.refl _, .inr ⟨rfl, rfl⟩⟩
  | false =>
   refine AM.condF ?_ ?_
   ·simp only [EOpd.ev, Env.get, Nat.reduceBEq, cond_true, cond_false, beq_self_eq_true]
   refine AM.skip ?_
   refine AM.seq ?_
   refine tail _ ?_
   simp only [Env.get, Nat.reduceBEq, cond_true, cond_false, beq_self_eq_true]
theorem row_getI {l : List Int} {i : Nat} {v : Int} (h : l[i]? = some v) : (l.map irow)[((i : Int)).toNat]? = some (irow v) := by
 rw [Int.toNat_natCast, List.getElem?_map, h]; rfl
def popK (k : Int) (st : List Int) : Option (List Int) := match st.getLast? with
 | some x => if x = k then some st.dropLast else none
 | none => none
def popsK : List Int → List Int → Option (List Int)
 | [], st => some st
 | k :: ks, st => (popK k st).bind (popsK ks)
theorem drop_consI {l : List Int} {i : Nat} {v : Int} (h : l[i]? = some v) : l.drop i = v :: l.drop (i + 1) := by
 obtain ⟨h1, h2⟩ := List.getElem?_eq_some_iff.1 h
 rw [List.drop_eq_getElem_cons h1, h2]
set_option maxHeartbeats 1000000 in
theorem p116 {H0 : AHeap} {ρ : RefV} (d : ρ.Ok H0) (st lo ks : List Int) (hst : st.length ≤ 1000) (hks : ks.length ≤ 1000) : MV 116 [.ptr ρ.b 0, .vs 1 (ks.map irow)] H0 ρ st lo 11 ((popsK ks st).map fun s => (s, lo)) := by
 refine mv_intro Try.func116 c116 fun vs vl => ?_
 have d1 := d.sl; have d2 := Ne.symm d.sl
 unfold e116 r116
 simp only [initEnv, initFrom]
 repeat' first|(apply Sp.go;·constructor<;>first|exact ss|(change _=_;first|(simp only[go_sem,Nat.reduceBEq,Nat.reduceAdd,Nat.reduceLeDiff,reduceIte]<;>rfl)|rfl)|exact Nat.le_of_ble_eq_true rfl|decide|(repeat' first|(apply Lk.go;constructor)|assumption|exact nb ‹_› ‹_›|exact nt ‹_› ‹_›|(apply Lv.go;constructor)))|(intro b hb;repeat first|(refine fe hb ?_;intro _ _ hb)|(refine fT hb ?_;intro hb)|(refine fresh_elimV hb ?_;intro _ _ hb))|refine rt ?_|refine gA rfl ?_|refine gB rfl ?_|apply cT rfl|apply cF rfl|(apply DM.gbT;rfl)|(apply DM.gbF;rfl)|intro h
 refine AM.loopX (X := Nat × List Int) (0, st) (fun x => [(0, .ptr ρ.b 0), (7, .vs 1 (ks.map irow)), (8, .int .i64 ks.length), (9, .int .i64 x.1)]) (fun x H' => (∃ vs', H' = HV H0 ρ x.2 lo vs' vl) ∧ x.1 ≤ ks.length ∧ x.2.length ≤ 1000 ∧ popsK ks st = popsK (ks.drop x.1) x.2) (fun x => ks.length - x.1) ⟨⟨vs, rfl⟩, by simp, hst, by simp⟩ ?_ ?_
 ·refine envle_cons ?_ ?_
  ·(simp only [go_sem, Nat.reduceBEq]; exact AVLe.refl _)
  refine envle_cons ?_ ?_
  ·(simp only [go_sem, Nat.reduceBEq]; exact AVLe.refl _)
  refine envle_cons ?_ ?_
  ·simp only [go_sem, Nat.reduceBEq]
   exact avle_int (by simp)
  (repeat first | exact envle_nil _ | (refine envle_cons ?_ ?_; · (simp only [go_sem, Nat.reduceBEq, Nat.reduceAdd]; exact AVLe.refl _)))
 ·rintro ⟨i, s⟩ H' ⟨⟨vs', e⟩, hi, hs, hp⟩
  subst e
  dsimp only at hi hs hp ⊢
  repeat' first|(apply Sp.go;·constructor<;>first|exact ss|(change _=_;first|(simp only[go_sem,Nat.reduceBEq,Nat.reduceAdd,Nat.reduceLeDiff,reduceIte]<;>rfl)|rfl)|exact Nat.le_of_ble_eq_true rfl|decide|(repeat' first|(apply Lk.go;constructor)|assumption|exact nb ‹_› ‹_›|exact nt ‹_› ‹_›|(apply Lv.go;constructor)))|(intro b hb;repeat first|(refine fe hb ?_;intro _ _ hb)|(refine fT hb ?_;intro hb)|(refine fresh_elimV hb ?_;intro _ _ hb))|refine rt ?_|refine gA rfl ?_|refine gB rfl ?_|apply cT rfl|apply cF rfl|(apply DM.gbT;rfl)|(apply DM.gbF;rfl)|intro h
  (apply AM.cond; (· rfl))
  ·intro h1
   simp at h1
   obtain ⟨k, hk⟩ := some_of (show i < ks.length by omega)
   rw [drop_consI hk] at hp
   repeat' first|(apply Sp.go;·constructor<;>first|exact ss|(change _=_;first|(simp only[go_sem,Nat.reduceBEq,Nat.reduceAdd,Nat.reduceLeDiff,reduceIte]<;>rfl)|rfl)|exact Nat.le_of_ble_eq_true rfl|decide|(repeat' first|(apply Lk.go;constructor)|assumption|exact nb ‹_› ‹_›|exact nt ‹_› ‹_›|(apply Lv.go;constructor)))|(intro b hb;repeat first|(refine fe hb ?_;intro _ _ hb)|(refine fT hb ?_;intro hb)|(refine fresh_elimV hb ?_;intro _ _ hb))|refine rt ?_|refine gA rfl ?_|refine gB rfl ?_|apply cT rfl|apply cF rfl|(apply DM.gbT;rfl)|(apply DM.gbF;rfl)|(apply DM.ixV (row := irow k) (z := (i : Int)) (by omega) (row_getI hk); (· rfl); (· rfl))|intro h
   ·have h0 : decide (0 < ((s.map irow).length : Int)) = true := by assumption
    obtain ⟨n, hn⟩ : ∃ n, s.length = n + 1 := by simp only [List.length_map, decide_eq_true_eq] at h0; exact ⟨s.length - 1, by omega⟩
    obtain ⟨v, hv⟩ := some_of (show n < s.length by omega)
    have hl : s.getLast? = some v := by rw [← last_ix hn]; exact hv
    have hw : IntKind.i64.wrap (((s.map irow).length : Int) - 1) = (n : Int) := by rw [List.length_map, hn, wrap64 (by omega) (by omega)]; omega
    simp only [hw]
    (apply DM.ixM; (· rfl); (· repeat' first|(apply Lk.go;constructor)|assumption|exact nb ‹_› ‹_›|exact nt ‹_› ‹_›|(apply Lv.go;constructor)); (· rfl); (· (first | omega | (simp only [List.length_map]; omega))); (· (first | omega | (simp only [List.length_map]; omega))))
    repeat' first|(apply Sp.go;·constructor<;>first|exact ss|(change _=_;first|(simp only[go_sem,Nat.reduceBEq,Nat.reduceAdd,Nat.reduceLeDiff,reduceIte]<;>rfl)|rfl)|exact Nat.le_of_ble_eq_true rfl|decide|(repeat' first|(apply Lk.go;constructor)|assumption|exact nb ‹_› ‹_›|exact nt ‹_› ‹_›|(apply Lv.go;constructor)))|(intro b hb;repeat first|(refine fe hb ?_;intro _ _ hb)|(refine fT hb ?_;intro hb)|(refine fresh_elimV hb ?_;intro _ _ hb))|refine rt ?_|refine gA rfl ?_|refine gB rfl ?_|apply cT rfl|apply cF rfl|(apply DM.gbT;rfl)|(apply DM.gbF;rfl)|(apply DM.ldM1 (i := n) (j := 0); (· rfl); (· repeat' first|(apply Lk.go;constructor)|assumption|exact nb ‹_› ‹_›|exact nt ‹_› ‹_›|(apply Lv.go;constructor)); (· exact rows1 _); (· (rw [List.getElem?_map, hv]; rfl)); (· simp); (· rfl))|intro h
    by_cases hvk : v = k
    ·simp only [decide_eq_true hvk]
     (apply DM.pcs (p115t 11); (· simp only [go_sem, Nat.reduceBEq, Nat.reduceAdd] <;> rfl); (· exact AVLes.refl _))
     repeat' first|(apply Sp.go;·constructor<;>first|exact ss|(change _=_;first|(simp only[go_sem,Nat.reduceBEq,Nat.reduceAdd,Nat.reduceLeDiff,reduceIte]<;>rfl)|rfl)|exact Nat.le_of_ble_eq_true rfl|decide|(repeat' first|(apply Lk.go;constructor)|assumption|exact nb ‹_› ‹_›|exact nt ‹_› ‹_›|(apply Lv.go;constructor)))|(intro b hb;repeat first|(refine fe hb ?_;intro _ _ hb)|(refine fT hb ?_;intro hb)|(refine fresh_elimV hb ?_;intro _ _ hb))|refine rt ?_|refine gA rfl ?_|refine gB rfl ?_|apply cT rfl|apply cF rfl|(apply DM.gbT;rfl)|(apply DM.gbF;rfl)|intro h
     simp only [hw]
     (apply DM.sM; (· rfl); (· repeat' first|(apply Lk.go;constructor)|assumption|exact nb ‹_› ‹_›|exact nt ‹_› ‹_›|(apply Lv.go;constructor)); (· rfl); (· (simp only [List.length_map]; omega)))
     repeat' first|(apply Sp.go;·constructor<;>first|exact ss|(change _=_;first|(simp only[go_sem,Nat.reduceBEq,Nat.reduceAdd,Nat.reduceLeDiff,reduceIte]<;>rfl)|rfl)|exact Nat.le_of_ble_eq_true rfl|decide|(repeat' first|(apply Lk.go;constructor)|assumption|exact nb ‹_› ‹_›|exact nt ‹_› ‹_›|(apply Lv.go;constructor)))|(intro b hb;repeat first|(refine fe hb ?_;intro _ _ hb)|(refine fT hb ?_;intro hb)|(refine fresh_elimV hb ?_;intro _ _ hb))|refine rt ?_|refine gA rfl ?_|refine gB rfl ?_|apply cT rfl|apply cF rfl|(apply DM.gbT;rfl)|(apply DM.gbF;rfl)|intro h
     have hpk : popK k s = some s.dropLast := by simp [popK, hl, hvk]
     have htk : (s.map irow).take n = s.dropLast.map irow := by rw [← List.map_take, List.dropLast_eq_take, hn]; rfl
     refine AM.forget (HV H0 ρ s.dropLast lo (vs' + 1) vl) ?_ ?_
     ·rw [htk]
      (refine hsub_hv ?_ ?_ ?_ ?_ ?_<;>first|(intro x y h1 h2 h;repeat first|exact h|refine hv_oldT h1 h2 ?_|refine t_ne ‹_› ?_|refine t_fresh ‹_› ?_|refine t_B ?_)|(intro x y hx h;repeat first|exact h|refine hv_old hx ?_|refine g_ne hx ?_|refine g_ne (nb ‹_› h) ?_|refine g_fresh ‹_› ?_|refine g_T ?_)|(repeat' first|(apply Lk.go;constructor)|assumption|exact nb ‹_› ‹_›|exact nt ‹_› ‹_›|(apply Lv.go;constructor)))
     refine AM.roundX (i + 1, s.dropLast) ⟨⟨_, rfl⟩, by dsimp only; omega, by simp; omega, ?_⟩ ?_ ?_
     ·rw [hp]
      simp only [popsK, hpk, Option.bind_some]
     ·(repeat first | exact envle_nil _ | (refine envle_cons ?_ ?_; · (simp only [go_sem, Nat.reduceBEq, Nat.reduceAdd]; exact AVLe.refl _)))
      refine envle_cons ?_ ?_
      ·simp only [go_sem, Nat.reduceBEq, Nat.reduceAdd]
       refine avle_int ?_
       rw [inc64 h1 (by unfold maxLen; omega)]
      exact envle_nil _
     ·show ks.length - (i + 1) < ks.length - i
      omega
    ·simp only [decide_eq_false hvk]
     have hpk : popK k s = none := by simp [popK, hl, hvk]
     rw [hp]
     simp only [popsK, hpk, Option.bind_none, Option.map_none]
     refine DM.calX (p115f 11 _) (by simp only [go_sem, Nat.reduceBEq, Nat.reduceAdd] <;> rfl) (AVLes.refl _) ?_
     rintro v H' ⟨rfl, rfl⟩
     exact mvw_pan (hv_base d)
   ·have h0 : decide (0 < ((s.map irow).length : Int)) = false := by assumption
    have hn : s = [] := by simp only [List.length_map, decide_eq_false_iff_not] at h0; exact List.eq_nil_of_length_eq_zero (by omega)
    have hpk : popK k s = none := by simp [popK, hn]
    rw [hp]
    simp only [popsK, hpk, Option.bind_none, Option.map_none]
    refine DM.calX (p115f 11 _) (by simp only [go_sem, Nat.reduceBEq, Nat.reduceAdd] <;> rfl) (AVLes.refl _) ?_
    rintro v H' ⟨rfl, rfl⟩
    exact mvw_pan (hv_base d)
  ·intro h1
   simp at h1
   rw [hp, List.drop_eq_nil_of_le (by omega)]
   repeat' first|(apply Sp.go;·constructor<;>first|exact ss|(change _=_;first|(simp only[go_sem,Nat.reduceBEq,Nat.reduceAdd,Nat.reduceLeDiff,reduceIte]<;>rfl)|rfl)|exact Nat.le_of_ble_eq_true rfl|decide|(repeat' first|(apply Lk.go;constructor)|assumption|exact nb ‹_› ‹_›|exact nt ‹_› ‹_›|(apply Lv.go;constructor)))|(intro b hb;repeat first|(refine fe hb ?_;intro _ _ hb)|(refine fT hb ?_;intro hb)|(refine fresh_elimV hb ?_;intro _ _ hb))|refine rt ?_|refine gA rfl ?_|refine gB rfl ?_|apply cT rfl|apply cF rfl|(apply DM.gbT;rfl)|(apply DM.gbF;rfl)|intro h
   (first|refine AM.ret (v := .tup []) results_nil ?_|refine AM.done (v := .tup []) results_nil ?_)
   exact mvw_ok (HSub.refl _)
def valuesP (p : Prog) (ps rs : List Int) (x : Ins_) (st : List Int) : Option (List Int) :=
 if x.op = 1 then pushK 1 st
 else if x.op = 2 then pushK 2 st
 else if x.op = 3 then (p.vars[x.n.toNat]?).bind fun v => pushK v.sort.k st
 else if x.op = 4 then (if x.n < ps.length then (ps[x.n.toNat]?).bind fun k => pushK k st else none)
 else if x.op = 5 then (p.vars[x.n.toNat]?).bind fun v => popsK [v.sort.k] st
 else if isArith x.op then (popsK [1, 1] st).bind (pushK 1)
 else if x.op = 11 ∨ x.op = 14 then (popsK [1] st).bind (pushK 1)
 else if x.op = 12 then (match st.getLast? with
  | none => none
  | some k => if k = 1 ∨ k = 2 then (popsK [k, k] st).bind (pushK 1) else none)
 else if x.op = 17 then (popsK [2, 2] st).bind (pushK 2)
 else if x.op = 18 then (popsK [2] st).bind (pushK 1)
 else if x.op = 20 then popsK [1] st
 else if x.op = 24 then (if st = rs then some st else none)
 else some st
abbrev ccells (p : Prog) (ps rs : List Int) (a : AV) : List AV := [.str p.name, .int .i64 p.role, .vs 7 (p.vars.map Var_.row), .vs 3 (p.hs.map Hd.row), .vs 4 (p.os.map Of_.row), .vs 3 (p.code.map Ins_.row), .vs 1 (ps.map irow), .vs 1 (rs.map irow), a]
set_option maxHeartbeats 4000000 in
theorem p75 {H0 : AHeap} {ρ : RefV} (d : ρ.Ok H0) (cb : Nat) (p : Prog) (ps rr : List Int) (a : AV) (hcb : H0.blk cb = some (122, ccells p ps rr a)) (x : Ins_) (st lo : List Int) (hst : st.length ≤ 1000) (hps : ps.length ≤ 1000)
  (hv : x.op = 3 ∨ x.op = 5 → 0 ≤ x.n ∧ x.n < p.vars.length) (hpa : x.op = 4 → 0 ≤ x.n) (heq : ∀ H : AHeap, ∀ t v, H.tok t = some (.mu 3 1 v (st.map irow)) → PureAt Try.prog 117 [.ms t v, .vs 1 (rr.map irow)] H (.bool (decide (st = rr)))) :
  MV 75 [.ptr cb 0, .ptr ρ.b 0, x.av] H0 ρ st lo 11 ((valuesP p ps rr x st).map fun s => (s, lo)) := by
 refine mv_intro Try.func75 c75 fun vs vl => ?_
 have d1 := d.sl; have d2 := Ne.symm d.sl
 have hne : cb ≠ ρ.b := fun e => by subst e; rw [d.fb] at hcb; cases hcb
 unfold e75 r75
 simp only [initEnv, initFrom]
 repeat' first|(apply Sp.go;·constructor<;>first|exact ss|(change _=_;first|(simp only[go_sem,Nat.reduceBEq,Nat.reduceAdd,Nat.reduceLeDiff,reduceIte]<;>rfl)|rfl)|exact Nat.le_of_ble_eq_true rfl|decide|(repeat' first|(apply Lk.go;constructor)|assumption|exact nb ‹_› ‹_›|exact nt ‹_› ‹_›|(apply Lv.go;constructor)))|(intro b hb;repeat first|(refine fe hb ?_;intro _ _ hb)|(refine fT hb ?_;intro hb)|(refine fresh_elimV hb ?_;intro _ _ hb))|refine rt ?_|refine gA rfl ?_|refine gB rfl ?_|apply cT rfl|apply cF rfl|(apply DM.gbT;rfl)|(apply DM.gbF;rfl)|intro h
 rw [hv_setB (by assumption)]
 have hbne : b ≠ ρ.b := by assumption
 have hcbb : cb ≠ b := (ne_blk hb hcb).2
 have hH : HSub H0 (H0.setB b 88 x.row) := HSub.setB (HSub.refl _) hb
 have dd : ρ.Ok (H0.setB b 88 x.row) := ⟨d.sl, g_ne (Ne.symm hbne) d.fb, t_B d.fs, t_B d.fl⟩
 have hcb1 : (H0.setB b 88 x.row).blk cb = some (122, ccells p ps rr a) := g_ne hcbb hcb
 have hb1 : (H0.setB b 88 x.row).blk b = some (88, x.row) := g_same
 generalize H0.setB b 88 x.row = H1 at *
 (apply AM.cond; (· rfl))
 ·intro h1
  simp at h1
  repeat' first|(apply Sp.go;·constructor<;>first|exact ss|(change _=_;first|(simp only[go_sem,Nat.reduceBEq,Nat.reduceAdd,Nat.reduceLeDiff,reduceIte]<;>rfl)|rfl)|exact Nat.le_of_ble_eq_true rfl|decide|(repeat' first|(apply Lk.go;constructor)|assumption|exact nb ‹_› ‹_›|exact nt ‹_› ‹_›|(apply Lv.go;constructor)))|(intro b hb;repeat first|(refine fe hb ?_;intro _ _ hb)|(refine fT hb ?_;intro hb)|(refine fresh_elimV hb ?_;intro _ _ hb))|refine rt ?_|refine gA rfl ?_|refine gB rfl ?_|apply cT rfl|apply cF rfl|(apply DM.gbT;rfl)|(apply DM.gbF;rfl)|intro h
  cases hq : pushK 1 st with
  | none =>
   have c := p114 dd st lo 1
   rw [hq] at c
   refine DM.mvX (c) (by simp only [go_sem, Nat.reduceBEq, Nat.reduceAdd] <;> rfl) (AVLes.refl _) fun H' hh => ?_
   rw [show valuesP p ps rr x st = none by simp [valuesP, isArith, hq, h1]]
   exact mvw_pan (hH.trans hh)
  | some s2 =>
   have c := p114 dd st lo 1
   rw [hq] at c
   refine DM.mvO (c) (by simp only [go_sem, Nat.reduceBEq, Nat.reduceAdd] <;> rfl) (AVLes.refl _) fun vs' vl' => ?_
   simp only [put_some]
   repeat' first|(apply Sp.go;·constructor<;>first|exact ss|(change _=_;first|(simp only[go_sem,Nat.reduceBEq,Nat.reduceAdd,Nat.reduceLeDiff,reduceIte]<;>rfl)|rfl)|exact Nat.le_of_ble_eq_true rfl|decide|(repeat' first|(apply Lk.go;constructor)|assumption|exact nb ‹_› ‹_›|exact nt ‹_› ‹_›|(apply Lv.go;constructor)))|(intro b hb;repeat first|(refine fe hb ?_;intro _ _ hb)|(refine fT hb ?_;intro hb)|(refine fresh_elimV hb ?_;intro _ _ hb))|refine rt ?_|refine gA rfl ?_|refine gB rfl ?_|apply cT rfl|apply cF rfl|(apply DM.gbT;rfl)|(apply DM.gbF;rfl)|intro h
   (first|refine AM.ret (v := .tup []) results_nil ?_|refine AM.done (v := .tup []) results_nil ?_)
   rw [show valuesP p ps rr x st = some s2 by simp [valuesP, isArith, hq, h1]]
   exact mvw_ok (s := (s2, lo)) (hv_mono hH)
 ·intro h1
  simp at h1
  repeat' first|(apply Sp.go;·constructor<;>first|exact ss|(change _=_;first|(simp only[go_sem,Nat.reduceBEq,Nat.reduceAdd,Nat.reduceLeDiff,reduceIte]<;>rfl)|rfl)|exact Nat.le_of_ble_eq_true rfl|decide|(repeat' first|(apply Lk.go;constructor)|assumption|exact nb ‹_› ‹_›|exact nt ‹_› ‹_›|(apply Lv.go;constructor)))|(intro b hb;repeat first|(refine fe hb ?_;intro _ _ hb)|(refine fT hb ?_;intro hb)|(refine fresh_elimV hb ?_;intro _ _ hb))|refine rt ?_|refine gA rfl ?_|refine gB rfl ?_|apply cT rfl|apply cF rfl|(apply DM.gbT;rfl)|(apply DM.gbF;rfl)|intro h
  (apply AM.cond; (· rfl))
  ·intro h2
   simp at h2
   repeat' first|(apply Sp.go;·constructor<;>first|exact ss|(change _=_;first|(simp only[go_sem,Nat.reduceBEq,Nat.reduceAdd,Nat.reduceLeDiff,reduceIte]<;>rfl)|rfl)|exact Nat.le_of_ble_eq_true rfl|decide|(repeat' first|(apply Lk.go;constructor)|assumption|exact nb ‹_› ‹_›|exact nt ‹_› ‹_›|(apply Lv.go;constructor)))|(intro b hb;repeat first|(refine fe hb ?_;intro _ _ hb)|(refine fT hb ?_;intro hb)|(refine fresh_elimV hb ?_;intro _ _ hb))|refine rt ?_|refine gA rfl ?_|refine gB rfl ?_|apply cT rfl|apply cF rfl|(apply DM.gbT;rfl)|(apply DM.gbF;rfl)|intro h
   cases hq : pushK 2 st with
   | none =>
    have c := p114 dd st lo 2
    rw [hq] at c
    refine DM.mvX (c) (by simp only [go_sem, Nat.reduceBEq, Nat.reduceAdd] <;> rfl) (AVLes.refl _) fun H' hh => ?_
    rw [show valuesP p ps rr x st = none by simp [valuesP, isArith, hq, h2]]
    exact mvw_pan (hH.trans hh)
   | some s2 =>
    have c := p114 dd st lo 2
    rw [hq] at c
    refine DM.mvO (c) (by simp only [go_sem, Nat.reduceBEq, Nat.reduceAdd] <;> rfl) (AVLes.refl _) fun vs' vl' => ?_
    simp only [put_some]
    repeat' first|(apply Sp.go;·constructor<;>first|exact ss|(change _=_;first|(simp only[go_sem,Nat.reduceBEq,Nat.reduceAdd,Nat.reduceLeDiff,reduceIte]<;>rfl)|rfl)|exact Nat.le_of_ble_eq_true rfl|decide|(repeat' first|(apply Lk.go;constructor)|assumption|exact nb ‹_› ‹_›|exact nt ‹_› ‹_›|(apply Lv.go;constructor)))|(intro b hb;repeat first|(refine fe hb ?_;intro _ _ hb)|(refine fT hb ?_;intro hb)|(refine fresh_elimV hb ?_;intro _ _ hb))|refine rt ?_|refine gA rfl ?_|refine gB rfl ?_|apply cT rfl|apply cF rfl|(apply DM.gbT;rfl)|(apply DM.gbF;rfl)|intro h
    (first|refine AM.ret (v := .tup []) results_nil ?_|refine AM.done (v := .tup []) results_nil ?_)
    rw [show valuesP p ps rr x st = some s2 by simp [valuesP, isArith, hq, h2]]
    exact mvw_ok (s := (s2, lo)) (hv_mono hH)
  ·intro h2
   simp at h2
   repeat' first|(apply Sp.go;·constructor<;>first|exact ss|(change _=_;first|(simp only[go_sem,Nat.reduceBEq,Nat.reduceAdd,Nat.reduceLeDiff,reduceIte]<;>rfl)|rfl)|exact Nat.le_of_ble_eq_true rfl|decide|(repeat' first|(apply Lk.go;constructor)|assumption|exact nb ‹_› ‹_›|exact nt ‹_› ‹_›|(apply Lv.go;constructor)))|(intro b hb;repeat first|(refine fe hb ?_;intro _ _ hb)|(refine fT hb ?_;intro hb)|(refine fresh_elimV hb ?_;intro _ _ hb))|refine rt ?_|refine gA rfl ?_|refine gB rfl ?_|apply cT rfl|apply cF rfl|(apply DM.gbT;rfl)|(apply DM.gbF;rfl)|intro h
   (apply AM.cond; (· rfl))
   ·intro h3
    simp at h3
    obtain ⟨q1, q2⟩ := hv (.inl h3)
    obtain ⟨v, hvv⟩ := some_of (show x.n.toNat < p.vars.length by omega)
    repeat' first|(apply Sp.go;·constructor<;>first|exact ss|(change _=_;first|(simp only[go_sem,Nat.reduceBEq,Nat.reduceAdd,Nat.reduceLeDiff,reduceIte]<;>rfl)|rfl)|exact Nat.le_of_ble_eq_true rfl|decide|(repeat' first|(apply Lk.go;constructor)|assumption|exact nb ‹_› ‹_›|exact nt ‹_› ‹_›|(apply Lv.go;constructor)))|(intro b hb;repeat first|(refine fe hb ?_;intro _ _ hb)|(refine fT hb ?_;intro hb)|(refine fresh_elimV hb ?_;intro _ _ hb))|refine rt ?_|refine gA rfl ?_|refine gB rfl ?_|apply cT rfl|apply cF rfl|(apply DM.gbT;rfl)|(apply DM.gbF;rfl)|(apply DM.ixV (row := v.row) (z := x.n) q1 (by rw [List.getElem?_map, hvv]; rfl); (· rfl); (· rfl))|intro h
    cases hq : pushK v.sort.k st with
    | none =>
     have c := p114 dd st lo v.sort.k
     rw [hq] at c
     refine DM.mvX (c) (by simp only [go_sem, Nat.reduceBEq, Nat.reduceAdd] <;> rfl) (AVLes.refl _) fun H' hh => ?_
     rw [show valuesP p ps rr x st = none by simp [valuesP, isArith, hq, h3, hvv]]
     exact mvw_pan (hH.trans hh)
    | some s2 =>
     have c := p114 dd st lo v.sort.k
     rw [hq] at c
     refine DM.mvO (c) (by simp only [go_sem, Nat.reduceBEq, Nat.reduceAdd] <;> rfl) (AVLes.refl _) fun vs' vl' => ?_
     simp only [put_some]
     repeat' first|(apply Sp.go;·constructor<;>first|exact ss|(change _=_;first|(simp only[go_sem,Nat.reduceBEq,Nat.reduceAdd,Nat.reduceLeDiff,reduceIte]<;>rfl)|rfl)|exact Nat.le_of_ble_eq_true rfl|decide|(repeat' first|(apply Lk.go;constructor)|assumption|exact nb ‹_› ‹_›|exact nt ‹_› ‹_›|(apply Lv.go;constructor)))|(intro b hb;repeat first|(refine fe hb ?_;intro _ _ hb)|(refine fT hb ?_;intro hb)|(refine fresh_elimV hb ?_;intro _ _ hb))|refine rt ?_|refine gA rfl ?_|refine gB rfl ?_|apply cT rfl|apply cF rfl|(apply DM.gbT;rfl)|(apply DM.gbF;rfl)|intro h
     (first|refine AM.ret (v := .tup []) results_nil ?_|refine AM.done (v := .tup []) results_nil ?_)
     rw [show valuesP p ps rr x st = some s2 by simp [valuesP, isArith, hq, h3, hvv]]
     exact mvw_ok (s := (s2, lo)) (hv_mono hH)
   ·intro h3
    simp at h3
    repeat' first|(apply Sp.go;·constructor<;>first|exact ss|(change _=_;first|(simp only[go_sem,Nat.reduceBEq,Nat.reduceAdd,Nat.reduceLeDiff,reduceIte]<;>rfl)|rfl)|exact Nat.le_of_ble_eq_true rfl|decide|(repeat' first|(apply Lk.go;constructor)|assumption|exact nb ‹_› ‹_›|exact nt ‹_› ‹_›|(apply Lv.go;constructor)))|(intro b hb;repeat first|(refine fe hb ?_;intro _ _ hb)|(refine fT hb ?_;intro hb)|(refine fresh_elimV hb ?_;intro _ _ hb))|refine rt ?_|refine gA rfl ?_|refine gB rfl ?_|apply cT rfl|apply cF rfl|(apply DM.gbT;rfl)|(apply DM.gbF;rfl)|intro h
    (apply AM.cond; (· rfl))
    ·intro h4
     simp at h4
     have q1 := hpa h4
     repeat' first|(apply Sp.go;·constructor<;>first|exact ss|(change _=_;first|(simp only[go_sem,Nat.reduceBEq,Nat.reduceAdd,Nat.reduceLeDiff,reduceIte]<;>rfl)|rfl)|exact Nat.le_of_ble_eq_true rfl|decide|(repeat' first|(apply Lk.go;constructor)|assumption|exact nb ‹_› ‹_›|exact nt ‹_› ‹_›|(apply Lv.go;constructor)))|(intro b hb;repeat first|(refine fe hb ?_;intro _ _ hb)|(refine fT hb ?_;intro hb)|(refine fresh_elimV hb ?_;intro _ _ hb))|refine rt ?_|refine gA rfl ?_|refine gB rfl ?_|apply cT rfl|apply cF rfl|(apply DM.gbT;rfl)|(apply DM.gbF;rfl)|intro h
     by_cases hlt : x.n < ps.length
     ·have e1 : decide (x.n < ((ps.map irow).length : Int)) = true := by rw [List.length_map]; exact decide_eq_true hlt
      simp only [e1]
      obtain ⟨k, hk⟩ := some_of (show x.n.toNat < ps.length by omega)
      (apply DM.pcs (p115t 11); (· simp only [go_sem, Nat.reduceBEq, Nat.reduceAdd] <;> rfl); (· exact AVLes.refl _))
      repeat' first|(apply Sp.go;·constructor<;>first|exact ss|(change _=_;first|(simp only[go_sem,Nat.reduceBEq,Nat.reduceAdd,Nat.reduceLeDiff,reduceIte]<;>rfl)|rfl)|exact Nat.le_of_ble_eq_true rfl|decide|(repeat' first|(apply Lk.go;constructor)|assumption|exact nb ‹_› ‹_›|exact nt ‹_› ‹_›|(apply Lv.go;constructor)))|(intro b hb;repeat first|(refine fe hb ?_;intro _ _ hb)|(refine fT hb ?_;intro hb)|(refine fresh_elimV hb ?_;intro _ _ hb))|refine rt ?_|refine gA rfl ?_|refine gB rfl ?_|apply cT rfl|apply cF rfl|(apply DM.gbT;rfl)|(apply DM.gbF;rfl)|(apply DM.ixV (row := irow k) (z := x.n) q1 (by rw [List.getElem?_map, hk]; rfl); (· rfl); (· rfl))|intro h
      cases hq : pushK k st with
      | none =>
       have c := p114 dd st lo k
       rw [hq] at c
       refine DM.mvX (c) (by simp only [go_sem, Nat.reduceBEq, Nat.reduceAdd] <;> rfl) (AVLes.refl _) fun H' hh => ?_
       rw [show valuesP p ps rr x st = none by simp [valuesP, isArith, hq, h4, hlt, hk]]
       exact mvw_pan (hH.trans hh)
      | some s2 =>
       have c := p114 dd st lo k
       rw [hq] at c
       refine DM.mvO (c) (by simp only [go_sem, Nat.reduceBEq, Nat.reduceAdd] <;> rfl) (AVLes.refl _) fun vs' vl' => ?_
       simp only [put_some]
       repeat' first|(apply Sp.go;·constructor<;>first|exact ss|(change _=_;first|(simp only[go_sem,Nat.reduceBEq,Nat.reduceAdd,Nat.reduceLeDiff,reduceIte]<;>rfl)|rfl)|exact Nat.le_of_ble_eq_true rfl|decide|(repeat' first|(apply Lk.go;constructor)|assumption|exact nb ‹_› ‹_›|exact nt ‹_› ‹_›|(apply Lv.go;constructor)))|(intro b hb;repeat first|(refine fe hb ?_;intro _ _ hb)|(refine fT hb ?_;intro hb)|(refine fresh_elimV hb ?_;intro _ _ hb))|refine rt ?_|refine gA rfl ?_|refine gB rfl ?_|apply cT rfl|apply cF rfl|(apply DM.gbT;rfl)|(apply DM.gbF;rfl)|intro h
       (first|refine AM.ret (v := .tup []) results_nil ?_|refine AM.done (v := .tup []) results_nil ?_)
       rw [show valuesP p ps rr x st = some s2 by simp [valuesP, isArith, hq, h4, hlt, hk]]
       exact mvw_ok (s := (s2, lo)) (hv_mono hH)
     ·have e1 : decide (x.n < ((ps.map irow).length : Int)) = false := by rw [List.length_map]; exact decide_eq_false hlt
      simp only [e1]
      rw [show valuesP p ps rr x st = none by simp [valuesP, h4, hlt]]
      refine DM.calX (p115f 11 _) (by simp only [go_sem, Nat.reduceBEq, Nat.reduceAdd] <;> rfl) (AVLes.refl _) ?_
      rintro v H' ⟨rfl, rfl⟩
      exact mvw_pan (hH.trans (hv_base dd))
    ·intro h4
     simp at h4
     repeat' first|(apply Sp.go;·constructor<;>first|exact ss|(change _=_;first|(simp only[go_sem,Nat.reduceBEq,Nat.reduceAdd,Nat.reduceLeDiff,reduceIte]<;>rfl)|rfl)|exact Nat.le_of_ble_eq_true rfl|decide|(repeat' first|(apply Lk.go;constructor)|assumption|exact nb ‹_› ‹_›|exact nt ‹_› ‹_›|(apply Lv.go;constructor)))|(intro b hb;repeat first|(refine fe hb ?_;intro _ _ hb)|(refine fT hb ?_;intro hb)|(refine fresh_elimV hb ?_;intro _ _ hb))|refine rt ?_|refine gA rfl ?_|refine gB rfl ?_|apply cT rfl|apply cF rfl|(apply DM.gbT;rfl)|(apply DM.gbF;rfl)|intro h
     (apply AM.cond; (· rfl))
     ·intro h5
      simp at h5
      obtain ⟨q1, q2⟩ := hv (.inr h5)
      obtain ⟨v, hvv⟩ := some_of (show x.n.toNat < p.vars.length by omega)
      repeat' first|(apply Sp.go;·constructor<;>first|exact ss|(change _=_;first|(simp only[go_sem,Nat.reduceBEq,Nat.reduceAdd,Nat.reduceLeDiff,reduceIte]<;>rfl)|rfl)|exact Nat.le_of_ble_eq_true rfl|decide|(repeat' first|(apply Lk.go;constructor)|assumption|exact nb ‹_› ‹_›|exact nt ‹_› ‹_›|(apply Lv.go;constructor)))|(intro b hb;repeat first|(refine fe hb ?_;intro _ _ hb)|(refine fT hb ?_;intro hb)|(refine fresh_elimV hb ?_;intro _ _ hb))|refine rt ?_|refine gA rfl ?_|refine gB rfl ?_|apply cT rfl|apply cF rfl|(apply DM.gbT;rfl)|(apply DM.gbF;rfl)|(apply DM.ixV (row := v.row) (z := x.n) q1 (by rw [List.getElem?_map, hvv]; rfl); (· rfl); (· rfl))|intro h
      cases hp : popsK [v.sort.k] st with
      | none =>
       have c := p116 dd st lo [v.sort.k] hst (by simp)
       rw [hp] at c
       refine DM.mvX (c) (by simp only [go_sem, Nat.reduceBEq, Nat.reduceAdd] <;> rfl) (AVLes.refl _) fun H' hh => ?_
       rw [show valuesP p ps rr x st = none by simp [valuesP, isArith, hp, h5, hvv]]
       exact mvw_pan (hH.trans hh)
      | some s1 =>
       have c := p116 dd st lo [v.sort.k] hst (by simp)
       rw [hp] at c
       refine DM.mvO (c) (by simp only [go_sem, Nat.reduceBEq, Nat.reduceAdd] <;> rfl) (AVLes.refl _) fun vs' vl' => ?_
       simp only [put_some]
       repeat' first|(apply Sp.go;·constructor<;>first|exact ss|(change _=_;first|(simp only[go_sem,Nat.reduceBEq,Nat.reduceAdd,Nat.reduceLeDiff,reduceIte]<;>rfl)|rfl)|exact Nat.le_of_ble_eq_true rfl|decide|(repeat' first|(apply Lk.go;constructor)|assumption|exact nb ‹_› ‹_›|exact nt ‹_› ‹_›|(apply Lv.go;constructor)))|(intro b hb;repeat first|(refine fe hb ?_;intro _ _ hb)|(refine fT hb ?_;intro hb)|(refine fresh_elimV hb ?_;intro _ _ hb))|refine rt ?_|refine gA rfl ?_|refine gB rfl ?_|apply cT rfl|apply cF rfl|(apply DM.gbT;rfl)|(apply DM.gbF;rfl)|intro h
       (first|refine AM.ret (v := .tup []) results_nil ?_|refine AM.done (v := .tup []) results_nil ?_)
       rw [show valuesP p ps rr x st = some s1 by simp [valuesP, isArith, hp, h5, hvv]]
       exact mvw_ok (s := (s1, lo)) (hv_mono hH)
     ·intro h5
      simp at h5
      repeat' first|(apply Sp.go;·constructor<;>first|exact ss|(change _=_;first|(simp only[go_sem,Nat.reduceBEq,Nat.reduceAdd,Nat.reduceLeDiff,reduceIte]<;>rfl)|rfl)|exact Nat.le_of_ble_eq_true rfl|decide|(repeat' first|(apply Lk.go;constructor)|assumption|exact nb ‹_› ‹_›|exact nt ‹_› ‹_›|(apply Lv.go;constructor)))|(intro b hb;repeat first|(refine fe hb ?_;intro _ _ hb)|(refine fT hb ?_;intro hb)|(refine fresh_elimV hb ?_;intro _ _ hb))|refine rt ?_|refine gA rfl ?_|refine gB rfl ?_|apply cT rfl|apply cF rfl|(apply DM.gbT;rfl)|(apply DM.gbF;rfl)|(apply AM.condS;rfl)|intro h
      ·have ho : x.op = 6 := of_decide_eq_true ‹decide (x.op = 6) = true›
       repeat' first|(apply Sp.go;·constructor<;>first|exact ss|(change _=_;first|(simp only[go_sem,Nat.reduceBEq,Nat.reduceAdd,Nat.reduceLeDiff,reduceIte]<;>rfl)|rfl)|exact Nat.le_of_ble_eq_true rfl|decide|(repeat' first|(apply Lk.go;constructor)|assumption|exact nb ‹_› ‹_›|exact nt ‹_› ‹_›|(apply Lv.go;constructor)))|(intro b hb;repeat first|(refine fe hb ?_;intro _ _ hb)|(refine fT hb ?_;intro hb)|(refine fresh_elimV hb ?_;intro _ _ hb))|refine rt ?_|refine gA rfl ?_|refine gB rfl ?_|apply cT rfl|apply cF rfl|(apply DM.gbT;rfl)|(apply DM.gbF;rfl)|intro h
       cases hp : popsK [1, 1] st with
       | none =>
        have c := p116 dd st lo [1, 1] hst (by simp)
        rw [hp] at c
        refine DM.mvX (c) (by simp only [go_sem, Nat.reduceBEq, Nat.reduceAdd] <;> rfl) (AVLes.refl _) fun H' hh => ?_
        rw [show valuesP p ps rr x st = none by simp [valuesP, isArith, hp, ho]]
        exact mvw_pan (hH.trans hh)
       | some s1 =>
        have c := p116 dd st lo [1, 1] hst (by simp)
        rw [hp] at c
        refine DM.mvO (c) (by simp only [go_sem, Nat.reduceBEq, Nat.reduceAdd] <;> rfl) (AVLes.refl _) fun vs' vl' => ?_
        simp only [put_some]
        repeat' first|(apply Sp.go;·constructor<;>first|exact ss|(change _=_;first|(simp only[go_sem,Nat.reduceBEq,Nat.reduceAdd,Nat.reduceLeDiff,reduceIte]<;>rfl)|rfl)|exact Nat.le_of_ble_eq_true rfl|decide|(repeat' first|(apply Lk.go;constructor)|assumption|exact nb ‹_› ‹_›|exact nt ‹_› ‹_›|(apply Lv.go;constructor)))|(intro b hb;repeat first|(refine fe hb ?_;intro _ _ hb)|(refine fT hb ?_;intro hb)|(refine fresh_elimV hb ?_;intro _ _ hb))|refine rt ?_|refine gA rfl ?_|refine gB rfl ?_|apply cT rfl|apply cF rfl|(apply DM.gbT;rfl)|(apply DM.gbF;rfl)|intro h
        cases hq : pushK 1 s1 with
        | none =>
         have c := p114 dd s1 lo 1
         rw [hq] at c
         refine DM.mvX (c) (by simp only [go_sem, Nat.reduceBEq, Nat.reduceAdd] <;> rfl) (AVLes.refl _) fun H' hh => ?_
         rw [show valuesP p ps rr x st = none by simp [valuesP, isArith, hp, hq, ho]]
         exact mvw_pan (hH.trans hh)
        | some s2 =>
         have c := p114 dd s1 lo 1
         rw [hq] at c
         refine DM.mvO (c) (by simp only [go_sem, Nat.reduceBEq, Nat.reduceAdd] <;> rfl) (AVLes.refl _) fun vs' vl' => ?_
         simp only [put_some]
         repeat' first|(apply Sp.go;·constructor<;>first|exact ss|(change _=_;first|(simp only[go_sem,Nat.reduceBEq,Nat.reduceAdd,Nat.reduceLeDiff,reduceIte]<;>rfl)|rfl)|exact Nat.le_of_ble_eq_true rfl|decide|(repeat' first|(apply Lk.go;constructor)|assumption|exact nb ‹_› ‹_›|exact nt ‹_› ‹_›|(apply Lv.go;constructor)))|(intro b hb;repeat first|(refine fe hb ?_;intro _ _ hb)|(refine fT hb ?_;intro hb)|(refine fresh_elimV hb ?_;intro _ _ hb))|refine rt ?_|refine gA rfl ?_|refine gB rfl ?_|apply cT rfl|apply cF rfl|(apply DM.gbT;rfl)|(apply DM.gbF;rfl)|intro h
         (first|refine AM.ret (v := .tup []) results_nil ?_|refine AM.done (v := .tup []) results_nil ?_)
         rw [show valuesP p ps rr x st = some s2 by simp [valuesP, isArith, hp, hq, ho]]
         exact mvw_ok (s := (s2, lo)) (hv_mono hH)
      ·have ho : x.op = 7 := of_decide_eq_true ‹decide (x.op = 7) = true›
       repeat' first|(apply Sp.go;·constructor<;>first|exact ss|(change _=_;first|(simp only[go_sem,Nat.reduceBEq,Nat.reduceAdd,Nat.reduceLeDiff,reduceIte]<;>rfl)|rfl)|exact Nat.le_of_ble_eq_true rfl|decide|(repeat' first|(apply Lk.go;constructor)|assumption|exact nb ‹_› ‹_›|exact nt ‹_› ‹_›|(apply Lv.go;constructor)))|(intro b hb;repeat first|(refine fe hb ?_;intro _ _ hb)|(refine fT hb ?_;intro hb)|(refine fresh_elimV hb ?_;intro _ _ hb))|refine rt ?_|refine gA rfl ?_|refine gB rfl ?_|apply cT rfl|apply cF rfl|(apply DM.gbT;rfl)|(apply DM.gbF;rfl)|intro h
       cases hp : popsK [1, 1] st with
       | none =>
        have c := p116 dd st lo [1, 1] hst (by simp)
        rw [hp] at c
        refine DM.mvX (c) (by simp only [go_sem, Nat.reduceBEq, Nat.reduceAdd] <;> rfl) (AVLes.refl _) fun H' hh => ?_
        rw [show valuesP p ps rr x st = none by simp [valuesP, isArith, hp, ho]]
        exact mvw_pan (hH.trans hh)
       | some s1 =>
        have c := p116 dd st lo [1, 1] hst (by simp)
        rw [hp] at c
        refine DM.mvO (c) (by simp only [go_sem, Nat.reduceBEq, Nat.reduceAdd] <;> rfl) (AVLes.refl _) fun vs' vl' => ?_
        simp only [put_some]
        repeat' first|(apply Sp.go;·constructor<;>first|exact ss|(change _=_;first|(simp only[go_sem,Nat.reduceBEq,Nat.reduceAdd,Nat.reduceLeDiff,reduceIte]<;>rfl)|rfl)|exact Nat.le_of_ble_eq_true rfl|decide|(repeat' first|(apply Lk.go;constructor)|assumption|exact nb ‹_› ‹_›|exact nt ‹_› ‹_›|(apply Lv.go;constructor)))|(intro b hb;repeat first|(refine fe hb ?_;intro _ _ hb)|(refine fT hb ?_;intro hb)|(refine fresh_elimV hb ?_;intro _ _ hb))|refine rt ?_|refine gA rfl ?_|refine gB rfl ?_|apply cT rfl|apply cF rfl|(apply DM.gbT;rfl)|(apply DM.gbF;rfl)|intro h
        cases hq : pushK 1 s1 with
        | none =>
         have c := p114 dd s1 lo 1
         rw [hq] at c
         refine DM.mvX (c) (by simp only [go_sem, Nat.reduceBEq, Nat.reduceAdd] <;> rfl) (AVLes.refl _) fun H' hh => ?_
         rw [show valuesP p ps rr x st = none by simp [valuesP, isArith, hp, hq, ho]]
         exact mvw_pan (hH.trans hh)
        | some s2 =>
         have c := p114 dd s1 lo 1
         rw [hq] at c
         refine DM.mvO (c) (by simp only [go_sem, Nat.reduceBEq, Nat.reduceAdd] <;> rfl) (AVLes.refl _) fun vs' vl' => ?_
         simp only [put_some]
         repeat' first|(apply Sp.go;·constructor<;>first|exact ss|(change _=_;first|(simp only[go_sem,Nat.reduceBEq,Nat.reduceAdd,Nat.reduceLeDiff,reduceIte]<;>rfl)|rfl)|exact Nat.le_of_ble_eq_true rfl|decide|(repeat' first|(apply Lk.go;constructor)|assumption|exact nb ‹_› ‹_›|exact nt ‹_› ‹_›|(apply Lv.go;constructor)))|(intro b hb;repeat first|(refine fe hb ?_;intro _ _ hb)|(refine fT hb ?_;intro hb)|(refine fresh_elimV hb ?_;intro _ _ hb))|refine rt ?_|refine gA rfl ?_|refine gB rfl ?_|apply cT rfl|apply cF rfl|(apply DM.gbT;rfl)|(apply DM.gbF;rfl)|intro h
         (first|refine AM.ret (v := .tup []) results_nil ?_|refine AM.done (v := .tup []) results_nil ?_)
         rw [show valuesP p ps rr x st = some s2 by simp [valuesP, isArith, hp, hq, ho]]
         exact mvw_ok (s := (s2, lo)) (hv_mono hH)
      ·have ho : x.op = 8 := of_decide_eq_true ‹decide (x.op = 8) = true›
       repeat' first|(apply Sp.go;·constructor<;>first|exact ss|(change _=_;first|(simp only[go_sem,Nat.reduceBEq,Nat.reduceAdd,Nat.reduceLeDiff,reduceIte]<;>rfl)|rfl)|exact Nat.le_of_ble_eq_true rfl|decide|(repeat' first|(apply Lk.go;constructor)|assumption|exact nb ‹_› ‹_›|exact nt ‹_› ‹_›|(apply Lv.go;constructor)))|(intro b hb;repeat first|(refine fe hb ?_;intro _ _ hb)|(refine fT hb ?_;intro hb)|(refine fresh_elimV hb ?_;intro _ _ hb))|refine rt ?_|refine gA rfl ?_|refine gB rfl ?_|apply cT rfl|apply cF rfl|(apply DM.gbT;rfl)|(apply DM.gbF;rfl)|intro h
       cases hp : popsK [1, 1] st with
       | none =>
        have c := p116 dd st lo [1, 1] hst (by simp)
        rw [hp] at c
        refine DM.mvX (c) (by simp only [go_sem, Nat.reduceBEq, Nat.reduceAdd] <;> rfl) (AVLes.refl _) fun H' hh => ?_
        rw [show valuesP p ps rr x st = none by simp [valuesP, isArith, hp, ho]]
        exact mvw_pan (hH.trans hh)
       | some s1 =>
        have c := p116 dd st lo [1, 1] hst (by simp)
        rw [hp] at c
        refine DM.mvO (c) (by simp only [go_sem, Nat.reduceBEq, Nat.reduceAdd] <;> rfl) (AVLes.refl _) fun vs' vl' => ?_
        simp only [put_some]
        repeat' first|(apply Sp.go;·constructor<;>first|exact ss|(change _=_;first|(simp only[go_sem,Nat.reduceBEq,Nat.reduceAdd,Nat.reduceLeDiff,reduceIte]<;>rfl)|rfl)|exact Nat.le_of_ble_eq_true rfl|decide|(repeat' first|(apply Lk.go;constructor)|assumption|exact nb ‹_› ‹_›|exact nt ‹_› ‹_›|(apply Lv.go;constructor)))|(intro b hb;repeat first|(refine fe hb ?_;intro _ _ hb)|(refine fT hb ?_;intro hb)|(refine fresh_elimV hb ?_;intro _ _ hb))|refine rt ?_|refine gA rfl ?_|refine gB rfl ?_|apply cT rfl|apply cF rfl|(apply DM.gbT;rfl)|(apply DM.gbF;rfl)|intro h
        cases hq : pushK 1 s1 with
        | none =>
         have c := p114 dd s1 lo 1
         rw [hq] at c
         refine DM.mvX (c) (by simp only [go_sem, Nat.reduceBEq, Nat.reduceAdd] <;> rfl) (AVLes.refl _) fun H' hh => ?_
         rw [show valuesP p ps rr x st = none by simp [valuesP, isArith, hp, hq, ho]]
         exact mvw_pan (hH.trans hh)
        | some s2 =>
         have c := p114 dd s1 lo 1
         rw [hq] at c
         refine DM.mvO (c) (by simp only [go_sem, Nat.reduceBEq, Nat.reduceAdd] <;> rfl) (AVLes.refl _) fun vs' vl' => ?_
         simp only [put_some]
         repeat' first|(apply Sp.go;·constructor<;>first|exact ss|(change _=_;first|(simp only[go_sem,Nat.reduceBEq,Nat.reduceAdd,Nat.reduceLeDiff,reduceIte]<;>rfl)|rfl)|exact Nat.le_of_ble_eq_true rfl|decide|(repeat' first|(apply Lk.go;constructor)|assumption|exact nb ‹_› ‹_›|exact nt ‹_› ‹_›|(apply Lv.go;constructor)))|(intro b hb;repeat first|(refine fe hb ?_;intro _ _ hb)|(refine fT hb ?_;intro hb)|(refine fresh_elimV hb ?_;intro _ _ hb))|refine rt ?_|refine gA rfl ?_|refine gB rfl ?_|apply cT rfl|apply cF rfl|(apply DM.gbT;rfl)|(apply DM.gbF;rfl)|intro h
         (first|refine AM.ret (v := .tup []) results_nil ?_|refine AM.done (v := .tup []) results_nil ?_)
         rw [show valuesP p ps rr x st = some s2 by simp [valuesP, isArith, hp, hq, ho]]
         exact mvw_ok (s := (s2, lo)) (hv_mono hH)
      ·have ho : x.op = 9 := of_decide_eq_true ‹decide (x.op = 9) = true›
       repeat' first|(apply Sp.go;·constructor<;>first|exact ss|(change _=_;first|(simp only[go_sem,Nat.reduceBEq,Nat.reduceAdd,Nat.reduceLeDiff,reduceIte]<;>rfl)|rfl)|exact Nat.le_of_ble_eq_true rfl|decide|(repeat' first|(apply Lk.go;constructor)|assumption|exact nb ‹_› ‹_›|exact nt ‹_› ‹_›|(apply Lv.go;constructor)))|(intro b hb;repeat first|(refine fe hb ?_;intro _ _ hb)|(refine fT hb ?_;intro hb)|(refine fresh_elimV hb ?_;intro _ _ hb))|refine rt ?_|refine gA rfl ?_|refine gB rfl ?_|apply cT rfl|apply cF rfl|(apply DM.gbT;rfl)|(apply DM.gbF;rfl)|intro h
       cases hp : popsK [1, 1] st with
       | none =>
        have c := p116 dd st lo [1, 1] hst (by simp)
        rw [hp] at c
        refine DM.mvX (c) (by simp only [go_sem, Nat.reduceBEq, Nat.reduceAdd] <;> rfl) (AVLes.refl _) fun H' hh => ?_
        rw [show valuesP p ps rr x st = none by simp [valuesP, isArith, hp, ho]]
        exact mvw_pan (hH.trans hh)
       | some s1 =>
        have c := p116 dd st lo [1, 1] hst (by simp)
        rw [hp] at c
        refine DM.mvO (c) (by simp only [go_sem, Nat.reduceBEq, Nat.reduceAdd] <;> rfl) (AVLes.refl _) fun vs' vl' => ?_
        simp only [put_some]
        repeat' first|(apply Sp.go;·constructor<;>first|exact ss|(change _=_;first|(simp only[go_sem,Nat.reduceBEq,Nat.reduceAdd,Nat.reduceLeDiff,reduceIte]<;>rfl)|rfl)|exact Nat.le_of_ble_eq_true rfl|decide|(repeat' first|(apply Lk.go;constructor)|assumption|exact nb ‹_› ‹_›|exact nt ‹_› ‹_›|(apply Lv.go;constructor)))|(intro b hb;repeat first|(refine fe hb ?_;intro _ _ hb)|(refine fT hb ?_;intro hb)|(refine fresh_elimV hb ?_;intro _ _ hb))|refine rt ?_|refine gA rfl ?_|refine gB rfl ?_|apply cT rfl|apply cF rfl|(apply DM.gbT;rfl)|(apply DM.gbF;rfl)|intro h
        cases hq : pushK 1 s1 with
        | none =>
         have c := p114 dd s1 lo 1
         rw [hq] at c
         refine DM.mvX (c) (by simp only [go_sem, Nat.reduceBEq, Nat.reduceAdd] <;> rfl) (AVLes.refl _) fun H' hh => ?_
         rw [show valuesP p ps rr x st = none by simp [valuesP, isArith, hp, hq, ho]]
         exact mvw_pan (hH.trans hh)
        | some s2 =>
         have c := p114 dd s1 lo 1
         rw [hq] at c
         refine DM.mvO (c) (by simp only [go_sem, Nat.reduceBEq, Nat.reduceAdd] <;> rfl) (AVLes.refl _) fun vs' vl' => ?_
         simp only [put_some]
         repeat' first|(apply Sp.go;·constructor<;>first|exact ss|(change _=_;first|(simp only[go_sem,Nat.reduceBEq,Nat.reduceAdd,Nat.reduceLeDiff,reduceIte]<;>rfl)|rfl)|exact Nat.le_of_ble_eq_true rfl|decide|(repeat' first|(apply Lk.go;constructor)|assumption|exact nb ‹_› ‹_›|exact nt ‹_› ‹_›|(apply Lv.go;constructor)))|(intro b hb;repeat first|(refine fe hb ?_;intro _ _ hb)|(refine fT hb ?_;intro hb)|(refine fresh_elimV hb ?_;intro _ _ hb))|refine rt ?_|refine gA rfl ?_|refine gB rfl ?_|apply cT rfl|apply cF rfl|(apply DM.gbT;rfl)|(apply DM.gbF;rfl)|intro h
         (first|refine AM.ret (v := .tup []) results_nil ?_|refine AM.done (v := .tup []) results_nil ?_)
         rw [show valuesP p ps rr x st = some s2 by simp [valuesP, isArith, hp, hq, ho]]
         exact mvw_ok (s := (s2, lo)) (hv_mono hH)
      ·have ho : x.op = 10 := of_decide_eq_true ‹decide (x.op = 10) = true›
       repeat' first|(apply Sp.go;·constructor<;>first|exact ss|(change _=_;first|(simp only[go_sem,Nat.reduceBEq,Nat.reduceAdd,Nat.reduceLeDiff,reduceIte]<;>rfl)|rfl)|exact Nat.le_of_ble_eq_true rfl|decide|(repeat' first|(apply Lk.go;constructor)|assumption|exact nb ‹_› ‹_›|exact nt ‹_› ‹_›|(apply Lv.go;constructor)))|(intro b hb;repeat first|(refine fe hb ?_;intro _ _ hb)|(refine fT hb ?_;intro hb)|(refine fresh_elimV hb ?_;intro _ _ hb))|refine rt ?_|refine gA rfl ?_|refine gB rfl ?_|apply cT rfl|apply cF rfl|(apply DM.gbT;rfl)|(apply DM.gbF;rfl)|intro h
       cases hp : popsK [1, 1] st with
       | none =>
        have c := p116 dd st lo [1, 1] hst (by simp)
        rw [hp] at c
        refine DM.mvX (c) (by simp only [go_sem, Nat.reduceBEq, Nat.reduceAdd] <;> rfl) (AVLes.refl _) fun H' hh => ?_
        rw [show valuesP p ps rr x st = none by simp [valuesP, isArith, hp, ho]]
        exact mvw_pan (hH.trans hh)
       | some s1 =>
        have c := p116 dd st lo [1, 1] hst (by simp)
        rw [hp] at c
        refine DM.mvO (c) (by simp only [go_sem, Nat.reduceBEq, Nat.reduceAdd] <;> rfl) (AVLes.refl _) fun vs' vl' => ?_
        simp only [put_some]
        repeat' first|(apply Sp.go;·constructor<;>first|exact ss|(change _=_;first|(simp only[go_sem,Nat.reduceBEq,Nat.reduceAdd,Nat.reduceLeDiff,reduceIte]<;>rfl)|rfl)|exact Nat.le_of_ble_eq_true rfl|decide|(repeat' first|(apply Lk.go;constructor)|assumption|exact nb ‹_› ‹_›|exact nt ‹_› ‹_›|(apply Lv.go;constructor)))|(intro b hb;repeat first|(refine fe hb ?_;intro _ _ hb)|(refine fT hb ?_;intro hb)|(refine fresh_elimV hb ?_;intro _ _ hb))|refine rt ?_|refine gA rfl ?_|refine gB rfl ?_|apply cT rfl|apply cF rfl|(apply DM.gbT;rfl)|(apply DM.gbF;rfl)|intro h
        cases hq : pushK 1 s1 with
        | none =>
         have c := p114 dd s1 lo 1
         rw [hq] at c
         refine DM.mvX (c) (by simp only [go_sem, Nat.reduceBEq, Nat.reduceAdd] <;> rfl) (AVLes.refl _) fun H' hh => ?_
         rw [show valuesP p ps rr x st = none by simp [valuesP, isArith, hp, hq, ho]]
         exact mvw_pan (hH.trans hh)
        | some s2 =>
         have c := p114 dd s1 lo 1
         rw [hq] at c
         refine DM.mvO (c) (by simp only [go_sem, Nat.reduceBEq, Nat.reduceAdd] <;> rfl) (AVLes.refl _) fun vs' vl' => ?_
         simp only [put_some]
         repeat' first|(apply Sp.go;·constructor<;>first|exact ss|(change _=_;first|(simp only[go_sem,Nat.reduceBEq,Nat.reduceAdd,Nat.reduceLeDiff,reduceIte]<;>rfl)|rfl)|exact Nat.le_of_ble_eq_true rfl|decide|(repeat' first|(apply Lk.go;constructor)|assumption|exact nb ‹_› ‹_›|exact nt ‹_› ‹_›|(apply Lv.go;constructor)))|(intro b hb;repeat first|(refine fe hb ?_;intro _ _ hb)|(refine fT hb ?_;intro hb)|(refine fresh_elimV hb ?_;intro _ _ hb))|refine rt ?_|refine gA rfl ?_|refine gB rfl ?_|apply cT rfl|apply cF rfl|(apply DM.gbT;rfl)|(apply DM.gbF;rfl)|intro h
         (first|refine AM.ret (v := .tup []) results_nil ?_|refine AM.done (v := .tup []) results_nil ?_)
         rw [show valuesP p ps rr x st = some s2 by simp [valuesP, isArith, hp, hq, ho]]
         exact mvw_ok (s := (s2, lo)) (hv_mono hH)
      ·have ho : x.op = 13 := of_decide_eq_true ‹decide (x.op = 13) = true›
       repeat' first|(apply Sp.go;·constructor<;>first|exact ss|(change _=_;first|(simp only[go_sem,Nat.reduceBEq,Nat.reduceAdd,Nat.reduceLeDiff,reduceIte]<;>rfl)|rfl)|exact Nat.le_of_ble_eq_true rfl|decide|(repeat' first|(apply Lk.go;constructor)|assumption|exact nb ‹_› ‹_›|exact nt ‹_› ‹_›|(apply Lv.go;constructor)))|(intro b hb;repeat first|(refine fe hb ?_;intro _ _ hb)|(refine fT hb ?_;intro hb)|(refine fresh_elimV hb ?_;intro _ _ hb))|refine rt ?_|refine gA rfl ?_|refine gB rfl ?_|apply cT rfl|apply cF rfl|(apply DM.gbT;rfl)|(apply DM.gbF;rfl)|intro h
       cases hp : popsK [1, 1] st with
       | none =>
        have c := p116 dd st lo [1, 1] hst (by simp)
        rw [hp] at c
        refine DM.mvX (c) (by simp only [go_sem, Nat.reduceBEq, Nat.reduceAdd] <;> rfl) (AVLes.refl _) fun H' hh => ?_
        rw [show valuesP p ps rr x st = none by simp [valuesP, isArith, hp, ho]]
        exact mvw_pan (hH.trans hh)
       | some s1 =>
        have c := p116 dd st lo [1, 1] hst (by simp)
        rw [hp] at c
        refine DM.mvO (c) (by simp only [go_sem, Nat.reduceBEq, Nat.reduceAdd] <;> rfl) (AVLes.refl _) fun vs' vl' => ?_
        simp only [put_some]
        repeat' first|(apply Sp.go;·constructor<;>first|exact ss|(change _=_;first|(simp only[go_sem,Nat.reduceBEq,Nat.reduceAdd,Nat.reduceLeDiff,reduceIte]<;>rfl)|rfl)|exact Nat.le_of_ble_eq_true rfl|decide|(repeat' first|(apply Lk.go;constructor)|assumption|exact nb ‹_› ‹_›|exact nt ‹_› ‹_›|(apply Lv.go;constructor)))|(intro b hb;repeat first|(refine fe hb ?_;intro _ _ hb)|(refine fT hb ?_;intro hb)|(refine fresh_elimV hb ?_;intro _ _ hb))|refine rt ?_|refine gA rfl ?_|refine gB rfl ?_|apply cT rfl|apply cF rfl|(apply DM.gbT;rfl)|(apply DM.gbF;rfl)|intro h
        cases hq : pushK 1 s1 with
        | none =>
         have c := p114 dd s1 lo 1
         rw [hq] at c
         refine DM.mvX (c) (by simp only [go_sem, Nat.reduceBEq, Nat.reduceAdd] <;> rfl) (AVLes.refl _) fun H' hh => ?_
         rw [show valuesP p ps rr x st = none by simp [valuesP, isArith, hp, hq, ho]]
         exact mvw_pan (hH.trans hh)
        | some s2 =>
         have c := p114 dd s1 lo 1
         rw [hq] at c
         refine DM.mvO (c) (by simp only [go_sem, Nat.reduceBEq, Nat.reduceAdd] <;> rfl) (AVLes.refl _) fun vs' vl' => ?_
         simp only [put_some]
         repeat' first|(apply Sp.go;·constructor<;>first|exact ss|(change _=_;first|(simp only[go_sem,Nat.reduceBEq,Nat.reduceAdd,Nat.reduceLeDiff,reduceIte]<;>rfl)|rfl)|exact Nat.le_of_ble_eq_true rfl|decide|(repeat' first|(apply Lk.go;constructor)|assumption|exact nb ‹_› ‹_›|exact nt ‹_› ‹_›|(apply Lv.go;constructor)))|(intro b hb;repeat first|(refine fe hb ?_;intro _ _ hb)|(refine fT hb ?_;intro hb)|(refine fresh_elimV hb ?_;intro _ _ hb))|refine rt ?_|refine gA rfl ?_|refine gB rfl ?_|apply cT rfl|apply cF rfl|(apply DM.gbT;rfl)|(apply DM.gbF;rfl)|intro h
         (first|refine AM.ret (v := .tup []) results_nil ?_|refine AM.done (v := .tup []) results_nil ?_)
         rw [show valuesP p ps rr x st = some s2 by simp [valuesP, isArith, hp, hq, ho]]
         exact mvw_ok (s := (s2, lo)) (hv_mono hH)
      ·have ho : x.op = 15 := of_decide_eq_true ‹decide (x.op = 15) = true›
       repeat' first|(apply Sp.go;·constructor<;>first|exact ss|(change _=_;first|(simp only[go_sem,Nat.reduceBEq,Nat.reduceAdd,Nat.reduceLeDiff,reduceIte]<;>rfl)|rfl)|exact Nat.le_of_ble_eq_true rfl|decide|(repeat' first|(apply Lk.go;constructor)|assumption|exact nb ‹_› ‹_›|exact nt ‹_› ‹_›|(apply Lv.go;constructor)))|(intro b hb;repeat first|(refine fe hb ?_;intro _ _ hb)|(refine fT hb ?_;intro hb)|(refine fresh_elimV hb ?_;intro _ _ hb))|refine rt ?_|refine gA rfl ?_|refine gB rfl ?_|apply cT rfl|apply cF rfl|(apply DM.gbT;rfl)|(apply DM.gbF;rfl)|intro h
       cases hp : popsK [1, 1] st with
       | none =>
        have c := p116 dd st lo [1, 1] hst (by simp)
        rw [hp] at c
        refine DM.mvX (c) (by simp only [go_sem, Nat.reduceBEq, Nat.reduceAdd] <;> rfl) (AVLes.refl _) fun H' hh => ?_
        rw [show valuesP p ps rr x st = none by simp [valuesP, isArith, hp, ho]]
        exact mvw_pan (hH.trans hh)
       | some s1 =>
        have c := p116 dd st lo [1, 1] hst (by simp)
        rw [hp] at c
        refine DM.mvO (c) (by simp only [go_sem, Nat.reduceBEq, Nat.reduceAdd] <;> rfl) (AVLes.refl _) fun vs' vl' => ?_
        simp only [put_some]
        repeat' first|(apply Sp.go;·constructor<;>first|exact ss|(change _=_;first|(simp only[go_sem,Nat.reduceBEq,Nat.reduceAdd,Nat.reduceLeDiff,reduceIte]<;>rfl)|rfl)|exact Nat.le_of_ble_eq_true rfl|decide|(repeat' first|(apply Lk.go;constructor)|assumption|exact nb ‹_› ‹_›|exact nt ‹_› ‹_›|(apply Lv.go;constructor)))|(intro b hb;repeat first|(refine fe hb ?_;intro _ _ hb)|(refine fT hb ?_;intro hb)|(refine fresh_elimV hb ?_;intro _ _ hb))|refine rt ?_|refine gA rfl ?_|refine gB rfl ?_|apply cT rfl|apply cF rfl|(apply DM.gbT;rfl)|(apply DM.gbF;rfl)|intro h
        cases hq : pushK 1 s1 with
        | none =>
         have c := p114 dd s1 lo 1
         rw [hq] at c
         refine DM.mvX (c) (by simp only [go_sem, Nat.reduceBEq, Nat.reduceAdd] <;> rfl) (AVLes.refl _) fun H' hh => ?_
         rw [show valuesP p ps rr x st = none by simp [valuesP, isArith, hp, hq, ho]]
         exact mvw_pan (hH.trans hh)
        | some s2 =>
         have c := p114 dd s1 lo 1
         rw [hq] at c
         refine DM.mvO (c) (by simp only [go_sem, Nat.reduceBEq, Nat.reduceAdd] <;> rfl) (AVLes.refl _) fun vs' vl' => ?_
         simp only [put_some]
         repeat' first|(apply Sp.go;·constructor<;>first|exact ss|(change _=_;first|(simp only[go_sem,Nat.reduceBEq,Nat.reduceAdd,Nat.reduceLeDiff,reduceIte]<;>rfl)|rfl)|exact Nat.le_of_ble_eq_true rfl|decide|(repeat' first|(apply Lk.go;constructor)|assumption|exact nb ‹_› ‹_›|exact nt ‹_› ‹_›|(apply Lv.go;constructor)))|(intro b hb;repeat first|(refine fe hb ?_;intro _ _ hb)|(refine fT hb ?_;intro hb)|(refine fresh_elimV hb ?_;intro _ _ hb))|refine rt ?_|refine gA rfl ?_|refine gB rfl ?_|apply cT rfl|apply cF rfl|(apply DM.gbT;rfl)|(apply DM.gbF;rfl)|intro h
         (first|refine AM.ret (v := .tup []) results_nil ?_|refine AM.done (v := .tup []) results_nil ?_)
         rw [show valuesP p ps rr x st = some s2 by simp [valuesP, isArith, hp, hq, ho]]
         exact mvw_ok (s := (s2, lo)) (hv_mono hH)
      ·have ho : x.op = 16 := of_decide_eq_true ‹decide (x.op = 16) = true›
       repeat' first|(apply Sp.go;·constructor<;>first|exact ss|(change _=_;first|(simp only[go_sem,Nat.reduceBEq,Nat.reduceAdd,Nat.reduceLeDiff,reduceIte]<;>rfl)|rfl)|exact Nat.le_of_ble_eq_true rfl|decide|(repeat' first|(apply Lk.go;constructor)|assumption|exact nb ‹_› ‹_›|exact nt ‹_› ‹_›|(apply Lv.go;constructor)))|(intro b hb;repeat first|(refine fe hb ?_;intro _ _ hb)|(refine fT hb ?_;intro hb)|(refine fresh_elimV hb ?_;intro _ _ hb))|refine rt ?_|refine gA rfl ?_|refine gB rfl ?_|apply cT rfl|apply cF rfl|(apply DM.gbT;rfl)|(apply DM.gbF;rfl)|intro h
       cases hp : popsK [1, 1] st with
       | none =>
        have c := p116 dd st lo [1, 1] hst (by simp)
        rw [hp] at c
        refine DM.mvX (c) (by simp only [go_sem, Nat.reduceBEq, Nat.reduceAdd] <;> rfl) (AVLes.refl _) fun H' hh => ?_
        rw [show valuesP p ps rr x st = none by simp [valuesP, isArith, hp, ho]]
        exact mvw_pan (hH.trans hh)
       | some s1 =>
        have c := p116 dd st lo [1, 1] hst (by simp)
        rw [hp] at c
        refine DM.mvO (c) (by simp only [go_sem, Nat.reduceBEq, Nat.reduceAdd] <;> rfl) (AVLes.refl _) fun vs' vl' => ?_
        simp only [put_some]
        repeat' first|(apply Sp.go;·constructor<;>first|exact ss|(change _=_;first|(simp only[go_sem,Nat.reduceBEq,Nat.reduceAdd,Nat.reduceLeDiff,reduceIte]<;>rfl)|rfl)|exact Nat.le_of_ble_eq_true rfl|decide|(repeat' first|(apply Lk.go;constructor)|assumption|exact nb ‹_› ‹_›|exact nt ‹_› ‹_›|(apply Lv.go;constructor)))|(intro b hb;repeat first|(refine fe hb ?_;intro _ _ hb)|(refine fT hb ?_;intro hb)|(refine fresh_elimV hb ?_;intro _ _ hb))|refine rt ?_|refine gA rfl ?_|refine gB rfl ?_|apply cT rfl|apply cF rfl|(apply DM.gbT;rfl)|(apply DM.gbF;rfl)|intro h
        cases hq : pushK 1 s1 with
        | none =>
         have c := p114 dd s1 lo 1
         rw [hq] at c
         refine DM.mvX (c) (by simp only [go_sem, Nat.reduceBEq, Nat.reduceAdd] <;> rfl) (AVLes.refl _) fun H' hh => ?_
         rw [show valuesP p ps rr x st = none by simp [valuesP, isArith, hp, hq, ho]]
         exact mvw_pan (hH.trans hh)
        | some s2 =>
         have c := p114 dd s1 lo 1
         rw [hq] at c
         refine DM.mvO (c) (by simp only [go_sem, Nat.reduceBEq, Nat.reduceAdd] <;> rfl) (AVLes.refl _) fun vs' vl' => ?_
         simp only [put_some]
         repeat' first|(apply Sp.go;·constructor<;>first|exact ss|(change _=_;first|(simp only[go_sem,Nat.reduceBEq,Nat.reduceAdd,Nat.reduceLeDiff,reduceIte]<;>rfl)|rfl)|exact Nat.le_of_ble_eq_true rfl|decide|(repeat' first|(apply Lk.go;constructor)|assumption|exact nb ‹_› ‹_›|exact nt ‹_› ‹_›|(apply Lv.go;constructor)))|(intro b hb;repeat first|(refine fe hb ?_;intro _ _ hb)|(refine fT hb ?_;intro hb)|(refine fresh_elimV hb ?_;intro _ _ hb))|refine rt ?_|refine gA rfl ?_|refine gB rfl ?_|apply cT rfl|apply cF rfl|(apply DM.gbT;rfl)|(apply DM.gbF;rfl)|intro h
         (first|refine AM.ret (v := .tup []) results_nil ?_|refine AM.done (v := .tup []) results_nil ?_)
         rw [show valuesP p ps rr x st = some s2 by simp [valuesP, isArith, hp, hq, ho]]
         exact mvw_ok (s := (s2, lo)) (hv_mono hH)
      ·have ho : x.op = 11 := of_decide_eq_true ‹decide (x.op = 11) = true›
       repeat' first|(apply Sp.go;·constructor<;>first|exact ss|(change _=_;first|(simp only[go_sem,Nat.reduceBEq,Nat.reduceAdd,Nat.reduceLeDiff,reduceIte]<;>rfl)|rfl)|exact Nat.le_of_ble_eq_true rfl|decide|(repeat' first|(apply Lk.go;constructor)|assumption|exact nb ‹_› ‹_›|exact nt ‹_› ‹_›|(apply Lv.go;constructor)))|(intro b hb;repeat first|(refine fe hb ?_;intro _ _ hb)|(refine fT hb ?_;intro hb)|(refine fresh_elimV hb ?_;intro _ _ hb))|refine rt ?_|refine gA rfl ?_|refine gB rfl ?_|apply cT rfl|apply cF rfl|(apply DM.gbT;rfl)|(apply DM.gbF;rfl)|intro h
       cases hp : popsK [1] st with
       | none =>
        have c := p116 dd st lo [1] hst (by simp)
        rw [hp] at c
        refine DM.mvX (c) (by simp only [go_sem, Nat.reduceBEq, Nat.reduceAdd] <;> rfl) (AVLes.refl _) fun H' hh => ?_
        rw [show valuesP p ps rr x st = none by simp [valuesP, isArith, hp, ho]]
        exact mvw_pan (hH.trans hh)
       | some s1 =>
        have c := p116 dd st lo [1] hst (by simp)
        rw [hp] at c
        refine DM.mvO (c) (by simp only [go_sem, Nat.reduceBEq, Nat.reduceAdd] <;> rfl) (AVLes.refl _) fun vs' vl' => ?_
        simp only [put_some]
        repeat' first|(apply Sp.go;·constructor<;>first|exact ss|(change _=_;first|(simp only[go_sem,Nat.reduceBEq,Nat.reduceAdd,Nat.reduceLeDiff,reduceIte]<;>rfl)|rfl)|exact Nat.le_of_ble_eq_true rfl|decide|(repeat' first|(apply Lk.go;constructor)|assumption|exact nb ‹_› ‹_›|exact nt ‹_› ‹_›|(apply Lv.go;constructor)))|(intro b hb;repeat first|(refine fe hb ?_;intro _ _ hb)|(refine fT hb ?_;intro hb)|(refine fresh_elimV hb ?_;intro _ _ hb))|refine rt ?_|refine gA rfl ?_|refine gB rfl ?_|apply cT rfl|apply cF rfl|(apply DM.gbT;rfl)|(apply DM.gbF;rfl)|intro h
        cases hq : pushK 1 s1 with
        | none =>
         have c := p114 dd s1 lo 1
         rw [hq] at c
         refine DM.mvX (c) (by simp only [go_sem, Nat.reduceBEq, Nat.reduceAdd] <;> rfl) (AVLes.refl _) fun H' hh => ?_
         rw [show valuesP p ps rr x st = none by simp [valuesP, isArith, hp, hq, ho]]
         exact mvw_pan (hH.trans hh)
        | some s2 =>
         have c := p114 dd s1 lo 1
         rw [hq] at c
         refine DM.mvO (c) (by simp only [go_sem, Nat.reduceBEq, Nat.reduceAdd] <;> rfl) (AVLes.refl _) fun vs' vl' => ?_
         simp only [put_some]
         repeat' first|(apply Sp.go;·constructor<;>first|exact ss|(change _=_;first|(simp only[go_sem,Nat.reduceBEq,Nat.reduceAdd,Nat.reduceLeDiff,reduceIte]<;>rfl)|rfl)|exact Nat.le_of_ble_eq_true rfl|decide|(repeat' first|(apply Lk.go;constructor)|assumption|exact nb ‹_› ‹_›|exact nt ‹_› ‹_›|(apply Lv.go;constructor)))|(intro b hb;repeat first|(refine fe hb ?_;intro _ _ hb)|(refine fT hb ?_;intro hb)|(refine fresh_elimV hb ?_;intro _ _ hb))|refine rt ?_|refine gA rfl ?_|refine gB rfl ?_|apply cT rfl|apply cF rfl|(apply DM.gbT;rfl)|(apply DM.gbF;rfl)|intro h
         (first|refine AM.ret (v := .tup []) results_nil ?_|refine AM.done (v := .tup []) results_nil ?_)
         rw [show valuesP p ps rr x st = some s2 by simp [valuesP, isArith, hp, hq, ho]]
         exact mvw_ok (s := (s2, lo)) (hv_mono hH)
      ·have ho : x.op = 14 := of_decide_eq_true ‹decide (x.op = 14) = true›
       repeat' first|(apply Sp.go;·constructor<;>first|exact ss|(change _=_;first|(simp only[go_sem,Nat.reduceBEq,Nat.reduceAdd,Nat.reduceLeDiff,reduceIte]<;>rfl)|rfl)|exact Nat.le_of_ble_eq_true rfl|decide|(repeat' first|(apply Lk.go;constructor)|assumption|exact nb ‹_› ‹_›|exact nt ‹_› ‹_›|(apply Lv.go;constructor)))|(intro b hb;repeat first|(refine fe hb ?_;intro _ _ hb)|(refine fT hb ?_;intro hb)|(refine fresh_elimV hb ?_;intro _ _ hb))|refine rt ?_|refine gA rfl ?_|refine gB rfl ?_|apply cT rfl|apply cF rfl|(apply DM.gbT;rfl)|(apply DM.gbF;rfl)|intro h
       cases hp : popsK [1] st with
       | none =>
        have c := p116 dd st lo [1] hst (by simp)
        rw [hp] at c
        refine DM.mvX (c) (by simp only [go_sem, Nat.reduceBEq, Nat.reduceAdd] <;> rfl) (AVLes.refl _) fun H' hh => ?_
        rw [show valuesP p ps rr x st = none by simp [valuesP, isArith, hp, ho]]
        exact mvw_pan (hH.trans hh)
       | some s1 =>
        have c := p116 dd st lo [1] hst (by simp)
        rw [hp] at c
        refine DM.mvO (c) (by simp only [go_sem, Nat.reduceBEq, Nat.reduceAdd] <;> rfl) (AVLes.refl _) fun vs' vl' => ?_
        simp only [put_some]
        repeat' first|(apply Sp.go;·constructor<;>first|exact ss|(change _=_;first|(simp only[go_sem,Nat.reduceBEq,Nat.reduceAdd,Nat.reduceLeDiff,reduceIte]<;>rfl)|rfl)|exact Nat.le_of_ble_eq_true rfl|decide|(repeat' first|(apply Lk.go;constructor)|assumption|exact nb ‹_› ‹_›|exact nt ‹_› ‹_›|(apply Lv.go;constructor)))|(intro b hb;repeat first|(refine fe hb ?_;intro _ _ hb)|(refine fT hb ?_;intro hb)|(refine fresh_elimV hb ?_;intro _ _ hb))|refine rt ?_|refine gA rfl ?_|refine gB rfl ?_|apply cT rfl|apply cF rfl|(apply DM.gbT;rfl)|(apply DM.gbF;rfl)|intro h
        cases hq : pushK 1 s1 with
        | none =>
         have c := p114 dd s1 lo 1
         rw [hq] at c
         refine DM.mvX (c) (by simp only [go_sem, Nat.reduceBEq, Nat.reduceAdd] <;> rfl) (AVLes.refl _) fun H' hh => ?_
         rw [show valuesP p ps rr x st = none by simp [valuesP, isArith, hp, hq, ho]]
         exact mvw_pan (hH.trans hh)
        | some s2 =>
         have c := p114 dd s1 lo 1
         rw [hq] at c
         refine DM.mvO (c) (by simp only [go_sem, Nat.reduceBEq, Nat.reduceAdd] <;> rfl) (AVLes.refl _) fun vs' vl' => ?_
         simp only [put_some]
         repeat' first|(apply Sp.go;·constructor<;>first|exact ss|(change _=_;first|(simp only[go_sem,Nat.reduceBEq,Nat.reduceAdd,Nat.reduceLeDiff,reduceIte]<;>rfl)|rfl)|exact Nat.le_of_ble_eq_true rfl|decide|(repeat' first|(apply Lk.go;constructor)|assumption|exact nb ‹_› ‹_›|exact nt ‹_› ‹_›|(apply Lv.go;constructor)))|(intro b hb;repeat first|(refine fe hb ?_;intro _ _ hb)|(refine fT hb ?_;intro hb)|(refine fresh_elimV hb ?_;intro _ _ hb))|refine rt ?_|refine gA rfl ?_|refine gB rfl ?_|apply cT rfl|apply cF rfl|(apply DM.gbT;rfl)|(apply DM.gbF;rfl)|intro h
         (first|refine AM.ret (v := .tup []) results_nil ?_|refine AM.done (v := .tup []) results_nil ?_)
         rw [show valuesP p ps rr x st = some s2 by simp [valuesP, isArith, hp, hq, ho]]
         exact mvw_ok (s := (s2, lo)) (hv_mono hH)
      ·have ho : x.op = 12 := of_decide_eq_true ‹decide (x.op = 12) = true›
       by_cases h0 : 0 < st.length
       ·have e1 : decide (0 < ((st.map irow).length : Int)) = true := by rw [List.length_map]; exact decide_eq_true (by omega)
        simp only [e1]
        obtain ⟨n, hn⟩ : ∃ n, st.length = n + 1 := ⟨st.length - 1, by omega⟩
        obtain ⟨v, hvv⟩ := some_of (show n < st.length by omega)
        have hl : st.getLast? = some v := by rw [← last_ix hn]; exact hvv
        have hw : IntKind.i64.wrap (((st.map irow).length : Int) - 1) = (n : Int) := by rw [List.length_map, hn, wrap64 (by omega) (by omega)]; omega
        (apply DM.pcs (p115t 11); (· simp only [go_sem, Nat.reduceBEq, Nat.reduceAdd] <;> rfl); (· exact AVLes.refl _))
        repeat' first|(apply Sp.go;·constructor<;>first|exact ss|(change _=_;first|(simp only[go_sem,Nat.reduceBEq,Nat.reduceAdd,Nat.reduceLeDiff,reduceIte]<;>rfl)|rfl)|exact Nat.le_of_ble_eq_true rfl|decide|(repeat' first|(apply Lk.go;constructor)|assumption|exact nb ‹_› ‹_›|exact nt ‹_› ‹_›|(apply Lv.go;constructor)))|(intro b hb;repeat first|(refine fe hb ?_;intro _ _ hb)|(refine fT hb ?_;intro hb)|(refine fresh_elimV hb ?_;intro _ _ hb))|refine rt ?_|refine gA rfl ?_|refine gB rfl ?_|apply cT rfl|apply cF rfl|(apply DM.gbT;rfl)|(apply DM.gbF;rfl)|intro h
        simp only [hw]
        (apply DM.ixM; (· rfl); (· repeat' first|(apply Lk.go;constructor)|assumption|exact nb ‹_› ‹_›|exact nt ‹_› ‹_›|(apply Lv.go;constructor)); (· rfl); (· (first | omega | (simp only [List.length_map]; omega))); (· (first | omega | (simp only [List.length_map]; omega))))
        repeat' first|(apply Sp.go;·constructor<;>first|exact ss|(change _=_;first|(simp only[go_sem,Nat.reduceBEq,Nat.reduceAdd,Nat.reduceLeDiff,reduceIte]<;>rfl)|rfl)|exact Nat.le_of_ble_eq_true rfl|decide|(repeat' first|(apply Lk.go;constructor)|assumption|exact nb ‹_› ‹_›|exact nt ‹_› ‹_›|(apply Lv.go;constructor)))|(intro b hb;repeat first|(refine fe hb ?_;intro _ _ hb)|(refine fT hb ?_;intro hb)|(refine fresh_elimV hb ?_;intro _ _ hb))|refine rt ?_|refine gA rfl ?_|refine gB rfl ?_|apply cT rfl|apply cF rfl|(apply DM.gbT;rfl)|(apply DM.gbF;rfl)|(apply DM.ldM1 (i := n) (j := 0); (· rfl); (· repeat' first|(apply Lk.go;constructor)|assumption|exact nb ‹_› ‹_›|exact nt ‹_› ‹_›|(apply Lv.go;constructor)); (· exact rows1 _); (· (rw [List.getElem?_map, hvv]; rfl)); (· simp); (· rfl))|intro h
        all_goals (
         try (
          have hk1 : v = 1 := of_decide_eq_true ‹decide (v = 1) = true›
          have hk : v = 1 ∨ v = 2 := .inl hk1
          (apply DM.pcs (p115t 11); (· simp only [go_sem, Nat.reduceBEq, Nat.reduceAdd] <;> rfl); (· exact AVLes.refl _))
          repeat' first|(apply Sp.go;·constructor<;>first|exact ss|(change _=_;first|(simp only[go_sem,Nat.reduceBEq,Nat.reduceAdd,Nat.reduceLeDiff,reduceIte]<;>rfl)|rfl)|exact Nat.le_of_ble_eq_true rfl|decide|(repeat' first|(apply Lk.go;constructor)|assumption|exact nb ‹_› ‹_›|exact nt ‹_› ‹_›|(apply Lv.go;constructor)))|(intro b hb;repeat first|(refine fe hb ?_;intro _ _ hb)|(refine fT hb ?_;intro hb)|(refine fresh_elimV hb ?_;intro _ _ hb))|refine rt ?_|refine gA rfl ?_|refine gB rfl ?_|apply cT rfl|apply cF rfl|(apply DM.gbT;rfl)|(apply DM.gbF;rfl)|intro h
          cases hp : popsK [v, v] st with
          | none =>
           have c := p116 dd st lo [v, v] hst (by simp)
           rw [hp] at c
           refine DM.mvX (c) (by simp only [go_sem, Nat.reduceBEq, Nat.reduceAdd] <;> rfl) (AVLes.refl _) fun H' hh => ?_
           rw [show valuesP p ps rr x st = none by simp [valuesP, isArith, hp, ho, hl, hk]]
           exact mvw_pan (hH.trans hh)
          | some s1 =>
           have c := p116 dd st lo [v, v] hst (by simp)
           rw [hp] at c
           refine DM.mvO (c) (by simp only [go_sem, Nat.reduceBEq, Nat.reduceAdd] <;> rfl) (AVLes.refl _) fun vs' vl' => ?_
           simp only [put_some]
           repeat' first|(apply Sp.go;·constructor<;>first|exact ss|(change _=_;first|(simp only[go_sem,Nat.reduceBEq,Nat.reduceAdd,Nat.reduceLeDiff,reduceIte]<;>rfl)|rfl)|exact Nat.le_of_ble_eq_true rfl|decide|(repeat' first|(apply Lk.go;constructor)|assumption|exact nb ‹_› ‹_›|exact nt ‹_› ‹_›|(apply Lv.go;constructor)))|(intro b hb;repeat first|(refine fe hb ?_;intro _ _ hb)|(refine fT hb ?_;intro hb)|(refine fresh_elimV hb ?_;intro _ _ hb))|refine rt ?_|refine gA rfl ?_|refine gB rfl ?_|apply cT rfl|apply cF rfl|(apply DM.gbT;rfl)|(apply DM.gbF;rfl)|intro h
           cases hq : pushK 1 s1 with
           | none =>
            have c := p114 dd s1 lo 1
            rw [hq] at c
            refine DM.mvX (c) (by simp only [go_sem, Nat.reduceBEq, Nat.reduceAdd] <;> rfl) (AVLes.refl _) fun H' hh => ?_
            rw [show valuesP p ps rr x st = none by simp [valuesP, isArith, hp, hq, ho, hl, hk]]
            exact mvw_pan (hH.trans hh)
           | some s2 =>
            have c := p114 dd s1 lo 1
            rw [hq] at c
            refine DM.mvO (c) (by simp only [go_sem, Nat.reduceBEq, Nat.reduceAdd] <;> rfl) (AVLes.refl _) fun vs' vl' => ?_
            simp only [put_some]
            repeat' first|(apply Sp.go;·constructor<;>first|exact ss|(change _=_;first|(simp only[go_sem,Nat.reduceBEq,Nat.reduceAdd,Nat.reduceLeDiff,reduceIte]<;>rfl)|rfl)|exact Nat.le_of_ble_eq_true rfl|decide|(repeat' first|(apply Lk.go;constructor)|assumption|exact nb ‹_› ‹_›|exact nt ‹_› ‹_›|(apply Lv.go;constructor)))|(intro b hb;repeat first|(refine fe hb ?_;intro _ _ hb)|(refine fT hb ?_;intro hb)|(refine fresh_elimV hb ?_;intro _ _ hb))|refine rt ?_|refine gA rfl ?_|refine gB rfl ?_|apply cT rfl|apply cF rfl|(apply DM.gbT;rfl)|(apply DM.gbF;rfl)|intro h
            (first|refine AM.ret (v := .tup []) results_nil ?_|refine AM.done (v := .tup []) results_nil ?_)
            rw [show valuesP p ps rr x st = some s2 by simp [valuesP, isArith, hp, hq, ho, hl, hk]]
            exact mvw_ok (s := (s2, lo)) (hv_mono hH)
          )
         try (
          have hk1 : ¬ v = 1 := of_decide_eq_false ‹decide (v = 1) = false›
          by_cases hk2 : v = 2
          ·simp only [decide_eq_true hk2]
           have hk : v = 1 ∨ v = 2 := .inr hk2
           (apply DM.pcs (p115t 11); (· simp only [go_sem, Nat.reduceBEq, Nat.reduceAdd] <;> rfl); (· exact AVLes.refl _))
           repeat' first|(apply Sp.go;·constructor<;>first|exact ss|(change _=_;first|(simp only[go_sem,Nat.reduceBEq,Nat.reduceAdd,Nat.reduceLeDiff,reduceIte]<;>rfl)|rfl)|exact Nat.le_of_ble_eq_true rfl|decide|(repeat' first|(apply Lk.go;constructor)|assumption|exact nb ‹_› ‹_›|exact nt ‹_› ‹_›|(apply Lv.go;constructor)))|(intro b hb;repeat first|(refine fe hb ?_;intro _ _ hb)|(refine fT hb ?_;intro hb)|(refine fresh_elimV hb ?_;intro _ _ hb))|refine rt ?_|refine gA rfl ?_|refine gB rfl ?_|apply cT rfl|apply cF rfl|(apply DM.gbT;rfl)|(apply DM.gbF;rfl)|intro h
           cases hp : popsK [v, v] st with
           | none =>
            have c := p116 dd st lo [v, v] hst (by simp)
            rw [hp] at c
            refine DM.mvX (c) (by simp only [go_sem, Nat.reduceBEq, Nat.reduceAdd] <;> rfl) (AVLes.refl _) fun H' hh => ?_
            rw [show valuesP p ps rr x st = none by simp [valuesP, isArith, hp, ho, hl, hk]]
            exact mvw_pan (hH.trans hh)
           | some s1 =>
            have c := p116 dd st lo [v, v] hst (by simp)
            rw [hp] at c
            refine DM.mvO (c) (by simp only [go_sem, Nat.reduceBEq, Nat.reduceAdd] <;> rfl) (AVLes.refl _) fun vs' vl' => ?_
            simp only [put_some]
            repeat' first|(apply Sp.go;·constructor<;>first|exact ss|(change _=_;first|(simp only[go_sem,Nat.reduceBEq,Nat.reduceAdd,Nat.reduceLeDiff,reduceIte]<;>rfl)|rfl)|exact Nat.le_of_ble_eq_true rfl|decide|(repeat' first|(apply Lk.go;constructor)|assumption|exact nb ‹_› ‹_›|exact nt ‹_› ‹_›|(apply Lv.go;constructor)))|(intro b hb;repeat first|(refine fe hb ?_;intro _ _ hb)|(refine fT hb ?_;intro hb)|(refine fresh_elimV hb ?_;intro _ _ hb))|refine rt ?_|refine gA rfl ?_|refine gB rfl ?_|apply cT rfl|apply cF rfl|(apply DM.gbT;rfl)|(apply DM.gbF;rfl)|intro h
            cases hq : pushK 1 s1 with
            | none =>
             have c := p114 dd s1 lo 1
             rw [hq] at c
             refine DM.mvX (c) (by simp only [go_sem, Nat.reduceBEq, Nat.reduceAdd] <;> rfl) (AVLes.refl _) fun H' hh => ?_
             rw [show valuesP p ps rr x st = none by simp [valuesP, isArith, hp, hq, ho, hl, hk]]
             exact mvw_pan (hH.trans hh)
            | some s2 =>
             have c := p114 dd s1 lo 1
             rw [hq] at c
             refine DM.mvO (c) (by simp only [go_sem, Nat.reduceBEq, Nat.reduceAdd] <;> rfl) (AVLes.refl _) fun vs' vl' => ?_
             simp only [put_some]
             repeat' first|(apply Sp.go;·constructor<;>first|exact ss|(change _=_;first|(simp only[go_sem,Nat.reduceBEq,Nat.reduceAdd,Nat.reduceLeDiff,reduceIte]<;>rfl)|rfl)|exact Nat.le_of_ble_eq_true rfl|decide|(repeat' first|(apply Lk.go;constructor)|assumption|exact nb ‹_› ‹_›|exact nt ‹_› ‹_›|(apply Lv.go;constructor)))|(intro b hb;repeat first|(refine fe hb ?_;intro _ _ hb)|(refine fT hb ?_;intro hb)|(refine fresh_elimV hb ?_;intro _ _ hb))|refine rt ?_|refine gA rfl ?_|refine gB rfl ?_|apply cT rfl|apply cF rfl|(apply DM.gbT;rfl)|(apply DM.gbF;rfl)|intro h
             (first|refine AM.ret (v := .tup []) results_nil ?_|refine AM.done (v := .tup []) results_nil ?_)
             rw [show valuesP p ps rr x st = some s2 by simp [valuesP, isArith, hp, hq, ho, hl, hk]]
             exact mvw_ok (s := (s2, lo)) (hv_mono hH)
          ·simp only [decide_eq_false hk2]
           rw [show valuesP p ps rr x st = none by simp [valuesP, isArith, ho, hl, hk1, hk2]]
           refine DM.calX (p115f 11 _) (by simp only [go_sem, Nat.reduceBEq, Nat.reduceAdd] <;> rfl) (AVLes.refl _) ?_
           rintro v H' ⟨rfl, rfl⟩
           exact mvw_pan (hH.trans (hv_base dd))
          )
         )
       ·have e1 : decide (0 < ((st.map irow).length : Int)) = false := by rw [List.length_map]; exact decide_eq_false (by omega)
        simp only [e1]
        have hl : st = [] := List.eq_nil_of_length_eq_zero (by omega)
        rw [show valuesP p ps rr x st = none by simp [valuesP, isArith, ho, hl]]
        refine DM.calX (p115f 11 _) (by simp only [go_sem, Nat.reduceBEq, Nat.reduceAdd] <;> rfl) (AVLes.refl _) ?_
        rintro v H' ⟨rfl, rfl⟩
        exact mvw_pan (hH.trans (hv_base dd))
      ·have ho : x.op = 17 := of_decide_eq_true ‹decide (x.op = 17) = true›
       repeat' first|(apply Sp.go;·constructor<;>first|exact ss|(change _=_;first|(simp only[go_sem,Nat.reduceBEq,Nat.reduceAdd,Nat.reduceLeDiff,reduceIte]<;>rfl)|rfl)|exact Nat.le_of_ble_eq_true rfl|decide|(repeat' first|(apply Lk.go;constructor)|assumption|exact nb ‹_› ‹_›|exact nt ‹_› ‹_›|(apply Lv.go;constructor)))|(intro b hb;repeat first|(refine fe hb ?_;intro _ _ hb)|(refine fT hb ?_;intro hb)|(refine fresh_elimV hb ?_;intro _ _ hb))|refine rt ?_|refine gA rfl ?_|refine gB rfl ?_|apply cT rfl|apply cF rfl|(apply DM.gbT;rfl)|(apply DM.gbF;rfl)|intro h
       cases hp : popsK [2, 2] st with
       | none =>
        have c := p116 dd st lo [2, 2] hst (by simp)
        rw [hp] at c
        refine DM.mvX (c) (by simp only [go_sem, Nat.reduceBEq, Nat.reduceAdd] <;> rfl) (AVLes.refl _) fun H' hh => ?_
        rw [show valuesP p ps rr x st = none by simp [valuesP, isArith, hp, ho]]
        exact mvw_pan (hH.trans hh)
       | some s1 =>
        have c := p116 dd st lo [2, 2] hst (by simp)
        rw [hp] at c
        refine DM.mvO (c) (by simp only [go_sem, Nat.reduceBEq, Nat.reduceAdd] <;> rfl) (AVLes.refl _) fun vs' vl' => ?_
        simp only [put_some]
        repeat' first|(apply Sp.go;·constructor<;>first|exact ss|(change _=_;first|(simp only[go_sem,Nat.reduceBEq,Nat.reduceAdd,Nat.reduceLeDiff,reduceIte]<;>rfl)|rfl)|exact Nat.le_of_ble_eq_true rfl|decide|(repeat' first|(apply Lk.go;constructor)|assumption|exact nb ‹_› ‹_›|exact nt ‹_› ‹_›|(apply Lv.go;constructor)))|(intro b hb;repeat first|(refine fe hb ?_;intro _ _ hb)|(refine fT hb ?_;intro hb)|(refine fresh_elimV hb ?_;intro _ _ hb))|refine rt ?_|refine gA rfl ?_|refine gB rfl ?_|apply cT rfl|apply cF rfl|(apply DM.gbT;rfl)|(apply DM.gbF;rfl)|intro h
        cases hq : pushK 2 s1 with
        | none =>
         have c := p114 dd s1 lo 2
         rw [hq] at c
         refine DM.mvX (c) (by simp only [go_sem, Nat.reduceBEq, Nat.reduceAdd] <;> rfl) (AVLes.refl _) fun H' hh => ?_
         rw [show valuesP p ps rr x st = none by simp [valuesP, isArith, hp, hq, ho]]
         exact mvw_pan (hH.trans hh)
        | some s2 =>
         have c := p114 dd s1 lo 2
         rw [hq] at c
         refine DM.mvO (c) (by simp only [go_sem, Nat.reduceBEq, Nat.reduceAdd] <;> rfl) (AVLes.refl _) fun vs' vl' => ?_
         simp only [put_some]
         repeat' first|(apply Sp.go;·constructor<;>first|exact ss|(change _=_;first|(simp only[go_sem,Nat.reduceBEq,Nat.reduceAdd,Nat.reduceLeDiff,reduceIte]<;>rfl)|rfl)|exact Nat.le_of_ble_eq_true rfl|decide|(repeat' first|(apply Lk.go;constructor)|assumption|exact nb ‹_› ‹_›|exact nt ‹_› ‹_›|(apply Lv.go;constructor)))|(intro b hb;repeat first|(refine fe hb ?_;intro _ _ hb)|(refine fT hb ?_;intro hb)|(refine fresh_elimV hb ?_;intro _ _ hb))|refine rt ?_|refine gA rfl ?_|refine gB rfl ?_|apply cT rfl|apply cF rfl|(apply DM.gbT;rfl)|(apply DM.gbF;rfl)|intro h
         (first|refine AM.ret (v := .tup []) results_nil ?_|refine AM.done (v := .tup []) results_nil ?_)
         rw [show valuesP p ps rr x st = some s2 by simp [valuesP, isArith, hp, hq, ho]]
         exact mvw_ok (s := (s2, lo)) (hv_mono hH)
      ·have ho : x.op = 18 := of_decide_eq_true ‹decide (x.op = 18) = true›
       repeat' first|(apply Sp.go;·constructor<;>first|exact ss|(change _=_;first|(simp only[go_sem,Nat.reduceBEq,Nat.reduceAdd,Nat.reduceLeDiff,reduceIte]<;>rfl)|rfl)|exact Nat.le_of_ble_eq_true rfl|decide|(repeat' first|(apply Lk.go;constructor)|assumption|exact nb ‹_› ‹_›|exact nt ‹_› ‹_›|(apply Lv.go;constructor)))|(intro b hb;repeat first|(refine fe hb ?_;intro _ _ hb)|(refine fT hb ?_;intro hb)|(refine fresh_elimV hb ?_;intro _ _ hb))|refine rt ?_|refine gA rfl ?_|refine gB rfl ?_|apply cT rfl|apply cF rfl|(apply DM.gbT;rfl)|(apply DM.gbF;rfl)|intro h
       cases hp : popsK [2] st with
       | none =>
        have c := p116 dd st lo [2] hst (by simp)
        rw [hp] at c
        refine DM.mvX (c) (by simp only [go_sem, Nat.reduceBEq, Nat.reduceAdd] <;> rfl) (AVLes.refl _) fun H' hh => ?_
        rw [show valuesP p ps rr x st = none by simp [valuesP, isArith, hp, ho]]
        exact mvw_pan (hH.trans hh)
       | some s1 =>
        have c := p116 dd st lo [2] hst (by simp)
        rw [hp] at c
        refine DM.mvO (c) (by simp only [go_sem, Nat.reduceBEq, Nat.reduceAdd] <;> rfl) (AVLes.refl _) fun vs' vl' => ?_
        simp only [put_some]
        repeat' first|(apply Sp.go;·constructor<;>first|exact ss|(change _=_;first|(simp only[go_sem,Nat.reduceBEq,Nat.reduceAdd,Nat.reduceLeDiff,reduceIte]<;>rfl)|rfl)|exact Nat.le_of_ble_eq_true rfl|decide|(repeat' first|(apply Lk.go;constructor)|assumption|exact nb ‹_› ‹_›|exact nt ‹_› ‹_›|(apply Lv.go;constructor)))|(intro b hb;repeat first|(refine fe hb ?_;intro _ _ hb)|(refine fT hb ?_;intro hb)|(refine fresh_elimV hb ?_;intro _ _ hb))|refine rt ?_|refine gA rfl ?_|refine gB rfl ?_|apply cT rfl|apply cF rfl|(apply DM.gbT;rfl)|(apply DM.gbF;rfl)|intro h
        cases hq : pushK 1 s1 with
        | none =>
         have c := p114 dd s1 lo 1
         rw [hq] at c
         refine DM.mvX (c) (by simp only [go_sem, Nat.reduceBEq, Nat.reduceAdd] <;> rfl) (AVLes.refl _) fun H' hh => ?_
         rw [show valuesP p ps rr x st = none by simp [valuesP, isArith, hp, hq, ho]]
         exact mvw_pan (hH.trans hh)
        | some s2 =>
         have c := p114 dd s1 lo 1
         rw [hq] at c
         refine DM.mvO (c) (by simp only [go_sem, Nat.reduceBEq, Nat.reduceAdd] <;> rfl) (AVLes.refl _) fun vs' vl' => ?_
         simp only [put_some]
         repeat' first|(apply Sp.go;·constructor<;>first|exact ss|(change _=_;first|(simp only[go_sem,Nat.reduceBEq,Nat.reduceAdd,Nat.reduceLeDiff,reduceIte]<;>rfl)|rfl)|exact Nat.le_of_ble_eq_true rfl|decide|(repeat' first|(apply Lk.go;constructor)|assumption|exact nb ‹_› ‹_›|exact nt ‹_› ‹_›|(apply Lv.go;constructor)))|(intro b hb;repeat first|(refine fe hb ?_;intro _ _ hb)|(refine fT hb ?_;intro hb)|(refine fresh_elimV hb ?_;intro _ _ hb))|refine rt ?_|refine gA rfl ?_|refine gB rfl ?_|apply cT rfl|apply cF rfl|(apply DM.gbT;rfl)|(apply DM.gbF;rfl)|intro h
         (first|refine AM.ret (v := .tup []) results_nil ?_|refine AM.done (v := .tup []) results_nil ?_)
         rw [show valuesP p ps rr x st = some s2 by simp [valuesP, isArith, hp, hq, ho]]
         exact mvw_ok (s := (s2, lo)) (hv_mono hH)
      ·have ho : x.op = 20 := of_decide_eq_true ‹decide (x.op = 20) = true›
       repeat' first|(apply Sp.go;·constructor<;>first|exact ss|(change _=_;first|(simp only[go_sem,Nat.reduceBEq,Nat.reduceAdd,Nat.reduceLeDiff,reduceIte]<;>rfl)|rfl)|exact Nat.le_of_ble_eq_true rfl|decide|(repeat' first|(apply Lk.go;constructor)|assumption|exact nb ‹_› ‹_›|exact nt ‹_› ‹_›|(apply Lv.go;constructor)))|(intro b hb;repeat first|(refine fe hb ?_;intro _ _ hb)|(refine fT hb ?_;intro hb)|(refine fresh_elimV hb ?_;intro _ _ hb))|refine rt ?_|refine gA rfl ?_|refine gB rfl ?_|apply cT rfl|apply cF rfl|(apply DM.gbT;rfl)|(apply DM.gbF;rfl)|intro h
       cases hp : popsK [1] st with
       | none =>
        have c := p116 dd st lo [1] hst (by simp)
        rw [hp] at c
        refine DM.mvX (c) (by simp only [go_sem, Nat.reduceBEq, Nat.reduceAdd] <;> rfl) (AVLes.refl _) fun H' hh => ?_
        rw [show valuesP p ps rr x st = none by simp [valuesP, isArith, hp, ho]]
        exact mvw_pan (hH.trans hh)
       | some s1 =>
        have c := p116 dd st lo [1] hst (by simp)
        rw [hp] at c
        refine DM.mvO (c) (by simp only [go_sem, Nat.reduceBEq, Nat.reduceAdd] <;> rfl) (AVLes.refl _) fun vs' vl' => ?_
        simp only [put_some]
        repeat' first|(apply Sp.go;·constructor<;>first|exact ss|(change _=_;first|(simp only[go_sem,Nat.reduceBEq,Nat.reduceAdd,Nat.reduceLeDiff,reduceIte]<;>rfl)|rfl)|exact Nat.le_of_ble_eq_true rfl|decide|(repeat' first|(apply Lk.go;constructor)|assumption|exact nb ‹_› ‹_›|exact nt ‹_› ‹_›|(apply Lv.go;constructor)))|(intro b hb;repeat first|(refine fe hb ?_;intro _ _ hb)|(refine fT hb ?_;intro hb)|(refine fresh_elimV hb ?_;intro _ _ hb))|refine rt ?_|refine gA rfl ?_|refine gB rfl ?_|apply cT rfl|apply cF rfl|(apply DM.gbT;rfl)|(apply DM.gbF;rfl)|intro h
        (first|refine AM.ret (v := .tup []) results_nil ?_|refine AM.done (v := .tup []) results_nil ?_)
        rw [show valuesP p ps rr x st = some s1 by simp [valuesP, isArith, hp, ho]]
        exact mvw_ok (s := (s1, lo)) (hv_mono hH)
      ·have ho : x.op = 24 := of_decide_eq_true ‹decide (x.op = 24) = true›
       (apply DM.pcat (heq _ _ _ hv_ts); (· simp only [go_sem, Nat.reduceBEq, Nat.reduceAdd] <;> rfl); (· exact AVLes.refl _))
       repeat' first|(apply Sp.go;·constructor<;>first|exact ss|(change _=_;first|(simp only[go_sem,Nat.reduceBEq,Nat.reduceAdd,Nat.reduceLeDiff,reduceIte]<;>rfl)|rfl)|exact Nat.le_of_ble_eq_true rfl|decide|(repeat' first|(apply Lk.go;constructor)|assumption|exact nb ‹_› ‹_›|exact nt ‹_› ‹_›|(apply Lv.go;constructor)))|(intro b hb;repeat first|(refine fe hb ?_;intro _ _ hb)|(refine fT hb ?_;intro hb)|(refine fresh_elimV hb ?_;intro _ _ hb))|refine rt ?_|refine gA rfl ?_|refine gB rfl ?_|apply cT rfl|apply cF rfl|(apply DM.gbT;rfl)|(apply DM.gbF;rfl)|intro h
       by_cases he : st = rr
       ·simp only [decide_eq_true he]
        (apply DM.pcs (p115t 11); (· simp only [go_sem, Nat.reduceBEq, Nat.reduceAdd] <;> rfl); (· exact AVLes.refl _))
        repeat' first|(apply Sp.go;·constructor<;>first|exact ss|(change _=_;first|(simp only[go_sem,Nat.reduceBEq,Nat.reduceAdd,Nat.reduceLeDiff,reduceIte]<;>rfl)|rfl)|exact Nat.le_of_ble_eq_true rfl|decide|(repeat' first|(apply Lk.go;constructor)|assumption|exact nb ‹_› ‹_›|exact nt ‹_› ‹_›|(apply Lv.go;constructor)))|(intro b hb;repeat first|(refine fe hb ?_;intro _ _ hb)|(refine fT hb ?_;intro hb)|(refine fresh_elimV hb ?_;intro _ _ hb))|refine rt ?_|refine gA rfl ?_|refine gB rfl ?_|apply cT rfl|apply cF rfl|(apply DM.gbT;rfl)|(apply DM.gbF;rfl)|intro h
        (first|refine AM.ret (v := .tup []) results_nil ?_|refine AM.done (v := .tup []) results_nil ?_)
        rw [show valuesP p ps rr x st = some st by simp [valuesP, isArith, ho, he]]
        exact mvw_ok (s := (st, lo)) (hv_mono hH)
       ·simp only [decide_eq_false he]
        rw [show valuesP p ps rr x st = none by simp [valuesP, isArith, ho, he]]
        refine DM.calX (p115f 11 _) (by simp only [go_sem, Nat.reduceBEq, Nat.reduceAdd] <;> rfl) (AVLes.refl _) ?_
        rintro v H' ⟨rfl, rfl⟩
        exact mvw_pan (hH.trans (hv_base dd))
      ·(first|refine AM.ret (v := .tup []) results_nil ?_|refine AM.done (v := .tup []) results_nil ?_)
       rw [show valuesP p ps rr x st = some st by simp at *; simp [valuesP, isArith, *]]
       exact mvw_ok (s := (st, lo)) (hv_mono hH)
def finP (p : Prog) (at_ : Nat) (x : Ins_) (l : List Int) : Option (List Int) := if x.op = 19 ∨ x.op = 24 ∨ at_ + 1 < p.code.length then some l else none
def loopsQ (at_ : Nat) (x : Ins_) (lo : List Int) : Option (List Int) :=
 if x.op = 21 then (if lo.length < 4 then some (lo ++ [(at_ : Int)]) else none)
 else if x.op = 22 then (match lo.getLast? with
  | some b => if x.n = b + 1 then some lo else none
  | none => none)
 else if x.op = 23 then (if lo = [] then none else some lo.dropLast)
 else if x.op = 24 then (if lo = [] then some lo else none)
 else if x.op = 19 ∨ x.op = 20 then (if (at_ : Int) < x.n then some lo else none)
 else some lo
def loopsP (p : Prog) (at_ : Nat) (x : Ins_) (lo : List Int) : Option (List Int) := (loopsQ at_ x lo).bind (finP p at_ x)
def tail76 : EC := match e76 with
 | .seq _ (.seq _ (.seq _ t)) => t
 | _ => .skip
def head76 (t : EC) : EC := match e76 with
 | .seq a (.seq b (.seq c _)) => .seq a (.seq b (.seq c t))
 | _ => .skip
set_option maxHeartbeats 4000000 in
theorem p76 {H0 : AHeap} {ρ : RefV} (d : ρ.Ok H0) (cb : Nat) (p : Prog) (ps rr : List Int) (a : AV) (hcb : H0.blk cb = some (122, ccells p ps rr a)) (x : Ins_) (st lo : List Int) (at_ : Nat) (hat : at_ ≤ 1000) (hlo : lo.length ≤ 1000) (hb1 : ∀ b ∈ lo, 0 ≤ b ∧ b ≤ 1000) (hcl : p.code.length ≤ 1000) :
  MV 76 [.ptr cb 0, .ptr ρ.b 0, .int .i64 at_, x.av] H0 ρ st lo 7 ((loopsP p at_ x lo).map fun l => (st, l)) := by
 refine mv_intro Try.func76 c76 fun vs vl => ?_
 have d1 := d.sl; have d2 := Ne.symm d.sl
 have hne : cb ≠ ρ.b := fun e => by subst e; rw [d.fb] at hcb; cases hcb
 have hw0 : IntKind.i64.wrap (((lo.map irow).length : Int) - 1) = (lo.length : Int) - 1 := by rw [List.length_map]; exact wrap64 (by omega) (by omega)
 have hw1 : IntKind.i64.wrap ((lo.length : Int) - 1 + 1) = (lo.length : Int) := by rw [wrap64 (by omega) (by omega)]; omega
 have hw2 : IntKind.i64.wrap ((at_ : Int) + 1) = ((at_ + 1 : Nat) : Int) := by rw [wrap64 (by omega) (by omega)]; omega
 have htail : ∀ (H1 : AHeap) (b : Nat), HSub H0 H1 → ρ.Ok H1 → cb ≠ ρ.b → b ≠ ρ.b → H1.blk cb = some (122, ccells p ps rr a) → H1.blk b = some (88, x.row) → ∀ (l : List Int) (v1 v2 : Nat),
   AM Try.prog [] (MVW H0 ρ 7 ((finP p at_ x l).map fun l => (st, l))) [.c tail76] [(0, .ptr cb 0), (2, .int .i64 at_), (7, .ptr b 0)] (HV H1 ρ st l v1 v2) := by
  intro H1 b hH dd hne hbne hcb1 hbb l v1 v2
  unfold tail76 e76
  dsimp only
  repeat' first|(apply Sp.go;·constructor<;>first|exact ss|(change _=_;first|(simp only[go_sem,Nat.reduceBEq,Nat.reduceAdd,Nat.reduceLeDiff,reduceIte]<;>rfl)|rfl)|exact Nat.le_of_ble_eq_true rfl|decide|(repeat' first|(apply Lk.go;constructor)|assumption|exact nb ‹_› ‹_›|exact nt ‹_› ‹_›|(apply Lv.go;constructor)))|(intro b hb;repeat first|(refine fe hb ?_;intro _ _ hb)|(refine fT hb ?_;intro hb)|(refine fresh_elimV hb ?_;intro _ _ hb))|refine rt ?_|refine gA rfl ?_|refine gB rfl ?_|apply cT rfl|apply cF rfl|(apply DM.gbT;rfl)|(apply DM.gbF;rfl)|intro h
  ·by_cases hlt : at_ + 1 < p.code.length
   ·have e1 : decide (IntKind.i64.wrap ((at_ : Int) + 1) < ((p.code.map Ins_.row).length : Int)) = true := by rw [hw2, List.length_map]; exact decide_eq_true (by omega)
    simp only [e1]
    (apply DM.pcs (p115t 7); (· simp only [go_sem, Nat.reduceBEq, Nat.reduceAdd] <;> rfl); (· exact AVLes.refl _))
    repeat' first|(apply Sp.go;·constructor<;>first|exact ss|(change _=_;first|(simp only[go_sem,Nat.reduceBEq,Nat.reduceAdd,Nat.reduceLeDiff,reduceIte]<;>rfl)|rfl)|exact Nat.le_of_ble_eq_true rfl|decide|(repeat' first|(apply Lk.go;constructor)|assumption|exact nb ‹_› ‹_›|exact nt ‹_› ‹_›|(apply Lv.go;constructor)))|(intro b hb;repeat first|(refine fe hb ?_;intro _ _ hb)|(refine fT hb ?_;intro hb)|(refine fresh_elimV hb ?_;intro _ _ hb))|refine rt ?_|refine gA rfl ?_|refine gB rfl ?_|apply cT rfl|apply cF rfl|(apply DM.gbT;rfl)|(apply DM.gbF;rfl)|intro h
    (first|refine AM.ret (v := .tup []) results_nil ?_|refine AM.done (v := .tup []) results_nil ?_)
    rw [show finP p at_ x l = some l by simp [finP, hlt]]
    exact mvw_ok (s := (st, l)) (hv_mono hH)
   ·have e1 : decide (IntKind.i64.wrap ((at_ : Int) + 1) < ((p.code.map Ins_.row).length : Int)) = false := by rw [hw2, List.length_map]; exact decide_eq_false (by omega)
    simp only [e1]
    rw [show finP p at_ x l = none by simp at *; simp [finP, *]]
    refine DM.calX (p115f 7 _) (by simp only [go_sem, Nat.reduceBEq, Nat.reduceAdd] <;> rfl) (AVLes.refl _) ?_
    rintro v H' ⟨rfl, rfl⟩
    exact mvw_pan (hH.trans (hv_base dd))
  ·have ho : x.op = 24 := of_decide_eq_true ‹decide (x.op = 24) = true›
   (apply DM.pcs (p115t 7); (· simp only [go_sem, Nat.reduceBEq, Nat.reduceAdd] <;> rfl); (· exact AVLes.refl _))
   repeat' first|(apply Sp.go;·constructor<;>first|exact ss|(change _=_;first|(simp only[go_sem,Nat.reduceBEq,Nat.reduceAdd,Nat.reduceLeDiff,reduceIte]<;>rfl)|rfl)|exact Nat.le_of_ble_eq_true rfl|decide|(repeat' first|(apply Lk.go;constructor)|assumption|exact nb ‹_› ‹_›|exact nt ‹_› ‹_›|(apply Lv.go;constructor)))|(intro b hb;repeat first|(refine fe hb ?_;intro _ _ hb)|(refine fT hb ?_;intro hb)|(refine fresh_elimV hb ?_;intro _ _ hb))|refine rt ?_|refine gA rfl ?_|refine gB rfl ?_|apply cT rfl|apply cF rfl|(apply DM.gbT;rfl)|(apply DM.gbF;rfl)|intro h
   (first|refine AM.ret (v := .tup []) results_nil ?_|refine AM.done (v := .tup []) results_nil ?_)
   rw [show finP p at_ x l = some l by simp [finP, ho]]
   exact mvw_ok (s := (st, l)) (hv_mono hH)
  ·have ho : x.op = 19 := of_decide_eq_true ‹decide (x.op = 19) = true›
   (apply DM.pcs (p115t 7); (· simp only [go_sem, Nat.reduceBEq, Nat.reduceAdd] <;> rfl); (· exact AVLes.refl _))
   repeat' first|(apply Sp.go;·constructor<;>first|exact ss|(change _=_;first|(simp only[go_sem,Nat.reduceBEq,Nat.reduceAdd,Nat.reduceLeDiff,reduceIte]<;>rfl)|rfl)|exact Nat.le_of_ble_eq_true rfl|decide|(repeat' first|(apply Lk.go;constructor)|assumption|exact nb ‹_› ‹_›|exact nt ‹_› ‹_›|(apply Lv.go;constructor)))|(intro b hb;repeat first|(refine fe hb ?_;intro _ _ hb)|(refine fT hb ?_;intro hb)|(refine fresh_elimV hb ?_;intro _ _ hb))|refine rt ?_|refine gA rfl ?_|refine gB rfl ?_|apply cT rfl|apply cF rfl|(apply DM.gbT;rfl)|(apply DM.gbF;rfl)|intro h
   (first|refine AM.ret (v := .tup []) results_nil ?_|refine AM.done (v := .tup []) results_nil ?_)
   rw [show finP p at_ x l = some l by simp [finP, ho]]
   exact mvw_ok (s := (st, l)) (hv_mono hH)
 have hE : e76 = head76 tail76 := rfl
 rw [hE]
 generalize tail76 = TT at *
 clear hE
 unfold head76 e76 r76
 simp only [initEnv, initFrom]
 repeat' first|(apply Sp.go;·constructor<;>first|exact ss|(change _=_;first|(simp only[go_sem,Nat.reduceBEq,Nat.reduceAdd,Nat.reduceLeDiff,reduceIte]<;>rfl)|rfl)|exact Nat.le_of_ble_eq_true rfl|decide|(repeat' first|(apply Lk.go;constructor)|assumption|exact nb ‹_› ‹_›|exact nt ‹_› ‹_›|(apply Lv.go;constructor)))|(intro b hb;repeat first|(refine fe hb ?_;intro _ _ hb)|(refine fT hb ?_;intro hb)|(refine fresh_elimV hb ?_;intro _ _ hb))|refine rt ?_|refine gA rfl ?_|refine gB rfl ?_|apply cT rfl|apply cF rfl|(apply DM.gbT;rfl)|(apply DM.gbF;rfl)|intro h
 rw [hv_setB (by assumption)]
 have hbne : b ≠ ρ.b := by assumption
 have hcbb : cb ≠ b := (ne_blk hb hcb).2
 have hH : HSub H0 (H0.setB b 88 x.row) := HSub.setB (HSub.refl _) hb
 have dd : ρ.Ok (H0.setB b 88 x.row) := ⟨d.sl, g_ne (Ne.symm hbne) d.fb, t_B d.fs, t_B d.fl⟩
 have hcb1 : (H0.setB b 88 x.row).blk cb = some (122, ccells p ps rr a) := g_ne hcbb hcb
 have hbb : (H0.setB b 88 x.row).blk b = some (88, x.row) := g_same
 generalize H0.setB b 88 x.row = H1 at *
 simp only [hw0]
 (apply AM.cond; (· rfl))
 ·intro h1
  simp at h1
  repeat' first|(apply Sp.go;·constructor<;>first|exact ss|(change _=_;first|(simp only[go_sem,Nat.reduceBEq,Nat.reduceAdd,Nat.reduceLeDiff,reduceIte]<;>rfl)|rfl)|exact Nat.le_of_ble_eq_true rfl|decide|(repeat' first|(apply Lk.go;constructor)|assumption|exact nb ‹_› ‹_›|exact nt ‹_› ‹_›|(apply Lv.go;constructor)))|(intro b hb;repeat first|(refine fe hb ?_;intro _ _ hb)|(refine fT hb ?_;intro hb)|(refine fresh_elimV hb ?_;intro _ _ hb))|refine rt ?_|refine gA rfl ?_|refine gB rfl ?_|apply cT rfl|apply cF rfl|(apply DM.gbT;rfl)|(apply DM.gbF;rfl)|intro h
  simp only [hw1]
  by_cases hl : lo.length < 4
  ·have e1 : decide ((lo.length : Int) < 4) = true := decide_eq_true (by omega)
   simp only [e1]
   (apply DM.pcs (p115t 7); (· simp only [go_sem, Nat.reduceBEq, Nat.reduceAdd] <;> rfl); (· exact AVLes.refl _))
   repeat' first|(apply Sp.go;·constructor<;>first|exact ss|(change _=_;first|(simp only[go_sem,Nat.reduceBEq,Nat.reduceAdd,Nat.reduceLeDiff,reduceIte]<;>rfl)|rfl)|exact Nat.le_of_ble_eq_true rfl|decide|(repeat' first|(apply Lk.go;constructor)|assumption|exact nb ‹_› ‹_›|exact nt ‹_› ‹_›|(apply Lv.go;constructor)))|(intro b hb;repeat first|(refine fe hb ?_;intro _ _ hb)|(refine fT hb ?_;intro hb)|(refine fresh_elimV hb ?_;intro _ _ hb))|refine rt ?_|refine gA rfl ?_|refine gB rfl ?_|apply cT rfl|apply cF rfl|(apply DM.gbT;rfl)|(apply DM.gbF;rfl)|(apply DM.apM; (· rfl); (· repeat' first|(apply Lk.go;constructor)|assumption|exact nb ‹_› ‹_›|exact nt ‹_› ‹_›|(apply Lv.go;constructor)); (· simp only [rowsOf, if_true, eq_self, go_sem, Nat.reduceBEq, reduceIte] <;> rfl); (· (simp only [List.length_map, List.length_cons, List.length_nil]; first | (unfold maxLen; omega) | omega)); (· (simp only [List.length_map, List.length_cons, List.length_nil]; first | (unfold maxLen; omega) | omega)))|intro h
   refine AM.weakE [(0, .ptr cb 0), (2, .int .i64 at_), (7, .ptr b 0)] ?_ ?_
   ·(repeat first | exact envle_nil _ | (refine envle_cons ?_ ?_; · (simp only [go_sem, Nat.reduceBEq, Nat.reduceAdd]; exact AVLe.refl _)))
   rw [show loopsP p at_ x lo = finP p at_ x (lo ++ [(at_ : Int)]) by simp [loopsP, loopsQ, h1, hl]]
   refine AM.forget (HV H1 ρ st (lo ++ [(at_ : Int)]) vs (vl + 1)) ?_ (htail H1 b hH dd hne hbne hcb1 hbb (lo ++ [(at_ : Int)]) vs (vl + 1))
   rw [show List.map irow lo ++ [[AV.int IntKind.i64 (at_ : Int)]] = (lo ++ [(at_ : Int)]).map irow by simp]
   (refine hsub_hv ?_ ?_ ?_ ?_ ?_<;>first|(intro x y h1 h2 h;repeat first|exact h|refine hv_oldT h1 h2 ?_|refine t_ne ‹_› ?_|refine t_fresh ‹_› ?_|refine t_B ?_)|(intro x y hx h;repeat first|exact h|refine hv_old hx ?_|refine g_ne hx ?_|refine g_ne (nb ‹_› h) ?_|refine g_fresh ‹_› ?_|refine g_T ?_)|(repeat' first|(apply Lk.go;constructor)|assumption|exact nb ‹_› ‹_›|exact nt ‹_› ‹_›|(apply Lv.go;constructor)))
  ·have e1 : decide ((lo.length : Int) < 4) = false := decide_eq_false (by omega)
   simp only [e1]
   rw [show loopsP p at_ x lo = none by simp [loopsP, loopsQ, h1, hl]]
   refine DM.calX (p115f 7 _) (by simp only [go_sem, Nat.reduceBEq, Nat.reduceAdd] <;> rfl) (AVLes.refl _) ?_
   rintro v H' ⟨rfl, rfl⟩
   exact mvw_pan (hH.trans (hv_base dd))
 ·intro h1
  simp at h1
  repeat' first|(apply Sp.go;·constructor<;>first|exact ss|(change _=_;first|(simp only[go_sem,Nat.reduceBEq,Nat.reduceAdd,Nat.reduceLeDiff,reduceIte]<;>rfl)|rfl)|exact Nat.le_of_ble_eq_true rfl|decide|(repeat' first|(apply Lk.go;constructor)|assumption|exact nb ‹_› ‹_›|exact nt ‹_› ‹_›|(apply Lv.go;constructor)))|(intro b hb;repeat first|(refine fe hb ?_;intro _ _ hb)|(refine fT hb ?_;intro hb)|(refine fresh_elimV hb ?_;intro _ _ hb))|refine rt ?_|refine gA rfl ?_|refine gB rfl ?_|apply cT rfl|apply cF rfl|(apply DM.gbT;rfl)|(apply DM.gbF;rfl)|intro h
  (apply AM.cond; (· rfl))
  ·intro h2
   simp at h2
   rcases hlc : lo.getLast? with _ | bb
   ·have hlo0 : lo = [] := by simpa using hlc
    repeat' first|(apply Sp.go;·constructor<;>first|exact ss|(change _=_;first|(simp only[go_sem,Nat.reduceBEq,Nat.reduceAdd,Nat.reduceLeDiff,reduceIte]<;>rfl)|rfl)|exact Nat.le_of_ble_eq_true rfl|decide|(repeat' first|(apply Lk.go;constructor)|assumption|exact nb ‹_› ‹_›|exact nt ‹_› ‹_›|(apply Lv.go;constructor)))|(intro b hb;repeat first|(refine fe hb ?_;intro _ _ hb)|(refine fT hb ?_;intro hb)|(refine fresh_elimV hb ?_;intro _ _ hb))|refine rt ?_|refine gA rfl ?_|refine gB rfl ?_|apply cT rfl|apply cF rfl|(apply DM.gbT;rfl)|(apply DM.gbF;rfl)|intro h
    ·exfalso
     have q := ‹decide (0 ≤ (lo.length : Int) - 1) = true›
     simp [hlo0] at q
    ·rw [show loopsP p at_ x lo = none by simp [loopsP, loopsQ, h2, hlo0]]
     refine DM.calX (p115f 7 _) (by simp only [go_sem, Nat.reduceBEq, Nat.reduceAdd] <;> rfl) (AVLes.refl _) ?_
     rintro v H' ⟨rfl, rfl⟩
     exact mvw_pan (hH.trans (hv_base dd))
   ·obtain ⟨n, hn⟩ : ∃ n, lo.length = n + 1 := ⟨lo.length - 1, by cases lo with | nil => simp at hlc | cons c l => simp⟩
    have hv : lo[n]? = some bb := by rw [last_ix hn]; exact hlc
    have hnz : (lo.length : Int) - 1 = (n : Int) := by omega
    have hbr := hb1 bb (List.mem_of_getElem? hv)
    have hwb : IntKind.i64.wrap (bb + 1) = bb + 1 := wrap64 (by omega) (by omega)
    simp only [hnz]
    repeat' first|(apply Sp.go;·constructor<;>first|exact ss|(change _=_;first|(simp only[go_sem,Nat.reduceBEq,Nat.reduceAdd,Nat.reduceLeDiff,reduceIte]<;>rfl)|rfl)|exact Nat.le_of_ble_eq_true rfl|decide|(repeat' first|(apply Lk.go;constructor)|assumption|exact nb ‹_› ‹_›|exact nt ‹_› ‹_›|(apply Lv.go;constructor)))|(intro b hb;repeat first|(refine fe hb ?_;intro _ _ hb)|(refine fT hb ?_;intro hb)|(refine fresh_elimV hb ?_;intro _ _ hb))|refine rt ?_|refine gA rfl ?_|refine gB rfl ?_|apply cT rfl|apply cF rfl|(apply DM.gbT;rfl)|(apply DM.gbF;rfl)|intro h
    all_goals try (
     exfalso
     simp at *
     omega
     )
    (apply DM.ixM; (· rfl); (· repeat' first|(apply Lk.go;constructor)|assumption|exact nb ‹_› ‹_›|exact nt ‹_› ‹_›|(apply Lv.go;constructor)); (· rfl); (· (first | omega | (simp only [List.length_map]; omega))); (· (first | omega | (simp only [List.length_map]; omega))))
    repeat' first|(apply Sp.go;·constructor<;>first|exact ss|(change _=_;first|(simp only[go_sem,Nat.reduceBEq,Nat.reduceAdd,Nat.reduceLeDiff,reduceIte]<;>rfl)|rfl)|exact Nat.le_of_ble_eq_true rfl|decide|(repeat' first|(apply Lk.go;constructor)|assumption|exact nb ‹_› ‹_›|exact nt ‹_› ‹_›|(apply Lv.go;constructor)))|(intro b hb;repeat first|(refine fe hb ?_;intro _ _ hb)|(refine fT hb ?_;intro hb)|(refine fresh_elimV hb ?_;intro _ _ hb))|refine rt ?_|refine gA rfl ?_|refine gB rfl ?_|apply cT rfl|apply cF rfl|(apply DM.gbT;rfl)|(apply DM.gbF;rfl)|(apply DM.ldM1 (i := n) (j := 0); (· rfl); (· repeat' first|(apply Lk.go;constructor)|assumption|exact nb ‹_› ‹_›|exact nt ‹_› ‹_›|(apply Lv.go;constructor)); (· exact rows1 _); (· (rw [List.getElem?_map, hv]; rfl)); (· simp); (· rfl))|intro h
    simp only [hwb]
    by_cases hq : x.n = bb + 1
    ·simp only [decide_eq_true hq]
     (apply DM.pcs (p115t 7); (· simp only [go_sem, Nat.reduceBEq, Nat.reduceAdd] <;> rfl); (· exact AVLes.refl _))
     repeat' first|(apply Sp.go;·constructor<;>first|exact ss|(change _=_;first|(simp only[go_sem,Nat.reduceBEq,Nat.reduceAdd,Nat.reduceLeDiff,reduceIte]<;>rfl)|rfl)|exact Nat.le_of_ble_eq_true rfl|decide|(repeat' first|(apply Lk.go;constructor)|assumption|exact nb ‹_› ‹_›|exact nt ‹_› ‹_›|(apply Lv.go;constructor)))|(intro b hb;repeat first|(refine fe hb ?_;intro _ _ hb)|(refine fT hb ?_;intro hb)|(refine fresh_elimV hb ?_;intro _ _ hb))|refine rt ?_|refine gA rfl ?_|refine gB rfl ?_|apply cT rfl|apply cF rfl|(apply DM.gbT;rfl)|(apply DM.gbF;rfl)|intro h
     refine AM.weakE [(0, .ptr cb 0), (2, .int .i64 at_), (7, .ptr b 0)] ?_ ?_
     ·(repeat first | exact envle_nil _ | (refine envle_cons ?_ ?_; · (simp only [go_sem, Nat.reduceBEq, Nat.reduceAdd]; exact AVLe.refl _)))
     rw [show loopsP p at_ x lo = finP p at_ x lo by simp [loopsP, loopsQ, h2, hlc, hq]]
     refine AM.forget (HV H1 ρ st lo vs vl) ?_ (htail H1 b hH dd hne hbne hcb1 hbb lo vs vl)
     exact HSub.refl _
    ·simp only [decide_eq_false hq]
     rw [show loopsP p at_ x lo = none by simp [loopsP, loopsQ, h2, hlc, hq]]
     refine DM.calX (p115f 7 _) (by simp only [go_sem, Nat.reduceBEq, Nat.reduceAdd] <;> rfl) (AVLes.refl _) ?_
     rintro v H' ⟨rfl, rfl⟩
     exact mvw_pan (hH.trans (hv_base dd))
  ·intro h2
   simp at h2
   repeat' first|(apply Sp.go;·constructor<;>first|exact ss|(change _=_;first|(simp only[go_sem,Nat.reduceBEq,Nat.reduceAdd,Nat.reduceLeDiff,reduceIte]<;>rfl)|rfl)|exact Nat.le_of_ble_eq_true rfl|decide|(repeat' first|(apply Lk.go;constructor)|assumption|exact nb ‹_› ‹_›|exact nt ‹_› ‹_›|(apply Lv.go;constructor)))|(intro b hb;repeat first|(refine fe hb ?_;intro _ _ hb)|(refine fT hb ?_;intro hb)|(refine fresh_elimV hb ?_;intro _ _ hb))|refine rt ?_|refine gA rfl ?_|refine gB rfl ?_|apply cT rfl|apply cF rfl|(apply DM.gbT;rfl)|(apply DM.gbF;rfl)|intro h
   (apply AM.cond; (· rfl))
   ·intro h3
    simp at h3
    repeat' first|(apply Sp.go;·constructor<;>first|exact ss|(change _=_;first|(simp only[go_sem,Nat.reduceBEq,Nat.reduceAdd,Nat.reduceLeDiff,reduceIte]<;>rfl)|rfl)|exact Nat.le_of_ble_eq_true rfl|decide|(repeat' first|(apply Lk.go;constructor)|assumption|exact nb ‹_› ‹_›|exact nt ‹_› ‹_›|(apply Lv.go;constructor)))|(intro b hb;repeat first|(refine fe hb ?_;intro _ _ hb)|(refine fT hb ?_;intro hb)|(refine fresh_elimV hb ?_;intro _ _ hb))|refine rt ?_|refine gA rfl ?_|refine gB rfl ?_|apply cT rfl|apply cF rfl|(apply DM.gbT;rfl)|(apply DM.gbF;rfl)|intro h
    by_cases hlo0 : lo = []
    ·have e1 : decide (0 ≤ (lo.length : Int) - 1) = false := by simp [hlo0]
     simp only [e1]
     rw [show loopsP p at_ x lo = none by simp [loopsP, loopsQ, h3, hlo0]]
     refine DM.calX (p115f 7 _) (by simp only [go_sem, Nat.reduceBEq, Nat.reduceAdd] <;> rfl) (AVLes.refl _) ?_
     rintro v H' ⟨rfl, rfl⟩
     exact mvw_pan (hH.trans (hv_base dd))
    ·obtain ⟨n, hn⟩ : ∃ n, lo.length = n + 1 := ⟨lo.length - 1, by cases lo with | nil => simp at hlo0 | cons c l => simp⟩
     have hnz : (lo.length : Int) - 1 = (n : Int) := by omega
     have e1 : decide (0 ≤ (lo.length : Int) - 1) = true := decide_eq_true (by omega)
     simp only [e1]
     (apply DM.pcs (p115t 7); (· simp only [go_sem, Nat.reduceBEq, Nat.reduceAdd] <;> rfl); (· exact AVLes.refl _))
     repeat' first|(apply Sp.go;·constructor<;>first|exact ss|(change _=_;first|(simp only[go_sem,Nat.reduceBEq,Nat.reduceAdd,Nat.reduceLeDiff,reduceIte]<;>rfl)|rfl)|exact Nat.le_of_ble_eq_true rfl|decide|(repeat' first|(apply Lk.go;constructor)|assumption|exact nb ‹_› ‹_›|exact nt ‹_› ‹_›|(apply Lv.go;constructor)))|(intro b hb;repeat first|(refine fe hb ?_;intro _ _ hb)|(refine fT hb ?_;intro hb)|(refine fresh_elimV hb ?_;intro _ _ hb))|refine rt ?_|refine gA rfl ?_|refine gB rfl ?_|apply cT rfl|apply cF rfl|(apply DM.gbT;rfl)|(apply DM.gbF;rfl)|intro h
     simp only [hnz]
     (apply DM.sM; (· rfl); (· repeat' first|(apply Lk.go;constructor)|assumption|exact nb ‹_› ‹_›|exact nt ‹_› ‹_›|(apply Lv.go;constructor)); (· rfl); (· (simp only [List.length_map]; omega)))
     repeat' first|(apply Sp.go;·constructor<;>first|exact ss|(change _=_;first|(simp only[go_sem,Nat.reduceBEq,Nat.reduceAdd,Nat.reduceLeDiff,reduceIte]<;>rfl)|rfl)|exact Nat.le_of_ble_eq_true rfl|decide|(repeat' first|(apply Lk.go;constructor)|assumption|exact nb ‹_› ‹_›|exact nt ‹_› ‹_›|(apply Lv.go;constructor)))|(intro b hb;repeat first|(refine fe hb ?_;intro _ _ hb)|(refine fT hb ?_;intro hb)|(refine fresh_elimV hb ?_;intro _ _ hb))|refine rt ?_|refine gA rfl ?_|refine gB rfl ?_|apply cT rfl|apply cF rfl|(apply DM.gbT;rfl)|(apply DM.gbF;rfl)|intro h
     refine AM.weakE [(0, .ptr cb 0), (2, .int .i64 at_), (7, .ptr b 0)] ?_ ?_
     ·(repeat first | exact envle_nil _ | (refine envle_cons ?_ ?_; · (simp only [go_sem, Nat.reduceBEq, Nat.reduceAdd]; exact AVLe.refl _)))
     rw [show loopsP p at_ x lo = finP p at_ x lo.dropLast by simp [loopsP, loopsQ, h3, hlo0]]
     refine AM.forget (HV H1 ρ st lo.dropLast vs (vl + 1)) ?_ (htail H1 b hH dd hne hbne hcb1 hbb lo.dropLast vs (vl + 1))
     rw [show (lo.map irow).take n = lo.dropLast.map irow by rw [← List.map_take, List.dropLast_eq_take, hn]; rfl]
     (refine hsub_hv ?_ ?_ ?_ ?_ ?_<;>first|(intro x y h1 h2 h;repeat first|exact h|refine hv_oldT h1 h2 ?_|refine t_ne ‹_› ?_|refine t_fresh ‹_› ?_|refine t_B ?_)|(intro x y hx h;repeat first|exact h|refine hv_old hx ?_|refine g_ne hx ?_|refine g_ne (nb ‹_› h) ?_|refine g_fresh ‹_› ?_|refine g_T ?_)|(repeat' first|(apply Lk.go;constructor)|assumption|exact nb ‹_› ‹_›|exact nt ‹_› ‹_›|(apply Lv.go;constructor)))
   ·intro h3
    simp at h3
    repeat' first|(apply Sp.go;·constructor<;>first|exact ss|(change _=_;first|(simp only[go_sem,Nat.reduceBEq,Nat.reduceAdd,Nat.reduceLeDiff,reduceIte]<;>rfl)|rfl)|exact Nat.le_of_ble_eq_true rfl|decide|(repeat' first|(apply Lk.go;constructor)|assumption|exact nb ‹_› ‹_›|exact nt ‹_› ‹_›|(apply Lv.go;constructor)))|(intro b hb;repeat first|(refine fe hb ?_;intro _ _ hb)|(refine fT hb ?_;intro hb)|(refine fresh_elimV hb ?_;intro _ _ hb))|refine rt ?_|refine gA rfl ?_|refine gB rfl ?_|apply cT rfl|apply cF rfl|(apply DM.gbT;rfl)|(apply DM.gbF;rfl)|intro h
    (apply AM.cond; (· rfl))
    ·intro h4
     simp at h4
     repeat' first|(apply Sp.go;·constructor<;>first|exact ss|(change _=_;first|(simp only[go_sem,Nat.reduceBEq,Nat.reduceAdd,Nat.reduceLeDiff,reduceIte]<;>rfl)|rfl)|exact Nat.le_of_ble_eq_true rfl|decide|(repeat' first|(apply Lk.go;constructor)|assumption|exact nb ‹_› ‹_›|exact nt ‹_› ‹_›|(apply Lv.go;constructor)))|(intro b hb;repeat first|(refine fe hb ?_;intro _ _ hb)|(refine fT hb ?_;intro hb)|(refine fresh_elimV hb ?_;intro _ _ hb))|refine rt ?_|refine gA rfl ?_|refine gB rfl ?_|apply cT rfl|apply cF rfl|(apply DM.gbT;rfl)|(apply DM.gbF;rfl)|intro h
     by_cases hlo0 : lo = []
     ·have e1 : decide ((lo.length : Int) - 1 < 0) = true := by simp [hlo0]
      simp only [e1]
      (apply DM.pcs (p115t 7); (· simp only [go_sem, Nat.reduceBEq, Nat.reduceAdd] <;> rfl); (· exact AVLes.refl _))
      repeat' first|(apply Sp.go;·constructor<;>first|exact ss|(change _=_;first|(simp only[go_sem,Nat.reduceBEq,Nat.reduceAdd,Nat.reduceLeDiff,reduceIte]<;>rfl)|rfl)|exact Nat.le_of_ble_eq_true rfl|decide|(repeat' first|(apply Lk.go;constructor)|assumption|exact nb ‹_› ‹_›|exact nt ‹_› ‹_›|(apply Lv.go;constructor)))|(intro b hb;repeat first|(refine fe hb ?_;intro _ _ hb)|(refine fT hb ?_;intro hb)|(refine fresh_elimV hb ?_;intro _ _ hb))|refine rt ?_|refine gA rfl ?_|refine gB rfl ?_|apply cT rfl|apply cF rfl|(apply DM.gbT;rfl)|(apply DM.gbF;rfl)|intro h
      refine AM.weakE [(0, .ptr cb 0), (2, .int .i64 at_), (7, .ptr b 0)] ?_ ?_
      ·(repeat first | exact envle_nil _ | (refine envle_cons ?_ ?_; · (simp only [go_sem, Nat.reduceBEq, Nat.reduceAdd]; exact AVLe.refl _)))
      rw [show loopsP p at_ x lo = finP p at_ x lo by simp [loopsP, loopsQ, h4, hlo0]]
      refine AM.forget (HV H1 ρ st lo vs vl) ?_ (htail H1 b hH dd hne hbne hcb1 hbb lo vs vl)
      exact HSub.refl _
     ·have e1 : decide ((lo.length : Int) - 1 < 0) = false := decide_eq_false (by have : lo.length ≠ 0 := fun e => hlo0 (List.eq_nil_of_length_eq_zero e); omega)
      simp only [e1]
      rw [show loopsP p at_ x lo = none by simp [loopsP, loopsQ, h4, hlo0]]
      refine DM.calX (p115f 7 _) (by simp only [go_sem, Nat.reduceBEq, Nat.reduceAdd] <;> rfl) (AVLes.refl _) ?_
      rintro v H' ⟨rfl, rfl⟩
      exact mvw_pan (hH.trans (hv_base dd))
    ·intro h4
     simp at h4
     repeat' first|(apply Sp.go;·constructor<;>first|exact ss|(change _=_;first|(simp only[go_sem,Nat.reduceBEq,Nat.reduceAdd,Nat.reduceLeDiff,reduceIte]<;>rfl)|rfl)|exact Nat.le_of_ble_eq_true rfl|decide|(repeat' first|(apply Lk.go;constructor)|assumption|exact nb ‹_› ‹_›|exact nt ‹_› ‹_›|(apply Lv.go;constructor)))|(intro b hb;repeat first|(refine fe hb ?_;intro _ _ hb)|(refine fT hb ?_;intro hb)|(refine fresh_elimV hb ?_;intro _ _ hb))|refine rt ?_|refine gA rfl ?_|refine gB rfl ?_|apply cT rfl|apply cF rfl|(apply DM.gbT;rfl)|(apply DM.gbF;rfl)|(apply AM.condS;rfl)|intro h
     ·have ho : x.op = 19 := of_decide_eq_true ‹decide (x.op = 19) = true›
      by_cases hq : (at_ : Int) < x.n
      ·simp only [decide_eq_true hq]
       (apply DM.pcs (p115t 7); (· simp only [go_sem, Nat.reduceBEq, Nat.reduceAdd] <;> rfl); (· exact AVLes.refl _))
       repeat' first|(apply Sp.go;·constructor<;>first|exact ss|(change _=_;first|(simp only[go_sem,Nat.reduceBEq,Nat.reduceAdd,Nat.reduceLeDiff,reduceIte]<;>rfl)|rfl)|exact Nat.le_of_ble_eq_true rfl|decide|(repeat' first|(apply Lk.go;constructor)|assumption|exact nb ‹_› ‹_›|exact nt ‹_› ‹_›|(apply Lv.go;constructor)))|(intro b hb;repeat first|(refine fe hb ?_;intro _ _ hb)|(refine fT hb ?_;intro hb)|(refine fresh_elimV hb ?_;intro _ _ hb))|refine rt ?_|refine gA rfl ?_|refine gB rfl ?_|apply cT rfl|apply cF rfl|(apply DM.gbT;rfl)|(apply DM.gbF;rfl)|intro h
       refine AM.weakE [(0, .ptr cb 0), (2, .int .i64 at_), (7, .ptr b 0)] ?_ ?_
       ·(repeat first | exact envle_nil _ | (refine envle_cons ?_ ?_; · (simp only [go_sem, Nat.reduceBEq, Nat.reduceAdd]; exact AVLe.refl _)))
       rw [show loopsP p at_ x lo = finP p at_ x lo by simp [loopsP, loopsQ, ho, hq]]
       refine AM.forget (HV H1 ρ st lo vs vl) ?_ (htail H1 b hH dd hne hbne hcb1 hbb lo vs vl)
       exact HSub.refl _
      ·simp only [decide_eq_false hq]
       rw [show loopsP p at_ x lo = none by simp [loopsP, loopsQ, ho, hq]]
       refine DM.calX (p115f 7 _) (by simp only [go_sem, Nat.reduceBEq, Nat.reduceAdd] <;> rfl) (AVLes.refl _) ?_
       rintro v H' ⟨rfl, rfl⟩
       exact mvw_pan (hH.trans (hv_base dd))
     ·have ho : x.op = 20 := of_decide_eq_true ‹decide (x.op = 20) = true›
      by_cases hq : (at_ : Int) < x.n
      ·simp only [decide_eq_true hq]
       (apply DM.pcs (p115t 7); (· simp only [go_sem, Nat.reduceBEq, Nat.reduceAdd] <;> rfl); (· exact AVLes.refl _))
       repeat' first|(apply Sp.go;·constructor<;>first|exact ss|(change _=_;first|(simp only[go_sem,Nat.reduceBEq,Nat.reduceAdd,Nat.reduceLeDiff,reduceIte]<;>rfl)|rfl)|exact Nat.le_of_ble_eq_true rfl|decide|(repeat' first|(apply Lk.go;constructor)|assumption|exact nb ‹_› ‹_›|exact nt ‹_› ‹_›|(apply Lv.go;constructor)))|(intro b hb;repeat first|(refine fe hb ?_;intro _ _ hb)|(refine fT hb ?_;intro hb)|(refine fresh_elimV hb ?_;intro _ _ hb))|refine rt ?_|refine gA rfl ?_|refine gB rfl ?_|apply cT rfl|apply cF rfl|(apply DM.gbT;rfl)|(apply DM.gbF;rfl)|intro h
       refine AM.weakE [(0, .ptr cb 0), (2, .int .i64 at_), (7, .ptr b 0)] ?_ ?_
       ·(repeat first | exact envle_nil _ | (refine envle_cons ?_ ?_; · (simp only [go_sem, Nat.reduceBEq, Nat.reduceAdd]; exact AVLe.refl _)))
       rw [show loopsP p at_ x lo = finP p at_ x lo by simp [loopsP, loopsQ, ho, hq]]
       refine AM.forget (HV H1 ρ st lo vs vl) ?_ (htail H1 b hH dd hne hbne hcb1 hbb lo vs vl)
       exact HSub.refl _
      ·simp only [decide_eq_false hq]
       rw [show loopsP p at_ x lo = none by simp [loopsP, loopsQ, ho, hq]]
       refine DM.calX (p115f 7 _) (by simp only [go_sem, Nat.reduceBEq, Nat.reduceAdd] <;> rfl) (AVLes.refl _) ?_
       rintro v H' ⟨rfl, rfl⟩
       exact mvw_pan (hH.trans (hv_base dd))
     ·have e19 : ¬ x.op = 19 := of_decide_eq_false ‹decide (x.op = 19) = false›
      have e20 : ¬ x.op = 20 := of_decide_eq_false ‹decide (x.op = 20) = false›
      refine AM.weakE [(0, .ptr cb 0), (2, .int .i64 at_), (7, .ptr b 0)] ?_ ?_
      ·(repeat first | exact envle_nil _ | (refine envle_cons ?_ ?_; · (simp only [go_sem, Nat.reduceBEq, Nat.reduceAdd]; exact AVLe.refl _)))
      rw [show loopsP p at_ x lo = finP p at_ x lo by simp [loopsP, loopsQ, h1, h2, h3, h4, e19, e20]]
      refine AM.forget (HV H1 ρ st lo vs vl) ?_ (htail H1 b hH dd hne hbne hcb1 hbb lo vs vl)
      exact HSub.refl _
end Go.Aw.T
namespace Go.Aw.T
open Go Go.Aw Go.Proofs Go.RowKit
set_option maxRecDepth 100000
attribute [local irreducible] Go.Aw.DM Go.Aw.AHeap.setB Go.Aw.AHeap.setT
attribute [local go_sem] peval EOpd.ev Env.get binInt binStr binBool buildParts AV.cells AV.okc setRange minmaxAV AV.one AV.ofCells eqCells eqCell bslRows cond_true cond_false beq_self_eq_true Bool.not_true Bool.not_false beq_true beq_false eq_self if_true Option.some.injEq List.length_cons List.length_nil List.take_succ_cons List.take_zero List.drop_succ_cons List.drop_zero List.set_cons_succ List.set_cons_zero List.nil_append List.cons_append List.append_nil and_self Option.map_some List.map_cons List.map_nil Bool.false_eq_true if_false Nat.zero_add Nat.add_zero true_and and_true Bool.and_true Bool.true_and List.getElem?_cons_zero List.getElem?_cons_succ Nat.zero_le Nat.le_refl
set_option linter.unusedSimpArgs false
set_option linter.unusedVariables false
set_option maxHeartbeats 1000000 in
theorem p117 (xs ys : List Int) : Pure Try.prog 117 [.vs 1 (xs.map irow), .vs 1 (ys.map irow)] (.bool (decide (xs = ys))) := by
 refine pure_assume (G := xs.length ≤ maxLen) (fun m vs h => by simp only [RvL] at h; obtain ⟨_, _, _, h, _⟩ := h; simpa using vs_len h) fun hlen => ?_
 refine pure_intro mo Try.func117 c117 fun H => ?_
 unfold e117 r117
 simp only [initEnv, initFrom]
 repeat' first|(apply Sp.go;·constructor<;>first|exact ss|(change _=_;first|(simp only[go_sem,Nat.reduceBEq,Nat.reduceAdd,Nat.reduceLeDiff,reduceIte]<;>rfl)|rfl)|exact Nat.le_of_ble_eq_true rfl|decide|(repeat' first|(apply Lk.go;constructor)|assumption|exact nb ‹_› ‹_›|exact nt ‹_› ‹_›))|(intro b hb;repeat first|(refine fe hb ?_;intro _ _ hb)|(refine fT hb ?_;intro hb))|refine rt ?_|refine gA rfl ?_|refine gB rfl ?_|apply cT rfl|apply cF rfl|(apply DM.gbT;rfl)|(apply DM.gbF;rfl)|intro h
 (apply AM.cond; (· rfl))
 ·intro h
  repeat' first|(apply Sp.go;·constructor<;>first|exact ss|(change _=_;first|(simp only[go_sem,Nat.reduceBEq,Nat.reduceAdd,Nat.reduceLeDiff,reduceIte]<;>rfl)|rfl)|exact Nat.le_of_ble_eq_true rfl|decide|(repeat' first|(apply Lk.go;constructor)|assumption|exact nb ‹_› ‹_›|exact nt ‹_› ‹_›))|(intro b hb;repeat first|(refine fe hb ?_;intro _ _ hb)|(refine fT hb ?_;intro hb))|refine rt ?_|refine gA rfl ?_|refine gB rfl ?_|apply cT rfl|apply cF rfl|(apply DM.gbT;rfl)|(apply DM.gbF;rfl)|intro h
  (apply Sr.go;·constructor<;>first|(apply Lk.go;constructor<;>first|exact ss|(change _=_;first|(simp only[go_sem,Nat.reduceBEq,Nat.reduceAdd,Nat.reduceLeDiff,reduceIte]<;>rfl)|rfl)|exact Nat.le_of_ble_eq_true rfl|decide|(repeat' first|(apply Lk.go;constructor)|assumption|exact nb ‹_› ‹_›|exact nt ‹_› ‹_›))|assumption)
  refine avle_eq ?_
  rw [AV.bool.injEq]
  simp at h
  exact (decide_eq_false (fun e => h (by rw [e]))).symm
 ·intro h
  have hl : xs.length = ys.length := by simp at h; omega
  repeat' first|(apply Sp.go;·constructor<;>first|exact ss|(change _=_;first|(simp only[go_sem,Nat.reduceBEq,Nat.reduceAdd,Nat.reduceLeDiff,reduceIte]<;>rfl)|rfl)|exact Nat.le_of_ble_eq_true rfl|decide|(repeat' first|(apply Lk.go;constructor)|assumption|exact nb ‹_› ‹_›|exact nt ‹_› ‹_›))|(intro b hb;repeat first|(refine fe hb ?_;intro _ _ hb)|(refine fT hb ?_;intro hb))|refine rt ?_|refine gA rfl ?_|refine gB rfl ?_|apply cT rfl|apply cF rfl|(apply DM.gbT;rfl)|(apply DM.gbF;rfl)|intro h
  refine AM.loopX (X := Nat) 0 (fun i => [(0, .vs 1 (xs.map irow)), (1, .vs 1 (ys.map irow)), (12, .int .i64 xs.length), (13, .int .i64 (i : Int))]) (fun i H' => H' = H ∧ i ≤ xs.length ∧ decide (xs = ys) = decide (xs.drop i = ys.drop i)) (fun i => xs.length - i) ⟨rfl, by omega, by simp⟩ ?_ ?_
  ·refine envle_cons ?_ ?_
   ·(simp only [go_sem, Nat.reduceBEq]; exact AVLe.refl _)
   refine envle_cons ?_ ?_
   ·(simp only [go_sem, Nat.reduceBEq]; exact AVLe.refl _)
   refine envle_cons ?_ ?_
   ·simp only [go_sem, Nat.reduceBEq]
    exact avle_int (by simp)
   (repeat first | exact envle_nil _ | (refine envle_cons ?_ ?_; · (simp only [go_sem, Nat.reduceBEq, Nat.reduceAdd]; exact AVLe.refl _)))
  ·rintro i H' ⟨rfl, hi, he⟩
   repeat' first|(apply Sp.go;·constructor<;>first|exact ss|(change _=_;first|(simp only[go_sem,Nat.reduceBEq,Nat.reduceAdd,Nat.reduceLeDiff,reduceIte]<;>rfl)|rfl)|exact Nat.le_of_ble_eq_true rfl|decide|(repeat' first|(apply Lk.go;constructor)|assumption|exact nb ‹_› ‹_›|exact nt ‹_› ‹_›))|(intro b hb;repeat first|(refine fe hb ?_;intro _ _ hb)|(refine fT hb ?_;intro hb))|refine rt ?_|refine gA rfl ?_|refine gB rfl ?_|apply cT rfl|apply cF rfl|(apply DM.gbT;rfl)|(apply DM.gbF;rfl)|intro h
   (apply AM.cond; (· rfl))
   ·intro h3
    simp at h3
    obtain ⟨v, hv⟩ := some_of h3
    obtain ⟨w, hw⟩ := some_of (hl ▸ h3 : i < ys.length)
    rw [drop_consI hv, drop_consI hw] at he
    repeat' first|(apply Sp.go;·constructor<;>first|exact ss|(change _=_;first|(simp only[go_sem,Nat.reduceBEq,Nat.reduceAdd,Nat.reduceLeDiff,reduceIte]<;>rfl)|rfl)|exact Nat.le_of_ble_eq_true rfl|decide|(repeat' first|(apply Lk.go;constructor)|assumption|exact nb ‹_› ‹_›|exact nt ‹_› ‹_›))|(intro b hb;repeat first|(refine fe hb ?_;intro _ _ hb)|(refine fT hb ?_;intro hb))|refine rt ?_|refine gA rfl ?_|refine gB rfl ?_|apply cT rfl|apply cF rfl|(apply DM.gbT;rfl)|(apply DM.gbF;rfl)|(apply DM.ixV (row := irow v) (z := (i : Int)) (by omega) (row_getI hv); (· rfl); (· rfl))|(apply DM.ixV (row := irow w) (z := (i : Int)) (by omega) (row_getI hw); (· rfl); (· rfl))|intro h
    (apply AM.cond; (· rfl))
    ·intro h4
     simp at h4
     repeat' first|(apply Sp.go;·constructor<;>first|exact ss|(change _=_;first|(simp only[go_sem,Nat.reduceBEq,Nat.reduceAdd,Nat.reduceLeDiff,reduceIte]<;>rfl)|rfl)|exact Nat.le_of_ble_eq_true rfl|decide|(repeat' first|(apply Lk.go;constructor)|assumption|exact nb ‹_› ‹_›|exact nt ‹_› ‹_›))|(intro b hb;repeat first|(refine fe hb ?_;intro _ _ hb)|(refine fT hb ?_;intro hb))|refine rt ?_|refine gA rfl ?_|refine gB rfl ?_|apply cT rfl|apply cF rfl|(apply DM.gbT;rfl)|(apply DM.gbF;rfl)|intro h
     (apply Sr.go;·constructor<;>first|(apply Lk.go;constructor<;>first|exact ss|(change _=_;first|(simp only[go_sem,Nat.reduceBEq,Nat.reduceAdd,Nat.reduceLeDiff,reduceIte]<;>rfl)|rfl)|exact Nat.le_of_ble_eq_true rfl|decide|(repeat' first|(apply Lk.go;constructor)|assumption|exact nb ‹_› ‹_›|exact nt ‹_› ‹_›))|assumption)
     refine avle_eq ?_
     rw [AV.bool.injEq, he]
     exact (decide_eq_false (fun e => h4 (by simpa using (List.cons.inj e).1))).symm
    ·intro h4
     simp at h4
     repeat' first|(apply Sp.go;·constructor<;>first|exact ss|(change _=_;first|(simp only[go_sem,Nat.reduceBEq,Nat.reduceAdd,Nat.reduceLeDiff,reduceIte]<;>rfl)|rfl)|exact Nat.le_of_ble_eq_true rfl|decide|(repeat' first|(apply Lk.go;constructor)|assumption|exact nb ‹_› ‹_›|exact nt ‹_› ‹_›))|(intro b hb;repeat first|(refine fe hb ?_;intro _ _ hb)|(refine fT hb ?_;intro hb))|refine rt ?_|refine gA rfl ?_|refine gB rfl ?_|apply cT rfl|apply cF rfl|(apply DM.gbT;rfl)|(apply DM.gbF;rfl)|intro h
     refine AM.roundX (i + 1) ⟨rfl, by omega, ?_⟩ ?_ ?_
     ·rw [he, h4, decide_eq_decide]
      simp
     ·(repeat first | exact envle_nil _ | (refine envle_cons ?_ ?_; · (simp only [go_sem, Nat.reduceBEq, Nat.reduceAdd]; exact AVLe.refl _)))
      refine envle_cons ?_ ?_
      ·simp only [go_sem, Nat.reduceBEq, Nat.reduceAdd]
       refine avle_int ?_
       rw [inc64 h3 hlen]
      exact envle_nil _
     ·show xs.length - (i + 1) < xs.length - i
      omega
   ·intro h3
    simp at h3
    repeat' first|(apply Sp.go;·constructor<;>first|exact ss|(change _=_;first|(simp only[go_sem,Nat.reduceBEq,Nat.reduceAdd,Nat.reduceLeDiff,reduceIte]<;>rfl)|rfl)|exact Nat.le_of_ble_eq_true rfl|decide|(repeat' first|(apply Lk.go;constructor)|assumption|exact nb ‹_› ‹_›|exact nt ‹_› ‹_›))|(intro b hb;repeat first|(refine fe hb ?_;intro _ _ hb)|(refine fT hb ?_;intro hb))|refine rt ?_|refine gA rfl ?_|refine gB rfl ?_|apply cT rfl|apply cF rfl|(apply DM.gbT;rfl)|(apply DM.gbF;rfl)|intro h
    (apply Sr.go;·constructor<;>first|(apply Lk.go;constructor<;>first|exact ss|(change _=_;first|(simp only[go_sem,Nat.reduceBEq,Nat.reduceAdd,Nat.reduceLeDiff,reduceIte]<;>rfl)|rfl)|exact Nat.le_of_ble_eq_true rfl|decide|(repeat' first|(apply Lk.go;constructor)|assumption|exact nb ‹_› ‹_›|exact nt ‹_› ‹_›))|assumption)
    refine avle_eq ?_
    rw [AV.bool.injEq, he, List.drop_eq_nil_of_le h3, List.drop_eq_nil_of_le (by omega)]
    rfl
theorem heq117 (st rr : List Int) (H : AHeap) (t v : Nat) (ht : H.tok t = some (.mu 3 1 v (st.map irow))) : PureAt Try.prog 117 [.ms t v, .vs 1 (rr.map irow)] H (.bool (decide (st = rr))) := by
 have hs : HSub AHeap.none H := ⟨fun _ _ h => by simp [AHeap.none] at h, fun _ _ h => by simp [AHeap.none] at h⟩
 refine Pure.borrow (p117 st rr) (FrzL.cons (Frz.ms hs ht rfl) (FrzL.cons (Frz.same hs) FrzL.nil)) ?_
 intro m m' v h
 simp only [Rv] at *
 exact h
abbrev St2 := List Int × List Int
abbrev s2row (s : St2) : List AV := [.vs 1 (s.1.map irow), .vs 1 (s.2.map irow)]
def srow : Option St2 → List AV
 | none => [.raw (.pointer none)]
 | some s => [.rp (s2row s) 0]
theorem srow_len (S : List (Option St2)) : ∀ r ∈ S.map srow, r.length = 1 := fun r h => by obtain ⟨v, _, rfl⟩ := List.mem_map.1 h; cases v <;> rfl
def reachP (S : List (Option St2)) (i : Nat) (s : St2) : Int × List (Option St2) := match S[i]? with
 | some (some old) => if old.1 = s.1 then (if old.2 = s.2 then (0, S) else (7, S)) else (11, S)
 | _ => (0, S.set i (some s))
theorem setT_id {H : AHeap} {t : Nat} {o : Own} (h : H.tok t = some o) : H.setT t o = H := by
 cases H
 simp only [AHeap.setT, AHeap.mk.injEq, true_and] at *
 funext x
 by_cases e : x = t
 ·subst e; simp [h]
 ·simp [e]
def RQ77 (H : AHeap) (ts v : Nat) (r : Int × List (Option St2)) (o : Out) (H' : AHeap) : Prop :=
 (r.1 = 0 → o = .ret (.tup []) ∧ H' = H.setT ts (.mu 123 1 v (r.2.map srow))) ∧ (r.1 ≠ 0 → o = .pan (stopv r.1) ∧ H' = H)
def RW77 (H : AHeap) (ts v : Nat) (r : Int × List (Option St2)) (o : Out) (H' : AHeap) : Prop :=
 (r.1 = 0 → o = .ret (.tup []) ∧ HSub (H.setT ts (.mu 123 1 v (r.2.map srow))) H') ∧ (r.1 ≠ 0 → o = .pan (stopv r.1) ∧ H' = H)
set_option maxHeartbeats 2000000 in
theorem p77 (H : AHeap) (cb ts v : Nat) (p : Prog) (ps rr : List Int) (S : List (Option St2)) (hcb : H.blk cb = some (122, ccells p ps rr (.ms ts v))) (hts : H.tok ts = some (.mu 123 1 v (S.map srow))) (i : Nat) (hi : i < S.length) (s : St2) :
  ACalls Try.prog 77 [.ptr cb 0, .int .i64 i, .rp (s2row s) 0] H (RQ77 H ts v (reachP S i s)) := by
 have hw : ACalls Try.prog 77 [.ptr cb 0, .int .i64 i, .rp (s2row s) 0] H (RW77 H ts v (reachP S i s)) := by
  refine acalls_of mo Try.func77 c77 ?_
  unfold e77 r77
  simp only [initEnv, initFrom]
  obtain ⟨so, hso⟩ := some_of hi
  repeat' first|(apply Sp.go;·constructor<;>first|exact ss|(change _=_;first|(simp only[go_sem,Nat.reduceBEq,Nat.reduceAdd,Nat.reduceLeDiff,reduceIte]<;>rfl)|rfl)|exact Nat.le_of_ble_eq_true rfl|decide|(repeat' first|(apply Lk.go;constructor)|assumption|exact nb ‹_› ‹_›|exact nt ‹_› ‹_›))|(intro b hb;repeat first|(refine fe hb ?_;intro _ _ hb)|(refine fT hb ?_;intro hb))|refine rt ?_|refine gA rfl ?_|refine gB rfl ?_|apply cT rfl|apply cF rfl|(apply DM.gbT;rfl)|(apply DM.gbF;rfl)|(apply DM.ixM; (· rfl); (· repeat' first|(apply Lk.go;constructor)|assumption|exact nb ‹_› ‹_›|exact nt ‹_› ‹_›|(apply Lm.go;constructor)); (· rfl); (· (first | omega | (simp only [List.length_map]; omega))); (· (first | omega | (simp only [List.length_map]; omega))))|intro h
  have hsr : (S.map srow)[i]? = some (srow so) := by rw [List.getElem?_map, hso]; rfl
  cases so with
  | none =>
   (apply DM.ldM1 (i := i) (j := 0); (· rfl); (· repeat' first|(apply Lk.go;constructor)|assumption|exact nb ‹_› ‹_›|exact nt ‹_› ‹_›|(apply Lm.go;constructor)); (· exact srow_len _); (· exact hsr); (· simp); (· rfl))
   repeat' first|(apply Sp.go;·constructor<;>first|exact ss|(change _=_;first|(simp only[go_sem,Nat.reduceBEq,Nat.reduceAdd,Nat.reduceLeDiff,reduceIte]<;>rfl)|rfl)|exact Nat.le_of_ble_eq_true rfl|decide|(repeat' first|(apply Lk.go;constructor)|assumption|exact nb ‹_› ‹_›|exact nt ‹_› ‹_›))|(intro b hb;repeat first|(refine fe hb ?_;intro _ _ hb)|(refine fT hb ?_;intro hb))|refine rt ?_|refine gA rfl ?_|refine gB rfl ?_|apply cT rfl|apply cF rfl|(apply DM.gbT;rfl)|(apply DM.gbF;rfl)|(apply DM.ixM; (· rfl); (· repeat' first|(apply Lk.go;constructor)|assumption|exact nb ‹_› ‹_›|exact nt ‹_› ‹_›|(apply Lm.go;constructor)); (· rfl); (· (first | omega | (simp only [List.length_map]; omega))); (· (first | omega | (simp only [List.length_map]; omega))))|(apply DM.stM (i := i); (· rfl); (· repeat' first|(apply Lk.go;constructor)|assumption|exact nb ‹_› ‹_›|exact nt ‹_› ‹_›|(apply Lm.go;constructor)); (· simp only [go_sem, Nat.reduceBEq, Nat.reduceAdd] <;> rfl); (· (· exact srow_len _)); (· exact hsr); (· simp); (· rfl); (· rfl))|intro h
   (first|refine AM.ret (v := .tup []) results_nil ?_|refine AM.done (v := .tup []) results_nil ?_)
   have e : reachP S i s = (0, S.set i (some s)) := by simp [reachP, hso]
   rw [e]
   refine ⟨fun _ => ⟨rfl, ?_⟩, fun h => absurd rfl h⟩
   rw [List.map_set]
   exact HSub.refl _
  | some old =>
   (apply DM.ldM1 (i := i) (j := 0); (· rfl); (· repeat' first|(apply Lk.go;constructor)|assumption|exact nb ‹_› ‹_›|exact nt ‹_› ‹_›|(apply Lm.go;constructor)); (· exact srow_len _); (· exact hsr); (· simp); (· rfl))
   repeat' first|(apply Sp.go;·constructor<;>first|exact ss|(change _=_;first|(simp only[go_sem,Nat.reduceBEq,Nat.reduceAdd,Nat.reduceLeDiff,reduceIte]<;>rfl)|rfl)|exact Nat.le_of_ble_eq_true rfl|decide|(repeat' first|(apply Lk.go;constructor)|assumption|exact nb ‹_› ‹_›|exact nt ‹_› ‹_›))|(intro b hb;repeat first|(refine fe hb ?_;intro _ _ hb)|(refine fT hb ?_;intro hb))|refine gA rfl ?_|refine gB rfl ?_|apply cT rfl|apply cF rfl|(apply DM.gbT;rfl)|(apply DM.gbF;rfl)|intro h
   (refine AM.reg [.bool (decide (old.1 = s.1))] ?_; simp only [annotate, AV.rows])
   repeat' first|(apply Sp.go;·constructor<;>first|exact ss|(change _=_;first|(simp only[go_sem,Nat.reduceBEq,Nat.reduceAdd,Nat.reduceLeDiff,reduceIte]<;>rfl)|rfl)|exact Nat.le_of_ble_eq_true rfl|decide|(repeat' first|(apply Lk.go;constructor)|assumption|exact nb ‹_› ‹_›|exact nt ‹_› ‹_›))|(intro b hb;repeat first|(refine fe hb ?_;intro _ _ hb)|(refine fT hb ?_;intro hb))|refine rt ?_|refine gA rfl ?_|refine gB rfl ?_|apply cT rfl|apply cF rfl|(apply DM.gbT;rfl)|(apply DM.gbF;rfl)|intro h
   (apply DM.pcRs (p117 old.1 s.1); (· simp only [go_sem, Nat.reduceBEq, Nat.reduceAdd] <;> rfl); (· exact AVLes.refl _))
   by_cases h1 : old.1 = s.1
   ·simp only [decide_eq_true h1]
    (apply DM.pcs (p115t 11); (· simp only [go_sem, Nat.reduceBEq, Nat.reduceAdd] <;> rfl); (· exact AVLes.refl _))
    repeat' first|(apply Sp.go;·constructor<;>first|exact ss|(change _=_;first|(simp only[go_sem,Nat.reduceBEq,Nat.reduceAdd,Nat.reduceLeDiff,reduceIte]<;>rfl)|rfl)|exact Nat.le_of_ble_eq_true rfl|decide|(repeat' first|(apply Lk.go;constructor)|assumption|exact nb ‹_› ‹_›|exact nt ‹_› ‹_›))|(intro b hb;repeat first|(refine fe hb ?_;intro _ _ hb)|(refine fT hb ?_;intro hb))|refine gA rfl ?_|refine gB rfl ?_|apply cT rfl|apply cF rfl|(apply DM.gbT;rfl)|(apply DM.gbF;rfl)|intro h
    (refine AM.reg [.bool (decide (old.2 = s.2))] ?_; simp only [annotate, AV.rows])
    repeat' first|(apply Sp.go;·constructor<;>first|exact ss|(change _=_;first|(simp only[go_sem,Nat.reduceBEq,Nat.reduceAdd,Nat.reduceLeDiff,reduceIte]<;>rfl)|rfl)|exact Nat.le_of_ble_eq_true rfl|decide|(repeat' first|(apply Lk.go;constructor)|assumption|exact nb ‹_› ‹_›|exact nt ‹_› ‹_›))|(intro b hb;repeat first|(refine fe hb ?_;intro _ _ hb)|(refine fT hb ?_;intro hb))|refine rt ?_|refine gA rfl ?_|refine gB rfl ?_|apply cT rfl|apply cF rfl|(apply DM.gbT;rfl)|(apply DM.gbF;rfl)|intro h
    (apply DM.pcRs (p117 old.2 s.2); (· simp only [go_sem, Nat.reduceBEq, Nat.reduceAdd] <;> rfl); (· exact AVLes.refl _))
    by_cases h2 : old.2 = s.2
    ·simp only [decide_eq_true h2]
     (apply DM.pcs (p115t 7); (· simp only [go_sem, Nat.reduceBEq, Nat.reduceAdd] <;> rfl); (· exact AVLes.refl _))
     repeat' first|(apply Sp.go;·constructor<;>first|exact ss|(change _=_;first|(simp only[go_sem,Nat.reduceBEq,Nat.reduceAdd,Nat.reduceLeDiff,reduceIte]<;>rfl)|rfl)|exact Nat.le_of_ble_eq_true rfl|decide|(repeat' first|(apply Lk.go;constructor)|assumption|exact nb ‹_› ‹_›|exact nt ‹_› ‹_›))|(intro b hb;repeat first|(refine fe hb ?_;intro _ _ hb)|(refine fT hb ?_;intro hb))|refine rt ?_|refine gA rfl ?_|refine gB rfl ?_|apply cT rfl|apply cF rfl|(apply DM.gbT;rfl)|(apply DM.gbF;rfl)|intro h
     (first|refine AM.ret (v := .tup []) results_nil ?_|refine AM.done (v := .tup []) results_nil ?_)
     have e : reachP S i s = (0, S) := by simp [reachP, hso, h1, h2]
     rw [e]
     refine ⟨fun _ => ⟨rfl, ?_⟩, fun h => absurd rfl h⟩
     rw [setT_id hts]
     exact HSub.refl _
    ·simp only [decide_eq_false h2]
     refine DM.calX (p115f 7 _) (by simp only [go_sem, Nat.reduceBEq, Nat.reduceAdd] <;> rfl) (AVLes.refl _) ?_
     rintro v' H' ⟨rfl, rfl⟩
     have e : reachP S i s = (7, S) := by simp [reachP, hso, h1, h2]
     rw [e]
     exact ⟨fun h => by simp at h, fun _ => ⟨rfl, rfl⟩⟩
   ·simp only [decide_eq_false h1]
    refine DM.calX (p115f 11 _) (by simp only [go_sem, Nat.reduceBEq, Nat.reduceAdd] <;> rfl) (AVLes.refl _) ?_
    rintro v' H' ⟨rfl, rfl⟩
    have e : reachP S i s = (11, S) := by simp [reachP, hso, h1]
    rw [e]
    exact ⟨fun h => by simp at h, fun _ => ⟨rfl, rfl⟩⟩
 exact hw.mono fun o H' ⟨h1, h2⟩ => by
  by_cases e : (reachP S i s).1 = 0
  ·obtain ⟨rfl, hs⟩ := h1 e
   exact ⟨.ret (.tup []), _, AVLe.refl _, hs, fun _ => ⟨rfl, rfl⟩, fun h => absurd e h⟩
  ·obtain ⟨rfl, rfl⟩ := h2 e
   exact ⟨.pan _, H', AVLe.refl _, HSub.refl _, fun h => absurd h e, fun _ => ⟨rfl, rfl⟩⟩
end Go.Aw.T
namespace Go.Aw.T
open Go Go.Aw Go.Proofs Go.RowKit
set_option maxRecDepth 100000
attribute [local irreducible] Go.Aw.DM Go.Aw.AHeap.setB Go.Aw.AHeap.setT
attribute [local go_sem] peval EOpd.ev Env.get binInt binStr binBool buildParts AV.cells AV.okc setRange minmaxAV AV.one AV.ofCells eqCells eqCell bslRows cond_true cond_false beq_self_eq_true Bool.not_true Bool.not_false beq_true beq_false eq_self if_true Option.some.injEq List.length_cons List.length_nil List.take_succ_cons List.take_zero List.drop_succ_cons List.drop_zero List.set_cons_succ List.set_cons_zero List.nil_append List.cons_append List.append_nil and_self Option.map_some List.map_cons List.map_nil Bool.false_eq_true if_false Nat.zero_add Nat.add_zero true_and and_true Bool.and_true Bool.true_and List.getElem?_cons_zero List.getElem?_cons_succ Nat.zero_le Nat.le_refl
set_option linter.unusedSimpArgs false
set_option linter.unusedVariables false
section
variable {P : Program} {d : Nat} {d? : Option Nat} {l : List EI} {env : Env} {H : AHeap} {K : Env → AHeap → Prop} {Rp : AV → AHeap → Prop} {x a v : EOpd} {cs new cs' : List AV} {b o n : Nat} {T : TypeId} {r : AV}
theorem DM.ldDx {me : Nat} (hm : env.get me = .ptr b 0) (hx : x.ev env = .ptr b o) (hb : H.blk b = some (T, cs)) (hg : cs[o]? = some r) (h : DM P l ((d, r) :: env) H K Rp) : DM P (⟨some d, none, .loadD me false 1 x⟩ :: l) env H K Rp := by
 refine DM.p (v := r) ?_ h
 have hl := (List.getElem?_eq_some_iff.1 hg).1
 simp only [peval, hm, hx, hb, if_true]
 rw [if_pos (by omega), take_one hg]
 rfl
theorem DM.stDA {me : Nat} {others : List Nat} (hme : env.get me = .ptr b 0) (hoth : ∀ s ∈ others, ∃ b', env.get s = .ptr b' 0 ∧ b' ≠ b) (ha : a.ev env = .ptr b o) (hb : H.blk b = some (T, cs)) (hv : v.ev env = .agg new) (ho : new.all AV.one = true) (hn : new.length = n) (hl : o + n ≤ cs.length) (hs : setRange cs o new = cs') (h : DM P l env (H.setB b T cs') K Rp) : DM P (⟨none, none, .storeD me others n a v⟩ :: l) env H K Rp := by
 simp only [DM, wanted]
 have hcc : (v.ev env).cells = new := by rw [hv]; rfl
 exact IStep.storeD hme hoth ha hb (by rw [hcc]; exact hn) hl (by rw [hcc]; exact ho) (by rw [hcc, hs]; exact h)
end
theorem results_c1 {env : Env} {H : AHeap} {b : Nat} {T : TypeId} {a' : Nat} {r : AV} (hx : env.get a' = .ptr b 0) (hb : H.blk b = some (T, [r])) : Aw.results [.cell false 1 a'] env H = some r := by
 simp [Aw.results, ERes.ev, peval, EOpd.ev, hx, hb, AV.ofCells]
theorem DCalls.mono {P : Program} {f : FuncId} {caps : List AV} {x : AV} {H : AHeap} {Q Q' : AHeap → Prop} (h : DCalls P f caps x H Q) (hq : ∀ H', Q H' → Q' H') : DCalls P f caps x H Q' :=
 fun m vs cv e rh hv hcv => (h m vs cv e rh hv hcv).mono fun e u' w' ⟨h1, h2, H', L', T', r1, r2, r3⟩ => ⟨h1, h2, H', L', T', r1, r2, hq _ r3⟩
def lookP (p : Prog) (ps rr : List Int) (S : List (Option St2)) (i : Nat) : Int × List (Option St2) := match p.code[i]?, S[i]? with
 | some x, some (some s) => match valuesP p ps rr x s.1 with
  | none => (11, S)
  | some st => match loopsP p i x s.2 with
   | none => (7, S)
   | some lo =>
    let r1 := if x.op = 19 ∨ x.op = 24 then (0, S) else reachP S (i + 1) (st, lo)
    if r1.1 = 0 ∧ (x.op = 19 ∨ x.op = 20 ∨ x.op = 22) then reachP r1.2 x.n.toNat (st, lo) else r1
 | _, _ => (0, S)
def RQ44 (H Hb : AHeap) (ts v : Nat) (r : Int × List (Option St2)) (o : Out) (H' : AHeap) : Prop :=
 o = .ret (.int .i64 r.1) ∧ (r.1 = 0 → H' = H.setT ts (.mu 123 1 v (r.2.map srow))) ∧ HSub Hb H'
def RW44 (H Hb : AHeap) (ts v : Nat) (r : Int × List (Option St2)) (o : Out) (H' : AHeap) : Prop :=
 o = .ret (.int .i64 r.1) ∧ (r.1 = 0 → HSub (H.setT ts (.mu 123 1 v (r.2.map srow))) H') ∧ HSub Hb H'
def RI44 (H : AHeap) (be : Nat) (Hb : AHeap) (ts v : Nat) (r : Int × List (Option St2)) (o : Out) (H' : AHeap) : Prop := match o with
 | .ret w => RW44 H Hb ts v r (.ret w) H'
 | .pan x => x = stopv r.1 ∧ r.1 ≠ 0 ∧ HSub Hb H' ∧ H'.blk be = some (33, [.int .i64 0])
theorem target_ok {p : Prog} {x : Ins_} (hv : validP p = true) (hx : x ∈ p.code) (ho : x.op = 19 ∨ x.op = 20 ∨ x.op = 22) : 0 ≤ x.n ∧ x.n < p.code.length := by
 have h := jump_ok hv hx
 have h2 : ¬ (x.op = 3 ∨ x.op = 5) := by omega
 simp only [okIns, Bool.and_eq_true] at h
 have h3 := h.2
 rw [if_neg h2, if_pos ho] at h3
 simp only [Prog.target, inB, Bool.and_eq_true, decide_eq_true_eq] at h3
 omega
theorem reachP_len (S : List (Option St2)) (i : Nat) (s : St2) : (reachP S i s).2.length = S.length := by
 unfold reachP
 split
 ·split
  ·split <;> rfl
  ·rfl
 ·simp
theorem hsub_setT {A B : AHeap} (h : HSub A B) (t : Nat) (o : Own) : HSub (A.setT t o) (B.setT t o) :=
 ⟨fun x y e => by simp only [AHeap.setT] at e ⊢; exact h.blk x y e, fun x y e => by
  simp only [AHeap.setT] at e ⊢
  by_cases k : x = t
  ·rw [if_pos k] at e ⊢; exact e
  ·rw [if_neg k] at e ⊢; exact h.tok x y e⟩
theorem DM.call77 {d? : Option Nat} {l : List EI} {env : Env} {K : Env → AHeap → Prop} {Rp : AV → AHeap → Prop} {f : FuncId} {args : List EOpd} {aa az' : List AV} {H : AHeap} {ts v : Nat} {r : Int × List (Option St2)} (hc : ACalls Try.prog f aa H (RQ77 H ts v r)) (hm : args.map (EOpd.ev env) = az') (ha : AVLes az' aa)
  (h0 : r.1 = 0 → DM Try.prog l (env.put d? (.tup [])) (H.setT ts (.mu 123 1 v (r.2.map srow))) K Rp) (h1 : r.1 ≠ 0 → Rp (stopv r.1) H) : DM Try.prog (⟨d?, none, .call f args⟩ :: l) env H K Rp := by
 simp only [DM, wanted]
 refine IStep.call _ (hm ▸ ha) hc fun o H' ⟨g1, g2⟩ => ?_
 by_cases e : r.1 = 0
 ·obtain ⟨rfl, rfl⟩ := g1 e
  exact h0 e
 ·obtain ⟨rfl, rfl⟩ := g2 e
  exact h1 e
def tail44 : EC := match e44 with
 | .seq _ (.seq _ (.seq _ (.seq _ t))) => t
 | _ => .skip
def head44 (t : EC) : EC := match e44 with
 | .seq a (.seq b (.seq c (.seq d _))) => .seq a (.seq b (.seq c (.seq d t)))
 | _ => .skip
def tail44b : EC := match tail44 with
 | .seq _ (.seq _ t) => t
 | _ => .skip
def mid44 (t : EC) : EC := match tail44 with
 | .seq a (.seq b _) => .seq a (.seq b t)
 | _ => .skip
set_option maxHeartbeats 8000000 in
theorem p44 (H Hb : AHeap) (cb ts v : Nat) (p : Prog) (hval : validP p = true) (ps rr : List Int) (hps : ps.length ≤ 1000) (S : List (Option St2)) (hS : S.length = p.code.length) (hcb : H.blk cb = some (122, ccells p ps rr (.ms ts v))) (hts : H.tok ts = some (.mu 123 1 v (S.map srow))) (hsub : HSub Hb H) (ft : Hb.tok ts = none)
  (i : Nat) (st lo : List Int) (hSi : S[i]? = some (some (st, lo))) (hst : st.length ≤ 1000) (hlo : lo.length ≤ 1000) (hlb : ∀ b ∈ lo, 0 ≤ b ∧ b ≤ 1000) :
  ACalls Try.prog 44 [.ptr cb 0, .int .i64 i] H (RQ44 H Hb ts v (lookP p ps rr S i)) := by
 have hi : i < S.length := (List.getElem?_eq_some_iff.1 hSi).1
 obtain ⟨x, hx⟩ := some_of (show i < p.code.length by omega)
 have hxm : x ∈ p.code := List.mem_of_getElem? hx
 have hcl := code_len hval
 have hw : ACalls Try.prog 44 [.ptr cb 0, .int .i64 i] H (RW44 H Hb ts v (lookP p ps rr S i)) := by
  refine acalls_of mo Try.func44 c44 ?_
  have hE : e44 = head44 tail44 := rfl
  have hnw : tail44.noW 4 = true := rfl
  rw [hE]
  clear hE
  generalize hTT : tail44 = TT at *
  unfold head44 e44 r44
  simp only [initEnv, initFrom]
  repeat' first|(apply Sp.go;·constructor<;>first|exact ss|(change _=_;first|(simp only[go_sem,Nat.reduceBEq,Nat.reduceAdd,Nat.reduceLeDiff,reduceIte]<;>rfl)|rfl)|exact Nat.le_of_ble_eq_true rfl|decide|(repeat' first|(apply Lk.go;constructor)|assumption|exact nb ‹_› ‹_›|exact nt ‹_› ‹_›))|(intro b hb;repeat first|(refine fe hb ?_;intro _ _ hb)|(refine fT hb ?_;intro hb))|refine rt ?_|refine gA rfl ?_|refine gB rfl ?_|apply cT rfl|apply cF rfl|(apply DM.gbT;rfl)|(apply DM.gbF;rfl)|intro h
  rename Nat => be
  have hbe : H.blk be = none := by assumption
  have hcbe : cb ≠ be := (ne_blk hbe hcb).2
  refine AM.dfr (R' := RI44 H be Hb ts v (lookP p ps rr S i)) (kt := [(4, .ptr be 0)]) ?_ ?_ ?_ ?_ ?_ ?_ ?_ ?_ ?_
  ·exact fun j => EnvLe.get (envle_cons (AVLe.refl _) (envle_nil _)) j
  ·intro q hq
   simp only [List.mem_cons, List.not_mem_nil, or_false] at hq
   subst hq
   simp [Item.noW, EC.noW, hnw]
  ·intro q hq
   simp only [List.mem_cons, List.not_mem_nil, or_false] at hq
   subst hq
   exact (by decide : (8 : Nat) ≠ 4)
  ·rfl
  ·rfl
  ·exact d73i be
  ·exact fun w H' h => h
  ·rintro w H' ⟨rfl, h0, hs, hbk⟩
   refine DCalls.mono (d73p be 0 _ H' hbk) fun H2 e => ?_
   subst e
   refine ⟨.int .i64 (lookP p ps rr S i).1, ?_, rfl, fun h => absurd h h0, ?_⟩
   ·exact results_c1 rfl g_same
   ·exact HSub.setB hs (hsub.none_blk hbe)
  have hH1c : (H.setB be 33 [.int .i64 0]).blk cb = some (122, ccells p ps rr (.ms ts v)) := g_ne hcbe hcb
  have hH1t : (H.setB be 33 [.int .i64 0]).tok ts = some (.mu 123 1 v (S.map srow)) := t_B hts
  have hH1e : (H.setB be 33 [.int .i64 0]).blk be = some (33, [.int .i64 0]) := g_same
  have hsub1 : HSub Hb (H.setB be 33 [.int .i64 0]) := HSub.setB hsub (hsub.none_blk hbe)
  have hsub0 : HSub H (H.setB be 33 [.int .i64 0]) := HSub.setB (HSub.refl _) hbe
  clear hb
  generalize hH1 : H.setB be 33 [.int .i64 0] = H1 at *
  repeat' first|(apply Sp.go;·constructor<;>first|exact ss|(change _=_;first|(simp only[go_sem,Nat.reduceBEq,Nat.reduceAdd,Nat.reduceLeDiff,reduceIte]<;>rfl)|rfl)|exact Nat.le_of_ble_eq_true rfl|decide|(repeat' first|(apply Lk.go;constructor)|assumption|exact nb ‹_› ‹_›|exact nt ‹_› ‹_›))|(intro b hb;repeat first|(refine fe hb ?_;intro _ _ hb)|(refine fT hb ?_;intro hb))|refine rt ?_|refine gA rfl ?_|refine gB rfl ?_|apply cT rfl|apply cF rfl|(apply DM.gbT;rfl)|(apply DM.gbF;rfl)|(apply DM.ixV (row := x.row) (z := (i : Int)) (by omega) (row_get Ins_.row hx); (· rfl); (· rfl))|intro h
  refine DM.ldDx (b := cb) (o := 8) rfl rfl hH1c rfl ?_
  repeat' first|(apply Sp.go;·constructor<;>first|exact ss|(change _=_;first|(simp only[go_sem,Nat.reduceBEq,Nat.reduceAdd,Nat.reduceLeDiff,reduceIte]<;>rfl)|rfl)|exact Nat.le_of_ble_eq_true rfl|decide|(repeat' first|(apply Lk.go;constructor)|assumption|exact nb ‹_› ‹_›|exact nt ‹_› ‹_›))|(intro b hb;repeat first|(refine fe hb ?_;intro _ _ hb)|(refine fT hb ?_;intro hb))|refine rt ?_|refine gA rfl ?_|refine gB rfl ?_|apply cT rfl|apply cF rfl|(apply DM.gbT;rfl)|(apply DM.gbF;rfl)|(apply DM.ixM; (· rfl); (· repeat' first|(apply Lk.go;constructor)|assumption|exact nb ‹_› ‹_›|exact nt ‹_› ‹_›|(apply Lv.go;constructor)); (· rfl); (· (first | omega | (simp only [List.length_map]; omega))); (· (first | omega | (simp only [List.length_map]; omega))))|(apply DM.ldM1 (i := i) (j := 0); (· rfl); (· repeat' first|(apply Lk.go;constructor)|assumption|exact nb ‹_› ‹_›|exact nt ‹_› ‹_›|(apply Lv.go;constructor)); (· exact srow_len _); (· (rw [List.getElem?_map, hSi]; rfl)); (· simp); (· rfl))|intro h
  have hb5 : H1.blk b = none := by assumption
  have hcb5 : cb ≠ b := (ne_blk hb5 hH1c).2
  have heb5 : be ≠ b := (ne_blk hb5 hH1e).2
  refine DM.stDA (b := b) (new := x.row) (cs' := x.row) rfl (fun s hs => by simp only [List.mem_cons, List.not_mem_nil, or_false] at hs; subst hs; exact ⟨cb, rfl, hcb5⟩) rfl g_same rfl rfl rfl (by decide) rfl ?_
  rw [setB_setB]
  have hc2 : (H1.setB b 88 x.row).blk cb = some (122, ccells p ps rr (.ms ts v)) := g_ne hcb5 hH1c
  have ht2 : (H1.setB b 88 x.row).tok ts = some (.mu 123 1 v (S.map srow)) := t_B hH1t
  have he2 : (H1.setB b 88 x.row).blk be = some (33, [.int .i64 0]) := g_ne heb5 hH1e
  have hx2 : (H1.setB b 88 x.row).blk b = some (88, x.row) := g_same
  have hsub2 : HSub Hb (H1.setB b 88 x.row) := HSub.setB hsub1 (hsub1.none_blk hb5)
  have hsub12 : HSub H1 (H1.setB b 88 x.row) := HSub.setB (HSub.refl _) hb5
  generalize hH2 : H1.setB b 88 x.row = H2 at *
  rename Nat => b5
  repeat' first|(apply Sp.go;·constructor<;>first|exact ss|(change _=_;first|(simp only[go_sem,Nat.reduceBEq,Nat.reduceAdd,Nat.reduceLeDiff,reduceIte]<;>rfl)|rfl)|exact Nat.le_of_ble_eq_true rfl|decide|(repeat' first|(apply Lk.go;constructor)|assumption|exact nb ‹_› ‹_›|exact nt ‹_› ‹_›))|(intro b hb;repeat first|(refine fe hb ?_;intro _ _ hb)|(refine fT hb ?_;intro hb))|refine gA rfl ?_|refine gB rfl ?_|apply cT rfl|apply cF rfl|(apply DM.gbT;rfl)|(apply DM.gbF;rfl)|intro h
  (refine AM.reg [.vs 1 (st.map irow), .vs 1 (lo.map irow)] ?_; simp only [annotate, AV.rows])
  repeat' first|(apply Sp.go;·constructor<;>first|exact ss|(change _=_;first|(simp only[go_sem,Nat.reduceBEq,Nat.reduceAdd,Nat.reduceLeDiff,reduceIte]<;>rfl)|rfl)|exact Nat.le_of_ble_eq_true rfl|decide|(repeat' first|(apply Lk.go;constructor)|assumption|exact nb ‹_› ‹_›|exact nt ‹_› ‹_›))|(intro b hb;repeat first|(refine fe hb ?_;intro _ _ hb)|(refine fT hb ?_;intro hb))|refine rt ?_|refine gA rfl ?_|refine gB rfl ?_|apply cT rfl|apply cF rfl|(apply DM.gbT;rfl)|(apply DM.gbF;rfl)|intro h
  apply DM.pcm (p74 st hst)
  ·simp only [List.map_cons, List.map_nil, EOpd.ev, Env.get, Nat.reduceBEq, cond_true, cond_false, beq_self_eq_true] <;> rfl
  ·exact AVLes.refl _
  intro t1 ht1
  repeat' first|(apply Sp.go;·constructor<;>first|exact ss|(change _=_;first|(simp only[go_sem,Nat.reduceBEq,Nat.reduceAdd,Nat.reduceLeDiff,reduceIte]<;>rfl)|rfl)|exact Nat.le_of_ble_eq_true rfl|decide|(repeat' first|(apply Lk.go;constructor)|assumption|exact nb ‹_› ‹_›|exact nt ‹_› ‹_›))|(intro b hb;repeat first|(refine fe hb ?_;intro _ _ hb)|(refine fT hb ?_;intro hb))|refine rt ?_|refine gA rfl ?_|refine gB rfl ?_|apply cT rfl|apply cF rfl|(apply DM.gbT;rfl)|(apply DM.gbF;rfl)|intro h
  apply DM.pcm (p74 lo hlo)
  ·simp only [List.map_cons, List.map_nil, EOpd.ev, Env.get, Nat.reduceBEq, cond_true, cond_false, beq_self_eq_true] <;> rfl
  ·exact AVLes.refl _
  intro t2 ht2'
  obtain ⟨n21, n12, ht2''⟩ := freshT_setT ht2'
  repeat' first|(apply Sp.go;·constructor<;>first|exact ss|(change _=_;first|(simp only[go_sem,Nat.reduceBEq,Nat.reduceAdd,Nat.reduceLeDiff,reduceIte]<;>rfl)|rfl)|exact Nat.le_of_ble_eq_true rfl|decide|(repeat' first|(apply Lk.go;constructor)|assumption|exact nb ‹_› ‹_›|exact nt ‹_› ‹_›))|(intro b hb;repeat first|(refine fe hb ?_;intro _ _ hb)|(refine fT hb ?_;intro hb))|refine gA rfl ?_|refine gB rfl ?_|apply cT rfl|apply cF rfl|(apply DM.gbT;rfl)|(apply DM.gbF;rfl)|intro h
  rename Nat => b7
  have hd : (⟨b7, t1, t2⟩ : RefV).Ok H2 := ⟨n12, by assumption, ht1, ht2''⟩
  refine AM.weakE [(0, .ptr cb 0), (1, .int .i64 i), (4, .ptr be 0), (5, .ptr b5 0), (7, .ptr b7 0)] ?_ ?_
  ·(repeat first | exact envle_nil _ | (refine envle_cons ?_ ?_; · (simp only [go_sem, Nat.reduceBEq, Nat.reduceAdd]; exact AVLe.refl _)))
  refine AM.forget (HV H2 ⟨b7, t1, t2⟩ st lo 0 0) ?_ ?_
  ·have hd1 := hd.fb
   have hd2 := hd.fs
   have hd3 := hd.fl
   (refine hsub_hv ?_ ?_ ?_ ?_ ?_<;>first|(intro x y h1 h2 h;repeat first|exact h|refine hv_oldT h1 h2 ?_|refine t_ne ‹_› ?_|refine t_fresh ‹_› ?_|refine t_B ?_)|(intro x y hx h;repeat first|exact h|refine hv_old hx ?_|refine g_ne hx ?_|refine g_ne (nb ‹_› h) ?_|refine g_fresh ‹_› ?_|refine g_T ?_)|(repeat' first|(apply Lk.go;constructor)|assumption|exact nb ‹_› ‹_›|exact nt ‹_› ‹_›|(apply Lv.go;constructor)))
  generalize hρ : (⟨b7, t1, t2⟩ : RefV) = ρ at *
  have hρb : b7 = ρ.b := by subst hρ; rfl
  rw [hρb]
  clear n21 n12 ht1 ht2' ht2''
  have hcρ : cb ≠ ρ.b := fun e => by subst e; rw [hd.fb] at hc2; cases hc2
  have hbρ : b5 ≠ ρ.b := fun e => by subst e; rw [hd.fb] at hx2; cases hx2
  subst hTT
  clear hnw
  rw [show tail44 = mid44 tail44b from rfl]
  generalize hT2 : tail44b = T2
  unfold mid44 tail44 e44
  dsimp only
  repeat' first|(apply Sp.go;·constructor<;>first|exact ss|(change _=_;first|(simp only[go_sem,Nat.reduceBEq,Nat.reduceAdd,Nat.reduceLeDiff,reduceIte]<;>rfl)|rfl)|exact Nat.le_of_ble_eq_true rfl|decide|(repeat' first|(apply Lk.go;constructor)|assumption|exact nb ‹_› ‹_›|exact nt ‹_› ‹_›|(apply Lv.go;constructor)))|(intro b hb;repeat first|(refine fe hb ?_;intro _ _ hb)|(refine fT hb ?_;intro hb)|(refine fresh_elimV hb ?_;intro _ _ hb))|refine rt ?_|refine gA rfl ?_|refine gB rfl ?_|apply cT rfl|apply cF rfl|(apply DM.gbT;rfl)|(apply DM.gbF;rfl)|intro h
  have hvars : x.op = 3 ∨ x.op = 5 → 0 ≤ x.n ∧ x.n < p.vars.length := (insOk hval hxm).var
  have hpar : x.op = 4 → 0 ≤ x.n := (insOk hval hxm).par
  cases hvv : valuesP p ps rr x st with
  | none =>
   have c := p75 hd cb p ps rr (.ms ts v) hc2 x st lo hst hps hvars hpar (fun H t v => heq117 st rr H t v)
   rw [hvv] at c
   refine DM.mvX (c) (by simp only [go_sem, Nat.reduceBEq, Nat.reduceAdd] <;> rfl) (AVLes.refl _) fun H' hh => ?_
   have hl : lookP p ps rr S i = (11, S) := by simp [lookP, hx, hSi, hvv]
   rw [hl]
   exact ⟨rfl, by simp, hsub2.trans hh, hh.blk _ _ he2⟩
  | some st' =>
   have c := p75 hd cb p ps rr (.ms ts v) hc2 x st lo hst hps hvars hpar (fun H t v => heq117 st rr H t v)
   rw [hvv] at c
   refine DM.mvO (c) (by simp only [go_sem, Nat.reduceBEq, Nat.reduceAdd] <;> rfl) (AVLes.refl _) fun vs' vl' => ?_
   simp only [put_some]
   repeat' first|(apply Sp.go;·constructor<;>first|exact ss|(change _=_;first|(simp only[go_sem,Nat.reduceBEq,Nat.reduceAdd,Nat.reduceLeDiff,reduceIte]<;>rfl)|rfl)|exact Nat.le_of_ble_eq_true rfl|decide|(repeat' first|(apply Lk.go;constructor)|assumption|exact nb ‹_› ‹_›|exact nt ‹_› ‹_›|(apply Lv.go;constructor)))|(intro b hb;repeat first|(refine fe hb ?_;intro _ _ hb)|(refine fT hb ?_;intro hb)|(refine fresh_elimV hb ?_;intro _ _ hb))|refine rt ?_|refine gA rfl ?_|refine gB rfl ?_|apply cT rfl|apply cF rfl|(apply DM.gbT;rfl)|(apply DM.gbF;rfl)|intro h
   cases hlv : loopsP p i x lo with
   | none =>
    have c := p76 hd cb p ps rr (.ms ts v) hc2 x st' lo i (by omega) hlo hlb hcl
    rw [hlv] at c
    refine DM.mvX (c) (by simp only [go_sem, Nat.reduceBEq, Nat.reduceAdd] <;> rfl) (AVLes.refl _) fun H' hh => ?_
    have hl : lookP p ps rr S i = (7, S) := by simp [lookP, hx, hSi, hvv, hlv]
    rw [hl]
    exact ⟨rfl, by simp, hsub2.trans hh, hh.blk _ _ he2⟩
   | some lo' =>
    have c := p76 hd cb p ps rr (.ms ts v) hc2 x st' lo i (by omega) hlo hlb hcl
    rw [hlv] at c
    refine DM.mvO (c) (by simp only [go_sem, Nat.reduceBEq, Nat.reduceAdd] <;> rfl) (AVLes.refl _) fun vs' vl' => ?_
    simp only [put_some]
    repeat' first|(apply Sp.go;·constructor<;>first|exact ss|(change _=_;first|(simp only[go_sem,Nat.reduceBEq,Nat.reduceAdd,Nat.reduceLeDiff,reduceIte]<;>rfl)|rfl)|exact Nat.le_of_ble_eq_true rfl|decide|(repeat' first|(apply Lk.go;constructor)|assumption|exact nb ‹_› ‹_›|exact nt ‹_› ‹_›|(apply Lv.go;constructor)))|(intro b hb;repeat first|(refine fe hb ?_;intro _ _ hb)|(refine fT hb ?_;intro hb)|(refine fresh_elimV hb ?_;intro _ _ hb))|refine rt ?_|refine gA rfl ?_|refine gB rfl ?_|apply cT rfl|apply cF rfl|(apply DM.gbT;rfl)|(apply DM.gbF;rfl)|intro h
    refine AM.weakE [(0, .ptr cb 0), (1, .int .i64 i), (4, .ptr be 0), (5, .ptr b5 0), (7, .ptr ρ.b 0)] ?_ ?_
    ·(repeat first | exact envle_nil _ | (refine envle_cons ?_ ?_; · (simp only [go_sem, Nat.reduceBEq, Nat.reduceAdd]; exact AVLe.refl _)))
    refine AM.frzB (cs' := s2row (st', lo')) H2 [(0, .ptr cb 0), (1, .int .i64 i), (4, .ptr be 0), (5, .ptr b5 0), (7, .rp (s2row (st', lo')) 0)] ρ.b hv_blk (hv_base hd) hd.fb (FrzL.cons (Frz.ms (hv_base hd) hv_ts hd.fs) (FrzL.cons (Frz.ms (hv_base hd) (hv_tl hd) hd.fl) FrzL.nil)) ?_ ?_
    ·intro j
     by_cases h7 : j = 7
     ·subst h7
      exact .inr (.inr ⟨0, rfl, rfl⟩)
     ·left
      have : ((7 : Nat) == j) = false := by simpa using Ne.symm h7
      simp only [Env.get, this, cond_false]
    have hw1 : IntKind.i64.wrap ((i : Int) + 1) = ((i + 1 : Nat) : Int) := by rw [wrap64 (by omega) (by omega)]; omega
    subst hT2
    unfold tail44b tail44 e44
    dsimp only
    have hbeT : ∀ o, (H.setT ts o).blk be = none := fun o => g_T hbe
    have hbbe : Hb.blk be = none := hsub.none_blk hbe
    have hsub02 : HSub H H2 := hsub0.trans hsub12
    by_cases hA : x.op = 19
    ·have d19 : decide (x.op = 19) = true := decide_eq_true (by omega)
     have d20 : decide (x.op = 20) = false := decide_eq_false (by omega)
     have d22 : decide (x.op = 22) = false := decide_eq_false (by omega)
     have d24 : decide (x.op = 24) = false := decide_eq_false (by omega)
     obtain ⟨tn, htn⟩ : ∃ tn : Nat, x.n = (tn : Int) := ⟨x.n.toNat, by have := (target_ok hval hxm (by omega)).1; omega⟩
     have htl := (target_ok hval hxm (by omega)).2
     repeat' first|(apply Sp.go;·constructor<;>first|exact ss|(change _=_;first|(simp only[go_sem,Nat.reduceBEq,Nat.reduceAdd,Nat.reduceLeDiff,reduceIte, d19, d20, d22, d24]<;>rfl)|rfl)|exact Nat.le_of_ble_eq_true rfl|decide|(repeat' first|(apply Lk.go;constructor)|assumption|exact nb ‹_› ‹_›|exact nt ‹_› ‹_›))|(intro b hb;repeat first|(refine fe hb ?_;intro _ _ hb)|(refine fT hb ?_;intro hb))|refine rt ?_|refine gA rfl ?_|refine gB rfl ?_|apply cT rfl|apply cF rfl|(apply DM.gbT;rfl)|(apply DM.gbF;rfl)|intro h
     rw [htn]
     have c2 := p77 H2 cb ts v p ps rr S hc2 ht2 tn (by omega) (st', lo')
     generalize hr2 : reachP S tn (st', lo') = r2 at c2
     have hl : lookP p ps rr S i = r2 := by simp [lookP, hx, hSi, hvv, hlv, hA, htn, hr2]
     refine DM.call77 c2 (by simp only [go_sem, Nat.reduceBEq, Nat.reduceAdd] <;> rfl) (AVLes.refl _) (fun z2 => ?_) (fun z2 => ?_)
     rotate_left
     ·rw [hl]
      exact ⟨rfl, z2, hsub2, he2⟩
     simp only [put_some]
     repeat' first|(apply Sp.go;·constructor<;>first|exact ss|(change _=_;first|(simp only[go_sem,Nat.reduceBEq,Nat.reduceAdd,Nat.reduceLeDiff,reduceIte]<;>rfl)|rfl)|exact Nat.le_of_ble_eq_true rfl|decide|(repeat' first|(apply Lk.go;constructor)|assumption|exact nb ‹_› ‹_›|exact nt ‹_› ‹_›))|(intro b hb;repeat first|(refine fe hb ?_;intro _ _ hb)|(refine fT hb ?_;intro hb))|refine rt ?_|refine gA rfl ?_|refine gB rfl ?_|apply cT rfl|apply cF rfl|(apply DM.gbT;rfl)|(apply DM.gbF;rfl)|intro h
     refine AM.ret (v := .int .i64 0) (results_c1 rfl g_same) ?_
     rw [hl]
     refine ⟨by rw [z2], fun _ => HSub.setB (hsub_setT hsub02 ts _) (hbeT _), HSub.setB (HSub.setT hsub2 ft) hbbe⟩
    by_cases hB : x.op = 24
    ·have d24 : decide (x.op = 24) = true := decide_eq_true (by omega)
     have d19 : decide (x.op = 19) = false := decide_eq_false (by omega)
     have d20 : decide (x.op = 20) = false := decide_eq_false (by omega)
     have d22 : decide (x.op = 22) = false := decide_eq_false (by omega)
     repeat' first|(apply Sp.go;·constructor<;>first|exact ss|(change _=_;first|(simp only[go_sem,Nat.reduceBEq,Nat.reduceAdd,Nat.reduceLeDiff,reduceIte, d19, d20, d22, d24]<;>rfl)|rfl)|exact Nat.le_of_ble_eq_true rfl|decide|(repeat' first|(apply Lk.go;constructor)|assumption|exact nb ‹_› ‹_›|exact nt ‹_› ‹_›))|(intro b hb;repeat first|(refine fe hb ?_;intro _ _ hb)|(refine fT hb ?_;intro hb))|refine rt ?_|refine gA rfl ?_|refine gB rfl ?_|apply cT rfl|apply cF rfl|(apply DM.gbT;rfl)|(apply DM.gbF;rfl)|intro h
     refine AM.ret (v := .int .i64 0) (results_c1 rfl g_same) ?_
     rw [show lookP p ps rr S i = (0, S) by simp [lookP, hx, hSi, hvv, hlv, hB]]
     refine ⟨rfl, fun _ => ?_, HSub.setB hsub2 hbbe⟩
     dsimp only
     rw [setT_id hts]
     exact HSub.setB hsub02 hbe
    have d19 : decide (x.op = 19) = false := decide_eq_false hA
    have d24 : decide (x.op = 24) = false := decide_eq_false hB
    have hlt : i + 1 < p.code.length := by
     have q : finP p i x lo' ≠ none := by
      simp only [loopsP, Option.bind_eq_some_iff] at hlv
      obtain ⟨l, _, q⟩ := hlv
      have : l = lo' := by simp only [finP] at q; split at q <;> simp at q; exact q
      rw [← this, q]
      simp
     simp only [finP] at q
     split at q
     ·omega
     ·exact absurd rfl q
    by_cases hC : x.op = 20 ∨ x.op = 22
    ·obtain ⟨tn, htn⟩ : ∃ tn : Nat, x.n = (tn : Int) := ⟨x.n.toNat, by have := (target_ok hval hxm (by omega)).1; omega⟩
     have htl := (target_ok hval hxm (by omega)).2
     rcases hC with hC | hC
     ·have d20 : decide (x.op = 20) = true := decide_eq_true (by omega)
      have d22 : decide (x.op = 22) = false := decide_eq_false (by omega)
      repeat' first|(apply Sp.go;·constructor<;>first|exact ss|(change _=_;first|(simp only[go_sem,Nat.reduceBEq,Nat.reduceAdd,Nat.reduceLeDiff,reduceIte, d19, d20, d22, d24]<;>rfl)|rfl)|exact Nat.le_of_ble_eq_true rfl|decide|(repeat' first|(apply Lk.go;constructor)|assumption|exact nb ‹_› ‹_›|exact nt ‹_› ‹_›))|(intro b hb;repeat first|(refine fe hb ?_;intro _ _ hb)|(refine fT hb ?_;intro hb))|refine rt ?_|refine gA rfl ?_|refine gB rfl ?_|apply cT rfl|apply cF rfl|(apply DM.gbT;rfl)|(apply DM.gbF;rfl)|intro h
      simp only [hw1]
      have c1 := p77 H2 cb ts v p ps rr S hc2 ht2 (i + 1) (by omega) (st', lo')
      have hlen1 := reachP_len S (i + 1) (st', lo')
      generalize hr1 : reachP S (i + 1) (st', lo') = r1 at c1 hlen1
      refine DM.call77 c1 (by simp only [go_sem, Nat.reduceBEq, Nat.reduceAdd] <;> rfl) (AVLes.refl _) (fun z1 => ?_) (fun z1 => ?_)
      rotate_left
      ·rw [show lookP p ps rr S i = r1 by simp [lookP, hx, hSi, hvv, hlv, hr1, z1, hA, hB]]
       exact ⟨rfl, z1, hsub2, he2⟩
      simp only [put_some]
      have hc3 : (H2.setT ts (.mu 123 1 v (r1.2.map srow))).blk cb = some (122, ccells p ps rr (.ms ts v)) := g_T hc2
      have hb53 : (H2.setT ts (.mu 123 1 v (r1.2.map srow))).blk b5 = some (88, x.row) := g_T hx2
      have he3 : (H2.setT ts (.mu 123 1 v (r1.2.map srow))).blk be = some (33, [.int .i64 0]) := g_T he2
      have ht3 : (H2.setT ts (.mu 123 1 v (r1.2.map srow))).tok ts = some (.mu 123 1 v (r1.2.map srow)) := t_same
      repeat' first|(apply Sp.go;·constructor<;>first|exact ss|(change _=_;first|(simp only[go_sem,Nat.reduceBEq,Nat.reduceAdd,Nat.reduceLeDiff,reduceIte, d19, d20, d22, d24]<;>rfl)|rfl)|exact Nat.le_of_ble_eq_true rfl|decide|(repeat' first|(apply Lk.go;constructor)|assumption|exact nb ‹_› ‹_›|exact nt ‹_› ‹_›))|(intro b hb;repeat first|(refine fe hb ?_;intro _ _ hb)|(refine fT hb ?_;intro hb))|refine rt ?_|refine gA rfl ?_|refine gB rfl ?_|apply cT rfl|apply cF rfl|(apply DM.gbT;rfl)|(apply DM.gbF;rfl)|intro h
      rw [htn]
      have c2 := p77 (H2.setT ts (.mu 123 1 v (r1.2.map srow))) cb ts v p ps rr r1.2 hc3 ht3 tn (by omega) (st', lo')
      generalize hr2 : reachP r1.2 tn (st', lo') = r2 at c2
      have hl : lookP p ps rr S i = r2 := by simp [lookP, hx, hSi, hvv, hlv, hr1, z1, hA, hB, hC, htn, hr2]
      refine DM.call77 c2 (by simp only [go_sem, Nat.reduceBEq, Nat.reduceAdd] <;> rfl) (AVLes.refl _) (fun z2 => ?_) (fun z2 => ?_)
      rotate_left
      ·rw [hl]
       exact ⟨rfl, z2, HSub.setT hsub2 ft, he3⟩
      simp only [put_some]
      repeat' first|(apply Sp.go;·constructor<;>first|exact ss|(change _=_;first|(simp only[go_sem,Nat.reduceBEq,Nat.reduceAdd,Nat.reduceLeDiff,reduceIte]<;>rfl)|rfl)|exact Nat.le_of_ble_eq_true rfl|decide|(repeat' first|(apply Lk.go;constructor)|assumption|exact nb ‹_› ‹_›|exact nt ‹_› ‹_›))|(intro b hb;repeat first|(refine fe hb ?_;intro _ _ hb)|(refine fT hb ?_;intro hb))|refine rt ?_|refine gA rfl ?_|refine gB rfl ?_|apply cT rfl|apply cF rfl|(apply DM.gbT;rfl)|(apply DM.gbF;rfl)|intro h
      refine AM.ret (v := .int .i64 0) (results_c1 rfl g_same) ?_
      rw [hl, setT_setT]
      refine ⟨by rw [z2], fun _ => HSub.setB (hsub_setT hsub02 ts _) (hbeT _), HSub.setB (HSub.setT hsub2 ft) hbbe⟩
     ·have d20 : decide (x.op = 20) = false := decide_eq_false (by omega)
      have d22 : decide (x.op = 22) = true := decide_eq_true (by omega)
      repeat' first|(apply Sp.go;·constructor<;>first|exact ss|(change _=_;first|(simp only[go_sem,Nat.reduceBEq,Nat.reduceAdd,Nat.reduceLeDiff,reduceIte, d19, d20, d22, d24]<;>rfl)|rfl)|exact Nat.le_of_ble_eq_true rfl|decide|(repeat' first|(apply Lk.go;constructor)|assumption|exact nb ‹_› ‹_›|exact nt ‹_› ‹_›))|(intro b hb;repeat first|(refine fe hb ?_;intro _ _ hb)|(refine fT hb ?_;intro hb))|refine rt ?_|refine gA rfl ?_|refine gB rfl ?_|apply cT rfl|apply cF rfl|(apply DM.gbT;rfl)|(apply DM.gbF;rfl)|intro h
      simp only [hw1]
      have c1 := p77 H2 cb ts v p ps rr S hc2 ht2 (i + 1) (by omega) (st', lo')
      have hlen1 := reachP_len S (i + 1) (st', lo')
      generalize hr1 : reachP S (i + 1) (st', lo') = r1 at c1 hlen1
      refine DM.call77 c1 (by simp only [go_sem, Nat.reduceBEq, Nat.reduceAdd] <;> rfl) (AVLes.refl _) (fun z1 => ?_) (fun z1 => ?_)
      rotate_left
      ·rw [show lookP p ps rr S i = r1 by simp [lookP, hx, hSi, hvv, hlv, hr1, z1, hA, hB]]
       exact ⟨rfl, z1, hsub2, he2⟩
      simp only [put_some]
      have hc3 : (H2.setT ts (.mu 123 1 v (r1.2.map srow))).blk cb = some (122, ccells p ps rr (.ms ts v)) := g_T hc2
      have hb53 : (H2.setT ts (.mu 123 1 v (r1.2.map srow))).blk b5 = some (88, x.row) := g_T hx2
      have he3 : (H2.setT ts (.mu 123 1 v (r1.2.map srow))).blk be = some (33, [.int .i64 0]) := g_T he2
      have ht3 : (H2.setT ts (.mu 123 1 v (r1.2.map srow))).tok ts = some (.mu 123 1 v (r1.2.map srow)) := t_same
      repeat' first|(apply Sp.go;·constructor<;>first|exact ss|(change _=_;first|(simp only[go_sem,Nat.reduceBEq,Nat.reduceAdd,Nat.reduceLeDiff,reduceIte, d19, d20, d22, d24]<;>rfl)|rfl)|exact Nat.le_of_ble_eq_true rfl|decide|(repeat' first|(apply Lk.go;constructor)|assumption|exact nb ‹_› ‹_›|exact nt ‹_› ‹_›))|(intro b hb;repeat first|(refine fe hb ?_;intro _ _ hb)|(refine fT hb ?_;intro hb))|refine rt ?_|refine gA rfl ?_|refine gB rfl ?_|apply cT rfl|apply cF rfl|(apply DM.gbT;rfl)|(apply DM.gbF;rfl)|intro h
      rw [htn]
      have c2 := p77 (H2.setT ts (.mu 123 1 v (r1.2.map srow))) cb ts v p ps rr r1.2 hc3 ht3 tn (by omega) (st', lo')
      generalize hr2 : reachP r1.2 tn (st', lo') = r2 at c2
      have hl : lookP p ps rr S i = r2 := by simp [lookP, hx, hSi, hvv, hlv, hr1, z1, hA, hB, hC, htn, hr2]
      refine DM.call77 c2 (by simp only [go_sem, Nat.reduceBEq, Nat.reduceAdd] <;> rfl) (AVLes.refl _) (fun z2 => ?_) (fun z2 => ?_)
      rotate_left
      ·rw [hl]
       exact ⟨rfl, z2, HSub.setT hsub2 ft, he3⟩
      simp only [put_some]
      repeat' first|(apply Sp.go;·constructor<;>first|exact ss|(change _=_;first|(simp only[go_sem,Nat.reduceBEq,Nat.reduceAdd,Nat.reduceLeDiff,reduceIte]<;>rfl)|rfl)|exact Nat.le_of_ble_eq_true rfl|decide|(repeat' first|(apply Lk.go;constructor)|assumption|exact nb ‹_› ‹_›|exact nt ‹_› ‹_›))|(intro b hb;repeat first|(refine fe hb ?_;intro _ _ hb)|(refine fT hb ?_;intro hb))|refine rt ?_|refine gA rfl ?_|refine gB rfl ?_|apply cT rfl|apply cF rfl|(apply DM.gbT;rfl)|(apply DM.gbF;rfl)|intro h
      refine AM.ret (v := .int .i64 0) (results_c1 rfl g_same) ?_
      rw [hl, setT_setT]
      refine ⟨by rw [z2], fun _ => HSub.setB (hsub_setT hsub02 ts _) (hbeT _), HSub.setB (HSub.setT hsub2 ft) hbbe⟩
    ·have d20 : decide (x.op = 20) = false := decide_eq_false (by omega)
     have d22 : decide (x.op = 22) = false := decide_eq_false (by omega)
     repeat' first|(apply Sp.go;·constructor<;>first|exact ss|(change _=_;first|(simp only[go_sem,Nat.reduceBEq,Nat.reduceAdd,Nat.reduceLeDiff,reduceIte, d19, d20, d22, d24]<;>rfl)|rfl)|exact Nat.le_of_ble_eq_true rfl|decide|(repeat' first|(apply Lk.go;constructor)|assumption|exact nb ‹_› ‹_›|exact nt ‹_› ‹_›))|(intro b hb;repeat first|(refine fe hb ?_;intro _ _ hb)|(refine fT hb ?_;intro hb))|refine rt ?_|refine gA rfl ?_|refine gB rfl ?_|apply cT rfl|apply cF rfl|(apply DM.gbT;rfl)|(apply DM.gbF;rfl)|intro h
     simp only [hw1]
     have c1 := p77 H2 cb ts v p ps rr S hc2 ht2 (i + 1) (by omega) (st', lo')
     have hlen1 := reachP_len S (i + 1) (st', lo')
     generalize hr1 : reachP S (i + 1) (st', lo') = r1 at c1 hlen1
     refine DM.call77 c1 (by simp only [go_sem, Nat.reduceBEq, Nat.reduceAdd] <;> rfl) (AVLes.refl _) (fun z1 => ?_) (fun z1 => ?_)
     rotate_left
     ·rw [show lookP p ps rr S i = r1 by simp [lookP, hx, hSi, hvv, hlv, hr1, z1, hA, hB]]
      exact ⟨rfl, z1, hsub2, he2⟩
     simp only [put_some]
     have hb53 : (H2.setT ts (.mu 123 1 v (r1.2.map srow))).blk b5 = some (88, x.row) := g_T hx2
     have he3 : (H2.setT ts (.mu 123 1 v (r1.2.map srow))).blk be = some (33, [.int .i64 0]) := g_T he2
     repeat' first|(apply Sp.go;·constructor<;>first|exact ss|(change _=_;first|(simp only[go_sem,Nat.reduceBEq,Nat.reduceAdd,Nat.reduceLeDiff,reduceIte, d19, d20, d22, d24]<;>rfl)|rfl)|exact Nat.le_of_ble_eq_true rfl|decide|(repeat' first|(apply Lk.go;constructor)|assumption|exact nb ‹_› ‹_›|exact nt ‹_› ‹_›))|(intro b hb;repeat first|(refine fe hb ?_;intro _ _ hb)|(refine fT hb ?_;intro hb))|refine rt ?_|refine gA rfl ?_|refine gB rfl ?_|apply cT rfl|apply cF rfl|(apply DM.gbT;rfl)|(apply DM.gbF;rfl)|intro h
     refine AM.ret (v := .int .i64 0) (results_c1 rfl g_same) ?_
     rw [show lookP p ps rr S i = r1 by simp [lookP, hx, hSi, hvv, hlv, hr1, hA, hB, hC]]
     refine ⟨by rw [z1], fun _ => HSub.setB (hsub_setT hsub02 ts _) (hbeT _), HSub.setB (HSub.setT hsub2 ft) hbbe⟩
 exact hw.mono fun o H' ⟨h1, h2, h3⟩ => by
  subst h1
  by_cases e : (lookP p ps rr S i).1 = 0
  ·exact ⟨.ret (.int .i64 (lookP p ps rr S i).1), _, AVLe.refl _, h2 e, rfl, fun _ => rfl, HSub.setT hsub ft⟩
  ·exact ⟨.ret (.int .i64 (lookP p ps rr S i).1), H', AVLe.refl _, HSub.refl _, rfl, fun h => absurd h e, h3⟩
theorem frz_ptr {m : Mem} (rh : RH m) {b : Nat} {T : TypeId} {cs cs' : List AV} (hb : m.H.blk b = some (T, cs)) (hc : FrzL m.H (m.H.dropB b) cs cs') {v : Value} (hv : Rv m (.ptr b 0) v) : Rv ⟨m.w, m.H.dropB b, m.L, m.T⟩ (.rp cs' 0) v := by
 simp only [Rv] at hv ⊢
 obtain ⟨l, g1, g2, g3⟩ := rh.blk b T cs hb
 refine ⟨b, 0, by simpa using hv, RvC.of (hc m rfl rh _ g2) fun i u hu => ?_⟩
 have hlt : b < m.w.heap.size := (Array.getElem?_eq_some_iff.1 g1).1
 refine ⟨?_, g3 u (List.mem_of_getElem? hu), hlt, by simp [AHeap.dropB], fun t i' hi hbk => ?_⟩
 ·rw [cell_of_row m.w b _ _ _ _ g1]
  simpa using hu
 ·have := ((rh.tok t i' hi).2.2.2 b hbk).1
  rw [this] at hb
  cases hb
theorem AM.frzBT {P : Program} {rs : List ERes} {R : Out → AHeap → Prop} {k : List Item} {env : Env} {H : AHeap} (b t j : Nat) {T Te : TypeId} {ver : Nat} {rows : List (List AV)} {cs cs' : List AV} (hb : H.blk b = some (T, cs)) (ht : H.tok t = some (.mu Te 1 ver rows)) (hj : rows[j]? = some [.ptr b 0]) (hc : FrzL H (H.dropB b) cs cs')
  (h : AM P rs R k env ((H.dropB b).setT t (.mu Te 1 ver (rows.set j [.rp cs' 0])))) : AM P rs R k env H := by
 refine AM.conv (fun env' H' => env' = env ∧ H' = (H.dropB b).setT t (.mu Te 1 ver (rows.set j [.rp cs' 0]))) (fun m e rh => ?_) (fun env' H' ⟨e1, e2⟩ => by subst e1; subst e2; exact h)
 subst e
 have hs := HSub.dropB m.H b
 have e1 : Ev m ⟨m.w, m.H, m.L, m.T⟩ := Ev.refl m
 have r1 : RH ⟨m.w, m.H.dropB b, m.L, m.T⟩ := RH.forget hs rh
 have v1 : Ev m ⟨m.w, m.H.dropB b, m.L, m.T⟩ := Ev.forget hs e1
 have ht1 : (⟨m.w, m.H.dropB b, m.L, m.T⟩ : Mem).H.tok t = some (.mu Te 1 ver rows) := ht
 obtain ⟨k1, k2, ⟨xs, k3, k5⟩, k4⟩ := rh.tok t _ ht
 obtain ⟨k6, k7, k8⟩ := k5 rows rfl
 have hlen : (rows.set j [.rp cs' 0]).length = rows.length := by simp
 have g0 : Grows0 ⟨m.w, m.H.dropB b, m.L, m.T⟩ m.w t (.mu Te 1 ver rows) (m.L t) (.mu Te 1 ver (rows.set j [.rp cs' 0])) := ⟨rfl, rfl, rfl, Nat.le_refl _, fun _ _ _ => rfl, fun _ _ _ _ => rfl, fun _ h => .inl h, Nat.le_refl _, rfl, rfl, Nat.le_refl _, fun _ => rfl⟩
 have v2 := Ev.gt r1 ht1 g0
 have hflat : RvL ⟨m.w, m.H.dropB b, m.L, m.T⟩ (rows.set j [.rp cs' 0]).flatten xs := by
  have key : ∀ (rows : List (List AV)) (j : Nat) (xs : List Value), RvL m rows.flatten xs → (∀ r ∈ rows, r.length = 1) → rows[j]? = some [.ptr b 0] → RvL ⟨m.w, m.H.dropB b, m.L, m.T⟩ (rows.set j [.rp cs' 0]).flatten xs := by
   intro rows
   induction rows with
   | nil => intro j xs _ _ h; simp at h
   | cons r rows ih =>
    intro j xs hx hl hjj
    obtain ⟨q, hq⟩ : ∃ q, r = [q] := by
     have := hl r (by simp)
     match r, this with
     | [q], _ => exact ⟨q, rfl⟩
    subst hq
    simp only [List.flatten_cons, List.cons_append, List.nil_append, RvL] at hx
    obtain ⟨u, us, rfl, h1, h2⟩ := hx
    cases j with
    | zero =>
     simp at hjj
     subst hjj
     simp only [List.set_cons_zero, List.flatten_cons, List.cons_append, List.nil_append, RvL]
     exact ⟨u, us, rfl, frz_ptr rh hb hc h1, RvL.forget (w := m.w) (L := m.L) (T := m.T) hs _ _ h2⟩
    | succ j =>
     simp at hjj
     simp only [List.set_cons_succ, List.flatten_cons, List.cons_append, List.nil_append, RvL]
     exact ⟨u, us, rfl, Rv.forget (w := m.w) (L := m.L) (T := m.T) hs _ _ h1, ih j us h2 (fun r hr => hl r (by simp [hr])) hjj⟩
  exact key rows j xs k6 k7 hj
 have r2 := RH.gt r1 ht1 (v := m.L t) (o := .mu Te 1 ver (rows.set j [.rp cs' 0])) ⟨g0, xs, by
  have := k3
  simp only [Own.mu, Own.len] at this ⊢
  rw [hlen]
  exact this, fun rows' hr => by
  cases hr
  exact ⟨RvL.ev v2 _ _ hflat, fun r hr => by
   rcases List.mem_or_eq_of_mem_set hr with h | h
   ·exact k7 r h
   ·rw [h]; rfl, k8⟩⟩
 have hL : (fun x => if x = t then m.L t else m.L x) = m.L := by
  funext x
  by_cases e : x = t
  ·rw [if_pos e, e]
  ·rw [if_neg e]
 refine ⟨env, _, (fun x => if x = t then m.L t else m.L x), m.T, ⟨rfl, rfl⟩, r2, v1.trans v2, fun q v hv => ?_⟩
 exact Rv.ev v2 _ _ (Rv.forget (w := m.w) (L := m.L) (T := m.T) hs _ _ hv)
theorem popsK_len : ∀ (ks st : List Int) {s : List Int}, popsK ks st = some s → s.length ≤ st.length
 | [], st, s, h => by simp [popsK] at h; subst h; omega
 | k :: ks, st, s, h => by
  simp only [popsK, Option.bind_eq_some_iff] at h
  obtain ⟨u, h1, h2⟩ := h
  have h3 := popsK_len ks u h2
  unfold popK at h1
  split at h1
  ·split at h1
   ·simp at h1; subst h1; simp at h3; omega
   ·cases h1
  ·cases h1
theorem pushK_len {k : Int} {st s : List Int} (h : pushK k st = some s) : s.length ≤ 16 := by
 unfold pushK at h
 split at h
 ·simp at h; subst h; simp; omega
 ·cases h
theorem popPush_len {ks : List Int} {k : Int} {st s : List Int} (h : (popsK ks st).bind (pushK k) = some s) : s.length ≤ 16 := by
 simp only [Option.bind_eq_some_iff] at h
 obtain ⟨u, _, h2⟩ := h
 exact pushK_len h2
theorem valuesP_len {p : Prog} {ps rr : List Int} {x : Ins_} {st s : List Int} (hst : st.length ≤ 16) (h : valuesP p ps rr x st = some s) : s.length ≤ 16 := by
 have ob : ∀ {k : Int} {o : Option Var_} , (o.bind fun v => pushK v.sort.k st) = some s → s.length ≤ 16 := fun h => by
  simp only [Option.bind_eq_some_iff] at h; obtain ⟨u, _, h2⟩ := h; exact pushK_len h2
 unfold valuesP at h
 by_cases h1 : x.op = 1
 ·rw [if_pos h1] at h; exact pushK_len h
 rw [if_neg h1] at h
 by_cases h1 : x.op = 2
 ·rw [if_pos h1] at h; exact pushK_len h
 rw [if_neg h1] at h
 by_cases h1 : x.op = 3
 ·rw [if_pos h1] at h; exact ob (k := 0) h
 rw [if_neg h1] at h
 by_cases h1 : x.op = 4
 ·rw [if_pos h1] at h
  by_cases h2 : x.n < ps.length
  ·rw [if_pos h2] at h
   simp only [Option.bind_eq_some_iff] at h; obtain ⟨u, _, h2⟩ := h; exact pushK_len h2
  ·rw [if_neg h2] at h; cases h
 rw [if_neg h1] at h
 by_cases h1 : x.op = 5
 ·rw [if_pos h1] at h
  simp only [Option.bind_eq_some_iff] at h; obtain ⟨u, _, h2⟩ := h; have := popsK_len _ _ h2; omega
 rw [if_neg h1] at h
 by_cases h1 : isArith x.op = true
 ·rw [if_pos h1] at h; exact popPush_len h
 rw [if_neg h1] at h
 by_cases h1 : x.op = 11 ∨ x.op = 14
 ·rw [if_pos h1] at h; exact popPush_len h
 rw [if_neg h1] at h
 by_cases h1 : x.op = 12
 ·rw [if_pos h1] at h
  cases hg : st.getLast? with
  | none => rw [hg] at h; cases h
  | some k =>
   rw [hg] at h
   dsimp only at h
   by_cases h2 : k = 1 ∨ k = 2
   ·rw [if_pos h2] at h; exact popPush_len h
   ·rw [if_neg h2] at h; cases h
 rw [if_neg h1] at h
 by_cases h1 : x.op = 17
 ·rw [if_pos h1] at h; exact popPush_len h
 rw [if_neg h1] at h
 by_cases h1 : x.op = 18
 ·rw [if_pos h1] at h; exact popPush_len h
 rw [if_neg h1] at h
 by_cases h1 : x.op = 20
 ·rw [if_pos h1] at h; have := popsK_len _ _ h; omega
 rw [if_neg h1] at h
 by_cases h1 : x.op = 24
 ·rw [if_pos h1] at h
  by_cases h2 : st = rr
  ·rw [if_pos h2] at h; cases h; exact hst
  ·rw [if_neg h2] at h; cases h
 ·rw [if_neg h1] at h; cases h; exact hst
structure StOk (p : Prog) (s : St2) : Prop where
 st : s.1.length ≤ 16
 lo : s.2.length ≤ 4
 ix : ∀ b ∈ s.2, 0 ≤ b ∧ b < p.code.length
def SOk (p : Prog) (S : List (Option St2)) : Prop := ∀ s, some s ∈ S → StOk p s
theorem loopsP_ok {p : Prog} {i : Nat} {x : Ins_} {lo l : List Int} (hi : i < p.code.length) (h1 : lo.length ≤ 4) (h2 : ∀ b ∈ lo, 0 ≤ b ∧ b < p.code.length) (h : loopsP p i x lo = some l) : l.length ≤ 4 ∧ ∀ b ∈ l, 0 ≤ b ∧ b < p.code.length := by
 simp only [loopsP, Option.bind_eq_some_iff] at h
 obtain ⟨u, h3, h4⟩ := h
 have e : u = l := by simp only [finP] at h4; split at h4 <;> simp at h4; exact h4
 subst e
 have dl : ∀ b ∈ lo.dropLast, 0 ≤ b ∧ b < p.code.length := fun b hb => h2 b (List.dropLast_subset _ hb)
 unfold loopsQ at h3
 repeat' split at h3
 all_goals first
  | (simp at h3; subst h3; exact ⟨by assumption, by assumption⟩)
  | (simp at h3; subst h3; refine ⟨by simp; omega, fun b hb => ?_⟩; simp at hb; rcases hb with hb | hb; exact h2 b hb; subst hb; omega)
  | (simp at h3; subst h3; exact ⟨by simp; omega, dl⟩)
  | (cases h3; done)
  | (simp at h3; done)
theorem reachP_ok {p : Prog} {S : List (Option St2)} {j : Nat} {s : St2} (h : SOk p S) (hs : StOk p s) : SOk p (reachP S j s).2 := by
 unfold reachP
 split
 ·split
  ·split <;> exact h
  ·exact h
 ·intro u hu
  rcases List.mem_or_eq_of_mem_set hu with h1 | h1
  ·exact h u h1
  ·cases h1; exact hs
theorem reachP_keep {S : List (Option St2)} {i j : Nat} {s s0 : St2} (h : S[i]? = some (some s0)) : (reachP S j s).2[i]? = some (some s0) := by
 unfold reachP
 split
 ·split
  ·split <;> exact h
  ·exact h
 ·rename_i hj
  dsimp only
  rw [List.getElem?_set]
  split
  ·rename_i e
   subst e
   exact absurd h (hj s0)
  ·exact h
theorem lookP_ok {p : Prog} {ps rr : List Int} {S : List (Option St2)} {i : Nat} {s0 : St2} (hi : i < p.code.length) (hS : S[i]? = some (some s0)) (h : SOk p S) : SOk p (lookP p ps rr S i).2 ∧ (lookP p ps rr S i).2.length = S.length ∧ (lookP p ps rr S i).2[i]? = some (some s0) := by
 obtain ⟨x, hx⟩ := some_of hi
 have h0 := h s0 (List.mem_of_getElem? hS)
 simp only [lookP, hx, hS]
 cases hv : valuesP p ps rr x s0.1 with
 | none => exact ⟨h, rfl, hS⟩
 | some st =>
  dsimp only
  cases hl : loopsP p i x s0.2 with
  | none => exact ⟨h, rfl, hS⟩
  | some lo =>
   dsimp only
   have hs : StOk p (st, lo) := by
    obtain ⟨q1, q2⟩ := loopsP_ok hi h0.lo h0.ix hl
    exact ⟨valuesP_len h0.st hv, q1, q2⟩
   have k1 : SOk p (if x.op = 19 ∨ x.op = 24 then ((0, S) : Int × List (Option St2)) else reachP S (i + 1) (st, lo)).2 ∧ (if x.op = 19 ∨ x.op = 24 then ((0, S) : Int × List (Option St2)) else reachP S (i + 1) (st, lo)).2.length = S.length ∧ (if x.op = 19 ∨ x.op = 24 then ((0, S) : Int × List (Option St2)) else reachP S (i + 1) (st, lo)).2[i]? = some (some s0) := by
    split
    ·exact ⟨h, rfl, hS⟩
    ·exact ⟨reachP_ok h hs, reachP_len _ _ _, reachP_keep hS⟩
   generalize (if x.op = 19 ∨ x.op = 24 then ((0, S) : Int × List (Option St2)) else reachP S (i + 1) (st, lo)) = r1 at *
   obtain ⟨k1, k2, k3⟩ := k1
   split
   ·exact ⟨reachP_ok k1 hs, (reachP_len _ _ _).trans k2, reachP_keep k3⟩
   ·exact ⟨k1, k2, k3⟩
def mulR (p : Prog) (n b : Int) : Int := IntKind.i64.wrap (n * ((p.code[b.toNat]?).map (·.n)).getD 0)
def roundsP (p : Prog) (lo : List Int) : Int := lo.foldl (mulR p) 1
def costF (p : Prog) (ps rr : List Int) : Nat → Nat → List (Option St2) → Int → Int × Int × Int
 | 0, _, _, c => (c, 0, 0)
 | k + 1, i, S, c => match S[i]? with
  | some (some s) => if (lookP p ps rr S i).1 = 0 then costF p ps rr k (i + 1) (lookP p ps rr S i).2 (IntKind.i64.wrap (c + roundsP p s.2)) else (0, (i : Int), (lookP p ps rr S i).1)
  | _ => costF p ps rr k (i + 1) S c
def start0 (n e : Nat) : List (Option St2) := (List.replicate n none).set e (some ([], []))
def costP (p : Prog) (e : Int) (ps rr : List Int) : Int × Int × Int := if validP p = false ∨ e < 0 ∨ (p.code.length : Int) ≤ e then (0, 0, 1) else costF p ps rr (p.code.length - e.toNat) e.toNat (start0 p.code.length e.toNat) 0
def tail17 : EC := match e17 with
 | .seq _ (.seq _ (.seq _ (.seq _ t))) => t
 | _ => .skip
def head17 (t : EC) : EC := match e17 with
 | .seq a (.seq b (.seq c (.seq d _))) => .seq a (.seq b (.seq c (.seq d t)))
 | _ => .skip
def HC (H : AHeap) (p : Prog) (ps rr : List Int) (b4 cb ts : Nat) (S : List (Option St2)) : AHeap := ((H.setB b4 41 p.cells).setB cb 122 (ccells p ps rr (.ms ts 0))).setT ts (.mu 123 1 0 (S.map srow))
theorem hc_set {H : AHeap} {p : Prog} {ps rr : List Int} {b4 cb ts : Nat} {S S' : List (Option St2)} : (HC H p ps rr b4 cb ts S).setT ts (.mu 123 1 0 (S'.map srow)) = HC H p ps rr b4 cb ts S' := by
 simp only [HC, setT_setT]
theorem hsub_hc {H H' : AHeap} {p : Prog} {ps rr : List Int} {b4 cb ts : Nat} {S : List (Option St2)} (h1 : H'.blk b4 = some (41, p.cells)) (h2 : H'.blk cb = some (122, ccells p ps rr (.ms ts 0))) (h3 : H'.tok ts = some (.mu 123 1 0 (S.map srow)))
  (h4 : ∀ x y, x ≠ b4 → x ≠ cb → H.blk x = some y → H'.blk x = some y) (h5 : ∀ x y, x ≠ ts → H.tok x = some y → H'.tok x = some y) : HSub (HC H p ps rr b4 cb ts S) H' where
 blk := fun x y h => by
  simp only [HC, AHeap.setB, AHeap.setT] at h
  by_cases e : x = cb
  ·subst e; rw [if_pos rfl] at h; rw [h2]; exact h
  ·rw [if_neg e] at h
   by_cases e2 : x = b4
   ·subst e2; rw [if_pos rfl] at h; rw [h1]; exact h
   ·rw [if_neg e2] at h; exact h4 x y e2 e h
 tok := fun x y h => by
  simp only [HC, AHeap.setB, AHeap.setT] at h
  by_cases e : x = ts
  ·subst e; rw [if_pos rfl] at h; rw [h3]; exact h
  ·rw [if_neg e] at h; exact h5 x y e h
theorem DM.call44 {d? : Option Nat} {l : List EI} {env : Env} {K : Env → AHeap → Prop} {Rp : AV → AHeap → Prop} {f : FuncId} {args : List EOpd} {aa az' : List AV} {H Hb : AHeap} {ts v : Nat} {r : Int × List (Option St2)} (hc : ACalls Try.prog f aa H (RQ44 H Hb ts v r)) (hm : args.map (EOpd.ev env) = az') (ha : AVLes az' aa)
  (h0 : r.1 = 0 → DM Try.prog l (env.put d? (.int .i64 0)) (H.setT ts (.mu 123 1 v (r.2.map srow))) K Rp) (h1 : r.1 ≠ 0 → ∀ H', HSub Hb H' → DM Try.prog l (env.put d? (.int .i64 r.1)) H' K Rp) : DM Try.prog (⟨d?, none, .call f args⟩ :: l) env H K Rp := by
 simp only [DM, wanted]
 refine IStep.call _ (hm ▸ ha) hc fun o H' ⟨g1, g2, g3⟩ => ?_
 subst g1
 by_cases e : r.1 = 0
 ·rw [g2 e]
  rw [e]
  exact h0 e
 ·exact h1 e H' g3
theorem costF_skip {p : Prog} {ps rr : List Int} {k i : Nat} {S : List (Option St2)} {c : Int} (h : S[i]? = some none) : costF p ps rr (k + 1) i S c = costF p ps rr k (i + 1) S c := by simp only [costF, h]
theorem costF_err {p : Prog} {ps rr : List Int} {k i : Nat} {S : List (Option St2)} {c : Int} {s : St2} (h : S[i]? = some (some s)) (h1 : (lookP p ps rr S i).1 ≠ 0) : costF p ps rr (k + 1) i S c = (0, (i : Int), (lookP p ps rr S i).1) := by simp only [costF, h, if_neg h1]
theorem costF_ok {p : Prog} {ps rr : List Int} {k i : Nat} {S : List (Option St2)} {c : Int} {s : St2} (h : S[i]? = some (some s)) (h1 : (lookP p ps rr S i).1 = 0) : costF p ps rr (k + 1) i S c = costF p ps rr k (i + 1) (lookP p ps rr S i).2 (IntKind.i64.wrap (c + roundsP p s.2)) := by simp only [costF, h, if_pos h1]
def RT17 (H : AHeap) (r : Int × Int × Int) (o : Out) (H' : AHeap) : Prop := ∃ a, o = Out.ret a ∧ AVLe a (.tup [.int .i64 r.1, .int .i64 r.2.1, .int .i64 r.2.2]) ∧ HSub H H'
theorem rt17 {H : AHeap} {r : Int × Int × Int} {a b c : Int} {H' : AHeap} (h : r = (a, b, c)) (hh : HSub H H') : RT17 H r (.ret (.tup [.int .i64 a, .int .i64 b, .int .i64 c])) H' := ⟨_, rfl, by subst h; exact AVLe.refl _, hh⟩
set_option maxHeartbeats 8000000 in
theorem t17 (p : Prog) (ei : Nat) (ps rr : List Int) (hps : ps.length ≤ 1000) (hval : validP p = true) (hei : ei ≤ p.code.length) (H : AHeap) (b4 cb ts : Nat) (hb4 : H.blk b4 = none) (hcb : H.blk cb = none) (hne : cb ≠ b4) (hts : H.tok ts = none) (S0 : List (Option St2)) (hS0 : S0.length = p.code.length) (hok : SOk p S0) (r : Int × Int × Int) (hr : r = costF p ps rr (p.code.length - ei) ei S0 0) :
  AM Try.prog r17 (RT17 H r) [.c tail17] [(1, .int .i64 ei), (4, .ptr b4 0), (8, .int .i64 0), (9, .int .i64 0), (10, .int .i64 0), (11, .ptr cb 0)] (HC H p ps rr b4 cb ts S0) := by
 have hcl := code_len hval
 have k1 : ∀ S, (HC H p ps rr b4 cb ts S).blk b4 = some (41, p.cells) := fun S => g_T (g_ne (Ne.symm hne) g_same)
 have k2 : ∀ S, (HC H p ps rr b4 cb ts S).blk cb = some (122, ccells p ps rr (.ms ts 0)) := fun S => g_T g_same
 have k3 : ∀ S, (HC H p ps rr b4 cb ts S).tok ts = some (.mu 123 1 0 (S.map srow)) := fun S => t_same
 have k4 : ∀ S, HSub H (HC H p ps rr b4 cb ts S) := fun S => HSub.setT (HSub.setB (HSub.setB (HSub.refl _) hb4) hcb) hts
 have k5 : ∀ S S', (HC H p ps rr b4 cb ts S).setT ts (.mu 123 1 0 (S'.map srow)) = HC H p ps rr b4 cb ts S' := fun S S' => hc_set
 generalize HC H p ps rr b4 cb ts = F at *
 unfold tail17 e17 r17
 dsimp only
 repeat' first|(apply Sp.go;·constructor<;>first|exact ss|(change _=_;first|(simp only[go_sem,Nat.reduceBEq,Nat.reduceAdd,Nat.reduceLeDiff,reduceIte]<;>rfl)|rfl)|exact Nat.le_of_ble_eq_true rfl|decide|(repeat' first|(apply Lk.go;constructor)|assumption|exact nb ‹_› ‹_›|exact nt ‹_› ‹_›))|(intro b hb;repeat first|(refine fe hb ?_;intro _ _ hb)|(refine fT hb ?_;intro hb))|refine rt ?_|refine gA rfl ?_|refine gB rfl ?_|apply cT rfl|apply cF rfl|(apply DM.gbT;rfl)|(apply DM.gbF;rfl)|intro h
 refine AM.loopX (X := Nat × List (Option St2) × Int) (ei, S0, 0) (fun x => [(4, .ptr b4 0), (8, .int .i64 x.2.2), (9, .int .i64 0), (10, .int .i64 0), (11, .ptr cb 0), (12, .int .i64 x.1)]) (fun x H' => H' = F x.2.1 ∧ x.1 ≤ p.code.length ∧ x.2.1.length = p.code.length ∧ SOk p x.2.1 ∧ r = costF p ps rr (p.code.length - x.1) x.1 x.2.1 x.2.2) (fun x => p.code.length - x.1) ⟨rfl, hei, hS0, hok, hr⟩ ?_ ?_
 ·(repeat first | exact envle_nil _ | (refine envle_cons ?_ ?_; · (simp only [go_sem, Nat.reduceBEq, Nat.reduceAdd]; exact AVLe.refl _)))
 ·rintro ⟨i, S, c⟩ H' ⟨e, q1, q2, q3, q4⟩
  subst e
  dsimp only at *
  have f1 := k1 S
  have f2 := k2 S
  have f3 := k3 S
  have f4 := k4 S
  generalize hH2 : F S = H2 at f1 f2 f3 f4 ⊢
  repeat' first|(apply Sp.go;·constructor<;>first|exact ss|(change _=_;first|(simp only[go_sem,Nat.reduceBEq,Nat.reduceAdd,Nat.reduceLeDiff,reduceIte]<;>rfl)|rfl)|exact Nat.le_of_ble_eq_true rfl|decide|(repeat' first|(apply Lk.go;constructor)|assumption|exact nb ‹_› ‹_›|exact nt ‹_› ‹_›))|(intro b hb;repeat first|(refine fe hb ?_;intro _ _ hb)|(refine fT hb ?_;intro hb))|refine rt ?_|refine gA rfl ?_|refine gB rfl ?_|apply cT rfl|apply cF rfl|(apply DM.gbT;rfl)|(apply DM.gbF;rfl)|intro h
  (apply AM.cond; (· rfl))
  ·intro h3
   simp at h3
   repeat' first|(apply Sp.go;·constructor<;>first|exact ss|(change _=_;first|(simp only[go_sem,Nat.reduceBEq,Nat.reduceAdd,Nat.reduceLeDiff,reduceIte]<;>rfl)|rfl)|exact Nat.le_of_ble_eq_true rfl|decide|(repeat' first|(apply Lk.go;constructor)|assumption|exact nb ‹_› ‹_›|exact nt ‹_› ‹_›))|(intro b hb;repeat first|(refine fe hb ?_;intro _ _ hb)|(refine fT hb ?_;intro hb))|refine rt ?_|refine gA rfl ?_|refine gB rfl ?_|apply cT rfl|apply cF rfl|(apply DM.gbT;rfl)|(apply DM.gbF;rfl)|(apply DM.ixM; (· rfl); (· repeat' first|(apply Lk.go;constructor)|assumption|exact nb ‹_› ‹_›|exact nt ‹_› ‹_›|(apply Lm.go;constructor)); (· rfl); (· (first | omega | (simp only [List.length_map]; omega))); (· (first | omega | (simp only [List.length_map]; omega))))|intro h
   obtain ⟨so, hso⟩ := some_of (show i < S.length by omega)
   have hsr : (S.map srow)[i]? = some (srow so) := by rw [List.getElem?_map, hso]; rfl
   obtain ⟨k, hk⟩ : ∃ k, p.code.length - i = k + 1 := ⟨p.code.length - i - 1, by omega⟩
   have hk2 : p.code.length - (i + 1) = k := by omega
   rw [hk] at q4
   cases so with
   | none =>
    (apply DM.ldM1 (i := i) (j := 0); (· rfl); (· repeat' first|(apply Lk.go;constructor)|assumption|exact nb ‹_› ‹_›|exact nt ‹_› ‹_›|(apply Lm.go;constructor)); (· exact srow_len _); (· exact hsr); (· simp); (· rfl))
    repeat' first|(apply Sp.go;·constructor<;>first|exact ss|(change _=_;first|(simp only[go_sem,Nat.reduceBEq,Nat.reduceAdd,Nat.reduceLeDiff,reduceIte]<;>rfl)|rfl)|exact Nat.le_of_ble_eq_true rfl|decide|(repeat' first|(apply Lk.go;constructor)|assumption|exact nb ‹_› ‹_›|exact nt ‹_› ‹_›))|(intro b hb;repeat first|(refine fe hb ?_;intro _ _ hb)|(refine fT hb ?_;intro hb))|refine rt ?_|refine gA rfl ?_|refine gB rfl ?_|apply cT rfl|apply cF rfl|(apply DM.gbT;rfl)|(apply DM.gbF;rfl)|intro h
    refine AM.roundX (i + 1, S, c) ⟨hH2.symm, by dsimp only; omega, q2, q3, ?_⟩ ?_ ?_
    ·rw [q4, costF_skip hso]
     dsimp only
     rw [hk2]
    ·(repeat first | exact envle_nil _ | (refine envle_cons ?_ ?_; · (simp only [go_sem, Nat.reduceBEq, Nat.reduceAdd]; exact AVLe.refl _)))
     refine envle_cons ?_ ?_
     ·simp only [go_sem, Nat.reduceBEq, Nat.reduceAdd]
      refine avle_int ?_
      rw [inc64 h3 (by unfold maxLen; omega)]
     exact envle_nil _
    ·show p.code.length - (i + 1) < p.code.length - i
     omega
   | some s =>
    (apply DM.ldM1 (i := i) (j := 0); (· rfl); (· repeat' first|(apply Lk.go;constructor)|assumption|exact nb ‹_› ‹_›|exact nt ‹_› ‹_›|(apply Lm.go;constructor)); (· exact srow_len _); (· exact hsr); (· simp); (· rfl))
    repeat' first|(apply Sp.go;·constructor<;>first|exact ss|(change _=_;first|(simp only[go_sem,Nat.reduceBEq,Nat.reduceAdd,Nat.reduceLeDiff,reduceIte]<;>rfl)|rfl)|exact Nat.le_of_ble_eq_true rfl|decide|(repeat' first|(apply Lk.go;constructor)|assumption|exact nb ‹_› ‹_›|exact nt ‹_› ‹_›))|(intro b hb;repeat first|(refine fe hb ?_;intro _ _ hb)|(refine fT hb ?_;intro hb))|refine rt ?_|refine gA rfl ?_|refine gB rfl ?_|apply cT rfl|apply cF rfl|(apply DM.gbT;rfl)|(apply DM.gbF;rfl)|intro h
    have hst := q3 s (List.mem_of_getElem? hso)
    obtain ⟨l1, l2, l3⟩ := lookP_ok (ps := ps) (rr := rr) h3 hso q3
    have hc := p44 H2 H cb ts 0 p hval ps rr hps S q2 f2 f3 f4 hts i s.1 s.2 hso (by have := hst.st; omega) (by have := hst.lo; omega) (fun b hb => by have := hst.ix b hb; omega)
    refine DM.call44 hc (by simp only [go_sem, Nat.reduceBEq] <;> rfl) (AVLes.refl _) (fun z => ?_) (fun z H' hh => ?_)
    ·simp only [put_some]
     rw [costF_ok hso z] at q4
     rw [← hH2, k5]
     generalize (lookP p ps rr S i).2 = S' at *
     have f1' := k1 S'
     have f2' := k2 S'
     have f3' := k3 S'
     have f4' := k4 S'
     generalize hH3 : F S' = H3 at f1' f2' f3' f4' ⊢
     repeat' first|(apply Sp.go;·constructor<;>first|exact ss|(change _=_;first|(simp only[go_sem,Nat.reduceBEq,Nat.reduceAdd,Nat.reduceLeDiff,reduceIte]<;>rfl)|rfl)|exact Nat.le_of_ble_eq_true rfl|decide|(repeat' first|(apply Lk.go;constructor)|assumption|exact nb ‹_› ‹_›|exact nt ‹_› ‹_›))|(intro b hb;repeat first|(refine fe hb ?_;intro _ _ hb)|(refine fT hb ?_;intro hb))|refine rt ?_|refine gA rfl ?_|refine gB rfl ?_|apply cT rfl|apply cF rfl|(apply DM.gbT;rfl)|(apply DM.gbF;rfl)|(apply DM.ixM; (· rfl); (· repeat' first|(apply Lk.go;constructor)|assumption|exact nb ‹_› ‹_›|exact nt ‹_› ‹_›|(apply Lm.go;constructor)); (· rfl); (· (first | omega | (simp only [List.length_map]; omega))); (· (first | omega | (simp only [List.length_map]; omega))))|intro h
     have hsr' : (S'.map srow)[i]? = some (srow (some s)) := by rw [List.getElem?_map, l3]; rfl
     (apply DM.ldM1 (i := i) (j := 0); (· rfl); (· repeat' first|(apply Lk.go;constructor)|assumption|exact nb ‹_› ‹_›|exact nt ‹_› ‹_›|(apply Lm.go;constructor)); (· exact srow_len _); (· exact hsr'); (· simp); (· rfl))
     repeat' first|(apply Sp.go;·constructor<;>first|exact ss|(change _=_;first|(simp only[go_sem,Nat.reduceBEq,Nat.reduceAdd,Nat.reduceLeDiff,reduceIte]<;>rfl)|rfl)|exact Nat.le_of_ble_eq_true rfl|decide|(repeat' first|(apply Lk.go;constructor)|assumption|exact nb ‹_› ‹_›|exact nt ‹_› ‹_›))|(intro b hb;repeat first|(refine fe hb ?_;intro _ _ hb)|(refine fT hb ?_;intro hb))|refine rt ?_|refine gA rfl ?_|refine gB rfl ?_|apply cT rfl|apply cF rfl|(apply DM.gbT;rfl)|(apply DM.gbF;rfl)|intro h
     refine AM.loopX (X := Nat × Int) (0, 1) (fun x => [(4, .ptr b4 0), (8, .int .i64 c), (9, .int .i64 0), (10, .int .i64 0), (11, .ptr cb 0), (12, .int .i64 i), (14, .int .i64 x.2), (80, .vs 1 (s.2.map irow)), (81, .int .i64 (s.2.map irow).length), (82, .int .i64 x.1)]) (fun x H' => H' = H3 ∧ x.1 ≤ s.2.length ∧ roundsP p s.2 = (s.2.drop x.1).foldl (mulR p) x.2) (fun x => s.2.length - x.1) ⟨rfl, Nat.zero_le _, rfl⟩ ?_ ?_
     ·(repeat first | exact envle_nil _ | (refine envle_cons ?_ ?_; · (simp only [go_sem, Nat.reduceBEq, Nat.reduceAdd]; exact AVLe.refl _)))
     ·rintro ⟨j, n⟩ H' ⟨e, y1, y2⟩
      subst e
      dsimp only at *
      repeat' first|(apply Sp.go;·constructor<;>first|exact ss|(change _=_;first|(simp only[go_sem,Nat.reduceBEq,Nat.reduceAdd,Nat.reduceLeDiff,reduceIte]<;>rfl)|rfl)|exact Nat.le_of_ble_eq_true rfl|decide|(repeat' first|(apply Lk.go;constructor)|assumption|exact nb ‹_› ‹_›|exact nt ‹_› ‹_›))|(intro b hb;repeat first|(refine fe hb ?_;intro _ _ hb)|(refine fT hb ?_;intro hb))|refine rt ?_|refine gA rfl ?_|refine gB rfl ?_|apply cT rfl|apply cF rfl|(apply DM.gbT;rfl)|(apply DM.gbF;rfl)|intro h
      (apply AM.cond; (· rfl))
      ·intro h4
       simp at h4
       obtain ⟨bb, hbb⟩ := some_of h4
       rw [drop_of hbb, List.foldl_cons] at y2
       have hbi := hst.ix bb (List.mem_of_getElem? hbb)
       obtain ⟨bn, rfl⟩ : ∃ bn : Nat, bb = (bn : Int) := ⟨bb.toNat, by omega⟩
       obtain ⟨x, hx⟩ := some_of (show bn < p.code.length by omega)
       repeat' first|(apply Sp.go;·constructor<;>first|exact ss|(change _=_;first|(simp only[go_sem,Nat.reduceBEq,Nat.reduceAdd,Nat.reduceLeDiff,reduceIte]<;>rfl)|rfl)|exact Nat.le_of_ble_eq_true rfl|decide|(repeat' first|(apply Lk.go;constructor)|assumption|exact nb ‹_› ‹_›|exact nt ‹_› ‹_›))|(intro b hb;repeat first|(refine fe hb ?_;intro _ _ hb)|(refine fT hb ?_;intro hb))|refine rt ?_|refine gA rfl ?_|refine gB rfl ?_|apply cT rfl|apply cF rfl|(apply DM.gbT;rfl)|(apply DM.gbF;rfl)|(apply DM.ixV (row := irow bn) (z := (j : Int)) (by omega) (row_get irow hbb); (· rfl); (· rfl))|(apply DM.ixV (row := x.row) (z := (bn : Int)) (by omega) (row_get Ins_.row hx); (· rfl); (· rfl))|intro h
       refine AM.roundX (j + 1, mulR p n bn) ⟨rfl, by dsimp only; omega, y2⟩ ?_ ?_
       ·have hm : mulR p n bn = IntKind.i64.wrap (n * x.n) := by simp [mulR, hx]
        rw [hm]
        (repeat first | exact envle_nil _ | (refine envle_cons ?_ ?_; · (simp only [go_sem, Nat.reduceBEq, Nat.reduceAdd]; exact AVLe.refl _)))
        refine envle_cons ?_ ?_
        ·simp only [go_sem, Nat.reduceBEq, Nat.reduceAdd]
         refine avle_int ?_
         rw [inc64 h4 (by have := hst.lo; unfold maxLen; omega)]
        exact envle_nil _
       ·show s.2.length - (j + 1) < s.2.length - j
        omega
      ·intro h4
       simp at h4
       have hj : s.2.length - j = 0 := by omega
       rw [List.drop_eq_nil_of_le h4] at y2
       simp only [List.foldl_nil] at y2
       repeat' first|(apply Sp.go;·constructor<;>first|exact ss|(change _=_;first|(simp only[go_sem,Nat.reduceBEq,Nat.reduceAdd,Nat.reduceLeDiff,reduceIte]<;>rfl)|rfl)|exact Nat.le_of_ble_eq_true rfl|decide|(repeat' first|(apply Lk.go;constructor)|assumption|exact nb ‹_› ‹_›|exact nt ‹_› ‹_›))|(intro b hb;repeat first|(refine fe hb ?_;intro _ _ hb)|(refine fT hb ?_;intro hb))|refine rt ?_|refine gA rfl ?_|refine gB rfl ?_|apply cT rfl|apply cF rfl|(apply DM.gbT;rfl)|(apply DM.gbF;rfl)|intro h
       refine AM.roundX (i + 1, S', IntKind.i64.wrap (c + n)) ⟨hH3.symm, by dsimp only; omega, l2.trans q2, l1, ?_⟩ ?_ ?_
       ·rw [q4, y2]
        dsimp only
        rw [hk2]
       ·(repeat first | exact envle_nil _ | (refine envle_cons ?_ ?_; · (simp only [go_sem, Nat.reduceBEq, Nat.reduceAdd]; exact AVLe.refl _)))
        refine envle_cons ?_ ?_
        ·simp only [go_sem, Nat.reduceBEq, Nat.reduceAdd]
         refine avle_int ?_
         rw [inc64 h3 (by unfold maxLen; omega)]
        exact envle_nil _
       ·show p.code.length - (i + 1) < p.code.length - i
        omega
    ·simp only [put_some]
     rw [costF_err hso z] at q4
     repeat' first|(apply Sp.go;·constructor<;>first|exact ss|(change _=_;first|(simp only[go_sem,Nat.reduceBEq,Nat.reduceAdd,Nat.reduceLeDiff,reduceIte]<;>rfl)|rfl)|exact Nat.le_of_ble_eq_true rfl|decide|(repeat' first|(apply Lk.go;constructor)|assumption|exact nb ‹_› ‹_›|exact nt ‹_› ‹_›))|(intro b hb;repeat first|(refine fe hb ?_;intro _ _ hb)|(refine fT hb ?_;intro hb))|refine rt ?_|refine gA rfl ?_|refine gB rfl ?_|apply cT rfl|apply cF rfl|(apply DM.gbT;rfl)|(apply DM.gbF;rfl)|intro h
     (apply AM.cond; (· rfl))
     ·intro _
      repeat' first|(apply Sp.go;·constructor<;>first|exact ss|(change _=_;first|(simp only[go_sem,Nat.reduceBEq,Nat.reduceAdd,Nat.reduceLeDiff,reduceIte]<;>rfl)|rfl)|exact Nat.le_of_ble_eq_true rfl|decide|(repeat' first|(apply Lk.go;constructor)|assumption|exact nb ‹_› ‹_›|exact nt ‹_› ‹_›))|(intro b hb;repeat first|(refine fe hb ?_;intro _ _ hb)|(refine fT hb ?_;intro hb))|refine rt ?_|refine gA rfl ?_|refine gB rfl ?_|apply cT rfl|apply cF rfl|(apply DM.gbT;rfl)|(apply DM.gbF;rfl)|intro h
      exact AM.ret (v := .tup [.int .i64 0, .int .i64 i, .int .i64 (lookP p ps rr S i).1]) rfl (rt17 q4 hh)
     ·intro h4
      simp at h4
      exact absurd h4 z
  ·intro h3
   simp at h3
   repeat' first|(apply Sp.go;·constructor<;>first|exact ss|(change _=_;first|(simp only[go_sem,Nat.reduceBEq,Nat.reduceAdd,Nat.reduceLeDiff,reduceIte]<;>rfl)|rfl)|exact Nat.le_of_ble_eq_true rfl|decide|(repeat' first|(apply Lk.go;constructor)|assumption|exact nb ‹_› ‹_›|exact nt ‹_› ‹_›))|(intro b hb;repeat first|(refine fe hb ?_;intro _ _ hb)|(refine fT hb ?_;intro hb))|refine rt ?_|refine gA rfl ?_|refine gB rfl ?_|apply cT rfl|apply cF rfl|(apply DM.gbT;rfl)|(apply DM.gbF;rfl)|intro h
   have hk : p.code.length - i = 0 := by omega
   rw [hk] at q4
   exact AM.ret (v := .tup [.int .i64 c, .int .i64 0, .int .i64 0]) rfl (rt17 q4 f4)
theorem start_ok {p : Prog} {n e : Nat} : SOk p (start0 n e) := fun s hs => by
 rcases List.mem_or_eq_of_mem_set hs with h | h
 ·cases List.eq_of_mem_replicate h
 ·cases h; exact ⟨by simp, by simp, fun b hb => by simp at hb⟩
theorem start_len {n e : Nat} : (start0 n e).length = n := by simp [start0]
theorem start_rows {n e b : Nat} : ((List.replicate n [AV.raw (.pointer none)]).set e [.ptr b 0]).set e [.rp (s2row ([], [])) 0] = (start0 n e).map srow := by
 rw [List.set_set, start0, List.map_set, List.map_replicate]
 rfl
set_option maxHeartbeats 8000000 in
theorem p17 (p : Prog) (e : Int) (ps rr : List Int) (hps : ps.length ≤ 1000) : Pure Try.prog 17 [p.av, .int .i64 e, .vs 1 (ps.map irow), .vs 1 (rr.map irow)] (.tup [.int .i64 (costP p e ps rr).1, .int .i64 (costP p e ps rr).2.1, .int .i64 (costP p e ps rr).2.2]) := by
 refine pure_intro mo Try.func17 c17 fun H => ?_
 rw [show e17 = head17 tail17 from rfl]
 generalize hTT : tail17 = TT
 unfold head17 e17 r17
 simp only [initEnv, initFrom]
 repeat' first|(apply Sp.go;·constructor<;>first|exact ss|(change _=_;first|(simp only[go_sem,Nat.reduceBEq,Nat.reduceAdd,Nat.reduceLeDiff,reduceIte]<;>rfl)|rfl)|exact Nat.le_of_ble_eq_true rfl|decide|(repeat' first|(apply Lk.go;constructor)|assumption|exact nb ‹_› ‹_›|exact nt ‹_› ‹_›))|(intro b hb;repeat first|(refine fe hb ?_;intro _ _ hb)|(refine fT hb ?_;intro hb))|refine rt ?_|refine gA rfl ?_|refine gB rfl ?_|apply cT rfl|apply cF rfl|(apply DM.gbT;rfl)|(apply DM.gbF;rfl)|intro h
 (apply DM.pcs (p43 p); (· simp only [go_sem, Nat.reduceBEq, Nat.reduceAdd] <;> rfl); (· exact AVLes.refl _))
 cases hval : validP p with
 | false =>
  repeat' first|(apply Sp.go;·constructor<;>first|exact ss|(change _=_;first|(simp only[go_sem,Nat.reduceBEq,Nat.reduceAdd,Nat.reduceLeDiff,reduceIte]<;>rfl)|rfl)|exact Nat.le_of_ble_eq_true rfl|decide|(repeat' first|(apply Lk.go;constructor)|assumption|exact nb ‹_› ‹_›|exact nt ‹_› ‹_›))|(intro b hb;repeat first|(refine fe hb ?_;intro _ _ hb)|(refine fT hb ?_;intro hb))|refine rt ?_|refine gA rfl ?_|refine gB rfl ?_|apply cT rfl|apply cF rfl|(apply DM.gbT;rfl)|(apply DM.gbF;rfl)|(apply AM.condS;rfl)|intro h
  (apply Sr.go;·constructor<;>first|(apply Lk.go;constructor<;>first|exact ss|(change _=_;first|(simp only[go_sem,Nat.reduceBEq,Nat.reduceAdd,Nat.reduceLeDiff,reduceIte]<;>rfl)|rfl)|exact Nat.le_of_ble_eq_true rfl|decide|(repeat' first|(apply Lk.go;constructor)|assumption|exact nb ‹_› ‹_›|exact nt ‹_› ‹_›))|assumption)
  rw [show costP p e ps rr = (0, 0, 1) by simp [costP, hval]]
  exact AVLe.refl _
 | true =>
  have hcl := code_len hval
  repeat' first|(apply Sp.go;·constructor<;>first|exact ss|(change _=_;first|(simp only[go_sem,Nat.reduceBEq,Nat.reduceAdd,Nat.reduceLeDiff,reduceIte]<;>rfl)|rfl)|exact Nat.le_of_ble_eq_true rfl|decide|(repeat' first|(apply Lk.go;constructor)|assumption|exact nb ‹_› ‹_›|exact nt ‹_› ‹_›))|(intro b hb;repeat first|(refine fe hb ?_;intro _ _ hb)|(refine fT hb ?_;intro hb))|refine rt ?_|refine gA rfl ?_|refine gB rfl ?_|apply cT rfl|apply cF rfl|(apply DM.gbT;rfl)|(apply DM.gbF;rfl)|(apply AM.condS;rfl)|intro h
  ·(apply Sr.go;·constructor<;>first|(apply Lk.go;constructor<;>first|exact ss|(change _=_;first|(simp only[go_sem,Nat.reduceBEq,Nat.reduceAdd,Nat.reduceLeDiff,reduceIte]<;>rfl)|rfl)|exact Nat.le_of_ble_eq_true rfl|decide|(repeat' first|(apply Lk.go;constructor)|assumption|exact nb ‹_› ‹_›|exact nt ‹_› ‹_›))|assumption)
   have h1 : (p.code.length : Int) ≤ e := by have := of_decide_eq_true h; simpa using this
   rw [show costP p e ps rr = (0, 0, 1) by simp [costP, h1]]
   exact AVLe.refl _
  ·have he0 : ¬ e < 0 := of_decide_eq_false ‹decide (e < 0) = false›
   have he1 : e < (p.code.length : Int) := by have := of_decide_eq_false h; simp at this; omega
   rename Nat => b4
   have hb4 := hb
   clear h hb
   obtain ⟨ei, rfl⟩ : ∃ n : Nat, e = (n : Int) := ⟨e.toNat, by omega⟩
   refine DM.mk (n := p.code.length) (by omega) (by unfold maxLen; omega) (by simp only [go_sem, Nat.reduceBEq, List.length_map] <;> rfl) rfl rfl (by decide) ?_
   intro ts hts
   have hts0 : H.tok ts = none := freshT_setB hts
   repeat' first|(apply Sp.go;·constructor<;>first|exact ss|(change _=_;first|(simp only[go_sem,Nat.reduceBEq,Nat.reduceAdd,Nat.reduceLeDiff,reduceIte]<;>rfl)|rfl)|exact Nat.le_of_ble_eq_true rfl|decide|(repeat' first|(apply Lk.go;constructor)|assumption|exact nb ‹_› ‹_›|exact nt ‹_› ‹_›))|(intro b hb;repeat first|(refine fe hb ?_;intro _ _ hb)|(refine fT hb ?_;intro hb))|refine rt ?_|refine gA rfl ?_|refine gB rfl ?_|apply cT rfl|apply cF rfl|(apply DM.gbT;rfl)|(apply DM.gbF;rfl)|intro h
   rename_i cb u1 u2 w1 w2 w3 w4 w5 w6 w7 w8 w9 w10
   (apply DM.ixM; (· rfl); (· repeat' first|(apply Lk.go;constructor)|assumption|exact nb ‹_› ‹_›|exact nt ‹_› ‹_›|(apply Lm.go;constructor)); (· rfl); (· (first | omega | (simp only [List.length_replicate]; omega))); (· (first | omega | (simp only [List.length_replicate]; omega))))
   (apply DM.stM (i := ei); (· rfl); (· repeat' first|(apply Lk.go;constructor)|assumption|exact nb ‹_› ‹_›|exact nt ‹_› ‹_›|(apply Lm.go;constructor)); (· simp only [go_sem, Nat.reduceBEq, Nat.reduceAdd] <;> rfl); (· (intro r hr; rw [List.eq_of_mem_replicate hr]; rfl)); (· (rw [List.getElem?_replicate, if_pos (by omega)])); (· simp); (· rfl); (· rfl))
   repeat' first|(apply Sp.go;·constructor<;>first|exact ss|(change _=_;first|(simp only[go_sem,Nat.reduceBEq,Nat.reduceAdd,Nat.reduceLeDiff,reduceIte]<;>rfl)|rfl)|exact Nat.le_of_ble_eq_true rfl|decide|(repeat' first|(apply Lk.go;constructor)|assumption|exact nb ‹_› ‹_›|exact nt ‹_› ‹_›))|(intro b hb;repeat first|(refine fe hb ?_;intro _ _ hb)|(refine fT hb ?_;intro hb))|refine rt ?_|refine gA rfl ?_|refine gB rfl ?_|apply cT rfl|apply cF rfl|(apply DM.gbT;rfl)|(apply DM.gbF;rfl)|intro h
   refine AM.frzBT b ts ei (T := 125) (cs := [.nilS, .nilS]) (cs' := s2row ([], [])) (g_T g_same) t_same (by rw [List.getElem?_set_self (by simp; omega)]) (FrzL.cons (Frz.le (HSub.dropB _ b) AVLe.nil) (FrzL.cons (Frz.le (HSub.dropB _ b) AVLe.nil) FrzL.nil)) ?_
   rw [start_rows]
   refine AM.weakE [(1, .int .i64 ei), (4, .ptr b4 0), (8, .int .i64 0), (9, .int .i64 0), (10, .int .i64 0), (11, .ptr cb 0)] ?_ ?_
   ·(repeat first | exact envle_nil _ | (refine envle_cons ?_ ?_; · (simp only [go_sem, Nat.reduceBEq, Nat.reduceAdd]; exact AVLe.refl _)))
   refine AM.forget (HC H p ps rr b4 cb ts (start0 p.code.length ei)) (hsub_hc ?_ ?_ t_same ?_ ?_) ?_
   ·simp [AHeap.setT, AHeap.dropB, AHeap.setB, w1, w2, w9, w10]
   ·simp [AHeap.setT, AHeap.dropB, AHeap.setB, w5, w6]
   ·intro x y h1 h2 h3
    have h4 : x ≠ b := fun e => by subst e; rw [hb] at h3; cases h3
    simp [AHeap.setT, AHeap.dropB, AHeap.setB, h1, h2, h4, h3]
   ·intro x y h1 h3
    simp [AHeap.setT, AHeap.dropB, AHeap.setB, h1, h3]
   ·subst hTT
    exact t17 p ei ps rr hps hval (by omega) H b4 cb ts hb4 w3 w1 hts0 _ start_len start_ok _ (by simp [costP, hval]; omega)
  ·(apply Sr.go;·constructor<;>first|(apply Lk.go;constructor<;>first|exact ss|(change _=_;first|(simp only[go_sem,Nat.reduceBEq,Nat.reduceAdd,Nat.reduceLeDiff,reduceIte]<;>rfl)|rfl)|exact Nat.le_of_ble_eq_true rfl|decide|(repeat' first|(apply Lk.go;constructor)|assumption|exact nb ‹_› ‹_›|exact nt ‹_› ‹_›))|assumption)
   have h1 : e < 0 := of_decide_eq_true h
   rw [show costP p e ps rr = (0, 0, 1) by simp [costP, h1]]
   exact AVLe.refl _
end Go.Aw.T
namespace Go.Aw.T
open Go Go.Aw Go.Proofs Go.RowKit
set_option maxRecDepth 100000
attribute [local irreducible] Go.Aw.DM Go.Aw.AHeap.setB Go.Aw.AHeap.setT
attribute [local go_sem] peval EOpd.ev Env.get binInt binStr binBool buildParts AV.cells AV.okc setRange minmaxAV AV.one AV.ofCells eqCells eqCell bslRows cond_true cond_false beq_self_eq_true Bool.not_true Bool.not_false beq_true beq_false eq_self if_true Option.some.injEq List.length_cons List.length_nil List.take_succ_cons List.take_zero List.drop_succ_cons List.drop_zero List.set_cons_succ List.set_cons_zero List.nil_append List.cons_append List.append_nil and_self Option.map_some List.map_cons List.map_nil Bool.false_eq_true if_false Nat.zero_add Nat.add_zero true_and and_true Bool.and_true Bool.true_and List.getElem?_cons_zero List.getElem?_cons_succ Nat.zero_le Nat.le_refl
set_option linter.unusedSimpArgs false
set_option linter.unusedVariables false
theorem DM.apO {P : Program} {T size bytes t d : Nat} {x y : EOpd} {env : Env} {H : AHeap} {rows nw : List (List AV)} {l : List EI} {K : Env → AHeap → Prop} {Rp : AV → AHeap → Prop} (hx : x.ev env = .own t size rows) (ht : H.tok t = some (.frz T size rows.length)) (hy : rowsOf size (y.ev env) = some nw) (hb : (rows.length + nw.length) * bytes ≤ 140737488355328) (hm : rows.length + nw.length ≤ maxLen) (h : DM P l ((d, .own t size (rows ++ nw)) :: env) (H.setT t (.frz T size (rows.length + nw.length))) K Rp) : DM P (⟨some d, none, .append T size bytes x y⟩ :: l) env H K Rp := by
 simp only [DM, wanted]
 exact IStep.append hx ht hy hb hm h
theorem eq0 (lo : List Int) : decide (((lo.map irow).length : Int) = 0) = decide (lo.length = 0) := by rw [List.length_map]; exact decide_eq_decide.2 (by omega)
end Go.Aw.T
namespace Go.Aw.T.R
open Go Go.Aw Go.Aw.T Go.Proofs Go.RowKit
set_option maxRecDepth 100000
attribute [local irreducible] Go.Aw.DM Go.Aw.AHeap.setB Go.Aw.AHeap.setT
attribute [local go_sem] peval EOpd.ev Env.get binInt binStr binBool buildParts AV.cells AV.okc setRange minmaxAV AV.one AV.ofCells eqCells eqCell bslRows cond_true cond_false beq_self_eq_true Bool.not_true Bool.not_false beq_true beq_false eq_self if_true Option.some.injEq List.length_cons List.length_nil List.take_succ_cons List.take_zero List.drop_succ_cons List.drop_zero List.set_cons_succ List.set_cons_zero List.nil_append List.cons_append List.append_nil and_self Option.map_some List.map_cons List.map_nil Bool.false_eq_true if_false Nat.zero_add Nat.add_zero true_and and_true Bool.and_true Bool.true_and List.getElem?_cons_zero List.getElem?_cons_succ Nat.zero_le Nat.le_refl
set_option linter.unusedSimpArgs false
set_option linter.unusedVariables false
theorem p31 (s : List UInt8) : Pure Try.prog 31 [.str s] (.agg [.int .i64 2, .int .i64 0, .str s]) := by
 refine pure_intro mo Try.func31 c31 fun H => ?_
 unfold e31 r31
 simp only [initEnv, initFrom]
 repeat' first|(apply Sp.go;·constructor<;>first|exact ss|(change _=_;first|(simp only[go_sem,Nat.reduceBEq,Nat.reduceAdd,Nat.reduceLeDiff,reduceIte]<;>rfl)|rfl)|exact Nat.le_of_ble_eq_true rfl|decide|(repeat' first|(apply Lk.go;constructor)|assumption|exact nb ‹_› ‹_›|exact nt ‹_› ‹_›))|(intro b hb;repeat first|(refine fe hb ?_;intro _ _ hb)|(refine fT hb ?_;intro hb))|refine rt ?_|refine gA rfl ?_|refine gB rfl ?_|apply cT rfl|apply cF rfl|(apply DM.gbT;rfl)|(apply DM.gbF;rfl)|intro h
 (apply Sr.go;·constructor<;>first|(apply Lk.go;constructor<;>first|exact ss|(change _=_;first|(simp only[go_sem,Nat.reduceBEq,Nat.reduceAdd,Nat.reduceLeDiff,reduceIte]<;>rfl)|rfl)|exact Nat.le_of_ble_eq_true rfl|decide|(repeat' first|(apply Lk.go;constructor)|assumption|exact nb ‹_› ‹_›|exact nt ‹_› ‹_›))|assumption)
 exact AVLe.refl _
theorem p62 (s : List UInt8) : Pure Try.prog 62 [.str s] (.bool (printable s)) := by
 refine pure_assume (G := s.length ≤ maxLen) (fun m vs h => by simp only [RvL, Rv] at h; obtain ⟨_, _, _, ⟨_, h⟩, _⟩ := h; exact h) fun hs => ?_
 refine pure_intro mo Try.func62 c62 fun H => ?_
 unfold e62 r62
 simp only [initEnv, initFrom]
 repeat' first|(apply Sp.go;·constructor<;>first|exact ss|(change _=_;first|(simp only[go_sem,Nat.reduceBEq,Nat.reduceAdd,Nat.reduceLeDiff,reduceIte]<;>rfl)|rfl)|exact Nat.le_of_ble_eq_true rfl|decide|(repeat' first|(apply Lk.go;constructor)|assumption|exact nb ‹_› ‹_›|exact nt ‹_› ‹_›))|(intro b hb;repeat first|(refine fe hb ?_;intro _ _ hb)|(refine fT hb ?_;intro hb))|refine rt ?_|refine gA rfl ?_|refine gB rfl ?_|apply cT rfl|apply cF rfl|(apply DM.gbT;rfl)|(apply DM.gbF;rfl)|intro h
 refine AM.loopX (X := Nat) 0 (fun i => [(0, .str s), (3, .int .i64 i)]) (fun i H' => H' = H ∧ i ≤ s.length ∧ printable s = (s.drop i).all okc) (fun i => s.length - i) ⟨rfl, by omega, rfl⟩ ?_ ?_
 ·(repeat first | exact envle_nil _ | (refine envle_cons ?_ ?_; · (simp only [go_sem, Nat.reduceBEq, Nat.reduceAdd]; exact AVLe.refl _)))
 ·intro i H' ⟨e, hi, he⟩
  subst e
  repeat' first|(apply Sp.go;·constructor<;>first|exact ss|(change _=_;first|(simp only[go_sem,Nat.reduceBEq,Nat.reduceAdd,Nat.reduceLeDiff,reduceIte]<;>rfl)|rfl)|exact Nat.le_of_ble_eq_true rfl|decide|(repeat' first|(apply Lk.go;constructor)|assumption|exact nb ‹_› ‹_›|exact nt ‹_› ‹_›))|(intro b hb;repeat first|(refine fe hb ?_;intro _ _ hb)|(refine fT hb ?_;intro hb))|refine rt ?_|refine gA rfl ?_|refine gB rfl ?_|apply cT rfl|apply cF rfl|(apply DM.gbT;rfl)|(apply DM.gbF;rfl)|intro h
  (apply AM.cond; (· rfl))
  ·intro h3
   simp at h3
   obtain ⟨c, hc⟩ := some_of h3
   rw [drop_of hc] at he
   simp only [List.all_cons] at he
   repeat' first|(apply Sp.go;·constructor<;>first|exact ss|(change _=_;first|(simp only[go_sem,Nat.reduceBEq,Nat.reduceAdd,Nat.reduceLeDiff,reduceIte]<;>rfl)|rfl)|exact Nat.le_of_ble_eq_true rfl|decide|(repeat' first|(apply Lk.go;constructor)|assumption|exact nb ‹_› ‹_›|exact nt ‹_› ‹_›))|(intro b hb;repeat first|(refine fe hb ?_;intro _ _ hb)|(refine fT hb ?_;intro hb))|refine rt ?_|refine gA rfl ?_|refine gB rfl ?_|apply cT rfl|apply cF rfl|(apply DM.gbT;rfl)|(apply DM.gbF;rfl)|intro h
   (apply DM.idxSs s .i64 i c (by omega) (by simpa using hc); (· rfl); (· rfl))
   repeat' first|(apply Sp.go;·constructor<;>first|exact ss|(change _=_;first|(simp only[go_sem,Nat.reduceBEq,Nat.reduceAdd,Nat.reduceLeDiff,reduceIte]<;>rfl)|rfl)|exact Nat.le_of_ble_eq_true rfl|decide|(repeat' first|(apply Lk.go;constructor)|assumption|exact nb ‹_› ‹_›|exact nt ‹_› ‹_›))|(intro b hb;repeat first|(refine fe hb ?_;intro _ _ hb)|(refine fT hb ?_;intro hb))|refine rt ?_|refine gA rfl ?_|refine gB rfl ?_|apply cT rfl|apply cF rfl|(apply DM.gbT;rfl)|(apply DM.gbF;rfl)|intro h
   ·(apply DM.idxSs s .i64 i c (by omega) (by simpa using hc); (· rfl); (· rfl))
    repeat' first|(apply Sp.go;·constructor<;>first|exact ss|(change _=_;first|(simp only[go_sem,Nat.reduceBEq,Nat.reduceAdd,Nat.reduceLeDiff,reduceIte]<;>rfl)|rfl)|exact Nat.le_of_ble_eq_true rfl|decide|(repeat' first|(apply Lk.go;constructor)|assumption|exact nb ‹_› ‹_›|exact nt ‹_› ‹_›))|(intro b hb;repeat first|(refine fe hb ?_;intro _ _ hb)|(refine fT hb ?_;intro hb))|refine rt ?_|refine gA rfl ?_|refine gB rfl ?_|apply cT rfl|apply cF rfl|(apply DM.gbT;rfl)|(apply DM.gbF;rfl)|intro h
    (apply AM.cond; (· rfl))
    ·intro h4
     have hk : okc c = false := by simp at *; simp [okc]; omega
     repeat' first|(apply Sp.go;·constructor<;>first|exact ss|(change _=_;first|(simp only[go_sem,Nat.reduceBEq,Nat.reduceAdd,Nat.reduceLeDiff,reduceIte]<;>rfl)|rfl)|exact Nat.le_of_ble_eq_true rfl|decide|(repeat' first|(apply Lk.go;constructor)|assumption|exact nb ‹_› ‹_›|exact nt ‹_› ‹_›))|(intro b hb;repeat first|(refine fe hb ?_;intro _ _ hb)|(refine fT hb ?_;intro hb))|refine rt ?_|refine gA rfl ?_|refine gB rfl ?_|apply cT rfl|apply cF rfl|(apply DM.gbT;rfl)|(apply DM.gbF;rfl)|intro h
     (apply Sr.go;·constructor<;>first|(apply Lk.go;constructor<;>first|exact ss|(change _=_;first|(simp only[go_sem,Nat.reduceBEq,Nat.reduceAdd,Nat.reduceLeDiff,reduceIte]<;>rfl)|rfl)|exact Nat.le_of_ble_eq_true rfl|decide|(repeat' first|(apply Lk.go;constructor)|assumption|exact nb ‹_› ‹_›|exact nt ‹_› ‹_›))|assumption)
     refine avle_eq ?_
     rw [he, hk]; rfl
    ·intro h4
     have hk : okc c = true := by simp at *; simp [okc]; omega
     repeat' first|(apply Sp.go;·constructor<;>first|exact ss|(change _=_;first|(simp only[go_sem,Nat.reduceBEq,Nat.reduceAdd,Nat.reduceLeDiff,reduceIte]<;>rfl)|rfl)|exact Nat.le_of_ble_eq_true rfl|decide|(repeat' first|(apply Lk.go;constructor)|assumption|exact nb ‹_› ‹_›|exact nt ‹_› ‹_›))|(intro b hb;repeat first|(refine fe hb ?_;intro _ _ hb)|(refine fT hb ?_;intro hb))|refine rt ?_|refine gA rfl ?_|refine gB rfl ?_|apply cT rfl|apply cF rfl|(apply DM.gbT;rfl)|(apply DM.gbF;rfl)|intro h
     rw [hk, Bool.true_and] at he
     refine AM.roundX (i + 1) ⟨rfl, by omega, he⟩ ?_ ?_
     ·(repeat first | exact envle_nil _ | (refine envle_cons ?_ ?_; · (simp only [go_sem, Nat.reduceBEq, Nat.reduceAdd]; exact AVLe.refl _)))
      refine envle_cons ?_ ?_
      ·simp only [go_sem, Nat.reduceBEq, Nat.reduceAdd]
       refine avle_int ?_
       rw [inc64 h3 hs]
      exact envle_nil _
     ·show s.length - (i + 1) < s.length - i
      omega
   ·have hk : okc c = false := by simp at *; simp [okc]; omega
    (apply Sr.go;·constructor<;>first|(apply Lk.go;constructor<;>first|exact ss|(change _=_;first|(simp only[go_sem,Nat.reduceBEq,Nat.reduceAdd,Nat.reduceLeDiff,reduceIte]<;>rfl)|rfl)|exact Nat.le_of_ble_eq_true rfl|decide|(repeat' first|(apply Lk.go;constructor)|assumption|exact nb ‹_› ‹_›|exact nt ‹_› ‹_›))|assumption)
    refine avle_eq ?_
    rw [he, hk]; rfl
  ·intro h3
   repeat' first|(apply Sp.go;·constructor<;>first|exact ss|(change _=_;first|(simp only[go_sem,Nat.reduceBEq,Nat.reduceAdd,Nat.reduceLeDiff,reduceIte]<;>rfl)|rfl)|exact Nat.le_of_ble_eq_true rfl|decide|(repeat' first|(apply Lk.go;constructor)|assumption|exact nb ‹_› ‹_›|exact nt ‹_› ‹_›))|(intro b hb;repeat first|(refine fe hb ?_;intro _ _ hb)|(refine fT hb ?_;intro hb))|refine rt ?_|refine gA rfl ?_|refine gB rfl ?_|apply cT rfl|apply cF rfl|(apply DM.gbT;rfl)|(apply DM.gbF;rfl)|intro h
   (apply Sr.go;·constructor<;>first|(apply Lk.go;constructor<;>first|exact ss|(change _=_;first|(simp only[go_sem,Nat.reduceBEq,Nat.reduceAdd,Nat.reduceLeDiff,reduceIte]<;>rfl)|rfl)|exact Nat.le_of_ble_eq_true rfl|decide|(repeat' first|(apply Lk.go;constructor)|assumption|exact nb ‹_› ‹_›|exact nt ‹_› ‹_›))|assumption)
   refine avle_eq ?_
   simp at h3
   rw [he, List.drop_eq_nil_of_le (by omega)]; rfl
theorem p32 (v : Val) : Pure Try.prog 32 [v.av] (.bool (validV v)) := by
 refine pure_intro mo Try.func32 c32 fun H => ?_
 unfold e32 r32
 simp only [initEnv, initFrom]
 repeat' first|(apply Sp.go;·constructor<;>first|exact ss|(change _=_;first|(simp only[go_sem,Nat.reduceBEq,Nat.reduceAdd,Nat.reduceLeDiff,reduceIte]<;>rfl)|rfl)|exact Nat.le_of_ble_eq_true rfl|decide|(repeat' first|(apply Lk.go;constructor)|assumption|exact nb ‹_› ‹_›|exact nt ‹_› ‹_›))|(intro b hb;repeat first|(refine fe hb ?_;intro _ _ hb)|(refine fT hb ?_;intro hb))|refine rt ?_|refine gA rfl ?_|refine gB rfl ?_|apply cT rfl|apply cF rfl|(apply DM.gbT;rfl)|(apply DM.gbF;rfl)|intro h
 (apply AM.cond; (· rfl))
 ·intro h1
  repeat' first|(apply Sp.go;·constructor<;>first|exact ss|(change _=_;first|(simp only[go_sem,Nat.reduceBEq,Nat.reduceAdd,Nat.reduceLeDiff,reduceIte]<;>rfl)|rfl)|exact Nat.le_of_ble_eq_true rfl|decide|(repeat' first|(apply Lk.go;constructor)|assumption|exact nb ‹_› ‹_›|exact nt ‹_› ‹_›))|(intro b hb;repeat first|(refine fe hb ?_;intro _ _ hb)|(refine fT hb ?_;intro hb))|refine rt ?_|refine gA rfl ?_|refine gB rfl ?_|apply cT rfl|apply cF rfl|(apply DM.gbT;rfl)|(apply DM.gbF;rfl)|intro h
  all_goals ((apply Sr.go;·constructor<;>first|(apply Lk.go;constructor<;>first|exact ss|(change _=_;first|(simp only[go_sem,Nat.reduceBEq,Nat.reduceAdd,Nat.reduceLeDiff,reduceIte]<;>rfl)|rfl)|exact Nat.le_of_ble_eq_true rfl|decide|(repeat' first|(apply Lk.go;constructor)|assumption|exact nb ‹_› ‹_›|exact nt ‹_› ‹_›))|assumption))
  all_goals (refine avle_eq ?_; rw [AV.bool.injEq]; simp [validV] at *; try (simp [*]; done))
  all_goals (simp [*]; try omega)
 ·intro h1
  repeat' first|(apply Sp.go;·constructor<;>first|exact ss|(change _=_;first|(simp only[go_sem,Nat.reduceBEq,Nat.reduceAdd,Nat.reduceLeDiff,reduceIte]<;>rfl)|rfl)|exact Nat.le_of_ble_eq_true rfl|decide|(repeat' first|(apply Lk.go;constructor)|assumption|exact nb ‹_› ‹_›|exact nt ‹_› ‹_›))|(intro b hb;repeat first|(refine fe hb ?_;intro _ _ hb)|(refine fT hb ?_;intro hb))|refine rt ?_|refine gA rfl ?_|refine gB rfl ?_|apply cT rfl|apply cF rfl|(apply DM.gbT;rfl)|(apply DM.gbF;rfl)|intro h
  (apply AM.cond; (· rfl))
  ·intro h2
   repeat' first|(apply Sp.go;·constructor<;>first|exact ss|(change _=_;first|(simp only[go_sem,Nat.reduceBEq,Nat.reduceAdd,Nat.reduceLeDiff,reduceIte]<;>rfl)|rfl)|exact Nat.le_of_ble_eq_true rfl|decide|(repeat' first|(apply Lk.go;constructor)|assumption|exact nb ‹_› ‹_›|exact nt ‹_› ‹_›))|(intro b hb;repeat first|(refine fe hb ?_;intro _ _ hb)|(refine fT hb ?_;intro hb))|refine rt ?_|refine gA rfl ?_|refine gB rfl ?_|apply cT rfl|apply cF rfl|(apply DM.gbT;rfl)|(apply DM.gbF;rfl)|intro h
   ·(apply DM.pcs (p62 _); (· simp only [go_sem, Nat.reduceBEq, Nat.reduceAdd] <;> rfl); (· exact AVLes.refl _))
    repeat' first|(apply Sp.go;·constructor<;>first|exact ss|(change _=_;first|(simp only[go_sem,Nat.reduceBEq,Nat.reduceAdd,Nat.reduceLeDiff,reduceIte]<;>rfl)|rfl)|exact Nat.le_of_ble_eq_true rfl|decide|(repeat' first|(apply Lk.go;constructor)|assumption|exact nb ‹_› ‹_›|exact nt ‹_› ‹_›))|(intro b hb;repeat first|(refine fe hb ?_;intro _ _ hb)|(refine fT hb ?_;intro hb))|refine rt ?_|refine gA rfl ?_|refine gB rfl ?_|apply cT rfl|apply cF rfl|(apply DM.gbT;rfl)|(apply DM.gbF;rfl)|intro h
    (apply Sr.go;·constructor<;>first|(apply Lk.go;constructor<;>first|exact ss|(change _=_;first|(simp only[go_sem,Nat.reduceBEq,Nat.reduceAdd,Nat.reduceLeDiff,reduceIte]<;>rfl)|rfl)|exact Nat.le_of_ble_eq_true rfl|decide|(repeat' first|(apply Lk.go;constructor)|assumption|exact nb ‹_› ‹_›|exact nt ‹_› ‹_›))|assumption)
    refine avle_eq ?_; rw [AV.bool.injEq]; simp [validV] at *; simp [*]
    omega
   all_goals ((apply Sr.go;·constructor<;>first|(apply Lk.go;constructor<;>first|exact ss|(change _=_;first|(simp only[go_sem,Nat.reduceBEq,Nat.reduceAdd,Nat.reduceLeDiff,reduceIte]<;>rfl)|rfl)|exact Nat.le_of_ble_eq_true rfl|decide|(repeat' first|(apply Lk.go;constructor)|assumption|exact nb ‹_› ‹_›|exact nt ‹_› ‹_›))|assumption))
   all_goals (refine avle_eq ?_; rw [AV.bool.injEq]; simp [validV] at *; try (simp [*]; done))
   all_goals (simp [*]; try omega)
  ·intro h2
   repeat' first|(apply Sp.go;·constructor<;>first|exact ss|(change _=_;first|(simp only[go_sem,Nat.reduceBEq,Nat.reduceAdd,Nat.reduceLeDiff,reduceIte]<;>rfl)|rfl)|exact Nat.le_of_ble_eq_true rfl|decide|(repeat' first|(apply Lk.go;constructor)|assumption|exact nb ‹_› ‹_›|exact nt ‹_› ‹_›))|(intro b hb;repeat first|(refine fe hb ?_;intro _ _ hb)|(refine fT hb ?_;intro hb))|refine rt ?_|refine gA rfl ?_|refine gB rfl ?_|apply cT rfl|apply cF rfl|(apply DM.gbT;rfl)|(apply DM.gbF;rfl)|intro h
   (apply Sr.go;·constructor<;>first|(apply Lk.go;constructor<;>first|exact ss|(change _=_;first|(simp only[go_sem,Nat.reduceBEq,Nat.reduceAdd,Nat.reduceLeDiff,reduceIte]<;>rfl)|rfl)|exact Nat.le_of_ble_eq_true rfl|decide|(repeat' first|(apply Lk.go;constructor)|assumption|exact nb ‹_› ‹_›|exact nt ‹_› ‹_›))|assumption)
   refine avle_eq ?_; rw [AV.bool.injEq]; simp [validV] at *; simp [*]
theorem p104 (v : Val) : Pure Try.prog 104 [v.av] (.int .i64 (numberV v)) := by
 refine pure_intro mo Try.func104 c104 fun H => ?_
 unfold e104 r104
 simp only [initEnv, initFrom]
 repeat' first|(apply Sp.go;·constructor<;>first|exact ss|(change _=_;first|(simp only[go_sem,Nat.reduceBEq,Nat.reduceAdd,Nat.reduceLeDiff,reduceIte]<;>rfl)|rfl)|exact Nat.le_of_ble_eq_true rfl|decide|(repeat' first|(apply Lk.go;constructor)|assumption|exact nb ‹_› ‹_›|exact nt ‹_› ‹_›))|(intro b hb;repeat first|(refine fe hb ?_;intro _ _ hb)|(refine fT hb ?_;intro hb))|refine rt ?_|refine gA rfl ?_|refine gB rfl ?_|apply cT rfl|apply cF rfl|(apply DM.gbT;rfl)|(apply DM.gbF;rfl)|intro h
 (apply AM.cond; (· rfl))
 ·intro h1
  repeat' first|(apply Sp.go;·constructor<;>first|exact ss|(change _=_;first|(simp only[go_sem,Nat.reduceBEq,Nat.reduceAdd,Nat.reduceLeDiff,reduceIte]<;>rfl)|rfl)|exact Nat.le_of_ble_eq_true rfl|decide|(repeat' first|(apply Lk.go;constructor)|assumption|exact nb ‹_› ‹_›|exact nt ‹_› ‹_›))|(intro b hb;repeat first|(refine fe hb ?_;intro _ _ hb)|(refine fT hb ?_;intro hb))|refine rt ?_|refine gA rfl ?_|refine gB rfl ?_|apply cT rfl|apply cF rfl|(apply DM.gbT;rfl)|(apply DM.gbF;rfl)|intro h
  (apply Sr.go;·constructor<;>first|(apply Lk.go;constructor<;>first|exact ss|(change _=_;first|(simp only[go_sem,Nat.reduceBEq,Nat.reduceAdd,Nat.reduceLeDiff,reduceIte]<;>rfl)|rfl)|exact Nat.le_of_ble_eq_true rfl|decide|(repeat' first|(apply Lk.go;constructor)|assumption|exact nb ‹_› ‹_›|exact nt ‹_› ‹_›))|assumption)
  refine avle_int ?_; simp [numberV] at *; simp [*]
 ·intro h1
  repeat' first|(apply Sp.go;·constructor<;>first|exact ss|(change _=_;first|(simp only[go_sem,Nat.reduceBEq,Nat.reduceAdd,Nat.reduceLeDiff,reduceIte]<;>rfl)|rfl)|exact Nat.le_of_ble_eq_true rfl|decide|(repeat' first|(apply Lk.go;constructor)|assumption|exact nb ‹_› ‹_›|exact nt ‹_› ‹_›))|(intro b hb;repeat first|(refine fe hb ?_;intro _ _ hb)|(refine fT hb ?_;intro hb))|refine rt ?_|refine gA rfl ?_|refine gB rfl ?_|apply cT rfl|apply cF rfl|(apply DM.gbT;rfl)|(apply DM.gbF;rfl)|intro h
  (apply AM.cond; (· rfl))
  ·intro h2
   repeat' first|(apply Sp.go;·constructor<;>first|exact ss|(change _=_;first|(simp only[go_sem,Nat.reduceBEq,Nat.reduceAdd,Nat.reduceLeDiff,reduceIte]<;>rfl)|rfl)|exact Nat.le_of_ble_eq_true rfl|decide|(repeat' first|(apply Lk.go;constructor)|assumption|exact nb ‹_› ‹_›|exact nt ‹_› ‹_›))|(intro b hb;repeat first|(refine fe hb ?_;intro _ _ hb)|(refine fT hb ?_;intro hb))|refine rt ?_|refine gA rfl ?_|refine gB rfl ?_|apply cT rfl|apply cF rfl|(apply DM.gbT;rfl)|(apply DM.gbF;rfl)|intro h
   (apply Sr.go;·constructor<;>first|(apply Lk.go;constructor<;>first|exact ss|(change _=_;first|(simp only[go_sem,Nat.reduceBEq,Nat.reduceAdd,Nat.reduceLeDiff,reduceIte]<;>rfl)|rfl)|exact Nat.le_of_ble_eq_true rfl|decide|(repeat' first|(apply Lk.go;constructor)|assumption|exact nb ‹_› ‹_›|exact nt ‹_› ‹_›))|assumption)
   refine avle_int ?_; simp [numberV] at *; simp [*]
  ·intro h2
   repeat' first|(apply Sp.go;·constructor<;>first|exact ss|(change _=_;first|(simp only[go_sem,Nat.reduceBEq,Nat.reduceAdd,Nat.reduceLeDiff,reduceIte]<;>rfl)|rfl)|exact Nat.le_of_ble_eq_true rfl|decide|(repeat' first|(apply Lk.go;constructor)|assumption|exact nb ‹_› ‹_›|exact nt ‹_› ‹_›))|(intro b hb;repeat first|(refine fe hb ?_;intro _ _ hb)|(refine fT hb ?_;intro hb))|refine rt ?_|refine gA rfl ?_|refine gB rfl ?_|apply cT rfl|apply cF rfl|(apply DM.gbT;rfl)|(apply DM.gbF;rfl)|intro h
   (apply Sr.go;·constructor<;>first|(apply Lk.go;constructor<;>first|exact ss|(change _=_;first|(simp only[go_sem,Nat.reduceBEq,Nat.reduceAdd,Nat.reduceLeDiff,reduceIte]<;>rfl)|rfl)|exact Nat.le_of_ble_eq_true rfl|decide|(repeat' first|(apply Lk.go;constructor)|assumption|exact nb ‹_› ‹_›|exact nt ‹_› ‹_›))|assumption)
   refine avle_int ?_; simp [numberV] at *; simp [*]
theorem p38 (s : Sort_) : Pure Try.prog 38 [s.av] (.bool (validS s)) := by
 refine pure_intro mo Try.func38 c38 fun H => ?_
 unfold e38 r38
 simp only [initEnv, initFrom]
 repeat' first|(apply Sp.go;·constructor<;>first|exact ss|(change _=_;first|(simp only[go_sem,Nat.reduceBEq,Nat.reduceAdd,Nat.reduceLeDiff,reduceIte]<;>rfl)|rfl)|exact Nat.le_of_ble_eq_true rfl|decide|(repeat' first|(apply Lk.go;constructor)|assumption|exact nb ‹_› ‹_›|exact nt ‹_› ‹_›))|(intro b hb;repeat first|(refine fe hb ?_;intro _ _ hb)|(refine fT hb ?_;intro hb))|refine rt ?_|refine gA rfl ?_|refine gB rfl ?_|apply cT rfl|apply cF rfl|(apply DM.gbT;rfl)|(apply DM.gbF;rfl)|intro h
 (apply AM.cond; (· rfl))
 ·intro h1
  repeat' first|(apply Sp.go;·constructor<;>first|exact ss|(change _=_;first|(simp only[go_sem,Nat.reduceBEq,Nat.reduceAdd,Nat.reduceLeDiff,reduceIte]<;>rfl)|rfl)|exact Nat.le_of_ble_eq_true rfl|decide|(repeat' first|(apply Lk.go;constructor)|assumption|exact nb ‹_› ‹_›|exact nt ‹_› ‹_›))|(intro b hb;repeat first|(refine fe hb ?_;intro _ _ hb)|(refine fT hb ?_;intro hb))|refine rt ?_|refine gA rfl ?_|refine gB rfl ?_|apply cT rfl|apply cF rfl|(apply DM.gbT;rfl)|(apply DM.gbF;rfl)|intro h
  all_goals ((apply Sr.go;·constructor<;>first|(apply Lk.go;constructor<;>first|exact ss|(change _=_;first|(simp only[go_sem,Nat.reduceBEq,Nat.reduceAdd,Nat.reduceLeDiff,reduceIte]<;>rfl)|rfl)|exact Nat.le_of_ble_eq_true rfl|decide|(repeat' first|(apply Lk.go;constructor)|assumption|exact nb ‹_› ‹_›|exact nt ‹_› ‹_›))|assumption))
  all_goals (refine avle_eq ?_; rw [AV.bool.injEq]; simp [validS] at *; try (simp [*]; done))
  all_goals (simp [*]; try omega)
 ·intro h1
  repeat' first|(apply Sp.go;·constructor<;>first|exact ss|(change _=_;first|(simp only[go_sem,Nat.reduceBEq,Nat.reduceAdd,Nat.reduceLeDiff,reduceIte]<;>rfl)|rfl)|exact Nat.le_of_ble_eq_true rfl|decide|(repeat' first|(apply Lk.go;constructor)|assumption|exact nb ‹_› ‹_›|exact nt ‹_› ‹_›))|(intro b hb;repeat first|(refine fe hb ?_;intro _ _ hb)|(refine fT hb ?_;intro hb))|refine rt ?_|refine gA rfl ?_|refine gB rfl ?_|apply cT rfl|apply cF rfl|(apply DM.gbT;rfl)|(apply DM.gbF;rfl)|intro h
  (apply AM.cond; (· rfl))
  ·intro h2
   repeat' first|(apply Sp.go;·constructor<;>first|exact ss|(change _=_;first|(simp only[go_sem,Nat.reduceBEq,Nat.reduceAdd,Nat.reduceLeDiff,reduceIte]<;>rfl)|rfl)|exact Nat.le_of_ble_eq_true rfl|decide|(repeat' first|(apply Lk.go;constructor)|assumption|exact nb ‹_› ‹_›|exact nt ‹_› ‹_›))|(intro b hb;repeat first|(refine fe hb ?_;intro _ _ hb)|(refine fT hb ?_;intro hb))|refine rt ?_|refine gA rfl ?_|refine gB rfl ?_|apply cT rfl|apply cF rfl|(apply DM.gbT;rfl)|(apply DM.gbF;rfl)|intro h
   all_goals ((apply Sr.go;·constructor<;>first|(apply Lk.go;constructor<;>first|exact ss|(change _=_;first|(simp only[go_sem,Nat.reduceBEq,Nat.reduceAdd,Nat.reduceLeDiff,reduceIte]<;>rfl)|rfl)|exact Nat.le_of_ble_eq_true rfl|decide|(repeat' first|(apply Lk.go;constructor)|assumption|exact nb ‹_› ‹_›|exact nt ‹_› ‹_›))|assumption))
   all_goals (refine avle_eq ?_; rw [AV.bool.injEq]; simp [validS] at *; try (simp [*]; done))
   all_goals (simp [*]; try omega)
  ·intro h2
   repeat' first|(apply Sp.go;·constructor<;>first|exact ss|(change _=_;first|(simp only[go_sem,Nat.reduceBEq,Nat.reduceAdd,Nat.reduceLeDiff,reduceIte]<;>rfl)|rfl)|exact Nat.le_of_ble_eq_true rfl|decide|(repeat' first|(apply Lk.go;constructor)|assumption|exact nb ‹_› ‹_›|exact nt ‹_› ‹_›))|(intro b hb;repeat first|(refine fe hb ?_;intro _ _ hb)|(refine fT hb ?_;intro hb))|refine rt ?_|refine gA rfl ?_|refine gB rfl ?_|apply cT rfl|apply cF rfl|(apply DM.gbT;rfl)|(apply DM.gbF;rfl)|intro h
   (apply Sr.go;·constructor<;>first|(apply Lk.go;constructor<;>first|exact ss|(change _=_;first|(simp only[go_sem,Nat.reduceBEq,Nat.reduceAdd,Nat.reduceLeDiff,reduceIte]<;>rfl)|rfl)|exact Nat.le_of_ble_eq_true rfl|decide|(repeat' first|(apply Lk.go;constructor)|assumption|exact nb ‹_› ‹_›|exact nt ‹_› ‹_›))|assumption)
   refine avle_eq ?_; rw [AV.bool.injEq]; simp [validS] at *; simp [*]
theorem p64 (s : Sort_) (v : Val) : Pure Try.prog 64 [s.av, v.av] (.bool (fitsV s v)) := by
 refine pure_intro mo Try.func64 c64 fun H => ?_
 unfold e64 r64
 simp only [initEnv, initFrom]
 repeat' first|(apply Sp.go;·constructor<;>first|exact ss|(change _=_;first|(simp only[go_sem,Nat.reduceBEq,Nat.reduceAdd,Nat.reduceLeDiff,reduceIte]<;>rfl)|rfl)|exact Nat.le_of_ble_eq_true rfl|decide|(repeat' first|(apply Lk.go;constructor)|assumption|exact nb ‹_› ‹_›|exact nt ‹_› ‹_›))|(intro b hb;repeat first|(refine fe hb ?_;intro _ _ hb)|(refine fT hb ?_;intro hb))|refine gA rfl ?_|refine gB rfl ?_|apply cT rfl|apply cF rfl|(apply DM.gbT;rfl)|(apply DM.gbF;rfl)|intro h
 (refine AM.reg [.bool (validS s), .bool (validV v), .int .i64 (numberV v), .int .i64 (numberV v)] ?_; simp only [annotate, AV.rows])
 repeat' first|(apply Sp.go;·constructor<;>first|exact ss|(change _=_;first|(simp only[go_sem,Nat.reduceBEq,Nat.reduceAdd,Nat.reduceLeDiff,reduceIte]<;>rfl)|rfl)|exact Nat.le_of_ble_eq_true rfl|decide|(repeat' first|(apply Lk.go;constructor)|assumption|exact nb ‹_› ‹_›|exact nt ‹_› ‹_›))|(intro b hb;repeat first|(refine fe hb ?_;intro _ _ hb)|(refine fT hb ?_;intro hb))|refine rt ?_|refine gA rfl ?_|refine gB rfl ?_|apply cT rfl|apply cF rfl|(apply DM.gbT;rfl)|(apply DM.gbF;rfl)|intro h
 (apply DM.pcRs (p38 s); (· simp only [go_sem, Nat.reduceBEq, Nat.reduceAdd] <;> rfl); (· exact AVLes.refl _))
 repeat' first|(apply Sp.go;·constructor<;>first|exact ss|(change _=_;first|(simp only[go_sem,Nat.reduceBEq,Nat.reduceAdd,Nat.reduceLeDiff,reduceIte]<;>rfl)|rfl)|exact Nat.le_of_ble_eq_true rfl|decide|(repeat' first|(apply Lk.go;constructor)|assumption|exact nb ‹_› ‹_›|exact nt ‹_› ‹_›))|(intro b hb;repeat first|(refine fe hb ?_;intro _ _ hb)|(refine fT hb ?_;intro hb))|refine rt ?_|refine gA rfl ?_|refine gB rfl ?_|apply cT rfl|apply cF rfl|(apply DM.gbT;rfl)|(apply DM.gbF;rfl)|intro h
 ·(apply DM.pcRs (p32 v); (· simp only [go_sem, Nat.reduceBEq, Nat.reduceAdd] <;> rfl); (· exact AVLes.refl _))
  repeat' first|(apply Sp.go;·constructor<;>first|exact ss|(change _=_;first|(simp only[go_sem,Nat.reduceBEq,Nat.reduceAdd,Nat.reduceLeDiff,reduceIte]<;>rfl)|rfl)|exact Nat.le_of_ble_eq_true rfl|decide|(repeat' first|(apply Lk.go;constructor)|assumption|exact nb ‹_› ‹_›|exact nt ‹_› ‹_›))|(intro b hb;repeat first|(refine fe hb ?_;intro _ _ hb)|(refine fT hb ?_;intro hb))|refine rt ?_|refine gA rfl ?_|refine gB rfl ?_|apply cT rfl|apply cF rfl|(apply DM.gbT;rfl)|(apply DM.gbF;rfl)|intro h
  ·(apply DM.pcRs (p104 v); (· simp only [go_sem, Nat.reduceBEq, Nat.reduceAdd] <;> rfl); (· exact AVLes.refl _))
   repeat' first|(apply Sp.go;·constructor<;>first|exact ss|(change _=_;first|(simp only[go_sem,Nat.reduceBEq,Nat.reduceAdd,Nat.reduceLeDiff,reduceIte]<;>rfl)|rfl)|exact Nat.le_of_ble_eq_true rfl|decide|(repeat' first|(apply Lk.go;constructor)|assumption|exact nb ‹_› ‹_›|exact nt ‹_› ‹_›))|(intro b hb;repeat first|(refine fe hb ?_;intro _ _ hb)|(refine fT hb ?_;intro hb))|refine rt ?_|refine gA rfl ?_|refine gB rfl ?_|apply cT rfl|apply cF rfl|(apply DM.gbT;rfl)|(apply DM.gbF;rfl)|intro h
   ·(apply DM.pcRs (p104 v); (· simp only [go_sem, Nat.reduceBEq, Nat.reduceAdd] <;> rfl); (· exact AVLes.refl _))
    repeat' first|(apply Sp.go;·constructor<;>first|exact ss|(change _=_;first|(simp only[go_sem,Nat.reduceBEq,Nat.reduceAdd,Nat.reduceLeDiff,reduceIte]<;>rfl)|rfl)|exact Nat.le_of_ble_eq_true rfl|decide|(repeat' first|(apply Lk.go;constructor)|assumption|exact nb ‹_› ‹_›|exact nt ‹_› ‹_›))|(intro b hb;repeat first|(refine fe hb ?_;intro _ _ hb)|(refine fT hb ?_;intro hb))|refine rt ?_|refine gA rfl ?_|refine gB rfl ?_|apply cT rfl|apply cF rfl|(apply DM.gbT;rfl)|(apply DM.gbF;rfl)|intro h
    (apply Sr.go;·constructor<;>first|(apply Lk.go;constructor<;>first|exact ss|(change _=_;first|(simp only[go_sem,Nat.reduceBEq,Nat.reduceAdd,Nat.reduceLeDiff,reduceIte]<;>rfl)|rfl)|exact Nat.le_of_ble_eq_true rfl|decide|(repeat' first|(apply Lk.go;constructor)|assumption|exact nb ‹_› ‹_›|exact nt ‹_› ‹_›))|assumption)
    refine avle_eq ?_; rw [AV.bool.injEq]; simp [fitsV] at *; simp [*]; try omega
   all_goals ((apply Sr.go;·constructor<;>first|(apply Lk.go;constructor<;>first|exact ss|(change _=_;first|(simp only[go_sem,Nat.reduceBEq,Nat.reduceAdd,Nat.reduceLeDiff,reduceIte]<;>rfl)|rfl)|exact Nat.le_of_ble_eq_true rfl|decide|(repeat' first|(apply Lk.go;constructor)|assumption|exact nb ‹_› ‹_›|exact nt ‹_› ‹_›))|assumption))
   all_goals (refine avle_eq ?_; rw [AV.bool.injEq]; simp [fitsV] at *; simp [*]; try omega)
  all_goals ((apply Sr.go;·constructor<;>first|(apply Lk.go;constructor<;>first|exact ss|(change _=_;first|(simp only[go_sem,Nat.reduceBEq,Nat.reduceAdd,Nat.reduceLeDiff,reduceIte]<;>rfl)|rfl)|exact Nat.le_of_ble_eq_true rfl|decide|(repeat' first|(apply Lk.go;constructor)|assumption|exact nb ‹_› ‹_›|exact nt ‹_› ‹_›))|assumption))
  all_goals (refine avle_eq ?_; rw [AV.bool.injEq]; simp [fitsV] at *; simp [*]; try omega)
 all_goals ((apply Sr.go;·constructor<;>first|(apply Lk.go;constructor<;>first|exact ss|(change _=_;first|(simp only[go_sem,Nat.reduceBEq,Nat.reduceAdd,Nat.reduceLeDiff,reduceIte]<;>rfl)|rfl)|exact Nat.le_of_ble_eq_true rfl|decide|(repeat' first|(apply Lk.go;constructor)|assumption|exact nb ‹_› ‹_›|exact nt ‹_› ‹_›))|assumption))
 all_goals (refine avle_eq ?_; rw [AV.bool.injEq]; simp [fitsV] at *; simp [*]; try omega)
theorem p120 (c : UInt8) : Pure Try.prog 120 [.int .u8 c.toNat] (.bool (digit c)) := by
  refine pure_intro mo Try.func120 c120 fun H => ?_
  unfold e120 r120
  simp only [initEnv, initFrom]
  repeat' first|(apply Sp.go;·constructor<;>first|exact ss|(change _=_;first|(simp only[go_sem,Nat.reduceBEq,Nat.reduceAdd,Nat.reduceLeDiff,reduceIte]<;>rfl)|rfl)|exact Nat.le_of_ble_eq_true rfl|decide|(repeat' first|(apply Lk.go;constructor)|assumption|exact nb ‹_› ‹_›|exact nt ‹_› ‹_›))|(intro b hb;repeat first|(refine fe hb ?_;intro _ _ hb)|(refine fT hb ?_;intro hb))|refine rt ?_|refine gA rfl ?_|refine gB rfl ?_|apply cT rfl|apply cF rfl|(apply DM.gbT;rfl)|(apply DM.gbF;rfl)|intro h
  all_goals ((apply Sr.go;·constructor<;>first|(apply Lk.go;constructor<;>first|exact ss|(change _=_;first|(simp only[go_sem,Nat.reduceBEq,Nat.reduceAdd,Nat.reduceLeDiff,reduceIte]<;>rfl)|rfl)|exact Nat.le_of_ble_eq_true rfl|decide|(repeat' first|(apply Lk.go;constructor)|assumption|exact nb ‹_› ‹_›|exact nt ‹_› ‹_›))|assumption))
  all_goals (refine avle_eq ?_; rw [AV.bool.injEq, Bool.eq_iff_iff]; simp [digit] at *; try omega)
theorem p82 (c : UInt8) : Pure Try.prog 82 [.int .u8 c.toNat] (.bool (letter c)) := by
  refine pure_intro mo Try.func82 c82 fun H => ?_
  unfold e82 r82
  simp only [initEnv, initFrom]
  repeat' first|(apply Sp.go;·constructor<;>first|exact ss|(change _=_;first|(simp only[go_sem,Nat.reduceBEq,Nat.reduceAdd,Nat.reduceLeDiff,reduceIte]<;>rfl)|rfl)|exact Nat.le_of_ble_eq_true rfl|decide|(repeat' first|(apply Lk.go;constructor)|assumption|exact nb ‹_› ‹_›|exact nt ‹_› ‹_›))|(intro b hb;repeat first|(refine fe hb ?_;intro _ _ hb)|(refine fT hb ?_;intro hb))|refine rt ?_|refine gA rfl ?_|refine gB rfl ?_|apply cT rfl|apply cF rfl|(apply DM.gbT;rfl)|(apply DM.gbF;rfl)|intro h
  all_goals ((apply Sr.go;·constructor<;>first|(apply Lk.go;constructor<;>first|exact ss|(change _=_;first|(simp only[go_sem,Nat.reduceBEq,Nat.reduceAdd,Nat.reduceLeDiff,reduceIte]<;>rfl)|rfl)|exact Nat.le_of_ble_eq_true rfl|decide|(repeat' first|(apply Lk.go;constructor)|assumption|exact nb ‹_› ‹_›|exact nt ‹_› ‹_›))|assumption))
  all_goals (refine avle_eq ?_; rw [AV.bool.injEq, Bool.eq_iff_iff]; simp [letter] at *; try omega)
theorem p83 (c : UInt8) : Pure Try.prog 83 [.int .u8 c.toNat] (.bool (inner c)) := by
  refine pure_intro mo Try.func83 c83 fun H => ?_
  unfold e83 r83
  simp only [initEnv, initFrom]
  repeat' first|(apply Sp.go;·constructor<;>first|exact ss|(change _=_;first|(simp only[go_sem,Nat.reduceBEq,Nat.reduceAdd,Nat.reduceLeDiff,reduceIte]<;>rfl)|rfl)|exact Nat.le_of_ble_eq_true rfl|decide|(repeat' first|(apply Lk.go;constructor)|assumption|exact nb ‹_› ‹_›|exact nt ‹_› ‹_›))|(intro b hb;repeat first|(refine fe hb ?_;intro _ _ hb)|(refine fT hb ?_;intro hb))|refine rt ?_|refine gA rfl ?_|refine gB rfl ?_|apply cT rfl|apply cF rfl|(apply DM.gbT;rfl)|(apply DM.gbF;rfl)|(apply DM.pcs (p82 _); (· simp only [go_sem, Nat.reduceBEq, Nat.reduceAdd] <;> rfl); (· exact AVLes.refl _))|intro h
  · skip
    (apply DM.pcs (p120 _); (· simp only [go_sem, Nat.reduceBEq, Nat.reduceAdd] <;> rfl); (· exact AVLes.refl _))
    repeat' first|(apply Sp.go;·constructor<;>first|exact ss|(change _=_;first|(simp only[go_sem,Nat.reduceBEq,Nat.reduceAdd,Nat.reduceLeDiff,reduceIte]<;>rfl)|rfl)|exact Nat.le_of_ble_eq_true rfl|decide|(repeat' first|(apply Lk.go;constructor)|assumption|exact nb ‹_› ‹_›|exact nt ‹_› ‹_›))|(intro b hb;repeat first|(refine fe hb ?_;intro _ _ hb)|(refine fT hb ?_;intro hb))|refine rt ?_|refine gA rfl ?_|refine gB rfl ?_|apply cT rfl|apply cF rfl|(apply DM.gbT;rfl)|(apply DM.gbF;rfl)|intro h
    all_goals ((apply Sr.go;·constructor<;>first|(apply Lk.go;constructor<;>first|exact ss|(change _=_;first|(simp only[go_sem,Nat.reduceBEq,Nat.reduceAdd,Nat.reduceLeDiff,reduceIte]<;>rfl)|rfl)|exact Nat.le_of_ble_eq_true rfl|decide|(repeat' first|(apply Lk.go;constructor)|assumption|exact nb ‹_› ‹_›|exact nt ‹_› ‹_›))|assumption))
    all_goals (refine avle_eq ?_; rw [AV.bool.injEq, Bool.eq_iff_iff]; simp [inner] at *; first | omega | (simp [*]; done) | (simp [*]; omega))
  all_goals ((apply Sr.go;·constructor<;>first|(apply Lk.go;constructor<;>first|exact ss|(change _=_;first|(simp only[go_sem,Nat.reduceBEq,Nat.reduceAdd,Nat.reduceLeDiff,reduceIte]<;>rfl)|rfl)|exact Nat.le_of_ble_eq_true rfl|decide|(repeat' first|(apply Lk.go;constructor)|assumption|exact nb ‹_› ‹_›|exact nt ‹_› ‹_›))|assumption))
  all_goals (refine avle_eq ?_; rw [AV.bool.injEq, Bool.eq_iff_iff]; simp [inner] at *; first | omega | (simp [*]; done) | (simp [*]; omega))
theorem p48h (s : List UInt8) (hs : s.length ≤ maxLen) : Pure Try.prog 48 [.str s] (.bool (isName s)) := by
  cases s with
  | nil =>
    refine pure_intro mo Try.func48 c48 fun H => ?_
    unfold e48 r48
    simp only [initEnv, initFrom]
    repeat' first|(apply Sp.go;·constructor<;>first|exact ss|(change _=_;first|(simp only[go_sem,Nat.reduceBEq,Nat.reduceAdd,Nat.reduceLeDiff,reduceIte]<;>rfl)|rfl)|exact Nat.le_of_ble_eq_true rfl|decide|(repeat' first|(apply Lk.go;constructor)|assumption|exact nb ‹_› ‹_›|exact nt ‹_› ‹_›))|(intro b hb;repeat first|(refine fe hb ?_;intro _ _ hb)|(refine fT hb ?_;intro hb))|refine rt ?_|refine gA rfl ?_|refine gB rfl ?_|apply cT rfl|apply cF rfl|(apply DM.gbT;rfl)|(apply DM.gbF;rfl)|intro h
    (apply Sr.go;·constructor<;>first|(apply Lk.go;constructor<;>first|exact ss|(change _=_;first|(simp only[go_sem,Nat.reduceBEq,Nat.reduceAdd,Nat.reduceLeDiff,reduceIte]<;>rfl)|rfl)|exact Nat.le_of_ble_eq_true rfl|decide|(repeat' first|(apply Lk.go;constructor)|assumption|exact nb ‹_› ‹_›|exact nt ‹_› ‹_›))|assumption)
    exact AVLe.refl _
  | cons c l =>
    have hn : isName (c :: l) = (letter c && (c :: l).all inner && decide ((c :: l).length ≤ 16)) := rfl
    obtain ⟨s, hS⟩ : ∃ s, c :: l = s := ⟨_, rfl⟩
    have h0 : s[0]? = some c := by rw [← hS]; rfl
    have hne : ¬ (s = []) := by rw [← hS]; simp
    rw [hS] at hs hn ⊢
    clear hS
    refine pure_intro mo Try.func48 c48 fun H => ?_
    unfold e48 r48
    simp only [initEnv, initFrom]
    repeat' first|(apply Sp.go;·constructor<;>first|exact ss|(change _=_;first|(simp only[go_sem,Nat.reduceBEq,Nat.reduceAdd,Nat.reduceLeDiff,reduceIte]<;>rfl)|rfl)|exact Nat.le_of_ble_eq_true rfl|decide|(repeat' first|(apply Lk.go;constructor)|assumption|exact nb ‹_› ‹_›|exact nt ‹_› ‹_›))|(intro b hb;repeat first|(refine fe hb ?_;intro _ _ hb)|(refine fT hb ?_;intro hb))|refine rt ?_|refine gA rfl ?_|refine gB rfl ?_|apply cT rfl|apply cF rfl|(apply DM.gbT;rfl)|(apply DM.gbF;rfl)|intro h
    · skip
      (apply DM.idxSs s .i64 0 c (by decide) h0; (· rfl); (· rfl))
      repeat' first|(apply Sp.go;·constructor<;>first|exact ss|(change _=_;first|(simp only[go_sem,Nat.reduceBEq,Nat.reduceAdd,Nat.reduceLeDiff,reduceIte]<;>rfl)|rfl)|exact Nat.le_of_ble_eq_true rfl|decide|(repeat' first|(apply Lk.go;constructor)|assumption|exact nb ‹_› ‹_›|exact nt ‹_› ‹_›))|(intro b hb;repeat first|(refine fe hb ?_;intro _ _ hb)|(refine fT hb ?_;intro hb))|refine rt ?_|refine gA rfl ?_|refine gB rfl ?_|apply cT rfl|apply cF rfl|(apply DM.gbT;rfl)|(apply DM.gbF;rfl)|(apply DM.pcs (p82 _); (· simp only [go_sem, Nat.reduceBEq, Nat.reduceAdd] <;> rfl); (· exact AVLes.refl _))|intro h
      · skip
        (apply AM.cond; (· rfl))
        · intro h1
          repeat' first|(apply Sp.go;·constructor<;>first|exact ss|(change _=_;first|(simp only[go_sem,Nat.reduceBEq,Nat.reduceAdd,Nat.reduceLeDiff,reduceIte]<;>rfl)|rfl)|exact Nat.le_of_ble_eq_true rfl|decide|(repeat' first|(apply Lk.go;constructor)|assumption|exact nb ‹_› ‹_›|exact nt ‹_› ‹_›))|(intro b hb;repeat first|(refine fe hb ?_;intro _ _ hb)|(refine fT hb ?_;intro hb))|refine rt ?_|refine gA rfl ?_|refine gB rfl ?_|apply cT rfl|apply cF rfl|(apply DM.gbT;rfl)|(apply DM.gbF;rfl)|intro h
          (apply Sr.go;·constructor<;>first|(apply Lk.go;constructor<;>first|exact ss|(change _=_;first|(simp only[go_sem,Nat.reduceBEq,Nat.reduceAdd,Nat.reduceLeDiff,reduceIte]<;>rfl)|rfl)|exact Nat.le_of_ble_eq_true rfl|decide|(repeat' first|(apply Lk.go;constructor)|assumption|exact nb ‹_› ‹_›|exact nt ‹_› ‹_›))|assumption)
          refine avle_eq ?_; rw [AV.bool.injEq, hn]
          simp at h1
          have : decide (s.length ≤ 16) = false := by simp; omega
          rw [this, Bool.and_false]
        · intro h1
          repeat' first|(apply Sp.go;·constructor<;>first|exact ss|(change _=_;first|(simp only[go_sem,Nat.reduceBEq,Nat.reduceAdd,Nat.reduceLeDiff,reduceIte]<;>rfl)|rfl)|exact Nat.le_of_ble_eq_true rfl|decide|(repeat' first|(apply Lk.go;constructor)|assumption|exact nb ‹_› ‹_›|exact nt ‹_› ‹_›))|(intro b hb;repeat first|(refine fe hb ?_;intro _ _ hb)|(refine fT hb ?_;intro hb))|refine rt ?_|refine gA rfl ?_|refine gB rfl ?_|apply cT rfl|apply cF rfl|(apply DM.gbT;rfl)|(apply DM.gbF;rfl)|intro h
          refine AM.loopX (X := Nat) 0 (fun i => [(0, .str s), (3, .int .i64 i)]) (fun i H' => H' = H ∧ i ≤ s.length ∧ isName s = (s.drop i).all inner) (fun i => s.length - i) ⟨rfl, by omega, ?_⟩ ?_ ?_
          · simp at h h1
            rw [hn, h]
            simp
            intro _; omega
          · (repeat first | exact envle_nil _ | (refine envle_cons ?_ ?_; · (simp only [go_sem, Nat.reduceBEq, Nat.reduceAdd]; exact AVLe.refl _)))
          · intro i H' ⟨e, hi, he⟩
            subst e
            repeat' first|(apply Sp.go;·constructor<;>first|exact ss|(change _=_;first|(simp only[go_sem,Nat.reduceBEq,Nat.reduceAdd,Nat.reduceLeDiff,reduceIte]<;>rfl)|rfl)|exact Nat.le_of_ble_eq_true rfl|decide|(repeat' first|(apply Lk.go;constructor)|assumption|exact nb ‹_› ‹_›|exact nt ‹_› ‹_›))|(intro b hb;repeat first|(refine fe hb ?_;intro _ _ hb)|(refine fT hb ?_;intro hb))|refine rt ?_|refine gA rfl ?_|refine gB rfl ?_|apply cT rfl|apply cF rfl|(apply DM.gbT;rfl)|(apply DM.gbF;rfl)|intro h
            (apply AM.cond; (· rfl))
            · intro h3
              simp at h3
              obtain ⟨c, hc⟩ := some_of h3
              have hd := drop_of hc
              repeat' first|(apply Sp.go;·constructor<;>first|exact ss|(change _=_;first|(simp only[go_sem,Nat.reduceBEq,Nat.reduceAdd,Nat.reduceLeDiff,reduceIte]<;>rfl)|rfl)|exact Nat.le_of_ble_eq_true rfl|decide|(repeat' first|(apply Lk.go;constructor)|assumption|exact nb ‹_› ‹_›|exact nt ‹_› ‹_›))|(intro b hb;repeat first|(refine fe hb ?_;intro _ _ hb)|(refine fT hb ?_;intro hb))|refine rt ?_|refine gA rfl ?_|refine gB rfl ?_|apply cT rfl|apply cF rfl|(apply DM.gbT;rfl)|(apply DM.gbF;rfl)|(apply DM.idxSs s .i64 i c (by omega) (by simpa using hc); (· rfl); (· rfl))|(apply DM.pcs (p83 _); (· simp only [go_sem, Nat.reduceBEq, Nat.reduceAdd] <;> rfl); (· exact AVLes.refl _))|intro h
              (apply AM.cond; (· rfl))
              · intro h4
                repeat' first|(apply Sp.go;·constructor<;>first|exact ss|(change _=_;first|(simp only[go_sem,Nat.reduceBEq,Nat.reduceAdd,Nat.reduceLeDiff,reduceIte]<;>rfl)|rfl)|exact Nat.le_of_ble_eq_true rfl|decide|(repeat' first|(apply Lk.go;constructor)|assumption|exact nb ‹_› ‹_›|exact nt ‹_› ‹_›))|(intro b hb;repeat first|(refine fe hb ?_;intro _ _ hb)|(refine fT hb ?_;intro hb))|refine rt ?_|refine gA rfl ?_|refine gB rfl ?_|apply cT rfl|apply cF rfl|(apply DM.gbT;rfl)|(apply DM.gbF;rfl)|intro h
                (apply Sr.go;·constructor<;>first|(apply Lk.go;constructor<;>first|exact ss|(change _=_;first|(simp only[go_sem,Nat.reduceBEq,Nat.reduceAdd,Nat.reduceLeDiff,reduceIte]<;>rfl)|rfl)|exact Nat.le_of_ble_eq_true rfl|decide|(repeat' first|(apply Lk.go;constructor)|assumption|exact nb ‹_› ‹_›|exact nt ‹_› ‹_›))|assumption)
                refine avle_eq ?_
                simp at h4
                rw [he, hd]; simp [h4]
              · intro h4
                repeat' first|(apply Sp.go;·constructor<;>first|exact ss|(change _=_;first|(simp only[go_sem,Nat.reduceBEq,Nat.reduceAdd,Nat.reduceLeDiff,reduceIte]<;>rfl)|rfl)|exact Nat.le_of_ble_eq_true rfl|decide|(repeat' first|(apply Lk.go;constructor)|assumption|exact nb ‹_› ‹_›|exact nt ‹_› ‹_›))|(intro b hb;repeat first|(refine fe hb ?_;intro _ _ hb)|(refine fT hb ?_;intro hb))|refine rt ?_|refine gA rfl ?_|refine gB rfl ?_|apply cT rfl|apply cF rfl|(apply DM.gbT;rfl)|(apply DM.gbF;rfl)|intro h
                refine AM.roundX (i + 1) ⟨rfl, by omega, ?_⟩ ?_ ?_
                · simp at h4
                  rw [he, hd]; simp [h4]
                · (repeat first | exact envle_nil _ | (refine envle_cons ?_ ?_; · (simp only [go_sem, Nat.reduceBEq, Nat.reduceAdd]; exact AVLe.refl _)))
                  refine envle_cons ?_ ?_
                  · simp only [go_sem, Nat.reduceBEq, Nat.reduceAdd]
                    refine avle_int ?_
                    rw [inc64 h3 hs]
                  exact envle_nil _
                · show s.length - (i + 1) < s.length - i
                  omega
            · intro h3
              repeat' first|(apply Sp.go;·constructor<;>first|exact ss|(change _=_;first|(simp only[go_sem,Nat.reduceBEq,Nat.reduceAdd,Nat.reduceLeDiff,reduceIte]<;>rfl)|rfl)|exact Nat.le_of_ble_eq_true rfl|decide|(repeat' first|(apply Lk.go;constructor)|assumption|exact nb ‹_› ‹_›|exact nt ‹_› ‹_›))|(intro b hb;repeat first|(refine fe hb ?_;intro _ _ hb)|(refine fT hb ?_;intro hb))|refine rt ?_|refine gA rfl ?_|refine gB rfl ?_|apply cT rfl|apply cF rfl|(apply DM.gbT;rfl)|(apply DM.gbF;rfl)|intro h
              (apply Sr.go;·constructor<;>first|(apply Lk.go;constructor<;>first|exact ss|(change _=_;first|(simp only[go_sem,Nat.reduceBEq,Nat.reduceAdd,Nat.reduceLeDiff,reduceIte]<;>rfl)|rfl)|exact Nat.le_of_ble_eq_true rfl|decide|(repeat' first|(apply Lk.go;constructor)|assumption|exact nb ‹_› ‹_›|exact nt ‹_› ‹_›))|assumption)
              refine avle_eq ?_
              simp at h3
              rw [he, List.drop_eq_nil_of_le (by omega)]; rfl
      · (apply Sr.go;·constructor<;>first|(apply Lk.go;constructor<;>first|exact ss|(change _=_;first|(simp only[go_sem,Nat.reduceBEq,Nat.reduceAdd,Nat.reduceLeDiff,reduceIte]<;>rfl)|rfl)|exact Nat.le_of_ble_eq_true rfl|decide|(repeat' first|(apply Lk.go;constructor)|assumption|exact nb ‹_› ‹_›|exact nt ‹_› ‹_›))|assumption)
        simp at h
        refine avle_eq ?_; rw [AV.bool.injEq, hn, h]; simp
    · exact absurd (by simpa using h) hne
theorem p48 (s : List UInt8) : Pure Try.prog 48 [.str s] (.bool (isName s)) :=
  pure_assume (G := s.length ≤ maxLen) (fun m vs h => by simp only [RvL, Rv] at h; obtain ⟨_, _, _, ⟨_, h⟩, _⟩ := h; exact h) (p48h s)
theorem p84 (op : Int) : Pure Try.prog 84 [.int .i64 op] (.tup [.int .i64 (numd op).1, .int .i64 (numd op).2.1]) := by
  have key : ∀ {a b : Int} {c : Bool}, numd op = (a, b, c) → AVLe (.tup [.int .i64 a, .int .i64 b]) (.tup [.int .i64 (numd op).1, .int .i64 (numd op).2.1]) := by
    intro a b c h
    rw [h]
    exact AVLe.refl _
  refine pure_intro mo Try.func84 c84 fun H => ?_
  unfold e84 r84
  simp only [initEnv, initFrom]
  repeat' first|(apply Sp.go;·constructor<;>first|exact ss|(change _=_;first|(simp only[go_sem,Nat.reduceBEq,Nat.reduceAdd,Nat.reduceLeDiff,reduceIte]<;>rfl)|rfl)|exact Nat.le_of_ble_eq_true rfl|decide|(repeat' first|(apply Lk.go;constructor)|assumption|exact nb ‹_› ‹_›|exact nt ‹_› ‹_›))|(intro b hb;repeat first|(refine fe hb ?_;intro _ _ hb)|(refine fT hb ?_;intro hb))|refine rt ?_|refine gA rfl ?_|refine gB rfl ?_|apply cT rfl|apply cF rfl|(apply DM.gbT;rfl)|(apply DM.gbF;rfl)|(apply AM.condS;rfl)|intro h
  all_goals ((apply Sr.go;·constructor<;>first|(apply Lk.go;constructor<;>first|exact ss|(change _=_;first|(simp only[go_sem,Nat.reduceBEq,Nat.reduceAdd,Nat.reduceLeDiff,reduceIte]<;>rfl)|rfl)|exact Nat.le_of_ble_eq_true rfl|decide|(repeat' first|(apply Lk.go;constructor)|assumption|exact nb ‹_› ‹_›|exact nt ‹_› ‹_›))|assumption))
  all_goals first | (refine key (c := true) ?_; clear key; simp at *; simp [numd, *]; done) | (refine key (c := false) ?_; clear key; simp at *; simp [numd, *]; done)
theorem p42 (op : Int) : Pure Try.prog 42 [.int .i64 op] (.bool (decide (op = 19) || decide (op = 20) || decide (op = 22))) := by
  refine pure_intro mo Try.func42 c42 fun H => ?_
  unfold e42 r42
  simp only [initEnv, initFrom]
  repeat' first|(apply Sp.go;·constructor<;>first|exact ss|(change _=_;first|(simp only[go_sem,Nat.reduceBEq,Nat.reduceAdd,Nat.reduceLeDiff,reduceIte]<;>rfl)|rfl)|exact Nat.le_of_ble_eq_true rfl|decide|(repeat' first|(apply Lk.go;constructor)|assumption|exact nb ‹_› ‹_›|exact nt ‹_› ‹_›))|(intro b hb;repeat first|(refine fe hb ?_;intro _ _ hb)|(refine fT hb ?_;intro hb))|refine rt ?_|refine gA rfl ?_|refine gB rfl ?_|apply cT rfl|apply cF rfl|(apply DM.gbT;rfl)|(apply DM.gbF;rfl)|intro h
  all_goals ((apply Sr.go;·constructor<;>first|(apply Lk.go;constructor<;>first|exact ss|(change _=_;first|(simp only[go_sem,Nat.reduceBEq,Nat.reduceAdd,Nat.reduceLeDiff,reduceIte]<;>rfl)|rfl)|exact Nat.le_of_ble_eq_true rfl|decide|(repeat' first|(apply Lk.go;constructor)|assumption|exact nb ‹_› ‹_›|exact nt ‹_› ‹_›))|assumption))
  all_goals (refine avle_eq ?_; rw [AV.bool.injEq, Bool.eq_iff_iff]; simp at *; try omega)
theorem p50 (peer label role : Int) : Pure Try.prog 50 [.int .i64 peer, .int .i64 label, .int .i64 role] (.bool (inB peer 0 5 && decide (peer ≠ role) && inB label 0 39)) := by
  refine pure_intro mo Try.func50 c50 fun H => ?_
  unfold e50 r50
  simp only [initEnv, initFrom]
  repeat' first|(apply Sp.go;·constructor<;>first|exact ss|(change _=_;first|(simp only[go_sem,Nat.reduceBEq,Nat.reduceAdd,Nat.reduceLeDiff,reduceIte]<;>rfl)|rfl)|exact Nat.le_of_ble_eq_true rfl|decide|(repeat' first|(apply Lk.go;constructor)|assumption|exact nb ‹_› ‹_›|exact nt ‹_› ‹_›))|(intro b hb;repeat first|(refine fe hb ?_;intro _ _ hb)|(refine fT hb ?_;intro hb))|refine rt ?_|refine gA rfl ?_|refine gB rfl ?_|apply cT rfl|apply cF rfl|(apply DM.gbT;rfl)|(apply DM.gbF;rfl)|intro h
  all_goals ((apply Sr.go;·constructor<;>first|(apply Lk.go;constructor<;>first|exact ss|(change _=_;first|(simp only[go_sem,Nat.reduceBEq,Nat.reduceAdd,Nat.reduceLeDiff,reduceIte]<;>rfl)|rfl)|exact Nat.le_of_ble_eq_true rfl|decide|(repeat' first|(apply Lk.go;constructor)|assumption|exact nb ‹_› ‹_›|exact nt ‹_› ‹_›))|assumption))
  all_goals (refine avle_eq ?_; rw [AV.bool.injEq, Bool.eq_iff_iff]; simp [inB] at *; try omega)
theorem formed_eq (x : Ins_) : formed x = (inB x.op 1 24 && inB x.n (numd x.op).1 (numd x.op).2.1 && if x.op = 2 then validV ⟨2, 0, x.s⟩ else decide (x.s = [])) := by
  obtain ⟨op, n, s⟩ := x
  simp only [formed, numd, inB]
  by_cases h2 : op = 2
  · subst h2
    simp
    rw [Bool.eq_iff_iff]
    simp
    intro _
    omega
  · rw [if_neg h2, if_neg h2]
    split
    · rename_i h; subst h; simp
    · split
      · rename_i h; rcases h with h | h <;> subst h <;> simp
      · split
        · rename_i h; subst h; simp
        · split
          · rename_i h; rcases h with h | h | h <;> subst h <;> simp
          · split
            · rename_i h; subst h; simp
            · rw [Bool.eq_iff_iff]
              simp
              intro _ _ _
              omega
theorem p51 (x : Ins_) : Pure Try.prog 51 [x.av] (.bool (formed x)) := by
  have key : ∀ {b : Bool}, (inB x.op 1 24 && inB x.n (numd x.op).1 (numd x.op).2.1 && if x.op = 2 then validV ⟨2, 0, x.s⟩ else decide (x.s = [])) = b → AVLe (.bool b) (.bool (formed x)) := by
    intro b h
    rw [formed_eq, h]
    exact AVLe.refl _
  refine pure_intro mo Try.func51 c51 fun H => ?_
  unfold e51 r51
  simp only [initEnv, initFrom]
  repeat' first|(apply Sp.go;·constructor<;>first|exact ss|(change _=_;first|(simp only[go_sem,Nat.reduceBEq,Nat.reduceAdd,Nat.reduceLeDiff,reduceIte]<;>rfl)|rfl)|exact Nat.le_of_ble_eq_true rfl|decide|(repeat' first|(apply Lk.go;constructor)|assumption|exact nb ‹_› ‹_›|exact nt ‹_› ‹_›))|(intro b hb;repeat first|(refine fe hb ?_;intro _ _ hb)|(refine fT hb ?_;intro hb))|refine rt ?_|refine gA rfl ?_|refine gB rfl ?_|apply cT rfl|apply cF rfl|(apply DM.gbT;rfl)|(apply DM.gbF;rfl)|(apply AM.condS;rfl)|intro h
  all_goals try (
    skip
    (apply DM.pcs (p84 x.op); (· simp only [go_sem, Nat.reduceBEq, Nat.reduceAdd] <;> rfl); (· exact AVLes.refl _))
    repeat' first|(apply Sp.go;·constructor<;>first|exact ss|(change _=_;first|(simp only[go_sem,Nat.reduceBEq,Nat.reduceAdd,Nat.reduceLeDiff,reduceIte]<;>rfl)|rfl)|exact Nat.le_of_ble_eq_true rfl|decide|(repeat' first|(apply Lk.go;constructor)|assumption|exact nb ‹_› ‹_›|exact nt ‹_› ‹_›))|(intro b hb;repeat first|(refine fe hb ?_;intro _ _ hb)|(refine fT hb ?_;intro hb))|refine rt ?_|refine gA rfl ?_|refine gB rfl ?_|apply cT rfl|apply cF rfl|(apply DM.gbT;rfl)|(apply DM.gbF;rfl)|(apply AM.condS;rfl)|intro h
    )
  all_goals try (
    skip
    (apply DM.pcs (p31 x.s); (· simp only [go_sem, Nat.reduceBEq, Nat.reduceAdd] <;> rfl); (· exact AVLes.refl _))
    repeat' first|(apply Sp.go;·constructor<;>first|exact ss|(change _=_;first|(simp only[go_sem,Nat.reduceBEq,Nat.reduceAdd,Nat.reduceLeDiff,reduceIte]<;>rfl)|rfl)|exact Nat.le_of_ble_eq_true rfl|decide|(repeat' first|(apply Lk.go;constructor)|assumption|exact nb ‹_› ‹_›|exact nt ‹_› ‹_›))|(intro b hb;repeat first|(refine fe hb ?_;intro _ _ hb)|(refine fT hb ?_;intro hb))|refine rt ?_|refine gA rfl ?_|refine gB rfl ?_|apply cT rfl|apply cF rfl|(apply DM.gbT;rfl)|(apply DM.gbF;rfl)|(apply DM.pcs (p32 ⟨2, 0, x.s⟩); (· simp only [go_sem, Nat.reduceBEq, Nat.reduceAdd] <;> rfl); (· exact AVLes.refl _))|intro h
    )
  all_goals ((apply Sr.go;·constructor<;>first|(apply Lk.go;constructor<;>first|exact ss|(change _=_;first|(simp only[go_sem,Nat.reduceBEq,Nat.reduceAdd,Nat.reduceLeDiff,reduceIte]<;>rfl)|rfl)|exact Nat.le_of_ble_eq_true rfl|decide|(repeat' first|(apply Lk.go;constructor)|assumption|exact nb ‹_› ‹_›|exact nt ‹_› ‹_›))|assumption))
  all_goals (refine key ?_; clear key; simp only [decide_eq_true_eq, decide_eq_false_iff_not] at *)
  all_goals first
    | (have e1 : inB x.op 1 24 = false := by simp only [inB, Bool.and_eq_false_iff, decide_eq_false_iff_not]; omega
       rw [e1, Bool.false_and, Bool.false_and]
       done)
    | (have e2 : inB x.n (numd x.op).1 (numd x.op).2.1 = false := by simp only [inB, Bool.and_eq_false_iff, decide_eq_false_iff_not]; omega
       rw [e2, Bool.and_false, Bool.false_and]
       done)
    | (have e1 : inB x.op 1 24 = true := by simp only [inB, Bool.and_eq_true, decide_eq_true_eq]; omega
       have e2 : inB x.n (numd x.op).1 (numd x.op).2.1 = true := by simp only [inB, Bool.and_eq_true, decide_eq_true_eq]; omega
       rw [e1, e2, Bool.true_and, Bool.true_and]
       simp [*]
       done)
end Go.Aw.T.R
