/- Part of a proof; own work. -/
import Derived.Test.YtjjngpjdhjeckaaAS3
namespace Go.Aw.T
open Go Go.Aw Go.Proofs Go.RowKit
set_option maxRecDepth 100000
attribute [local irreducible] Go.Aw.DM Go.Aw.AHeap.setB Go.Aw.AHeap.setT
attribute [local go_sem] peval EOpd.ev Env.get binInt binStr binBool buildParts AV.cells AV.okc setRange minmaxAV AV.one AV.ofCells eqCells eqCell bslRows cond_true cond_false beq_self_eq_true Bool.not_true Bool.not_false beq_true beq_false eq_self if_true Option.some.injEq List.length_cons List.length_nil List.take_succ_cons List.take_zero List.drop_succ_cons List.drop_zero List.set_cons_succ List.set_cons_zero List.nil_append List.cons_append List.append_nil and_self Option.map_some List.map_cons List.map_nil Bool.false_eq_true if_false Nat.zero_add Nat.add_zero true_and and_true Bool.and_true Bool.true_and List.getElem?_cons_zero List.getElem?_cons_succ Nat.zero_le Nat.le_refl
set_option linter.unusedSimpArgs false
set_option linter.unusedVariables false
def eqF {α β : Type} (q : α → β → Bool) : List α → List β → Bool
 | [], [] => true
 | a :: l, b :: r => q a b && eqF q l r
 | _, _ => false
theorem eqF_len {α β : Type} {q : α → β → Bool} : ∀ {l : List α} {r : List β}, l.length ≠ r.length → eqF q l r = false
 | [], [], h => by simp at h
 | [], _ :: _, _ => rfl
 | _ :: _, [], _ => rfl
 | a :: l, b :: r, h => by simp only [eqF]; rw [eqF_len (by simpa using h)]; simp
theorem drop_of {α : Type} {l : List α} {i : Nat} {v : α} (h : l[i]? = some v) : l.drop i = v :: l.drop (i + 1) := by
 obtain ⟨h3, e⟩ := List.getElem?_eq_some_iff.1 h
 rw [List.drop_eq_getElem_cons h3, e]
theorem some_of {α : Type} {l : List α} {i : Nat} (h : i < l.length) : ∃ v, l[i]? = some v := ⟨_, List.getElem?_eq_getElem h⟩
theorem p59 (H : AHeap) (f : FuncId) (cap : List AV) (vs : List Var_) (xs : List Val) (q : Var_ → Val → Bool) (hf : callable Try.prog f = true) (hq : ∀ v x, Pure Try.prog f (v.av :: x.av :: cap) (.bool (q v x))) : PureAt Try.prog 59 [.vs 7 (vs.map Var_.row), .vs 3 (xs.map Val.row), .fn f cap] H (.bool (eqF q vs xs)) := by
 refine pureAt_assume (G := vs.length ≤ maxLen) (fun m vs h => by simp only [RvL] at h; obtain ⟨_, _, _, h, _⟩ := h; simpa using vs_len h) fun hlen => ?_
 refine pureAt_intro mo Try.func59 c59 ?_
 unfold e59 r59
 simp only [initEnv, initFrom]
 repeat' first|(apply Sp.go;·constructor<;>first|exact ss|(change _=_;first|(simp only[go_sem,Nat.reduceBEq,Nat.reduceAdd,Nat.reduceLeDiff,reduceIte]<;>rfl)|rfl)|exact Nat.le_of_ble_eq_true rfl|decide|(repeat' first|(apply Lk.go;constructor)|assumption|exact nb ‹_› ‹_›|exact nt ‹_› ‹_›))|(intro b hb;repeat first|(refine fe hb ?_;intro _ _ hb)|(refine fT hb ?_;intro hb))|refine rt ?_|refine gA rfl ?_|refine gB rfl ?_|apply cT rfl|apply cF rfl|(apply DM.gbT;rfl)|(apply DM.gbF;rfl)|intro h
 (apply AM.cond; (· rfl))
 ·intro h
  repeat' first|(apply Sp.go;·constructor<;>first|exact ss|(change _=_;first|(simp only[go_sem,Nat.reduceBEq,Nat.reduceAdd,Nat.reduceLeDiff,reduceIte]<;>rfl)|rfl)|exact Nat.le_of_ble_eq_true rfl|decide|(repeat' first|(apply Lk.go;constructor)|assumption|exact nb ‹_› ‹_›|exact nt ‹_› ‹_›))|(intro b hb;repeat first|(refine fe hb ?_;intro _ _ hb)|(refine fT hb ?_;intro hb))|refine rt ?_|refine gA rfl ?_|refine gB rfl ?_|apply cT rfl|apply cF rfl|(apply DM.gbT;rfl)|(apply DM.gbF;rfl)|intro h
  (apply Sr.go;·constructor<;>first|(apply Lk.go;constructor<;>first|exact ss|(change _=_;first|(simp only[go_sem,Nat.reduceBEq,Nat.reduceAdd,Nat.reduceLeDiff,reduceIte]<;>rfl)|rfl)|exact Nat.le_of_ble_eq_true rfl|decide|(repeat' first|(apply Lk.go;constructor)|assumption|exact nb ‹_› ‹_›|exact nt ‹_› ‹_›))|assumption)
  refine avle_eq ?_; rw [AV.bool.injEq, eqF_len (by simp at h; omega)]
 ·intro h
  have hl : vs.length = xs.length := by simp at h; omega
  repeat' first|(apply Sp.go;·constructor<;>first|exact ss|(change _=_;first|(simp only[go_sem,Nat.reduceBEq,Nat.reduceAdd,Nat.reduceLeDiff,reduceIte]<;>rfl)|rfl)|exact Nat.le_of_ble_eq_true rfl|decide|(repeat' first|(apply Lk.go;constructor)|assumption|exact nb ‹_› ‹_›|exact nt ‹_› ‹_›))|(intro b hb;repeat first|(refine fe hb ?_;intro _ _ hb)|(refine fT hb ?_;intro hb))|refine rt ?_|refine gA rfl ?_|refine gB rfl ?_|apply cT rfl|apply cF rfl|(apply DM.gbT;rfl)|(apply DM.gbF;rfl)|intro h
  refine AM.loopX (X := Nat) 0 (fun i => [(1, .vs 3 (xs.map Val.row)), (2, .fn f cap), (15, .vs 7 (vs.map Var_.row)), (16, .int .i64 vs.length), (17, .int .i64 i)]) (fun i H' => H' = H ∧ i ≤ vs.length ∧ eqF q vs xs = eqF q (vs.drop i) (xs.drop i)) (fun i => vs.length - i) ⟨rfl, by omega, by simp⟩ ?_ ?_
  ·(repeat first | exact envle_nil _ | (refine envle_cons ?_ ?_; · (simp only [go_sem, Nat.reduceBEq, Nat.reduceAdd]; exact AVLe.refl _)))
   refine envle_cons ?_ (envle_cons ?_ (envle_nil _))
   ·simp only [Env.get, Nat.reduceBEq, cond_true, cond_false, beq_self_eq_true]
    exact avle_int (by simp)
   ·simp only [Env.get, Nat.reduceBEq, cond_true, cond_false, beq_self_eq_true]
    exact AVLe.refl _
  ·intro i H' ⟨e, hi, he⟩
   subst e
   repeat' first|(apply Sp.go;·constructor<;>first|exact ss|(change _=_;first|(simp only[go_sem,Nat.reduceBEq,Nat.reduceAdd,Nat.reduceLeDiff,reduceIte]<;>rfl)|rfl)|exact Nat.le_of_ble_eq_true rfl|decide|(repeat' first|(apply Lk.go;constructor)|assumption|exact nb ‹_› ‹_›|exact nt ‹_› ‹_›))|(intro b hb;repeat first|(refine fe hb ?_;intro _ _ hb)|(refine fT hb ?_;intro hb))|refine rt ?_|refine gA rfl ?_|refine gB rfl ?_|apply cT rfl|apply cF rfl|(apply DM.gbT;rfl)|(apply DM.gbF;rfl)|intro h
   (apply AM.cond; (· rfl))
   ·intro h3
    simp at h3
    obtain ⟨v, hv⟩ := some_of h3
    obtain ⟨x, hx⟩ := some_of (hl ▸ h3 : i < xs.length)
    rw [drop_of hv, drop_of hx] at he
    simp only [eqF] at he
    repeat' first|(apply Sp.go;·constructor<;>first|exact ss|(change _=_;first|(simp only[go_sem,Nat.reduceBEq,Nat.reduceAdd,Nat.reduceLeDiff,reduceIte]<;>rfl)|rfl)|exact Nat.le_of_ble_eq_true rfl|decide|(repeat' first|(apply Lk.go;constructor)|assumption|exact nb ‹_› ‹_›|exact nt ‹_› ‹_›))|(intro b hb;repeat first|(refine fe hb ?_;intro _ _ hb)|(refine fT hb ?_;intro hb))|refine rt ?_|refine gA rfl ?_|refine gB rfl ?_|apply cT rfl|apply cF rfl|(apply DM.gbT;rfl)|(apply DM.gbF;rfl)|(apply DM.ixV (row := v.row) (z := (i : Int)) (by omega) (row_get Var_.row hv); (· rfl); (· rfl))|(apply DM.ixV (row := x.row) (z := (i : Int)) (by omega) (row_get Val.row hx); (· rfl); (· rfl))|(apply DM.pvat ((hq v x).at _) (hf); (· rfl); (· simp only [go_sem, Nat.reduceBEq, Nat.reduceAdd] <;> rfl); (· exact AVLes.refl _))|intro h
    (apply AM.cond; (· rfl))
    ·intro h4
     repeat' first|(apply Sp.go;·constructor<;>first|exact ss|(change _=_;first|(simp only[go_sem,Nat.reduceBEq,Nat.reduceAdd,Nat.reduceLeDiff,reduceIte]<;>rfl)|rfl)|exact Nat.le_of_ble_eq_true rfl|decide|(repeat' first|(apply Lk.go;constructor)|assumption|exact nb ‹_› ‹_›|exact nt ‹_› ‹_›))|(intro b hb;repeat first|(refine fe hb ?_;intro _ _ hb)|(refine fT hb ?_;intro hb))|refine rt ?_|refine gA rfl ?_|refine gB rfl ?_|apply cT rfl|apply cF rfl|(apply DM.gbT;rfl)|(apply DM.gbF;rfl)|intro h
     (apply Sr.go;·constructor<;>first|(apply Lk.go;constructor<;>first|exact ss|(change _=_;first|(simp only[go_sem,Nat.reduceBEq,Nat.reduceAdd,Nat.reduceLeDiff,reduceIte]<;>rfl)|rfl)|exact Nat.le_of_ble_eq_true rfl|decide|(repeat' first|(apply Lk.go;constructor)|assumption|exact nb ‹_› ‹_›|exact nt ‹_› ‹_›))|assumption)
     simp at h4
     refine avle_eq ?_; rw [AV.bool.injEq, he, h4, Bool.false_and]
    ·intro h4
     simp at h4
     repeat' first|(apply Sp.go;·constructor<;>first|exact ss|(change _=_;first|(simp only[go_sem,Nat.reduceBEq,Nat.reduceAdd,Nat.reduceLeDiff,reduceIte]<;>rfl)|rfl)|exact Nat.le_of_ble_eq_true rfl|decide|(repeat' first|(apply Lk.go;constructor)|assumption|exact nb ‹_› ‹_›|exact nt ‹_› ‹_›))|(intro b hb;repeat first|(refine fe hb ?_;intro _ _ hb)|(refine fT hb ?_;intro hb))|refine rt ?_|refine gA rfl ?_|refine gB rfl ?_|apply cT rfl|apply cF rfl|(apply DM.gbT;rfl)|(apply DM.gbF;rfl)|intro h
     refine AM.forget H' ?_ ?_
     ·(repeat' first|assumption|(apply Lk.go;constructor))
     rw [h4, Bool.true_and] at he
     refine AM.roundX (i + 1) ⟨rfl, by omega, he⟩ ?_ ?_
     ·(repeat first | exact envle_nil _ | (refine envle_cons ?_ ?_; · (simp only [go_sem, Nat.reduceBEq, Nat.reduceAdd]; exact AVLe.refl _)))
      refine envle_cons ?_ ?_
      ·simp only [go_sem, Nat.reduceBEq, Nat.reduceAdd]
       refine avle_int ?_
       rw [inc64 h3 hlen]
      exact envle_nil _
     ·show vs.length - (i + 1) < vs.length - i
      omega
   ·intro h3
    repeat' first|(apply Sp.go;·constructor<;>first|exact ss|(change _=_;first|(simp only[go_sem,Nat.reduceBEq,Nat.reduceAdd,Nat.reduceLeDiff,reduceIte]<;>rfl)|rfl)|exact Nat.le_of_ble_eq_true rfl|decide|(repeat' first|(apply Lk.go;constructor)|assumption|exact nb ‹_› ‹_›|exact nt ‹_› ‹_›))|(intro b hb;repeat first|(refine fe hb ?_;intro _ _ hb)|(refine fT hb ?_;intro hb))|refine rt ?_|refine gA rfl ?_|refine gB rfl ?_|apply cT rfl|apply cF rfl|(apply DM.gbT;rfl)|(apply DM.gbF;rfl)|intro h
    (apply Sr.go;·constructor<;>first|(apply Lk.go;constructor<;>first|exact ss|(change _=_;first|(simp only[go_sem,Nat.reduceBEq,Nat.reduceAdd,Nat.reduceLeDiff,reduceIte]<;>rfl)|rfl)|exact Nat.le_of_ble_eq_true rfl|decide|(repeat' first|(apply Lk.go;constructor)|assumption|exact nb ‹_› ‹_›|exact nt ‹_› ‹_›))|assumption)
    simp at h3
    refine avle_eq ?_; rw [AV.bool.injEq, he, List.drop_eq_nil_of_le (by omega), List.drop_eq_nil_of_le (by omega)]; rfl
theorem call60 : callable Try.prog 60 = true := by kernel_rfl
theorem call54 : callable Try.prog 54 = true := by kernel_rfl
theorem p60 (v : Var_) (x : Val) : Pure Try.prog 60 [v.av, x.av] (.bool (fitsV v.sort x)) := by
 refine pure_intro mo Try.func60 c60 fun H => ?_
 unfold e60 r60
 simp only [initEnv, initFrom]
 repeat' first|(apply Sp.go;·constructor<;>first|exact ss|(change _=_;first|(simp only[go_sem,Nat.reduceBEq,Nat.reduceAdd,Nat.reduceLeDiff,reduceIte]<;>rfl)|rfl)|exact Nat.le_of_ble_eq_true rfl|decide|(repeat' first|(apply Lk.go;constructor)|assumption|exact nb ‹_› ‹_›|exact nt ‹_› ‹_›))|(intro b hb;repeat first|(refine fe hb ?_;intro _ _ hb)|(refine fT hb ?_;intro hb))|refine rt ?_|refine gA rfl ?_|refine gB rfl ?_|apply cT rfl|apply cF rfl|(apply DM.gbT;rfl)|(apply DM.gbF;rfl)|(apply DM.pcs (p61 v.sort x); (· simp only [go_sem, Nat.reduceBEq, Nat.reduceAdd] <;> rfl); (· exact AVLes.refl _))|intro h
 (apply Sr.go;·constructor<;>first|(apply Lk.go;constructor<;>first|exact ss|(change _=_;first|(simp only[go_sem,Nat.reduceBEq,Nat.reduceAdd,Nat.reduceLeDiff,reduceIte]<;>rfl)|rfl)|exact Nat.le_of_ble_eq_true rfl|decide|(repeat' first|(apply Lk.go;constructor)|assumption|exact nb ‹_› ‹_›|exact nt ‹_› ‹_›))|assumption)
 exact AVLe.refl _
def soundP (p : Prog) (xs : List Val) : Bool := validP p && eqF (fun (v : Var_) (x : Val) => fitsV v.sort x) p.vars xs
theorem p28 (p : Prog) (xs : List Val) : Pure Try.prog 28 [p.av, .vs 3 (xs.map Val.row)] (.bool (soundP p xs)) := by
 refine pure_intro mo Try.func28 c28 fun H => ?_
 unfold e28 r28
 simp only [initEnv, initFrom]
 repeat' first|(apply Sp.go;·constructor<;>first|exact ss|(change _=_;first|(simp only[go_sem,Nat.reduceBEq,Nat.reduceAdd,Nat.reduceLeDiff,reduceIte]<;>rfl)|rfl)|exact Nat.le_of_ble_eq_true rfl|decide|(repeat' first|(apply Lk.go;constructor)|assumption|exact nb ‹_› ‹_›|exact nt ‹_› ‹_›))|(intro b hb;repeat first|(refine fe hb ?_;intro _ _ hb)|(refine fT hb ?_;intro hb))|refine rt ?_|refine gA rfl ?_|refine gB rfl ?_|apply cT rfl|apply cF rfl|(apply DM.gbT;rfl)|(apply DM.gbF;rfl)|(apply DM.pcs (p43 p); (· simp only [go_sem, Nat.reduceBEq, Nat.reduceAdd] <;> rfl); (· exact AVLes.refl _))|intro h
 ·(apply DM.pcat (p59 _ 60 [] p.vars xs (fun v x => fitsV v.sort x) call60 (fun v x => p60 v x)); (· simp only [go_sem, Nat.reduceBEq, Nat.reduceAdd] <;> rfl); (· exact AVLes.refl _))
  repeat' first|(apply Sp.go;·constructor<;>first|exact ss|(change _=_;first|(simp only[go_sem,Nat.reduceBEq,Nat.reduceAdd,Nat.reduceLeDiff,reduceIte]<;>rfl)|rfl)|exact Nat.le_of_ble_eq_true rfl|decide|(repeat' first|(apply Lk.go;constructor)|assumption|exact nb ‹_› ‹_›|exact nt ‹_› ‹_›))|(intro b hb;repeat first|(refine fe hb ?_;intro _ _ hb)|(refine fT hb ?_;intro hb))|refine rt ?_|refine gA rfl ?_|refine gB rfl ?_|apply cT rfl|apply cF rfl|(apply DM.gbT;rfl)|(apply DM.gbF;rfl)|intro h
  (apply Sr.go;·constructor<;>first|(apply Lk.go;constructor<;>first|exact ss|(change _=_;first|(simp only[go_sem,Nat.reduceBEq,Nat.reduceAdd,Nat.reduceLeDiff,reduceIte]<;>rfl)|rfl)|exact Nat.le_of_ble_eq_true rfl|decide|(repeat' first|(apply Lk.go;constructor)|assumption|exact nb ‹_› ‹_›|exact nt ‹_› ‹_›))|assumption)
  refine avle_eq ?_; rw [AV.bool.injEq]; simp [soundP, *]
 ·(apply Sr.go;·constructor<;>first|(apply Lk.go;constructor<;>first|exact ss|(change _=_;first|(simp only[go_sem,Nat.reduceBEq,Nat.reduceAdd,Nat.reduceLeDiff,reduceIte]<;>rfl)|rfl)|exact Nat.le_of_ble_eq_true rfl|decide|(repeat' first|(apply Lk.go;constructor)|assumption|exact nb ‹_› ‹_›|exact nt ‹_› ‹_›))|assumption)
  refine avle_eq ?_; rw [AV.bool.injEq]; simp [soundP, *]
theorem idxP_any {α : Type} (q : α → Bool) : ∀ (l : List α) (i : Int), 0 ≤ i → decide (0 ≤ idxP q l i) = l.any q
 | [], i, _ => rfl
 | a :: l, i, h => by
  simp only [idxP, List.any_cons]
  by_cases e : q a = true
  ·simp [e, h]
  ·simp only [Bool.not_eq_true] at e
   simp only [e, Bool.false_eq_true, if_false, Bool.false_or]
   exact idxP_any q l (i + 1) (by omega)
theorem p56 (xs : List Val) : Pure Try.prog 56 [.vs 3 (xs.map Val.row), .fn 54 []] (.bool (xs.any fun v => !(validV v))) := by
 refine pure_intro mo Try.func56 c56 fun H => ?_
 unfold e56 r56
 simp only [initEnv, initFrom]
 repeat' first|(apply Sp.go;·constructor<;>first|exact ss|(change _=_;first|(simp only[go_sem,Nat.reduceBEq,Nat.reduceAdd,Nat.reduceLeDiff,reduceIte]<;>rfl)|rfl)|exact Nat.le_of_ble_eq_true rfl|decide|(repeat' first|(apply Lk.go;constructor)|assumption|exact nb ‹_› ‹_›|exact nt ‹_› ‹_›))|(intro b hb;repeat first|(refine fe hb ?_;intro _ _ hb)|(refine fT hb ?_;intro hb))|refine rt ?_|refine gA rfl ?_|refine gB rfl ?_|apply cT rfl|apply cF rfl|(apply DM.gbT;rfl)|(apply DM.gbF;rfl)|(apply DM.pcat (p86 _ 54 [] xs (fun v => !(validV v)) call54 (fun v _ => (p54 v).at _)); (· simp only [go_sem, Nat.reduceBEq, Nat.reduceAdd] <;> rfl); (· exact AVLes.refl _))|intro h
 (apply Sr.go;·constructor<;>first|(apply Lk.go;constructor<;>first|exact ss|(change _=_;first|(simp only[go_sem,Nat.reduceBEq,Nat.reduceAdd,Nat.reduceLeDiff,reduceIte]<;>rfl)|rfl)|exact Nat.le_of_ble_eq_true rfl|decide|(repeat' first|(apply Lk.go;constructor)|assumption|exact nb ‹_› ‹_›|exact nt ‹_› ‹_›))|assumption)
 refine avle_eq ?_; rw [AV.bool.injEq]; exact idxP_any _ _ _ (by omega)
structure Mach where
 stack : List Val
 vars : List Val
 loops : List Int
 pc : Int
 tr : Bool
 dn : Bool
structure Ref where
 b : Nat
 tv : Nat
 ts : Nat
 tl : Nat
structure Ref.Ok (ρ : Ref) : Prop where
 vs : ρ.tv ≠ ρ.ts
 vl : ρ.tv ≠ ρ.tl
 ls : ρ.tl ≠ ρ.ts
abbrev irow (n : Int) : List AV := [.int .i64 n]
abbrev mcells (ρ : Ref) (p : Prog) (ps : List Val) (M : Mach) (vs vl : Nat) : List AV :=
 [.str p.name, .int .i64 p.role, .vs 7 (p.vars.map Var_.row), .vs 3 (p.hs.map Hd.row), .vs 4 (p.os.map Of_.row), .vs 3 (p.code.map Ins_.row), .ms ρ.tv 0, .vs 3 (ps.map Val.row), .ms ρ.ts vs, .ms ρ.tl vl, .int .i64 M.pc, .bool M.tr, .bool M.dn]
def HM (H0 : AHeap) (ρ : Ref) (p : Prog) (ps : List Val) (M : Mach) (vs vl : Nat) : AHeap :=
 ⟨fun x => if x = ρ.b then some (149, mcells ρ p ps M vs vl) else H0.blk x, fun x => if x = ρ.ts then some (.mu 70 3 vs (M.stack.map Val.row)) else if x = ρ.tl then some (.mu 3 1 vl (M.loops.map irow)) else if x = ρ.tv then some (.mu 70 3 0 (M.vars.map Val.row)) else H0.tok x⟩
section
variable {H0 H : AHeap} {ρ : Ref} {p : Prog} {ps : List Val} {M : Mach} {vs vl : Nat}
theorem hm_blk : (HM H0 ρ p ps M vs vl).blk ρ.b = some (149, mcells ρ p ps M vs vl) := by simp [HM]
theorem hm_ts : (HM H0 ρ p ps M vs vl).tok ρ.ts = some (.mu 70 3 vs (M.stack.map Val.row)) := by simp [HM]
theorem hm_tl (d : ρ.Ok) : (HM H0 ρ p ps M vs vl).tok ρ.tl = some (.mu 3 1 vl (M.loops.map irow)) := by simp [HM, d.ls]
theorem hm_tv (d : ρ.Ok) : (HM H0 ρ p ps M vs vl).tok ρ.tv = some (.mu 70 3 0 (M.vars.map Val.row)) := by simp [HM, d.vl, d.vs]
theorem hm_old {x : Nat} {y : TypeId × List AV} (hx : x ≠ ρ.b) (h : H0.blk x = some y) : (HM H0 ρ p ps M vs vl).blk x = some y := by simp [HM, hx, h]
theorem hm_oldT {x : Nat} {y : Own} (h1 : x ≠ ρ.ts) (h2 : x ≠ ρ.tl) (h3 : x ≠ ρ.tv) (h : H0.tok x = some y) : (HM H0 ρ p ps M vs vl).tok x = some y := by simp [HM, h1, h2, h3, h]
theorem hm_look {x : Nat} {y : Option (TypeId × List AV)} (hx : x ≠ ρ.b) (h : H0.blk x = y) : (HM H0 ρ p ps M vs vl).blk x = y := by simp [HM, hx, h]
theorem fresh_elimM {G : Prop} {x : Nat} (h : (HM H0 ρ p ps M vs vl).blk x = none) (k : x ≠ ρ.b → ρ.b ≠ x → H0.blk x = none → G) : G := by
 simp only [HM] at h
 by_cases e : x = ρ.b
 ·rw [if_pos e] at h; cases h
 ·rw [if_neg e] at h; exact k e (Ne.symm e) h
theorem hm_setB {x : Nat} {T : TypeId} {c : List AV} (hx : x ≠ ρ.b) : (HM H0 ρ p ps M vs vl).setB x T c = HM (H0.setB x T c) ρ p ps M vs vl := by
 simp only [HM, AHeap.setB, AHeap.mk.injEq, and_true]
 funext y
 by_cases e : y = x
 ·subst e; simp [hx]
 ·simp [e]
theorem hm_fold {c : List AV} {M' : Mach} (h1 : M'.stack = M.stack) (h2 : M'.loops = M.loops) (h3 : M'.vars = M.vars) (h : mcells ρ p ps M' vs vl = c) : (HM H0 ρ p ps M vs vl).setB ρ.b 149 c = HM H0 ρ p ps M' vs vl := by
 subst h
 simp only [HM, AHeap.setB, AHeap.mk.injEq, h1, h2, h3, and_true]
 funext y
 by_cases e : y = ρ.b <;> simp [e]
theorem hsub_hm (hb : H.blk ρ.b = some (149, mcells ρ p ps M vs vl)) (ho : ∀ x y, x ≠ ρ.b → H0.blk x = some y → H.blk x = some y) (hs : H.tok ρ.ts = some (.mu 70 3 vs (M.stack.map Val.row))) (hl : H.tok ρ.tl = some (.mu 3 1 vl (M.loops.map irow))) (hv : H.tok ρ.tv = some (.mu 70 3 0 (M.vars.map Val.row)))
  (hq : ∀ x y, x ≠ ρ.ts → x ≠ ρ.tl → x ≠ ρ.tv → H0.tok x = some y → H.tok x = some y) : HSub (HM H0 ρ p ps M vs vl) H where
 blk := fun x y h => by
  simp only [HM] at h
  by_cases e : x = ρ.b
  ·subst e; rw [if_pos rfl] at h; rw [hb]; exact h
  ·rw [if_neg e] at h; exact ho x y e h
 tok := fun x y h => by
  simp only [HM] at h
  by_cases e : x = ρ.ts
  ·subst e; rw [if_pos rfl] at h; rw [hs]; exact h
  ·rw [if_neg e] at h
   by_cases e2 : x = ρ.tl
   ·subst e2; rw [if_pos rfl] at h; rw [hl]; exact h
   ·rw [if_neg e2] at h
    by_cases e3 : x = ρ.tv
    ·subst e3; rw [if_pos rfl] at h; rw [hv]; exact h
    ·rw [if_neg e3] at h; exact hq x y e e2 e3 h
end
section
inductive Lm : Prop → Prop
 | bk {H0 : AHeap} {ρ : Ref} {p : Prog} {ps : List Val} {M : Mach} {vs vl : Nat} : Lm ((HM H0 ρ p ps M vs vl).blk ρ.b = some (149, mcells ρ p ps M vs vl))
 | lk {H0 : AHeap} {ρ : Ref} {p : Prog} {ps : List Val} {M : Mach} {vs vl x : Nat} {y : Option (TypeId × List AV)} (hx : x ≠ ρ.b) (h : H0.blk x = y) : Lm ((HM H0 ρ p ps M vs vl).blk x = y)
 | ts {H0 : AHeap} {ρ : Ref} {p : Prog} {ps : List Val} {M : Mach} {vs vl : Nat} : Lm ((HM H0 ρ p ps M vs vl).tok ρ.ts = some (.mu 70 3 vs (M.stack.map Val.row)))
 | tl {H0 : AHeap} {ρ : Ref} {p : Prog} {ps : List Val} {M : Mach} {vs vl : Nat} (d : ρ.Ok) : Lm ((HM H0 ρ p ps M vs vl).tok ρ.tl = some (.mu 3 1 vl (M.loops.map irow)))
 | tv {H0 : AHeap} {ρ : Ref} {p : Prog} {ps : List Val} {M : Mach} {vs vl : Nat} (d : ρ.Ok) : Lm ((HM H0 ρ p ps M vs vl).tok ρ.tv = some (.mu 70 3 0 (M.vars.map Val.row)))
theorem Lm.go {G : Prop} (h : Lm G) : G := by
 cases h with
 | bk => exact hm_blk
 | lk hx h => exact hm_look hx h
 | ts => exact hm_ts
 | tl d => exact hm_tl d
 | tv d => exact hm_tv d
end
def MS (H0 : AHeap) (ρ : Ref) (p : Prog) (ps : List Val) (M : Mach) (H : AHeap) : Prop := ∃ vs vl, H = HM H0 ρ p ps M vs vl
def Meth (f : FuncId) (args : List AV) (H0 : AHeap) (ρ : Ref) (p : Prog) (ps : List Val) (M : Mach) (r : AV) (M' : Mach) : Prop :=
 ∀ H, MS H0 ρ p ps M H → ACalls Try.prog f (.ptr ρ.b 0 :: args) H (Ret fun a H' => a = r ∧ MS H0 ρ p ps M' H')
theorem meth_intro {f : FuncId} {fn : Func} {args : List AV} {e : EC} {rs : List ERes} {H0 : AHeap} {ρ : Ref} {p : Prog} {ps : List Val} {M M' : Mach} {r : AV} (hf : Try.prog.funcs[f]? = some fn) (hc : chkF Try.prog fn (AV.ptr ρ.b 0 :: args).length e rs = true)
  (h : ∀ vs vl, AM Try.prog rs (Ret fun a H' => a = r ∧ ∃ vs' vl', HSub (HM H0 ρ p ps M' vs' vl') H') [.c e] (initEnv (.ptr ρ.b 0 :: args)) (HM H0 ρ p ps M vs vl)) : Meth f args H0 ρ p ps M r M' := by
 rintro H ⟨vs, vl, rfl⟩
 refine (acalls_of mo hf hc (h vs vl)).mono ?_
 rintro o H' ⟨a, rfl, rfl, vs', vl', hs⟩
 exact ⟨.ret _, _, AVLe.refl _, hs, _, rfl, rfl, vs', vl', rfl⟩
def push (v : Val) (M : Mach) : Mach := if 16 ≤ M.stack.length then { M with tr := true } else { M with stack := M.stack ++ [v] }
theorem p87 (H0 : AHeap) (ρ : Ref) (d : ρ.Ok) (p : Prog) (ps : List Val) (M : Mach) (v : Val) : Meth 87 [v.av] H0 ρ p ps M (.tup []) (push v M) := by
 refine meth_intro Try.func87 c87 fun vs vl => ?_
 have d1 := d.vs; have d2 := d.vl; have d3 := d.ls
 have d1' := Ne.symm d1; have d2' := Ne.symm d2; have d3' := Ne.symm d3
 unfold e87 r87
 simp only [initEnv, initFrom]
 repeat' first|(apply Sp.go;·constructor<;>first|exact ss|(change _=_;first|(simp only[go_sem,Nat.reduceBEq,Nat.reduceAdd,Nat.reduceLeDiff,reduceIte]<;>rfl)|rfl)|exact Nat.le_of_ble_eq_true rfl|decide|(repeat' first|(apply Lk.go;constructor)|assumption|exact nb ‹_› ‹_›|exact nt ‹_› ‹_›|(apply Lm.go;constructor)))|(intro b hb;repeat first|(refine fe hb ?_;intro _ _ hb)|(refine fT hb ?_;intro hb)|(refine fresh_elimM hb ?_;intro _ _ hb))|refine rt ?_|refine gA rfl ?_|refine gB rfl ?_|apply cT rfl|apply cF rfl|(apply DM.gbT;rfl)|(apply DM.gbF;rfl)|intro h
 (apply AM.cond; (· rfl))
 ·intro h
  have e : push v M = { M with tr := true } := by simp at h; simp [push]; omega
  rw [e]
  repeat' first|(apply Sp.go;·constructor<;>first|exact ss|(change _=_;first|(simp only[go_sem,Nat.reduceBEq,Nat.reduceAdd,Nat.reduceLeDiff,reduceIte]<;>rfl)|rfl)|exact Nat.le_of_ble_eq_true rfl|decide|(repeat' first|(apply Lk.go;constructor)|assumption|exact nb ‹_› ‹_›|exact nt ‹_› ‹_›|(apply Lm.go;constructor)))|(intro b hb;repeat first|(refine fe hb ?_;intro _ _ hb)|(refine fT hb ?_;intro hb)|(refine fresh_elimM hb ?_;intro _ _ hb))|refine rt ?_|refine gA rfl ?_|refine gB rfl ?_|apply cT rfl|apply cF rfl|(apply DM.gbT;rfl)|(apply DM.gbF;rfl)|intro h
  (apply Sr.go;·constructor<;>first|(apply Lk.go;constructor<;>first|exact ss|(change _=_;first|(simp only[go_sem,Nat.reduceBEq,Nat.reduceAdd,Nat.reduceLeDiff,reduceIte]<;>rfl)|rfl)|exact Nat.le_of_ble_eq_true rfl|decide|(repeat' first|(apply Lk.go;constructor)|assumption|exact nb ‹_› ‹_›|exact nt ‹_› ‹_›))|assumption)
  refine ⟨rfl, vs, vl, ?_⟩
  (refine hsub_hm ?_ ?_ ?_ ?_ ?_ ?_<;>first|(intro x y h1 h2 h3 h;repeat first|exact h|refine hm_oldT h1 h2 h3 ?_|refine t_ne ‹_› ?_|refine t_fresh ‹_› ?_|refine t_B ?_)|(intro x y hx h;repeat first|exact h|refine hm_old hx ?_|refine g_ne hx ?_|refine g_ne (nb ‹_› h) ?_|refine g_fresh ‹_› ?_|refine g_T ?_)|(repeat' first|(apply Lk.go;constructor)|assumption|exact nb ‹_› ‹_›|exact nt ‹_› ‹_›|(apply Lm.go;constructor)))
 ·intro h
  have hl : M.stack.length < 16 := by simp at h; omega
  have e : push v M = { M with stack := M.stack ++ [v] } := by simp [push]; omega
  rw [e]
  repeat' first|(apply Sp.go;·constructor<;>first|exact ss|(change _=_;first|(simp only[go_sem,Nat.reduceBEq,Nat.reduceAdd,Nat.reduceLeDiff,reduceIte]<;>rfl)|rfl)|exact Nat.le_of_ble_eq_true rfl|decide|(repeat' first|(apply Lk.go;constructor)|assumption|exact nb ‹_› ‹_›|exact nt ‹_› ‹_›|(apply Lm.go;constructor)))|(intro b hb;repeat first|(refine fe hb ?_;intro _ _ hb)|(refine fT hb ?_;intro hb)|(refine fresh_elimM hb ?_;intro _ _ hb))|refine rt ?_|refine gA rfl ?_|refine gB rfl ?_|apply cT rfl|apply cF rfl|(apply DM.gbT;rfl)|(apply DM.gbF;rfl)|(apply DM.apM; (· rfl); (· repeat' first|(apply Lk.go;constructor)|assumption|exact nb ‹_› ‹_›|exact nt ‹_› ‹_›|(apply Lm.go;constructor)); (· simp only [rowsOf, if_true, eq_self, go_sem, Nat.reduceBEq, reduceIte] <;> rfl); (· (simp only [List.length_map, List.length_cons, List.length_nil, maxLen]; omega)); (· (simp only [List.length_map, List.length_cons, List.length_nil, maxLen]; omega)))|intro h
  (apply Sr.go;·constructor<;>first|(apply Lk.go;constructor<;>first|exact ss|(change _=_;first|(simp only[go_sem,Nat.reduceBEq,Nat.reduceAdd,Nat.reduceLeDiff,reduceIte]<;>rfl)|rfl)|exact Nat.le_of_ble_eq_true rfl|decide|(repeat' first|(apply Lk.go;constructor)|assumption|exact nb ‹_› ‹_›|exact nt ‹_› ‹_›))|assumption)
  refine ⟨rfl, vs + 1, vl, ?_⟩
  rw [show M.stack.map Val.row ++ [[AV.int IntKind.i64 v.k, AV.int IntKind.i64 v.n, AV.str v.s]] = (M.stack ++ [v]).map Val.row by simp]
  (refine hsub_hm ?_ ?_ ?_ ?_ ?_ ?_<;>first|(intro x y h1 h2 h3 h;repeat first|exact h|refine hm_oldT h1 h2 h3 ?_|refine t_ne ‹_› ?_|refine t_fresh ‹_› ?_|refine t_B ?_)|(intro x y hx h;repeat first|exact h|refine hm_old hx ?_|refine g_ne hx ?_|refine g_ne (nb ‹_› h) ?_|refine g_fresh ‹_› ?_|refine g_T ?_)|(repeat' first|(apply Lk.go;constructor)|assumption|exact nb ‹_› ‹_›|exact nt ‹_› ‹_›|(apply Lm.go;constructor)))
abbrev intV (n : Int) : Val := ⟨1, max (-1000000) (min 1000000 n), []⟩
def result (n : Int) (M : Mach) : Mach := if M.tr then M else push (intV n) M
theorem p90 (H0 : AHeap) (ρ : Ref) (d : ρ.Ok) (p : Prog) (ps : List Val) (M : Mach) (n : Int) : Meth 90 [.int .i64 n] H0 ρ p ps M (.tup []) (result n M) := by
 refine meth_intro Try.func90 c90 fun vs vl => ?_
 have d1 := d.vs; have d2 := d.vl; have d3 := d.ls
 have d1' := Ne.symm d1; have d2' := Ne.symm d2; have d3' := Ne.symm d3
 unfold e90 r90
 simp only [initEnv, initFrom]
 repeat' first|(apply Sp.go;·constructor<;>first|exact ss|(change _=_;first|(simp only[go_sem,Nat.reduceBEq,Nat.reduceAdd,Nat.reduceLeDiff,reduceIte]<;>rfl)|rfl)|exact Nat.le_of_ble_eq_true rfl|decide|(repeat' first|(apply Lk.go;constructor)|assumption|exact nb ‹_› ‹_›|exact nt ‹_› ‹_›|(apply Lm.go;constructor)))|(intro b hb;repeat first|(refine fe hb ?_;intro _ _ hb)|(refine fT hb ?_;intro hb)|(refine fresh_elimM hb ?_;intro _ _ hb))|refine rt ?_|refine gA rfl ?_|refine gB rfl ?_|apply cT rfl|apply cF rfl|(apply DM.gbT;rfl)|(apply DM.gbF;rfl)|intro h
 (apply AM.cond; (· rfl))
 ·intro h
  have e : result n M = push (intV n) M := by simp at h; simp [result, h]
  rw [e]
  repeat' first|(apply Sp.go;·constructor<;>first|exact ss|(change _=_;first|(simp only[go_sem,Nat.reduceBEq,Nat.reduceAdd,Nat.reduceLeDiff,reduceIte]<;>rfl)|rfl)|exact Nat.le_of_ble_eq_true rfl|decide|(repeat' first|(apply Lk.go;constructor)|assumption|exact nb ‹_› ‹_›|exact nt ‹_› ‹_›|(apply Lm.go;constructor)))|(intro b hb;repeat first|(refine fe hb ?_;intro _ _ hb)|(refine fT hb ?_;intro hb)|(refine fresh_elimM hb ?_;intro _ _ hb))|refine rt ?_|refine gA rfl ?_|refine gB rfl ?_|apply cT rfl|apply cF rfl|(apply DM.gbT;rfl)|(apply DM.gbF;rfl)|(apply DM.pcs (p88 n); (· simp only [go_sem, Nat.reduceBEq, Nat.reduceAdd] <;> rfl); (· exact AVLes.refl _))|((apply DM.cal (p87 H0 ρ d p ps M (intV n) _ ⟨_, _, rfl⟩); (· simp only [go_sem, Nat.reduceBEq, Nat.reduceAdd] <;> rfl); (· exact AVLes.refl _)); rintro r H1 ⟨rfl, vs, vl, rfl⟩; simp only [put_some])|intro h
  (apply Sr.go;·constructor<;>first|(apply Lk.go;constructor<;>first|exact ss|(change _=_;first|(simp only[go_sem,Nat.reduceBEq,Nat.reduceAdd,Nat.reduceLeDiff,reduceIte]<;>rfl)|rfl)|exact Nat.le_of_ble_eq_true rfl|decide|(repeat' first|(apply Lk.go;constructor)|assumption|exact nb ‹_› ‹_›|exact nt ‹_› ‹_›))|assumption)
  refine ⟨rfl, _, _, HSub.refl _⟩
 ·intro h
  have e : result n M = M := by simp at h; simp [result, h]
  rw [e]
  repeat' first|(apply Sp.go;·constructor<;>first|exact ss|(change _=_;first|(simp only[go_sem,Nat.reduceBEq,Nat.reduceAdd,Nat.reduceLeDiff,reduceIte]<;>rfl)|rfl)|exact Nat.le_of_ble_eq_true rfl|decide|(repeat' first|(apply Lk.go;constructor)|assumption|exact nb ‹_› ‹_›|exact nt ‹_› ‹_›|(apply Lm.go;constructor)))|(intro b hb;repeat first|(refine fe hb ?_;intro _ _ hb)|(refine fT hb ?_;intro hb)|(refine fresh_elimM hb ?_;intro _ _ hb))|refine rt ?_|refine gA rfl ?_|refine gB rfl ?_|apply cT rfl|apply cF rfl|(apply DM.gbT;rfl)|(apply DM.gbF;rfl)|intro h
  (apply Sr.go;·constructor<;>first|(apply Lk.go;constructor<;>first|exact ss|(change _=_;first|(simp only[go_sem,Nat.reduceBEq,Nat.reduceAdd,Nat.reduceLeDiff,reduceIte]<;>rfl)|rfl)|exact Nat.le_of_ble_eq_true rfl|decide|(repeat' first|(apply Lk.go;constructor)|assumption|exact nb ‹_› ‹_›|exact nt ‹_› ‹_›))|assumption)
  refine ⟨rfl, _, _, HSub.refl _⟩
abbrev val0 : Val := ⟨0, 0, []⟩
def popTrap (k : Int) (M : Mach) : Bool := M.tr || (match M.stack.getLast? with | none => true | some v => decide (k ≠ 0) && decide (v.k ≠ k))
def pop (k : Int) (M : Mach) : Val × Mach := if popTrap k M then (val0, { M with tr := true }) else ((M.stack.getLast?).getD val0, { M with stack := M.stack.dropLast })
theorem last_ix {α : Type} {l : List α} {n : Nat} (h : l.length = n + 1) : l[n]? = l.getLast? := by
 rw [List.getLast?_eq_getElem?, h]; rfl
theorem rows_len (l : List Val) : ∀ r ∈ l.map Val.row, r.length = 3 := fun r h => by obtain ⟨v, _, rfl⟩ := List.mem_map.1 h; rfl
theorem p91 (H0 : AHeap) (ρ : Ref) (d : ρ.Ok) (p : Prog) (ps : List Val) (M : Mach) (k : Int) (hlen : M.stack.length ≤ maxLen) : Meth 91 [.int .i64 k] H0 ρ p ps M (pop k M).1.av (pop k M).2 := by
 refine meth_intro Try.func91 c91 fun vs vl => ?_
 have d1 := d.vs; have d2 := d.vl; have d3 := d.ls
 have d1' := Ne.symm d1; have d2' := Ne.symm d2; have d3' := Ne.symm d3
 have trapped : popTrap k M = true → (pop k M).1.av = val0.av ∧ (pop k M).2 = { M with tr := true } := fun h => by simp [pop, h]
 unfold e91 r91
 simp only [initEnv, initFrom]
 repeat' first|(apply Sp.go;·constructor<;>first|exact ss|(change _=_;first|(simp only[go_sem,Nat.reduceBEq,Nat.reduceAdd,Nat.reduceLeDiff,reduceIte]<;>rfl)|rfl)|exact Nat.le_of_ble_eq_true rfl|decide|(repeat' first|(apply Lk.go;constructor)|assumption|exact nb ‹_› ‹_›|exact nt ‹_› ‹_›|(apply Lm.go;constructor)))|(intro b hb;repeat first|(refine fe hb ?_;intro _ _ hb)|(refine fT hb ?_;intro hb)|(refine fresh_elimM hb ?_;intro _ _ hb))|refine rt ?_|refine gA rfl ?_|refine gB rfl ?_|apply cT rfl|apply cF rfl|(apply DM.gbT;rfl)|(apply DM.gbF;rfl)|intro h
 ·have h0 : decide (((M.stack.map Val.row).length : Int) = 0) = false := by assumption
  obtain ⟨n, hn⟩ : ∃ n, M.stack.length = n + 1 := by simp only [List.length_map, decide_eq_false_iff_not] at h0; exact ⟨M.stack.length - 1, by omega⟩
  obtain ⟨v, hv⟩ := some_of (show n < M.stack.length by omega)
  have hl : M.stack.getLast? = some v := by rw [← last_ix hn]; exact hv
  have hw : IntKind.i64.wrap (((M.stack.map Val.row).length : Int) - 1) = (n : Int) := by rw [List.length_map, hn, wrap64 (by omega) (by unfold maxLen at hlen; omega)]; omega
  simp only [hw]
  (apply DM.ixM; (· rfl); (· repeat' first|(apply Lk.go;constructor)|assumption|exact nb ‹_› ‹_›|exact nt ‹_› ‹_›|(apply Lm.go;constructor)); (· rfl); (· (first | omega | (simp only [List.length_map]; omega))); (· (first | omega | (simp only [List.length_map]; omega))))
  repeat' first|(apply Sp.go;·constructor<;>first|exact ss|(change _=_;first|(simp only[go_sem,Nat.reduceBEq,Nat.reduceAdd,Nat.reduceLeDiff,reduceIte]<;>rfl)|rfl)|exact Nat.le_of_ble_eq_true rfl|decide|(repeat' first|(apply Lk.go;constructor)|assumption|exact nb ‹_› ‹_›|exact nt ‹_› ‹_›|(apply Lm.go;constructor)))|(intro b hb;repeat first|(refine fe hb ?_;intro _ _ hb)|(refine fT hb ?_;intro hb)|(refine fresh_elimM hb ?_;intro _ _ hb))|refine rt ?_|refine gA rfl ?_|refine gB rfl ?_|apply cT rfl|apply cF rfl|(apply DM.gbT;rfl)|(apply DM.gbF;rfl)|(apply DM.ldM1 (i := n) (j := 0); (· rfl); (· repeat' first|(apply Lk.go;constructor)|assumption|exact nb ‹_› ‹_›|exact nt ‹_› ‹_›|(apply Lm.go;constructor)); (· exact rows_len _); (· (rw [List.getElem?_map, hv]; rfl)); (· simp); (· rfl))|intro h
  (apply AM.cond; (· rfl))
  ·intro h
   repeat' first|(apply Sp.go;·constructor<;>first|exact ss|(change _=_;first|(simp only[go_sem,Nat.reduceBEq,Nat.reduceAdd,Nat.reduceLeDiff,reduceIte]<;>rfl)|rfl)|exact Nat.le_of_ble_eq_true rfl|decide|(repeat' first|(apply Lk.go;constructor)|assumption|exact nb ‹_› ‹_›|exact nt ‹_› ‹_›|(apply Lm.go;constructor)))|(intro b hb;repeat first|(refine fe hb ?_;intro _ _ hb)|(refine fT hb ?_;intro hb)|(refine fresh_elimM hb ?_;intro _ _ hb))|refine rt ?_|refine gA rfl ?_|refine gB rfl ?_|apply cT rfl|apply cF rfl|(apply DM.gbT;rfl)|(apply DM.gbF;rfl)|intro h
   (apply Sr.go;·constructor<;>first|(apply Lk.go;constructor<;>first|exact ss|(change _=_;first|(simp only[go_sem,Nat.reduceBEq,Nat.reduceAdd,Nat.reduceLeDiff,reduceIte]<;>rfl)|rfl)|exact Nat.le_of_ble_eq_true rfl|decide|(repeat' first|(apply Lk.go;constructor)|assumption|exact nb ‹_› ‹_›|exact nt ‹_› ‹_›))|assumption)
   obtain ⟨e1, e2⟩ := trapped (by simp at *; simp [popTrap, hl]; exact .inr ⟨by assumption, h⟩)
   rw [e1, e2]
   refine ⟨rfl, vs, vl, ?_⟩
   (refine hsub_hm ?_ ?_ ?_ ?_ ?_ ?_<;>first|(intro x y h1 h2 h3 h;repeat first|exact h|refine hm_oldT h1 h2 h3 ?_|refine t_ne ‹_› ?_|refine t_fresh ‹_› ?_|refine t_B ?_)|(intro x y hx h;repeat first|exact h|refine hm_old hx ?_|refine g_ne hx ?_|refine g_ne (nb ‹_› h) ?_|refine g_fresh ‹_› ?_|refine g_T ?_)|(repeat' first|(apply Lk.go;constructor)|assumption|exact nb ‹_› ‹_›|exact nt ‹_› ‹_›|(apply Lm.go;constructor)))
  ·intro h
   have ok : (pop k M).1.av = v.av ∧ (pop k M).2 = { M with stack := M.stack.dropLast } := by
    have : popTrap k M = false := by simp at *; simp [popTrap, hl, *]
    simp [pop, this, hl]
   repeat' first|(apply Sp.go;·constructor<;>first|exact ss|(change _=_;first|(simp only[go_sem,Nat.reduceBEq,Nat.reduceAdd,Nat.reduceLeDiff,reduceIte]<;>rfl)|rfl)|exact Nat.le_of_ble_eq_true rfl|decide|(repeat' first|(apply Lk.go;constructor)|assumption|exact nb ‹_› ‹_›|exact nt ‹_› ‹_›|(apply Lm.go;constructor)))|(intro b hb;repeat first|(refine fe hb ?_;intro _ _ hb)|(refine fT hb ?_;intro hb)|(refine fresh_elimM hb ?_;intro _ _ hb))|refine rt ?_|refine gA rfl ?_|refine gB rfl ?_|apply cT rfl|apply cF rfl|(apply DM.gbT;rfl)|(apply DM.gbF;rfl)|intro h
   simp only [hw]
   (apply DM.ixM; (· rfl); (· repeat' first|(apply Lk.go;constructor)|assumption|exact nb ‹_› ‹_›|exact nt ‹_› ‹_›|(apply Lm.go;constructor)); (· rfl); (· (first | omega | (simp only [List.length_map]; omega))); (· (first | omega | (simp only [List.length_map]; omega))))
   repeat' first|(apply Sp.go;·constructor<;>first|exact ss|(change _=_;first|(simp only[go_sem,Nat.reduceBEq,Nat.reduceAdd,Nat.reduceLeDiff,reduceIte]<;>rfl)|rfl)|exact Nat.le_of_ble_eq_true rfl|decide|(repeat' first|(apply Lk.go;constructor)|assumption|exact nb ‹_› ‹_›|exact nt ‹_› ‹_›|(apply Lm.go;constructor)))|(intro b hb;repeat first|(refine fe hb ?_;intro _ _ hb)|(refine fT hb ?_;intro hb)|(refine fresh_elimM hb ?_;intro _ _ hb))|refine rt ?_|refine gA rfl ?_|refine gB rfl ?_|apply cT rfl|apply cF rfl|(apply DM.gbT;rfl)|(apply DM.gbF;rfl)|(apply DM.ldMA (i := n); (· rfl); (· repeat' first|(apply Lk.go;constructor)|assumption|exact nb ‹_› ‹_›|exact nt ‹_› ‹_›|(apply Lm.go;constructor)); (· exact rows_len _); (· (rw [List.getElem?_map, hv]; rfl)); (· simp))|intro h
   simp only [hw]
   (apply DM.sM; (· rfl); (· repeat' first|(apply Lk.go;constructor)|assumption|exact nb ‹_› ‹_›|exact nt ‹_› ‹_›|(apply Lm.go;constructor)); (· rfl); (· (simp only [List.length_map]; omega)))
   repeat' first|(apply Sp.go;·constructor<;>first|exact ss|(change _=_;first|(simp only[go_sem,Nat.reduceBEq,Nat.reduceAdd,Nat.reduceLeDiff,reduceIte]<;>rfl)|rfl)|exact Nat.le_of_ble_eq_true rfl|decide|(repeat' first|(apply Lk.go;constructor)|assumption|exact nb ‹_› ‹_›|exact nt ‹_› ‹_›|(apply Lm.go;constructor)))|(intro b hb;repeat first|(refine fe hb ?_;intro _ _ hb)|(refine fT hb ?_;intro hb)|(refine fresh_elimM hb ?_;intro _ _ hb))|refine rt ?_|refine gA rfl ?_|refine gB rfl ?_|apply cT rfl|apply cF rfl|(apply DM.gbT;rfl)|(apply DM.gbF;rfl)|intro h
   (apply Sr.go;·constructor<;>first|(apply Lk.go;constructor<;>first|exact ss|(change _=_;first|(simp only[go_sem,Nat.reduceBEq,Nat.reduceAdd,Nat.reduceLeDiff,reduceIte]<;>rfl)|rfl)|exact Nat.le_of_ble_eq_true rfl|decide|(repeat' first|(apply Lk.go;constructor)|assumption|exact nb ‹_› ‹_›|exact nt ‹_› ‹_›))|assumption)
   rw [ok.1, ok.2]
   refine ⟨rfl, vs + 1, vl, ?_⟩
   rw [show (M.stack.map Val.row).take n = M.stack.dropLast.map Val.row by rw [← List.map_take, List.dropLast_eq_take, hn]; rfl]
   (refine hsub_hm ?_ ?_ ?_ ?_ ?_ ?_<;>first|(intro x y h1 h2 h3 h;repeat first|exact h|refine hm_oldT h1 h2 h3 ?_|refine t_ne ‹_› ?_|refine t_fresh ‹_› ?_|refine t_B ?_)|(intro x y hx h;repeat first|exact h|refine hm_old hx ?_|refine g_ne hx ?_|refine g_ne (nb ‹_› h) ?_|refine g_fresh ‹_› ?_|refine g_T ?_)|(repeat' first|(apply Lk.go;constructor)|assumption|exact nb ‹_› ‹_›|exact nt ‹_› ‹_›|(apply Lm.go;constructor)))
 ·have h0 : decide (((M.stack.map Val.row).length : Int) = 0) = false := by assumption
  obtain ⟨n, hn⟩ : ∃ n, M.stack.length = n + 1 := by simp only [List.length_map, decide_eq_false_iff_not] at h0; exact ⟨M.stack.length - 1, by omega⟩
  obtain ⟨v, hv⟩ := some_of (show n < M.stack.length by omega)
  have hl : M.stack.getLast? = some v := by rw [← last_ix hn]; exact hv
  have hw : IntKind.i64.wrap (((M.stack.map Val.row).length : Int) - 1) = (n : Int) := by rw [List.length_map, hn, wrap64 (by omega) (by unfold maxLen at hlen; omega)]; omega
  have ok : (pop k M).1.av = v.av ∧ (pop k M).2 = { M with stack := M.stack.dropLast } := by
   have : popTrap k M = false := by simp at *; simp [popTrap, hl, *]
   simp [pop, this, hl]
  simp only [hw]
  (apply DM.ixM; (· rfl); (· repeat' first|(apply Lk.go;constructor)|assumption|exact nb ‹_› ‹_›|exact nt ‹_› ‹_›|(apply Lm.go;constructor)); (· rfl); (· (first | omega | (simp only [List.length_map]; omega))); (· (first | omega | (simp only [List.length_map]; omega))))
  repeat' first|(apply Sp.go;·constructor<;>first|exact ss|(change _=_;first|(simp only[go_sem,Nat.reduceBEq,Nat.reduceAdd,Nat.reduceLeDiff,reduceIte]<;>rfl)|rfl)|exact Nat.le_of_ble_eq_true rfl|decide|(repeat' first|(apply Lk.go;constructor)|assumption|exact nb ‹_› ‹_›|exact nt ‹_› ‹_›|(apply Lm.go;constructor)))|(intro b hb;repeat first|(refine fe hb ?_;intro _ _ hb)|(refine fT hb ?_;intro hb)|(refine fresh_elimM hb ?_;intro _ _ hb))|refine rt ?_|refine gA rfl ?_|refine gB rfl ?_|apply cT rfl|apply cF rfl|(apply DM.gbT;rfl)|(apply DM.gbF;rfl)|(apply DM.ldMA (i := n); (· rfl); (· repeat' first|(apply Lk.go;constructor)|assumption|exact nb ‹_› ‹_›|exact nt ‹_› ‹_›|(apply Lm.go;constructor)); (· exact rows_len _); (· (rw [List.getElem?_map, hv]; rfl)); (· simp))|intro h
  simp only [hw]
  (apply DM.sM; (· rfl); (· repeat' first|(apply Lk.go;constructor)|assumption|exact nb ‹_› ‹_›|exact nt ‹_› ‹_›|(apply Lm.go;constructor)); (· rfl); (· (simp only [List.length_map]; omega)))
  repeat' first|(apply Sp.go;·constructor<;>first|exact ss|(change _=_;first|(simp only[go_sem,Nat.reduceBEq,Nat.reduceAdd,Nat.reduceLeDiff,reduceIte]<;>rfl)|rfl)|exact Nat.le_of_ble_eq_true rfl|decide|(repeat' first|(apply Lk.go;constructor)|assumption|exact nb ‹_› ‹_›|exact nt ‹_› ‹_›|(apply Lm.go;constructor)))|(intro b hb;repeat first|(refine fe hb ?_;intro _ _ hb)|(refine fT hb ?_;intro hb)|(refine fresh_elimM hb ?_;intro _ _ hb))|refine rt ?_|refine gA rfl ?_|refine gB rfl ?_|apply cT rfl|apply cF rfl|(apply DM.gbT;rfl)|(apply DM.gbF;rfl)|intro h
  (apply Sr.go;·constructor<;>first|(apply Lk.go;constructor<;>first|exact ss|(change _=_;first|(simp only[go_sem,Nat.reduceBEq,Nat.reduceAdd,Nat.reduceLeDiff,reduceIte]<;>rfl)|rfl)|exact Nat.le_of_ble_eq_true rfl|decide|(repeat' first|(apply Lk.go;constructor)|assumption|exact nb ‹_› ‹_›|exact nt ‹_› ‹_›))|assumption)
  rw [ok.1, ok.2]
  refine ⟨rfl, vs + 1, vl, ?_⟩
  rw [show (M.stack.map Val.row).take n = M.stack.dropLast.map Val.row by rw [← List.map_take, List.dropLast_eq_take, hn]; rfl]
  (refine hsub_hm ?_ ?_ ?_ ?_ ?_ ?_<;>first|(intro x y h1 h2 h3 h;repeat first|exact h|refine hm_oldT h1 h2 h3 ?_|refine t_ne ‹_› ?_|refine t_fresh ‹_› ?_|refine t_B ?_)|(intro x y hx h;repeat first|exact h|refine hm_old hx ?_|refine g_ne hx ?_|refine g_ne (nb ‹_› h) ?_|refine g_fresh ‹_› ?_|refine g_T ?_)|(repeat' first|(apply Lk.go;constructor)|assumption|exact nb ‹_› ‹_›|exact nt ‹_› ‹_›|(apply Lm.go;constructor)))
 ·(apply Sr.go;·constructor<;>first|(apply Lk.go;constructor<;>first|exact ss|(change _=_;first|(simp only[go_sem,Nat.reduceBEq,Nat.reduceAdd,Nat.reduceLeDiff,reduceIte]<;>rfl)|rfl)|exact Nat.le_of_ble_eq_true rfl|decide|(repeat' first|(apply Lk.go;constructor)|assumption|exact nb ‹_› ‹_›|exact nt ‹_› ‹_›))|assumption)
  obtain ⟨e1, e2⟩ := trapped (by simp at *; simp [popTrap, *])
  rw [e1, e2]
  refine ⟨rfl, vs, vl, ?_⟩
  (refine hsub_hm ?_ ?_ ?_ ?_ ?_ ?_<;>first|(intro x y h1 h2 h3 h;repeat first|exact h|refine hm_oldT h1 h2 h3 ?_|refine t_ne ‹_› ?_|refine t_fresh ‹_› ?_|refine t_B ?_)|(intro x y hx h;repeat first|exact h|refine hm_old hx ?_|refine g_ne hx ?_|refine g_ne (nb ‹_› h) ?_|refine g_fresh ‹_› ?_|refine g_T ?_)|(repeat' first|(apply Lk.go;constructor)|assumption|exact nb ‹_› ‹_›|exact nt ‹_› ‹_›|(apply Lm.go;constructor)))
 ·(apply Sr.go;·constructor<;>first|(apply Lk.go;constructor<;>first|exact ss|(change _=_;first|(simp only[go_sem,Nat.reduceBEq,Nat.reduceAdd,Nat.reduceLeDiff,reduceIte]<;>rfl)|rfl)|exact Nat.le_of_ble_eq_true rfl|decide|(repeat' first|(apply Lk.go;constructor)|assumption|exact nb ‹_› ‹_›|exact nt ‹_› ‹_›))|assumption)
  obtain ⟨e1, e2⟩ := trapped (by simp at *; simp [popTrap, *])
  rw [e1, e2]
  refine ⟨rfl, vs, vl, ?_⟩
  (refine hsub_hm ?_ ?_ ?_ ?_ ?_ ?_<;>first|(intro x y h1 h2 h3 h;repeat first|exact h|refine hm_oldT h1 h2 h3 ?_|refine t_ne ‹_› ?_|refine t_fresh ‹_› ?_|refine t_B ?_)|(intro x y hx h;repeat first|exact h|refine hm_old hx ?_|refine g_ne hx ?_|refine g_ne (nb ‹_› h) ?_|refine g_fresh ‹_› ?_|refine g_T ?_)|(repeat' first|(apply Lk.go;constructor)|assumption|exact nb ‹_› ‹_›|exact nt ‹_› ‹_›|(apply Lm.go;constructor)))
def ints (M : Mach) : Int × Int × Mach := ((pop 1 (pop 1 M).2).1.n, (pop 1 M).1.n, (pop 1 (pop 1 M).2).2)
theorem pop_len {k : Int} {M : Mach} (h : M.stack.length ≤ maxLen) : (pop k M).2.stack.length ≤ maxLen := by
  unfold pop
  split
  · exact h
  · simp only [List.length_dropLast]; omega
theorem p124 (H0 : AHeap) (ρ : Ref) (d : ρ.Ok) (p : Prog) (ps : List Val) (M : Mach) (hlen : M.stack.length ≤ maxLen) : Meth 124 [] H0 ρ p ps M (.tup [.int .i64 (ints M).1, .int .i64 (ints M).2.1]) (ints M).2.2 := by
  refine meth_intro Try.func124 c124 fun vs vl => ?_
  unfold e124 r124
  simp only [initEnv, initFrom]
  repeat' first|(apply Sp.go;·constructor<;>first|exact ss|(change _=_;first|(simp only[go_sem,Nat.reduceBEq,Nat.reduceAdd,Nat.reduceLeDiff,reduceIte]<;>rfl)|rfl)|exact Nat.le_of_ble_eq_true rfl|decide|(repeat' first|(apply Lk.go;constructor)|assumption|exact nb ‹_› ‹_›|exact nt ‹_› ‹_›|(apply Lm.go;constructor)))|(intro b hb;repeat first|(refine fe hb ?_;intro _ _ hb)|(refine fT hb ?_;intro hb)|(refine fresh_elimM hb ?_;intro _ _ hb))|refine rt ?_|refine gA rfl ?_|refine gB rfl ?_|apply cT rfl|apply cF rfl|(apply DM.gbT;rfl)|(apply DM.gbF;rfl)|((apply DM.cal (p91 H0 ρ d p ps M 1 hlen _ ⟨_, _, rfl⟩); (· simp only [go_sem, Nat.reduceBEq, Nat.reduceAdd] <;> rfl); (· exact AVLes.refl _)); rintro r H1 ⟨rfl, vs, vl, rfl⟩; simp only [put_some])|((apply DM.cal (p91 H0 ρ d p ps (pop 1 M).2 1 (pop_len hlen) _ ⟨_, _, rfl⟩); (· simp only [go_sem, Nat.reduceBEq, Nat.reduceAdd] <;> rfl); (· exact AVLes.refl _)); rintro r H1 ⟨rfl, vs, vl, rfl⟩; simp only [put_some])|intro h
  (apply Sr.go;·constructor<;>first|(apply Lk.go;constructor<;>first|exact ss|(change _=_;first|(simp only[go_sem,Nat.reduceBEq,Nat.reduceAdd,Nat.reduceLeDiff,reduceIte]<;>rfl)|rfl)|exact Nat.le_of_ble_eq_true rfl|decide|(repeat' first|(apply Lk.go;constructor)|assumption|exact nb ‹_› ‹_›|exact nt ‹_› ‹_›))|assumption)
  exact ⟨rfl, _, _, HSub.refl _⟩
def W (n : Int) : Int := IntKind.i64.wrap n
def arith (op a b : Int) : Int :=
  if op = 6 then W (a + b) else if op = 7 then W (a - b) else if op = 8 then W (a * b)
  else if op = 9 then (if b = 0 then 0 else W (a.tdiv b)) else if op = 10 then (if b = 0 then 0 else a.tmod b)
  else if op = 13 then (if a < b then 1 else 0) else if op = 15 then (if a ≠ 0 ∧ b ≠ 0 then 1 else 0)
  else if op = 16 then (if a ≠ 0 ∨ b ≠ 0 then 1 else 0) else 0
def arithM (op : Int) (M : Mach) : Mach := result (arith op (ints M).1 (ints M).2.1) (ints M).2.2
theorem p94 (H0 : AHeap) (ρ : Ref) (d : ρ.Ok) (p : Prog) (ps : List Val) (M : Mach) (hlen : M.stack.length ≤ maxLen) (op : Int) : Meth 94 [.int .i64 op] H0 ρ p ps M (.tup []) (arithM op M) := by
  refine meth_intro Try.func94 c94 fun vs vl => ?_
  have key : ∀ n, arith op (ints M).1 (ints M).2.1 = n → Meth 90 [.int .i64 n] H0 ρ p ps (ints M).2.2 (.tup []) (arithM op M) := by
    intro n h
    rw [arithM, h]
    exact p90 H0 ρ d p ps _ n
  unfold e94 r94
  simp only [initEnv, initFrom]
  repeat' first|(apply Sp.go;·constructor<;>first|exact ss|(change _=_;first|(simp only[go_sem,Nat.reduceBEq,Nat.reduceAdd,Nat.reduceLeDiff,reduceIte]<;>rfl)|rfl)|exact Nat.le_of_ble_eq_true rfl|decide|(repeat' first|(apply Lk.go;constructor)|assumption|exact nb ‹_› ‹_›|exact nt ‹_› ‹_›|(apply Lm.go;constructor)))|(intro b hb;repeat first|(refine fe hb ?_;intro _ _ hb)|(refine fT hb ?_;intro hb)|(refine fresh_elimM hb ?_;intro _ _ hb))|refine rt ?_|refine gA rfl ?_|refine gB rfl ?_|apply cT rfl|apply cF rfl|(apply DM.gbT;rfl)|(apply DM.gbF;rfl)|intro h
  (apply DM.cal (p124 H0 ρ d p ps M hlen _ ⟨_, _, rfl⟩); (· simp only [go_sem, Nat.reduceBEq, Nat.reduceAdd] <;> rfl); (· exact AVLes.refl _))
  rintro r H1 ⟨rfl, vs, vl, rfl⟩
  simp only [put_some]
  repeat' first|(apply Sp.go;·constructor<;>first|exact ss|(change _=_;first|(simp only[go_sem,Nat.reduceBEq,Nat.reduceAdd,Nat.reduceLeDiff,reduceIte]<;>rfl)|rfl)|exact Nat.le_of_ble_eq_true rfl|decide|(repeat' first|(apply Lk.go;constructor)|assumption|exact nb ‹_› ‹_›|exact nt ‹_› ‹_›|(apply Lm.go;constructor)))|(intro b hb;repeat first|(refine fe hb ?_;intro _ _ hb)|(refine fT hb ?_;intro hb)|(refine fresh_elimM hb ?_;intro _ _ hb))|refine rt ?_|refine gA rfl ?_|refine gB rfl ?_|apply cT rfl|apply cF rfl|(apply DM.gbT;rfl)|(apply DM.gbF;rfl)|(apply AM.condS;rfl)|intro h
  all_goals try (
    skip
    (apply DM.pcs (p92 _); (· simp only [go_sem, Nat.reduceBEq, Nat.reduceAdd] <;> rfl); (· exact AVLes.refl _))
    repeat' first|(apply Sp.go;·constructor<;>first|exact ss|(change _=_;first|(simp only[go_sem,Nat.reduceBEq,Nat.reduceAdd,Nat.reduceLeDiff,reduceIte]<;>rfl)|rfl)|exact Nat.le_of_ble_eq_true rfl|decide|(repeat' first|(apply Lk.go;constructor)|assumption|exact nb ‹_› ‹_›|exact nt ‹_› ‹_›|(apply Lm.go;constructor)))|(intro b hb;repeat first|(refine fe hb ?_;intro _ _ hb)|(refine fT hb ?_;intro hb)|(refine fresh_elimM hb ?_;intro _ _ hb))|refine rt ?_|refine gA rfl ?_|refine gB rfl ?_|apply cT rfl|apply cF rfl|(apply DM.gbT;rfl)|(apply DM.gbF;rfl)|(apply AM.condS;rfl)|intro h
    )
  all_goals try (
    skip
    (apply DM.quoI; (· rfl); (· rfl); (· (simp at *; assumption)))
    repeat' first|(apply Sp.go;·constructor<;>first|exact ss|(change _=_;first|(simp only[go_sem,Nat.reduceBEq,Nat.reduceAdd,Nat.reduceLeDiff,reduceIte]<;>rfl)|rfl)|exact Nat.le_of_ble_eq_true rfl|decide|(repeat' first|(apply Lk.go;constructor)|assumption|exact nb ‹_› ‹_›|exact nt ‹_› ‹_›|(apply Lm.go;constructor)))|(intro b hb;repeat first|(refine fe hb ?_;intro _ _ hb)|(refine fT hb ?_;intro hb)|(refine fresh_elimM hb ?_;intro _ _ hb))|refine rt ?_|refine gA rfl ?_|refine gB rfl ?_|apply cT rfl|apply cF rfl|(apply DM.gbT;rfl)|(apply DM.gbF;rfl)|(apply AM.condS;rfl)|intro h
    )
  all_goals try (
    skip
    (apply DM.remI; (· rfl); (· rfl); (· (simp at *; assumption)))
    repeat' first|(apply Sp.go;·constructor<;>first|exact ss|(change _=_;first|(simp only[go_sem,Nat.reduceBEq,Nat.reduceAdd,Nat.reduceLeDiff,reduceIte]<;>rfl)|rfl)|exact Nat.le_of_ble_eq_true rfl|decide|(repeat' first|(apply Lk.go;constructor)|assumption|exact nb ‹_› ‹_›|exact nt ‹_› ‹_›|(apply Lm.go;constructor)))|(intro b hb;repeat first|(refine fe hb ?_;intro _ _ hb)|(refine fT hb ?_;intro hb)|(refine fresh_elimM hb ?_;intro _ _ hb))|refine rt ?_|refine gA rfl ?_|refine gB rfl ?_|apply cT rfl|apply cF rfl|(apply DM.gbT;rfl)|(apply DM.gbF;rfl)|(apply AM.condS;rfl)|intro h
    )
  all_goals (
    skip
    (apply DM.cal (key _ ?_ _ ⟨_, _, rfl⟩); (· simp only [go_sem, Nat.reduceBEq, Nat.reduceAdd] <;> rfl); (· exact AVLes.refl _))
    )
  all_goals first
    | (rintro r H1 ⟨rfl, vs, vl, rfl⟩
       simp only [put_some]
       repeat' first|(apply Sp.go;·constructor<;>first|exact ss|(change _=_;first|(simp only[go_sem,Nat.reduceBEq,Nat.reduceAdd,Nat.reduceLeDiff,reduceIte]<;>rfl)|rfl)|exact Nat.le_of_ble_eq_true rfl|decide|(repeat' first|(apply Lk.go;constructor)|assumption|exact nb ‹_› ‹_›|exact nt ‹_› ‹_›|(apply Lm.go;constructor)))|(intro b hb;repeat first|(refine fe hb ?_;intro _ _ hb)|(refine fT hb ?_;intro hb)|(refine fresh_elimM hb ?_;intro _ _ hb))|refine rt ?_|refine gA rfl ?_|refine gB rfl ?_|apply cT rfl|apply cF rfl|(apply DM.gbT;rfl)|(apply DM.gbF;rfl)|intro h
       (apply Sr.go;·constructor<;>first|(apply Lk.go;constructor<;>first|exact ss|(change _=_;first|(simp only[go_sem,Nat.reduceBEq,Nat.reduceAdd,Nat.reduceLeDiff,reduceIte]<;>rfl)|rfl)|exact Nat.le_of_ble_eq_true rfl|decide|(repeat' first|(apply Lk.go;constructor)|assumption|exact nb ‹_› ‹_›|exact nt ‹_› ‹_›))|assumption)
       exact ⟨rfl, _, _, HSub.refl _⟩)
    | (clear key
       simp at *
       simp [arith, W, *]
       done)
def valEq (a b : Val) : Bool := decide (a.k = b.k) && (decide (a.n = b.n) && decide (a.s = b.s))
def textsM (op : Int) (M : Mach) : Mach :=
 if op = 12 then result (if valEq (pop (pop 0 M).1.k (pop 0 M).2).1 (pop 0 M).1 then 1 else 0) (pop (pop 0 M).1.k (pop 0 M).2).2
 else if op = 17 then (if (pop 2 (pop 2 M).2).2.tr then (pop 2 (pop 2 M).2).2 else push ⟨2, 0, ((pop 2 (pop 2 M).2).1.s ++ (pop 2 M).1.s).take 40⟩ (pop 2 (pop 2 M).2).2)
 else if op = 18 then result (pop 2 M).1.s.length (pop 2 M).2 else M
theorem pop_s {k : Int} {M : Mach} (h : ∀ v ∈ M.stack, v.s.length ≤ 1000) : (pop k M).1.s.length ≤ 1000 ∧ ∀ v ∈ (pop k M).2.stack, v.s.length ≤ 1000 := by
 unfold pop
 split
 ·exact ⟨by simp, h⟩
 ·refine ⟨?_, fun v hv => h v (List.dropLast_subset _ hv)⟩
  cases hl : M.stack.getLast? with
  | none => simp
  | some v => exact h v (List.mem_of_getLast? hl)
theorem min_len (l : List UInt8) : min ((l.length : Nat) : Int) 40 = ((min l.length 40 : Nat) : Int) := by omega
theorem take_min (l : List UInt8) : (l.take (min l.length 40)).drop 0 = l.take 40 := by
 rw [List.drop_zero, List.take_eq_take_iff]; omega
theorem p93 (H0 : AHeap) (ρ : Ref) (d : ρ.Ok) (p : Prog) (ps : List Val) (M : Mach) (hlen : M.stack.length ≤ maxLen) (hstr : ∀ v ∈ M.stack, v.s.length ≤ 1000) (op : Int) : Meth 93 [.int .i64 op] H0 ρ p ps M (.tup []) (textsM op M) := by
 refine meth_intro Try.func93 c93 fun vs vl => ?_
 have d1 := d.vs; have d2 := d.vl; have d3 := d.ls
 have d1' := Ne.symm d1; have d2' := Ne.symm d2; have d3' := Ne.symm d3
 unfold e93 r93
 simp only [initEnv, initFrom]
 repeat' first|(apply Sp.go;·constructor<;>first|exact ss|(change _=_;first|(simp only[go_sem,Nat.reduceBEq,Nat.reduceAdd,Nat.reduceLeDiff,reduceIte]<;>rfl)|rfl)|exact Nat.le_of_ble_eq_true rfl|decide|(repeat' first|(apply Lk.go;constructor)|assumption|exact nb ‹_› ‹_›|exact nt ‹_› ‹_›|(apply Lm.go;constructor)))|(intro b hb;repeat first|(refine fe hb ?_;intro _ _ hb)|(refine fT hb ?_;intro hb)|(refine fresh_elimM hb ?_;intro _ _ hb))|refine rt ?_|refine gA rfl ?_|refine gB rfl ?_|apply cT rfl|apply cF rfl|(apply DM.gbT;rfl)|(apply DM.gbF;rfl)|intro h
 (apply AM.cond; (· rfl))
 ·intro h1
  simp at h1
  repeat' first|(apply Sp.go;·constructor<;>first|exact ss|(change _=_;first|(simp only[go_sem,Nat.reduceBEq,Nat.reduceAdd,Nat.reduceLeDiff,reduceIte]<;>rfl)|rfl)|exact Nat.le_of_ble_eq_true rfl|decide|(repeat' first|(apply Lk.go;constructor)|assumption|exact nb ‹_› ‹_›|exact nt ‹_› ‹_›|(apply Lm.go;constructor)))|(intro b hb;repeat first|(refine fe hb ?_;intro _ _ hb)|(refine fT hb ?_;intro hb)|(refine fresh_elimM hb ?_;intro _ _ hb))|refine rt ?_|refine gA rfl ?_|refine gB rfl ?_|apply cT rfl|apply cF rfl|(apply DM.gbT;rfl)|(apply DM.gbF;rfl)|((apply DM.cal (p91 _ ρ d p ps M 0 hlen _ ⟨_, _, rfl⟩); (· simp only [go_sem, Nat.reduceBEq, Nat.reduceAdd] <;> rfl); (· exact AVLes.refl _)); rintro r H1 ⟨rfl, vs, vl, rfl⟩; simp only [put_some])|intro h
  rw [hm_setB (by assumption)]
  (apply DM.cal (p91 _ ρ d p ps (pop 0 M).2 (pop 0 M).1.k (pop_len hlen) _ ⟨_, _, rfl⟩); (· simp only [go_sem, Nat.reduceBEq, Nat.reduceAdd] <;> rfl); (· exact AVLes.refl _))
  rintro r H1 ⟨rfl, vs, vl, rfl⟩
  simp only [put_some]
  repeat' first|(apply Sp.go;·constructor<;>first|exact ss|(change _=_;first|(simp only[go_sem,Nat.reduceBEq,Nat.reduceAdd,Nat.reduceLeDiff,reduceIte]<;>rfl)|rfl)|exact Nat.le_of_ble_eq_true rfl|decide|(repeat' first|(apply Lk.go;constructor)|assumption|exact nb ‹_› ‹_›|exact nt ‹_› ‹_›|(apply Lm.go;constructor)))|(intro b hb;repeat first|(refine fe hb ?_;intro _ _ hb)|(refine fT hb ?_;intro hb)|(refine fresh_elimM hb ?_;intro _ _ hb))|refine rt ?_|refine gA rfl ?_|refine gB rfl ?_|apply cT rfl|apply cF rfl|(apply DM.gbT;rfl)|(apply DM.gbF;rfl)|(apply DM.pcs (p92 _); (· simp only [go_sem, Nat.reduceBEq, Nat.reduceAdd] <;> rfl); (· exact AVLes.refl _))|intro h
  rw [hm_setB (by assumption)]
  (apply DM.cal (p90 _ ρ d p ps _ _ _ ⟨_, _, rfl⟩); (· simp only [go_sem, Nat.reduceBEq, Nat.reduceAdd] <;> rfl); (· exact AVLes.refl _))
  rintro r H1 ⟨rfl, vs, vl, rfl⟩
  simp only [put_some]
  repeat' first|(apply Sp.go;·constructor<;>first|exact ss|(change _=_;first|(simp only[go_sem,Nat.reduceBEq,Nat.reduceAdd,Nat.reduceLeDiff,reduceIte]<;>rfl)|rfl)|exact Nat.le_of_ble_eq_true rfl|decide|(repeat' first|(apply Lk.go;constructor)|assumption|exact nb ‹_› ‹_›|exact nt ‹_› ‹_›|(apply Lm.go;constructor)))|(intro b hb;repeat first|(refine fe hb ?_;intro _ _ hb)|(refine fT hb ?_;intro hb)|(refine fresh_elimM hb ?_;intro _ _ hb))|refine rt ?_|refine gA rfl ?_|refine gB rfl ?_|apply cT rfl|apply cF rfl|(apply DM.gbT;rfl)|(apply DM.gbF;rfl)|intro h
  (apply Sr.go;·constructor<;>first|(apply Lk.go;constructor<;>first|exact ss|(change _=_;first|(simp only[go_sem,Nat.reduceBEq,Nat.reduceAdd,Nat.reduceLeDiff,reduceIte]<;>rfl)|rfl)|exact Nat.le_of_ble_eq_true rfl|decide|(repeat' first|(apply Lk.go;constructor)|assumption|exact nb ‹_› ‹_›|exact nt ‹_› ‹_›))|assumption)
  have e : textsM op M = result (if valEq (pop (pop 0 M).1.k (pop 0 M).2).1 (pop 0 M).1 then 1 else 0) (pop (pop 0 M).1.k (pop 0 M).2).2 := by simp [textsM, h1]
  rw [e]
  refine ⟨rfl, vs, vl, ?_⟩
  (refine hsub_hm ?_ ?_ ?_ ?_ ?_ ?_<;>first|(intro x y h1 h2 h3 h;repeat first|exact h|refine hm_oldT h1 h2 h3 ?_|refine t_ne ‹_› ?_|refine t_fresh ‹_› ?_|refine t_B ?_)|(intro x y hx h;repeat first|exact h|refine hm_old hx ?_|refine g_ne hx ?_|refine g_ne (nb ‹_› h) ?_|refine g_fresh ‹_› ?_|refine g_T ?_)|(repeat' first|(apply Lk.go;constructor)|assumption|exact nb ‹_› ‹_›|exact nt ‹_› ‹_›|(apply Lm.go;constructor)))
 ·intro h1
  simp at h1
  repeat' first|(apply Sp.go;·constructor<;>first|exact ss|(change _=_;first|(simp only[go_sem,Nat.reduceBEq,Nat.reduceAdd,Nat.reduceLeDiff,reduceIte]<;>rfl)|rfl)|exact Nat.le_of_ble_eq_true rfl|decide|(repeat' first|(apply Lk.go;constructor)|assumption|exact nb ‹_› ‹_›|exact nt ‹_› ‹_›|(apply Lm.go;constructor)))|(intro b hb;repeat first|(refine fe hb ?_;intro _ _ hb)|(refine fT hb ?_;intro hb)|(refine fresh_elimM hb ?_;intro _ _ hb))|refine rt ?_|refine gA rfl ?_|refine gB rfl ?_|apply cT rfl|apply cF rfl|(apply DM.gbT;rfl)|(apply DM.gbF;rfl)|intro h
  (apply AM.cond; (· rfl))
  ·intro h2
   simp at h2
   repeat' first|(apply Sp.go;·constructor<;>first|exact ss|(change _=_;first|(simp only[go_sem,Nat.reduceBEq,Nat.reduceAdd,Nat.reduceLeDiff,reduceIte]<;>rfl)|rfl)|exact Nat.le_of_ble_eq_true rfl|decide|(repeat' first|(apply Lk.go;constructor)|assumption|exact nb ‹_› ‹_›|exact nt ‹_› ‹_›|(apply Lm.go;constructor)))|(intro b hb;repeat first|(refine fe hb ?_;intro _ _ hb)|(refine fT hb ?_;intro hb)|(refine fresh_elimM hb ?_;intro _ _ hb))|refine rt ?_|refine gA rfl ?_|refine gB rfl ?_|apply cT rfl|apply cF rfl|(apply DM.gbT;rfl)|(apply DM.gbF;rfl)|((apply DM.cal (p91 _ ρ d p ps M 2 hlen _ ⟨_, _, rfl⟩); (· simp only [go_sem, Nat.reduceBEq, Nat.reduceAdd] <;> rfl); (· exact AVLes.refl _)); rintro r H1 ⟨rfl, vs, vl, rfl⟩; simp only [put_some])|intro h
   rw [hm_setB (by assumption)]
   (apply DM.cal (p91 _ ρ d p ps (pop 2 M).2 2 (pop_len hlen) _ ⟨_, _, rfl⟩); (· simp only [go_sem, Nat.reduceBEq, Nat.reduceAdd] <;> rfl); (· exact AVLes.refl _))
   rintro r H1 ⟨rfl, vs, vl, rfl⟩
   simp only [put_some]
   repeat' first|(apply Sp.go;·constructor<;>first|exact ss|(change _=_;first|(simp only[go_sem,Nat.reduceBEq,Nat.reduceAdd,Nat.reduceLeDiff,reduceIte]<;>rfl)|rfl)|exact Nat.le_of_ble_eq_true rfl|decide|(repeat' first|(apply Lk.go;constructor)|assumption|exact nb ‹_› ‹_›|exact nt ‹_› ‹_›|(apply Lm.go;constructor)))|(intro b hb;repeat first|(refine fe hb ?_;intro _ _ hb)|(refine fT hb ?_;intro hb)|(refine fresh_elimM hb ?_;intro _ _ hb))|refine rt ?_|refine gA rfl ?_|refine gB rfl ?_|apply cT rfl|apply cF rfl|(apply DM.gbT;rfl)|(apply DM.gbF;rfl)|intro h
   (apply AM.cond; (· rfl))
   ·intro h3
    simp at h3
    obtain ⟨q1, q2⟩ := pop_s (k := 2) hstr
    obtain ⟨q3, q4⟩ := pop_s (k := 2) q2
    have e : textsM op M = push ⟨2, 0, ((pop 2 (pop 2 M).2).1.s ++ (pop 2 M).1.s).take 40⟩ (pop 2 (pop 2 M).2).2 := by simp [textsM, h2, h3]
    repeat' first|(apply Sp.go;·constructor<;>first|exact ss|(change _=_;first|(simp only[go_sem,Nat.reduceBEq,Nat.reduceAdd,Nat.reduceLeDiff,reduceIte]<;>rfl)|rfl)|exact Nat.le_of_ble_eq_true rfl|decide|(repeat' first|(apply Lk.go;constructor)|assumption|exact nb ‹_› ‹_›|exact nt ‹_› ‹_›|(apply Lm.go;constructor)))|(intro b hb;repeat first|(refine fe hb ?_;intro _ _ hb)|(refine fT hb ?_;intro hb)|(refine fresh_elimM hb ?_;intro _ _ hb))|refine rt ?_|refine gA rfl ?_|refine gB rfl ?_|apply cT rfl|apply cF rfl|(apply DM.gbT;rfl)|(apply DM.gbF;rfl)|(apply DM.catS; (· rfl); (· rfl); (· (unfold maxLen; omega)))|intro h
    rw [min_len]
    apply DM.slSs (p := 0)
    ·simp only [EOpd.ev, Env.get, Nat.reduceBEq, cond_true, cond_false, beq_self_eq_true] <;> rfl
    ·rfl
    ·simp only [optNat, EOpd.ev, Env.get, Nat.reduceBEq, cond_true, cond_false, beq_self_eq_true] <;> rfl
    ·omega
    ·omega
    ·exact take_min _
    repeat' first|(apply Sp.go;·constructor<;>first|exact ss|(change _=_;first|(simp only[go_sem,Nat.reduceBEq,Nat.reduceAdd,Nat.reduceLeDiff,reduceIte]<;>rfl)|rfl)|exact Nat.le_of_ble_eq_true rfl|decide|(repeat' first|(apply Lk.go;constructor)|assumption|exact nb ‹_› ‹_›|exact nt ‹_› ‹_›|(apply Lm.go;constructor)))|(intro b hb;repeat first|(refine fe hb ?_;intro _ _ hb)|(refine fT hb ?_;intro hb)|(refine fresh_elimM hb ?_;intro _ _ hb))|refine rt ?_|refine gA rfl ?_|refine gB rfl ?_|apply cT rfl|apply cF rfl|(apply DM.gbT;rfl)|(apply DM.gbF;rfl)|intro h
    rw [hm_setB (by assumption)]
    (apply DM.cal (p87 _ ρ d p ps (pop 2 (pop 2 M).2).2 ⟨2, 0, ((pop 2 (pop 2 M).2).1.s ++ (pop 2 M).1.s).take 40⟩ _ ⟨_, _, rfl⟩); (· simp only [go_sem, Nat.reduceBEq, Nat.reduceAdd] <;> rfl); (· exact AVLes.refl _))
    rintro r H1 ⟨rfl, vs, vl, rfl⟩
    simp only [put_some]
    repeat' first|(apply Sp.go;·constructor<;>first|exact ss|(change _=_;first|(simp only[go_sem,Nat.reduceBEq,Nat.reduceAdd,Nat.reduceLeDiff,reduceIte]<;>rfl)|rfl)|exact Nat.le_of_ble_eq_true rfl|decide|(repeat' first|(apply Lk.go;constructor)|assumption|exact nb ‹_› ‹_›|exact nt ‹_› ‹_›|(apply Lm.go;constructor)))|(intro b hb;repeat first|(refine fe hb ?_;intro _ _ hb)|(refine fT hb ?_;intro hb)|(refine fresh_elimM hb ?_;intro _ _ hb))|refine rt ?_|refine gA rfl ?_|refine gB rfl ?_|apply cT rfl|apply cF rfl|(apply DM.gbT;rfl)|(apply DM.gbF;rfl)|intro h
    (apply Sr.go;·constructor<;>first|(apply Lk.go;constructor<;>first|exact ss|(change _=_;first|(simp only[go_sem,Nat.reduceBEq,Nat.reduceAdd,Nat.reduceLeDiff,reduceIte]<;>rfl)|rfl)|exact Nat.le_of_ble_eq_true rfl|decide|(repeat' first|(apply Lk.go;constructor)|assumption|exact nb ‹_› ‹_›|exact nt ‹_› ‹_›))|assumption)
    rw [e]
    refine ⟨rfl, vs, vl, ?_⟩
    (refine hsub_hm ?_ ?_ ?_ ?_ ?_ ?_<;>first|(intro x y h1 h2 h3 h;repeat first|exact h|refine hm_oldT h1 h2 h3 ?_|refine t_ne ‹_› ?_|refine t_fresh ‹_› ?_|refine t_B ?_)|(intro x y hx h;repeat first|exact h|refine hm_old hx ?_|refine g_ne hx ?_|refine g_ne (nb ‹_› h) ?_|refine g_fresh ‹_› ?_|refine g_T ?_)|(repeat' first|(apply Lk.go;constructor)|assumption|exact nb ‹_› ‹_›|exact nt ‹_› ‹_›|(apply Lm.go;constructor)))
   ·intro h3
    simp at h3
    have e : textsM op M = (pop 2 (pop 2 M).2).2 := by simp [textsM, h2, h3]
    repeat' first|(apply Sp.go;·constructor<;>first|exact ss|(change _=_;first|(simp only[go_sem,Nat.reduceBEq,Nat.reduceAdd,Nat.reduceLeDiff,reduceIte]<;>rfl)|rfl)|exact Nat.le_of_ble_eq_true rfl|decide|(repeat' first|(apply Lk.go;constructor)|assumption|exact nb ‹_› ‹_›|exact nt ‹_› ‹_›|(apply Lm.go;constructor)))|(intro b hb;repeat first|(refine fe hb ?_;intro _ _ hb)|(refine fT hb ?_;intro hb)|(refine fresh_elimM hb ?_;intro _ _ hb))|refine rt ?_|refine gA rfl ?_|refine gB rfl ?_|apply cT rfl|apply cF rfl|(apply DM.gbT;rfl)|(apply DM.gbF;rfl)|intro h
    (apply Sr.go;·constructor<;>first|(apply Lk.go;constructor<;>first|exact ss|(change _=_;first|(simp only[go_sem,Nat.reduceBEq,Nat.reduceAdd,Nat.reduceLeDiff,reduceIte]<;>rfl)|rfl)|exact Nat.le_of_ble_eq_true rfl|decide|(repeat' first|(apply Lk.go;constructor)|assumption|exact nb ‹_› ‹_›|exact nt ‹_› ‹_›))|assumption)
    rw [e]
    refine ⟨rfl, vs, vl, ?_⟩
    (refine hsub_hm ?_ ?_ ?_ ?_ ?_ ?_<;>first|(intro x y h1 h2 h3 h;repeat first|exact h|refine hm_oldT h1 h2 h3 ?_|refine t_ne ‹_› ?_|refine t_fresh ‹_› ?_|refine t_B ?_)|(intro x y hx h;repeat first|exact h|refine hm_old hx ?_|refine g_ne hx ?_|refine g_ne (nb ‹_› h) ?_|refine g_fresh ‹_› ?_|refine g_T ?_)|(repeat' first|(apply Lk.go;constructor)|assumption|exact nb ‹_› ‹_›|exact nt ‹_› ‹_›|(apply Lm.go;constructor)))
  ·intro h2
   simp at h2
   repeat' first|(apply Sp.go;·constructor<;>first|exact ss|(change _=_;first|(simp only[go_sem,Nat.reduceBEq,Nat.reduceAdd,Nat.reduceLeDiff,reduceIte]<;>rfl)|rfl)|exact Nat.le_of_ble_eq_true rfl|decide|(repeat' first|(apply Lk.go;constructor)|assumption|exact nb ‹_› ‹_›|exact nt ‹_› ‹_›|(apply Lm.go;constructor)))|(intro b hb;repeat first|(refine fe hb ?_;intro _ _ hb)|(refine fT hb ?_;intro hb)|(refine fresh_elimM hb ?_;intro _ _ hb))|refine rt ?_|refine gA rfl ?_|refine gB rfl ?_|apply cT rfl|apply cF rfl|(apply DM.gbT;rfl)|(apply DM.gbF;rfl)|intro h
   (apply AM.cond; (· rfl))
   ·intro h3
    simp at h3
    repeat' first|(apply Sp.go;·constructor<;>first|exact ss|(change _=_;first|(simp only[go_sem,Nat.reduceBEq,Nat.reduceAdd,Nat.reduceLeDiff,reduceIte]<;>rfl)|rfl)|exact Nat.le_of_ble_eq_true rfl|decide|(repeat' first|(apply Lk.go;constructor)|assumption|exact nb ‹_› ‹_›|exact nt ‹_› ‹_›|(apply Lm.go;constructor)))|(intro b hb;repeat first|(refine fe hb ?_;intro _ _ hb)|(refine fT hb ?_;intro hb)|(refine fresh_elimM hb ?_;intro _ _ hb))|refine rt ?_|refine gA rfl ?_|refine gB rfl ?_|apply cT rfl|apply cF rfl|(apply DM.gbT;rfl)|(apply DM.gbF;rfl)|((apply DM.cal (p91 _ ρ d p ps M 2 hlen _ ⟨_, _, rfl⟩); (· simp only [go_sem, Nat.reduceBEq, Nat.reduceAdd] <;> rfl); (· exact AVLes.refl _)); rintro r H1 ⟨rfl, vs, vl, rfl⟩; simp only [put_some])|((apply DM.cal (p90 _ ρ d p ps _ _ _ ⟨_, _, rfl⟩); (· simp only [go_sem, Nat.reduceBEq, Nat.reduceAdd] <;> rfl); (· exact AVLes.refl _)); rintro r H1 ⟨rfl, vs, vl, rfl⟩; simp only [put_some])|intro h
    (apply Sr.go;·constructor<;>first|(apply Lk.go;constructor<;>first|exact ss|(change _=_;first|(simp only[go_sem,Nat.reduceBEq,Nat.reduceAdd,Nat.reduceLeDiff,reduceIte]<;>rfl)|rfl)|exact Nat.le_of_ble_eq_true rfl|decide|(repeat' first|(apply Lk.go;constructor)|assumption|exact nb ‹_› ‹_›|exact nt ‹_› ‹_›))|assumption)
    have e : textsM op M = result (pop 2 M).1.s.length (pop 2 M).2 := by simp [textsM, h3]
    rw [e]
    exact ⟨rfl, _, _, HSub.refl _⟩
   ·intro h3
    simp at h3
    repeat' first|(apply Sp.go;·constructor<;>first|exact ss|(change _=_;first|(simp only[go_sem,Nat.reduceBEq,Nat.reduceAdd,Nat.reduceLeDiff,reduceIte]<;>rfl)|rfl)|exact Nat.le_of_ble_eq_true rfl|decide|(repeat' first|(apply Lk.go;constructor)|assumption|exact nb ‹_› ‹_›|exact nt ‹_› ‹_›|(apply Lm.go;constructor)))|(intro b hb;repeat first|(refine fe hb ?_;intro _ _ hb)|(refine fT hb ?_;intro hb)|(refine fresh_elimM hb ?_;intro _ _ hb))|refine rt ?_|refine gA rfl ?_|refine gB rfl ?_|apply cT rfl|apply cF rfl|(apply DM.gbT;rfl)|(apply DM.gbF;rfl)|intro h
    (apply Sr.go;·constructor<;>first|(apply Lk.go;constructor<;>first|exact ss|(change _=_;first|(simp only[go_sem,Nat.reduceBEq,Nat.reduceAdd,Nat.reduceLeDiff,reduceIte]<;>rfl)|rfl)|exact Nat.le_of_ble_eq_true rfl|decide|(repeat' first|(apply Lk.go;constructor)|assumption|exact nb ‹_› ‹_›|exact nt ‹_› ‹_›))|assumption)
    have e : textsM op M = M := by simp [textsM, h1, h2, h3]
    rw [e]
    exact ⟨rfl, _, _, HSub.refl _⟩
def controlM (x : Ins_) (M : Mach) : Mach :=
 if x.op = 19 then { M with pc := x.n }
 else if x.op = 20 then (if (pop 1 M).2.tr = false ∧ (pop 1 M).1.n = 0 then { (pop 1 M).2 with pc := x.n } else (pop 1 M).2)
 else if x.op = 21 then (if 4 ≤ M.loops.length then { M with tr := true } else { M with loops := M.loops ++ [x.n] })
 else if x.op = 22 then (match M.loops.getLast? with
  | none => { M with tr := true }
  | some k => if 0 < W (k - 1) then { M with loops := M.loops.dropLast ++ [W (k - 1)], pc := x.n } else { M with loops := M.loops.dropLast ++ [W (k - 1)] })
 else if x.op = 23 then (match M.loops.getLast? with
  | none => { M with tr := true }
  | some _ => { M with loops := M.loops.dropLast })
 else if x.op = 24 then { M with dn := true } else M
theorem irow_len (l : List Int) : ∀ r ∈ l.map irow, r.length = 1 := fun r h => by obtain ⟨v, _, rfl⟩ := List.mem_map.1 h; rfl
theorem set_last {α : Type} {l : List α} {n : Nat} {a : α} (h : l.length = n + 1) : l.set n a = l.dropLast ++ [a] := by
 rw [List.set_eq_take_append_cons_drop, if_pos (by omega), List.dropLast_eq_take, List.drop_eq_nil_of_le (by omega), h]; rfl
theorem p95 (H0 : AHeap) (ρ : Ref) (d : ρ.Ok) (p : Prog) (ps : List Val) (M : Mach) (hlen : M.stack.length ≤ maxLen) (hll : M.loops.length ≤ maxLen) (x : Ins_) : Meth 95 [x.av] H0 ρ p ps M (.tup []) (controlM x M) := by
 refine meth_intro Try.func95 c95 fun vs vl => ?_
 have d1 := d.vs; have d2 := d.vl; have d3 := d.ls
 have d1' := Ne.symm d1; have d2' := Ne.symm d2; have d3' := Ne.symm d3
 unfold e95 r95
 simp only [initEnv, initFrom]
 repeat' first|(apply Sp.go;·constructor<;>first|exact ss|(change _=_;first|(simp only[go_sem,Nat.reduceBEq,Nat.reduceAdd,Nat.reduceLeDiff,reduceIte]<;>rfl)|rfl)|exact Nat.le_of_ble_eq_true rfl|decide|(repeat' first|(apply Lk.go;constructor)|assumption|exact nb ‹_› ‹_›|exact nt ‹_› ‹_›|(apply Lm.go;constructor)))|(intro b hb;repeat first|(refine fe hb ?_;intro _ _ hb)|(refine fT hb ?_;intro hb)|(refine fresh_elimM hb ?_;intro _ _ hb))|refine rt ?_|refine gA rfl ?_|refine gB rfl ?_|apply cT rfl|apply cF rfl|(apply DM.gbT;rfl)|(apply DM.gbF;rfl)|intro h
 (apply AM.cond; (· rfl))
 ·intro h1
  simp at h1
  repeat' first|(apply Sp.go;·constructor<;>first|exact ss|(change _=_;first|(simp only[go_sem,Nat.reduceBEq,Nat.reduceAdd,Nat.reduceLeDiff,reduceIte]<;>rfl)|rfl)|exact Nat.le_of_ble_eq_true rfl|decide|(repeat' first|(apply Lk.go;constructor)|assumption|exact nb ‹_› ‹_›|exact nt ‹_› ‹_›|(apply Lm.go;constructor)))|(intro b hb;repeat first|(refine fe hb ?_;intro _ _ hb)|(refine fT hb ?_;intro hb)|(refine fresh_elimM hb ?_;intro _ _ hb))|refine rt ?_|refine gA rfl ?_|refine gB rfl ?_|apply cT rfl|apply cF rfl|(apply DM.gbT;rfl)|(apply DM.gbF;rfl)|intro h
  (apply Sr.go;·constructor<;>first|(apply Lk.go;constructor<;>first|exact ss|(change _=_;first|(simp only[go_sem,Nat.reduceBEq,Nat.reduceAdd,Nat.reduceLeDiff,reduceIte]<;>rfl)|rfl)|exact Nat.le_of_ble_eq_true rfl|decide|(repeat' first|(apply Lk.go;constructor)|assumption|exact nb ‹_› ‹_›|exact nt ‹_› ‹_›))|assumption)
  rw [show controlM x M = { M with pc := x.n } by simp [controlM, h1]]
  refine ⟨rfl, vs, vl, ?_⟩
  (refine hsub_hm ?_ ?_ ?_ ?_ ?_ ?_<;>first|(intro x y h1 h2 h3 h;repeat first|exact h|refine hm_oldT h1 h2 h3 ?_|refine t_ne ‹_› ?_|refine t_fresh ‹_› ?_|refine t_B ?_)|(intro x y hx h;repeat first|exact h|refine hm_old hx ?_|refine g_ne hx ?_|refine g_ne (nb ‹_› h) ?_|refine g_fresh ‹_› ?_|refine g_T ?_)|(repeat' first|(apply Lk.go;constructor)|assumption|exact nb ‹_› ‹_›|exact nt ‹_› ‹_›|(apply Lm.go;constructor)))
 ·intro h1
  simp at h1
  repeat' first|(apply Sp.go;·constructor<;>first|exact ss|(change _=_;first|(simp only[go_sem,Nat.reduceBEq,Nat.reduceAdd,Nat.reduceLeDiff,reduceIte]<;>rfl)|rfl)|exact Nat.le_of_ble_eq_true rfl|decide|(repeat' first|(apply Lk.go;constructor)|assumption|exact nb ‹_› ‹_›|exact nt ‹_› ‹_›|(apply Lm.go;constructor)))|(intro b hb;repeat first|(refine fe hb ?_;intro _ _ hb)|(refine fT hb ?_;intro hb)|(refine fresh_elimM hb ?_;intro _ _ hb))|refine rt ?_|refine gA rfl ?_|refine gB rfl ?_|apply cT rfl|apply cF rfl|(apply DM.gbT;rfl)|(apply DM.gbF;rfl)|intro h
  (apply AM.cond; (· rfl))
  ·intro h2
   simp at h2
   repeat' first|(apply Sp.go;·constructor<;>first|exact ss|(change _=_;first|(simp only[go_sem,Nat.reduceBEq,Nat.reduceAdd,Nat.reduceLeDiff,reduceIte]<;>rfl)|rfl)|exact Nat.le_of_ble_eq_true rfl|decide|(repeat' first|(apply Lk.go;constructor)|assumption|exact nb ‹_› ‹_›|exact nt ‹_› ‹_›|(apply Lm.go;constructor)))|(intro b hb;repeat first|(refine fe hb ?_;intro _ _ hb)|(refine fT hb ?_;intro hb)|(refine fresh_elimM hb ?_;intro _ _ hb))|refine rt ?_|refine gA rfl ?_|refine gB rfl ?_|apply cT rfl|apply cF rfl|(apply DM.gbT;rfl)|(apply DM.gbF;rfl)|intro h
   rw [hm_setB (by assumption)]
   (apply DM.cal (p91 _ ρ d p ps M 1 hlen _ ⟨_, _, rfl⟩); (· simp only [go_sem, Nat.reduceBEq, Nat.reduceAdd] <;> rfl); (· exact AVLes.refl _))
   rintro r H1 ⟨rfl, vs, vl, rfl⟩
   simp only [put_some]
   repeat' first|(apply Sp.go;·constructor<;>first|exact ss|(change _=_;first|(simp only[go_sem,Nat.reduceBEq,Nat.reduceAdd,Nat.reduceLeDiff,reduceIte]<;>rfl)|rfl)|exact Nat.le_of_ble_eq_true rfl|decide|(repeat' first|(apply Lk.go;constructor)|assumption|exact nb ‹_› ‹_›|exact nt ‹_› ‹_›|(apply Lm.go;constructor)))|(intro b hb;repeat first|(refine fe hb ?_;intro _ _ hb)|(refine fT hb ?_;intro hb)|(refine fresh_elimM hb ?_;intro _ _ hb))|refine rt ?_|refine gA rfl ?_|refine gB rfl ?_|apply cT rfl|apply cF rfl|(apply DM.gbT;rfl)|(apply DM.gbF;rfl)|(apply AM.condS;rfl)|intro h
   all_goals ((apply Sr.go;·constructor<;>first|(apply Lk.go;constructor<;>first|exact ss|(change _=_;first|(simp only[go_sem,Nat.reduceBEq,Nat.reduceAdd,Nat.reduceLeDiff,reduceIte]<;>rfl)|rfl)|exact Nat.le_of_ble_eq_true rfl|decide|(repeat' first|(apply Lk.go;constructor)|assumption|exact nb ‹_› ‹_›|exact nt ‹_› ‹_›))|assumption))
   ·rw [show controlM x M = { (pop 1 M).2 with pc := x.n } by simp at *; simp [controlM, h1, h2, *]]
    refine ⟨rfl, vs, vl, ?_⟩
    (refine hsub_hm ?_ ?_ ?_ ?_ ?_ ?_<;>first|(intro x y h1 h2 h3 h;repeat first|exact h|refine hm_oldT h1 h2 h3 ?_|refine t_ne ‹_› ?_|refine t_fresh ‹_› ?_|refine t_B ?_)|(intro x y hx h;repeat first|exact h|refine hm_old hx ?_|refine g_ne hx ?_|refine g_ne (nb ‹_› h) ?_|refine g_fresh ‹_› ?_|refine g_T ?_)|(repeat' first|(apply Lk.go;constructor)|assumption|exact nb ‹_› ‹_›|exact nt ‹_› ‹_›|(apply Lm.go;constructor)))
   ·rw [show controlM x M = (pop 1 M).2 by simp at *; simp [controlM, h1, h2, *]]
    refine ⟨rfl, vs, vl, ?_⟩
    (refine hsub_hm ?_ ?_ ?_ ?_ ?_ ?_<;>first|(intro x y h1 h2 h3 h;repeat first|exact h|refine hm_oldT h1 h2 h3 ?_|refine t_ne ‹_› ?_|refine t_fresh ‹_› ?_|refine t_B ?_)|(intro x y hx h;repeat first|exact h|refine hm_old hx ?_|refine g_ne hx ?_|refine g_ne (nb ‹_› h) ?_|refine g_fresh ‹_› ?_|refine g_T ?_)|(repeat' first|(apply Lk.go;constructor)|assumption|exact nb ‹_› ‹_›|exact nt ‹_› ‹_›|(apply Lm.go;constructor)))
   ·rw [show controlM x M = (pop 1 M).2 by simp at *; simp [controlM, h1, h2, *]]
    refine ⟨rfl, vs, vl, ?_⟩
    (refine hsub_hm ?_ ?_ ?_ ?_ ?_ ?_<;>first|(intro x y h1 h2 h3 h;repeat first|exact h|refine hm_oldT h1 h2 h3 ?_|refine t_ne ‹_› ?_|refine t_fresh ‹_› ?_|refine t_B ?_)|(intro x y hx h;repeat first|exact h|refine hm_old hx ?_|refine g_ne hx ?_|refine g_ne (nb ‹_› h) ?_|refine g_fresh ‹_› ?_|refine g_T ?_)|(repeat' first|(apply Lk.go;constructor)|assumption|exact nb ‹_› ‹_›|exact nt ‹_› ‹_›|(apply Lm.go;constructor)))
  ·intro h2
   simp at h2
   repeat' first|(apply Sp.go;·constructor<;>first|exact ss|(change _=_;first|(simp only[go_sem,Nat.reduceBEq,Nat.reduceAdd,Nat.reduceLeDiff,reduceIte]<;>rfl)|rfl)|exact Nat.le_of_ble_eq_true rfl|decide|(repeat' first|(apply Lk.go;constructor)|assumption|exact nb ‹_› ‹_›|exact nt ‹_› ‹_›|(apply Lm.go;constructor)))|(intro b hb;repeat first|(refine fe hb ?_;intro _ _ hb)|(refine fT hb ?_;intro hb)|(refine fresh_elimM hb ?_;intro _ _ hb))|refine rt ?_|refine gA rfl ?_|refine gB rfl ?_|apply cT rfl|apply cF rfl|(apply DM.gbT;rfl)|(apply DM.gbF;rfl)|intro h
   (apply AM.cond; (· rfl))
   ·intro h3
    simp at h3
    repeat' first|(apply Sp.go;·constructor<;>first|exact ss|(change _=_;first|(simp only[go_sem,Nat.reduceBEq,Nat.reduceAdd,Nat.reduceLeDiff,reduceIte]<;>rfl)|rfl)|exact Nat.le_of_ble_eq_true rfl|decide|(repeat' first|(apply Lk.go;constructor)|assumption|exact nb ‹_› ‹_›|exact nt ‹_› ‹_›|(apply Lm.go;constructor)))|(intro b hb;repeat first|(refine fe hb ?_;intro _ _ hb)|(refine fT hb ?_;intro hb)|(refine fresh_elimM hb ?_;intro _ _ hb))|refine rt ?_|refine gA rfl ?_|refine gB rfl ?_|apply cT rfl|apply cF rfl|(apply DM.gbT;rfl)|(apply DM.gbF;rfl)|intro h
    (apply AM.cond; (· rfl))
    ·intro h4
     simp at h4
     repeat' first|(apply Sp.go;·constructor<;>first|exact ss|(change _=_;first|(simp only[go_sem,Nat.reduceBEq,Nat.reduceAdd,Nat.reduceLeDiff,reduceIte]<;>rfl)|rfl)|exact Nat.le_of_ble_eq_true rfl|decide|(repeat' first|(apply Lk.go;constructor)|assumption|exact nb ‹_› ‹_›|exact nt ‹_› ‹_›|(apply Lm.go;constructor)))|(intro b hb;repeat first|(refine fe hb ?_;intro _ _ hb)|(refine fT hb ?_;intro hb)|(refine fresh_elimM hb ?_;intro _ _ hb))|refine rt ?_|refine gA rfl ?_|refine gB rfl ?_|apply cT rfl|apply cF rfl|(apply DM.gbT;rfl)|(apply DM.gbF;rfl)|intro h
     (apply Sr.go;·constructor<;>first|(apply Lk.go;constructor<;>first|exact ss|(change _=_;first|(simp only[go_sem,Nat.reduceBEq,Nat.reduceAdd,Nat.reduceLeDiff,reduceIte]<;>rfl)|rfl)|exact Nat.le_of_ble_eq_true rfl|decide|(repeat' first|(apply Lk.go;constructor)|assumption|exact nb ‹_› ‹_›|exact nt ‹_› ‹_›))|assumption)
     rw [show controlM x M = { M with tr := true } by simp [controlM, h3]; omega]
     refine ⟨rfl, vs, vl, ?_⟩
     (refine hsub_hm ?_ ?_ ?_ ?_ ?_ ?_<;>first|(intro x y h1 h2 h3 h;repeat first|exact h|refine hm_oldT h1 h2 h3 ?_|refine t_ne ‹_› ?_|refine t_fresh ‹_› ?_|refine t_B ?_)|(intro x y hx h;repeat first|exact h|refine hm_old hx ?_|refine g_ne hx ?_|refine g_ne (nb ‹_› h) ?_|refine g_fresh ‹_› ?_|refine g_T ?_)|(repeat' first|(apply Lk.go;constructor)|assumption|exact nb ‹_› ‹_›|exact nt ‹_› ‹_›|(apply Lm.go;constructor)))
    ·intro h4
     simp at h4
     repeat' first|(apply Sp.go;·constructor<;>first|exact ss|(change _=_;first|(simp only[go_sem,Nat.reduceBEq,Nat.reduceAdd,Nat.reduceLeDiff,reduceIte]<;>rfl)|rfl)|exact Nat.le_of_ble_eq_true rfl|decide|(repeat' first|(apply Lk.go;constructor)|assumption|exact nb ‹_› ‹_›|exact nt ‹_› ‹_›|(apply Lm.go;constructor)))|(intro b hb;repeat first|(refine fe hb ?_;intro _ _ hb)|(refine fT hb ?_;intro hb)|(refine fresh_elimM hb ?_;intro _ _ hb))|refine rt ?_|refine gA rfl ?_|refine gB rfl ?_|apply cT rfl|apply cF rfl|(apply DM.gbT;rfl)|(apply DM.gbF;rfl)|(apply DM.apM; (· rfl); (· repeat' first|(apply Lk.go;constructor)|assumption|exact nb ‹_› ‹_›|exact nt ‹_› ‹_›|(apply Lm.go;constructor)); (· simp only [rowsOf, if_true, eq_self, go_sem, Nat.reduceBEq, reduceIte] <;> rfl); (· (simp only [List.length_map, List.length_cons, List.length_nil, maxLen]; omega)); (· (simp only [List.length_map, List.length_cons, List.length_nil, maxLen]; omega)))|intro h
     (apply Sr.go;·constructor<;>first|(apply Lk.go;constructor<;>first|exact ss|(change _=_;first|(simp only[go_sem,Nat.reduceBEq,Nat.reduceAdd,Nat.reduceLeDiff,reduceIte]<;>rfl)|rfl)|exact Nat.le_of_ble_eq_true rfl|decide|(repeat' first|(apply Lk.go;constructor)|assumption|exact nb ‹_› ‹_›|exact nt ‹_› ‹_›))|assumption)
     rw [show controlM x M = { M with loops := M.loops ++ [x.n] } by simp [controlM, h3]; omega]
     refine ⟨rfl, vs, vl + 1, ?_⟩
     rw [show M.loops.map irow ++ [[AV.int IntKind.i64 x.n]] = (M.loops ++ [x.n]).map irow by simp]
     (refine hsub_hm ?_ ?_ ?_ ?_ ?_ ?_<;>first|(intro x y h1 h2 h3 h;repeat first|exact h|refine hm_oldT h1 h2 h3 ?_|refine t_ne ‹_› ?_|refine t_fresh ‹_› ?_|refine t_B ?_)|(intro x y hx h;repeat first|exact h|refine hm_old hx ?_|refine g_ne hx ?_|refine g_ne (nb ‹_› h) ?_|refine g_fresh ‹_› ?_|refine g_T ?_)|(repeat' first|(apply Lk.go;constructor)|assumption|exact nb ‹_› ‹_›|exact nt ‹_› ‹_›|(apply Lm.go;constructor)))
   ·intro h3
    simp at h3
    repeat' first|(apply Sp.go;·constructor<;>first|exact ss|(change _=_;first|(simp only[go_sem,Nat.reduceBEq,Nat.reduceAdd,Nat.reduceLeDiff,reduceIte]<;>rfl)|rfl)|exact Nat.le_of_ble_eq_true rfl|decide|(repeat' first|(apply Lk.go;constructor)|assumption|exact nb ‹_› ‹_›|exact nt ‹_› ‹_›|(apply Lm.go;constructor)))|(intro b hb;repeat first|(refine fe hb ?_;intro _ _ hb)|(refine fT hb ?_;intro hb)|(refine fresh_elimM hb ?_;intro _ _ hb))|refine rt ?_|refine gA rfl ?_|refine gB rfl ?_|apply cT rfl|apply cF rfl|(apply DM.gbT;rfl)|(apply DM.gbF;rfl)|intro h
    (apply AM.cond; (· rfl))
    ·intro h4
     simp at h4
     repeat' first|(apply Sp.go;·constructor<;>first|exact ss|(change _=_;first|(simp only[go_sem,Nat.reduceBEq,Nat.reduceAdd,Nat.reduceLeDiff,reduceIte]<;>rfl)|rfl)|exact Nat.le_of_ble_eq_true rfl|decide|(repeat' first|(apply Lk.go;constructor)|assumption|exact nb ‹_› ‹_›|exact nt ‹_› ‹_›|(apply Lm.go;constructor)))|(intro b hb;repeat first|(refine fe hb ?_;intro _ _ hb)|(refine fT hb ?_;intro hb)|(refine fresh_elimM hb ?_;intro _ _ hb))|refine rt ?_|refine gA rfl ?_|refine gB rfl ?_|apply cT rfl|apply cF rfl|(apply DM.gbT;rfl)|(apply DM.gbF;rfl)|intro h
     (apply AM.cond; (· rfl))
     ·intro h5
      simp at h5
      have h0 : M.loops = [] := by
       rcases hl : M.loops with _ | ⟨a, l⟩
       ·rfl
       ·exfalso
        rw [hl] at hll h5
        rw [wrap64 (by first | (simp; done) | (simp; omega)) (by unfold maxLen at hll; simp at hll; simp; omega)] at h5
        simp at h5
        omega
      repeat' first|(apply Sp.go;·constructor<;>first|exact ss|(change _=_;first|(simp only[go_sem,Nat.reduceBEq,Nat.reduceAdd,Nat.reduceLeDiff,reduceIte]<;>rfl)|rfl)|exact Nat.le_of_ble_eq_true rfl|decide|(repeat' first|(apply Lk.go;constructor)|assumption|exact nb ‹_› ‹_›|exact nt ‹_› ‹_›|(apply Lm.go;constructor)))|(intro b hb;repeat first|(refine fe hb ?_;intro _ _ hb)|(refine fT hb ?_;intro hb)|(refine fresh_elimM hb ?_;intro _ _ hb))|refine rt ?_|refine gA rfl ?_|refine gB rfl ?_|apply cT rfl|apply cF rfl|(apply DM.gbT;rfl)|(apply DM.gbF;rfl)|intro h
      (apply Sr.go;·constructor<;>first|(apply Lk.go;constructor<;>first|exact ss|(change _=_;first|(simp only[go_sem,Nat.reduceBEq,Nat.reduceAdd,Nat.reduceLeDiff,reduceIte]<;>rfl)|rfl)|exact Nat.le_of_ble_eq_true rfl|decide|(repeat' first|(apply Lk.go;constructor)|assumption|exact nb ‹_› ‹_›|exact nt ‹_› ‹_›))|assumption)
      rw [show controlM x M = { M with tr := true } by simp [controlM, h4, h0]]
      refine ⟨rfl, vs, vl, ?_⟩
      (refine hsub_hm ?_ ?_ ?_ ?_ ?_ ?_<;>first|(intro x y h1 h2 h3 h;repeat first|exact h|refine hm_oldT h1 h2 h3 ?_|refine t_ne ‹_› ?_|refine t_fresh ‹_› ?_|refine t_B ?_)|(intro x y hx h;repeat first|exact h|refine hm_old hx ?_|refine g_ne hx ?_|refine g_ne (nb ‹_› h) ?_|refine g_fresh ‹_› ?_|refine g_T ?_)|(repeat' first|(apply Lk.go;constructor)|assumption|exact nb ‹_› ‹_›|exact nt ‹_› ‹_›|(apply Lm.go;constructor)))
     ·intro h5
      simp at h5
      obtain ⟨n, hn⟩ : ∃ n, M.loops.length = n + 1 := by
       rcases hl : M.loops with _ | ⟨a, l⟩
       ·exfalso; rw [hl] at h5; simp [IntKind.wrap, IntKind.bits, IntKind.signed] at h5
       ·exact ⟨l.length, rfl⟩
      obtain ⟨k, hk⟩ := some_of (show n < M.loops.length by omega)
      have hl : M.loops.getLast? = some k := by rw [← last_ix hn]; exact hk
      have hw : IntKind.i64.wrap (((M.loops.map irow).length : Int) - 1) = (n : Int) := by rw [List.length_map, hn, wrap64 (by omega) (by unfold maxLen at hll; omega)]; omega
      simp only [hw]
      repeat' first|(apply Sp.go;·constructor<;>first|exact ss|(change _=_;first|(simp only[go_sem,Nat.reduceBEq,Nat.reduceAdd,Nat.reduceLeDiff,reduceIte]<;>rfl)|rfl)|exact Nat.le_of_ble_eq_true rfl|decide|(repeat' first|(apply Lk.go;constructor)|assumption|exact nb ‹_› ‹_›|exact nt ‹_› ‹_›|(apply Lm.go;constructor)))|(intro b hb;repeat first|(refine fe hb ?_;intro _ _ hb)|(refine fT hb ?_;intro hb)|(refine fresh_elimM hb ?_;intro _ _ hb))|refine rt ?_|refine gA rfl ?_|refine gB rfl ?_|apply cT rfl|apply cF rfl|(apply DM.gbT;rfl)|(apply DM.gbF;rfl)|(apply DM.ixM; (· rfl); (· repeat' first|(apply Lk.go;constructor)|assumption|exact nb ‹_› ‹_›|exact nt ‹_› ‹_›|(apply Lm.go;constructor)); (· rfl); (· (first | omega | (simp only [List.length_map]; omega))); (· (first | omega | (simp only [List.length_map]; omega))))|(apply DM.ldM1 (i := n) (j := 0); (· rfl); (· repeat' first|(apply Lk.go;constructor)|assumption|exact nb ‹_› ‹_›|exact nt ‹_› ‹_›|(apply Lm.go;constructor)); (· exact irow_len _); (· (rw [List.getElem?_map, hk]; rfl)); (· simp); (· rfl))|intro h
      (apply DM.stM (i := n); (· rfl); (· repeat' first|(apply Lk.go;constructor)|assumption|exact nb ‹_› ‹_›|exact nt ‹_› ‹_›|(apply Lm.go;constructor)); (· simp only [go_sem, Nat.reduceBEq, Nat.reduceAdd] <;> rfl); (· exact irow_len _); (· (rw [List.getElem?_map, hk]; rfl)); (· simp); (· rfl); (· rfl))
      rw [show (M.loops.map irow).set n [AV.int IntKind.i64 (IntKind.i64.wrap (k - 1))] = (M.loops.dropLast ++ [W (k - 1)]).map irow by rw [← set_last hn, List.map_set]; rfl]
      repeat' first|(apply Sp.go;·constructor<;>first|exact ss|(change _=_;first|(simp only[go_sem,Nat.reduceBEq,Nat.reduceAdd,Nat.reduceLeDiff,reduceIte]<;>rfl)|rfl)|exact Nat.le_of_ble_eq_true rfl|decide|(repeat' first|(apply Lk.go;constructor)|assumption|exact nb ‹_› ‹_›|exact nt ‹_› ‹_›|(apply Lm.go;constructor)))|(intro b hb;repeat first|(refine fe hb ?_;intro _ _ hb)|(refine fT hb ?_;intro hb)|(refine fresh_elimM hb ?_;intro _ _ hb))|refine rt ?_|refine gA rfl ?_|refine gB rfl ?_|apply cT rfl|apply cF rfl|(apply DM.gbT;rfl)|(apply DM.gbF;rfl)|(apply DM.ixM; (· rfl); (· repeat' first|(apply Lk.go;constructor)|assumption|exact nb ‹_› ‹_›|exact nt ‹_› ‹_›|(apply Lm.go;constructor)); (· rfl); (· (first | omega | (simp only [List.length_map, List.length_append, List.length_dropLast, List.length_cons, List.length_nil]; omega))); (· (first | omega | (simp only [List.length_map, List.length_append, List.length_dropLast, List.length_cons, List.length_nil]; omega))))|intro h
      (apply DM.ldM1 (i := n) (j := 0) (row := [AV.int .i64 (W (k - 1))]); (· rfl); (· repeat' first|(apply Lk.go;constructor)|assumption|exact nb ‹_› ‹_›|exact nt ‹_› ‹_›|(apply Lm.go;constructor)); (· exact irow_len _); (· (rw [List.getElem?_map, List.getElem?_append_right (by simp; omega)]; simp [hn])); (· simp); (· rfl))
      repeat' first|(apply Sp.go;·constructor<;>first|exact ss|(change _=_;first|(simp only[go_sem,Nat.reduceBEq,Nat.reduceAdd,Nat.reduceLeDiff,reduceIte]<;>rfl)|rfl)|exact Nat.le_of_ble_eq_true rfl|decide|(repeat' first|(apply Lk.go;constructor)|assumption|exact nb ‹_› ‹_›|exact nt ‹_› ‹_›|(apply Lm.go;constructor)))|(intro b hb;repeat first|(refine fe hb ?_;intro _ _ hb)|(refine fT hb ?_;intro hb)|(refine fresh_elimM hb ?_;intro _ _ hb))|refine rt ?_|refine gA rfl ?_|refine gB rfl ?_|apply cT rfl|apply cF rfl|(apply DM.gbT;rfl)|(apply DM.gbF;rfl)|(apply AM.condS;rfl)|intro h
      all_goals ((apply Sr.go;·constructor<;>first|(apply Lk.go;constructor<;>first|exact ss|(change _=_;first|(simp only[go_sem,Nat.reduceBEq,Nat.reduceAdd,Nat.reduceLeDiff,reduceIte]<;>rfl)|rfl)|exact Nat.le_of_ble_eq_true rfl|decide|(repeat' first|(apply Lk.go;constructor)|assumption|exact nb ‹_› ‹_›|exact nt ‹_› ‹_›))|assumption))
      ·rw [show controlM x M = { M with loops := M.loops.dropLast ++ [W (k - 1)], pc := x.n } by simp at *; simp [controlM, h4, hl, *]]
       refine ⟨rfl, vs, vl, ?_⟩
       (refine hsub_hm ?_ ?_ ?_ ?_ ?_ ?_<;>first|(intro x y h1 h2 h3 h;repeat first|exact h|refine hm_oldT h1 h2 h3 ?_|refine t_ne ‹_› ?_|refine t_fresh ‹_› ?_|refine t_B ?_)|(intro x y hx h;repeat first|exact h|refine hm_old hx ?_|refine g_ne hx ?_|refine g_ne (nb ‹_› h) ?_|refine g_fresh ‹_› ?_|refine g_T ?_)|(repeat' first|(apply Lk.go;constructor)|assumption|exact nb ‹_› ‹_›|exact nt ‹_› ‹_›|(apply Lm.go;constructor)))
      ·rw [show controlM x M = { M with loops := M.loops.dropLast ++ [W (k - 1)] } by simp at *; simp [controlM, h4, hl]; omega]
       refine ⟨rfl, vs, vl, ?_⟩
       (refine hsub_hm ?_ ?_ ?_ ?_ ?_ ?_<;>first|(intro x y h1 h2 h3 h;repeat first|exact h|refine hm_oldT h1 h2 h3 ?_|refine t_ne ‹_› ?_|refine t_fresh ‹_› ?_|refine t_B ?_)|(intro x y hx h;repeat first|exact h|refine hm_old hx ?_|refine g_ne hx ?_|refine g_ne (nb ‹_› h) ?_|refine g_fresh ‹_› ?_|refine g_T ?_)|(repeat' first|(apply Lk.go;constructor)|assumption|exact nb ‹_› ‹_›|exact nt ‹_› ‹_›|(apply Lm.go;constructor)))
    ·intro h4
     simp at h4
     repeat' first|(apply Sp.go;·constructor<;>first|exact ss|(change _=_;first|(simp only[go_sem,Nat.reduceBEq,Nat.reduceAdd,Nat.reduceLeDiff,reduceIte]<;>rfl)|rfl)|exact Nat.le_of_ble_eq_true rfl|decide|(repeat' first|(apply Lk.go;constructor)|assumption|exact nb ‹_› ‹_›|exact nt ‹_› ‹_›|(apply Lm.go;constructor)))|(intro b hb;repeat first|(refine fe hb ?_;intro _ _ hb)|(refine fT hb ?_;intro hb)|(refine fresh_elimM hb ?_;intro _ _ hb))|refine rt ?_|refine gA rfl ?_|refine gB rfl ?_|apply cT rfl|apply cF rfl|(apply DM.gbT;rfl)|(apply DM.gbF;rfl)|intro h
     (apply AM.cond; (· rfl))
     ·intro h5
      simp at h5
      repeat' first|(apply Sp.go;·constructor<;>first|exact ss|(change _=_;first|(simp only[go_sem,Nat.reduceBEq,Nat.reduceAdd,Nat.reduceLeDiff,reduceIte]<;>rfl)|rfl)|exact Nat.le_of_ble_eq_true rfl|decide|(repeat' first|(apply Lk.go;constructor)|assumption|exact nb ‹_› ‹_›|exact nt ‹_› ‹_›|(apply Lm.go;constructor)))|(intro b hb;repeat first|(refine fe hb ?_;intro _ _ hb)|(refine fT hb ?_;intro hb)|(refine fresh_elimM hb ?_;intro _ _ hb))|refine rt ?_|refine gA rfl ?_|refine gB rfl ?_|apply cT rfl|apply cF rfl|(apply DM.gbT;rfl)|(apply DM.gbF;rfl)|intro h
      (apply AM.cond; (· rfl))
      ·intro h6
       simp at h6
       have h0 : M.loops = [] := by
        rcases hl : M.loops with _ | ⟨a, l⟩
        ·rfl
        ·exfalso
         rw [hl] at hll h6
         rw [wrap64 (by first | (simp; done) | (simp; omega)) (by unfold maxLen at hll; simp at hll; simp; omega)] at h6
         simp at h6
         omega
       repeat' first|(apply Sp.go;·constructor<;>first|exact ss|(change _=_;first|(simp only[go_sem,Nat.reduceBEq,Nat.reduceAdd,Nat.reduceLeDiff,reduceIte]<;>rfl)|rfl)|exact Nat.le_of_ble_eq_true rfl|decide|(repeat' first|(apply Lk.go;constructor)|assumption|exact nb ‹_› ‹_›|exact nt ‹_› ‹_›|(apply Lm.go;constructor)))|(intro b hb;repeat first|(refine fe hb ?_;intro _ _ hb)|(refine fT hb ?_;intro hb)|(refine fresh_elimM hb ?_;intro _ _ hb))|refine rt ?_|refine gA rfl ?_|refine gB rfl ?_|apply cT rfl|apply cF rfl|(apply DM.gbT;rfl)|(apply DM.gbF;rfl)|intro h
       (apply Sr.go;·constructor<;>first|(apply Lk.go;constructor<;>first|exact ss|(change _=_;first|(simp only[go_sem,Nat.reduceBEq,Nat.reduceAdd,Nat.reduceLeDiff,reduceIte]<;>rfl)|rfl)|exact Nat.le_of_ble_eq_true rfl|decide|(repeat' first|(apply Lk.go;constructor)|assumption|exact nb ‹_› ‹_›|exact nt ‹_› ‹_›))|assumption)
       rw [show controlM x M = { M with tr := true } by simp [controlM, h5, h0]]
       refine ⟨rfl, vs, vl, ?_⟩
       (refine hsub_hm ?_ ?_ ?_ ?_ ?_ ?_<;>first|(intro x y h1 h2 h3 h;repeat first|exact h|refine hm_oldT h1 h2 h3 ?_|refine t_ne ‹_› ?_|refine t_fresh ‹_› ?_|refine t_B ?_)|(intro x y hx h;repeat first|exact h|refine hm_old hx ?_|refine g_ne hx ?_|refine g_ne (nb ‹_› h) ?_|refine g_fresh ‹_› ?_|refine g_T ?_)|(repeat' first|(apply Lk.go;constructor)|assumption|exact nb ‹_› ‹_›|exact nt ‹_› ‹_›|(apply Lm.go;constructor)))
      ·intro h6
       simp at h6
       obtain ⟨n, hn⟩ : ∃ n, M.loops.length = n + 1 := by
        rcases hl : M.loops with _ | ⟨a, l⟩
        ·exfalso; rw [hl] at h6; simp [IntKind.wrap, IntKind.bits, IntKind.signed] at h6
        ·exact ⟨l.length, rfl⟩
       obtain ⟨k, hk⟩ := some_of (show n < M.loops.length by omega)
       have hl : M.loops.getLast? = some k := by rw [← last_ix hn]; exact hk
       have hw : IntKind.i64.wrap (((M.loops.map irow).length : Int) - 1) = (n : Int) := by rw [List.length_map, hn, wrap64 (by omega) (by unfold maxLen at hll; omega)]; omega
       simp only [hw]
       repeat' first|(apply Sp.go;·constructor<;>first|exact ss|(change _=_;first|(simp only[go_sem,Nat.reduceBEq,Nat.reduceAdd,Nat.reduceLeDiff,reduceIte]<;>rfl)|rfl)|exact Nat.le_of_ble_eq_true rfl|decide|(repeat' first|(apply Lk.go;constructor)|assumption|exact nb ‹_› ‹_›|exact nt ‹_› ‹_›|(apply Lm.go;constructor)))|(intro b hb;repeat first|(refine fe hb ?_;intro _ _ hb)|(refine fT hb ?_;intro hb)|(refine fresh_elimM hb ?_;intro _ _ hb))|refine rt ?_|refine gA rfl ?_|refine gB rfl ?_|apply cT rfl|apply cF rfl|(apply DM.gbT;rfl)|(apply DM.gbF;rfl)|(apply DM.sM; (· rfl); (· repeat' first|(apply Lk.go;constructor)|assumption|exact nb ‹_› ‹_›|exact nt ‹_› ‹_›|(apply Lm.go;constructor)); (· rfl); (· (simp only [List.length_map]; omega)))|intro h
       (apply Sr.go;·constructor<;>first|(apply Lk.go;constructor<;>first|exact ss|(change _=_;first|(simp only[go_sem,Nat.reduceBEq,Nat.reduceAdd,Nat.reduceLeDiff,reduceIte]<;>rfl)|rfl)|exact Nat.le_of_ble_eq_true rfl|decide|(repeat' first|(apply Lk.go;constructor)|assumption|exact nb ‹_› ‹_›|exact nt ‹_› ‹_›))|assumption)
       rw [show controlM x M = { M with loops := M.loops.dropLast } by simp [controlM, h5, hl]]
       refine ⟨rfl, vs, vl + 1, ?_⟩
       rw [show (M.loops.map irow).take n = M.loops.dropLast.map irow by rw [← List.map_take, List.dropLast_eq_take, hn]; rfl]
       (refine hsub_hm ?_ ?_ ?_ ?_ ?_ ?_<;>first|(intro x y h1 h2 h3 h;repeat first|exact h|refine hm_oldT h1 h2 h3 ?_|refine t_ne ‹_› ?_|refine t_fresh ‹_› ?_|refine t_B ?_)|(intro x y hx h;repeat first|exact h|refine hm_old hx ?_|refine g_ne hx ?_|refine g_ne (nb ‹_› h) ?_|refine g_fresh ‹_› ?_|refine g_T ?_)|(repeat' first|(apply Lk.go;constructor)|assumption|exact nb ‹_› ‹_›|exact nt ‹_› ‹_›|(apply Lm.go;constructor)))
     ·intro h5
      simp at h5
      repeat' first|(apply Sp.go;·constructor<;>first|exact ss|(change _=_;first|(simp only[go_sem,Nat.reduceBEq,Nat.reduceAdd,Nat.reduceLeDiff,reduceIte]<;>rfl)|rfl)|exact Nat.le_of_ble_eq_true rfl|decide|(repeat' first|(apply Lk.go;constructor)|assumption|exact nb ‹_› ‹_›|exact nt ‹_› ‹_›|(apply Lm.go;constructor)))|(intro b hb;repeat first|(refine fe hb ?_;intro _ _ hb)|(refine fT hb ?_;intro hb)|(refine fresh_elimM hb ?_;intro _ _ hb))|refine rt ?_|refine gA rfl ?_|refine gB rfl ?_|apply cT rfl|apply cF rfl|(apply DM.gbT;rfl)|(apply DM.gbF;rfl)|(apply AM.condS;rfl)|intro h
      all_goals ((apply Sr.go;·constructor<;>first|(apply Lk.go;constructor<;>first|exact ss|(change _=_;first|(simp only[go_sem,Nat.reduceBEq,Nat.reduceAdd,Nat.reduceLeDiff,reduceIte]<;>rfl)|rfl)|exact Nat.le_of_ble_eq_true rfl|decide|(repeat' first|(apply Lk.go;constructor)|assumption|exact nb ‹_› ‹_›|exact nt ‹_› ‹_›))|assumption))
      ·rw [show controlM x M = { M with dn := true } by simp at *; simp [controlM, *]]
       refine ⟨rfl, vs, vl, ?_⟩
       (refine hsub_hm ?_ ?_ ?_ ?_ ?_ ?_<;>first|(intro x y h1 h2 h3 h;repeat first|exact h|refine hm_oldT h1 h2 h3 ?_|refine t_ne ‹_› ?_|refine t_fresh ‹_› ?_|refine t_B ?_)|(intro x y hx h;repeat first|exact h|refine hm_old hx ?_|refine g_ne hx ?_|refine g_ne (nb ‹_› h) ?_|refine g_fresh ‹_› ?_|refine g_T ?_)|(repeat' first|(apply Lk.go;constructor)|assumption|exact nb ‹_› ‹_›|exact nt ‹_› ‹_›|(apply Lm.go;constructor)))
      ·rw [show controlM x M = M by simp at *; simp [controlM, *]]
       refine ⟨rfl, vs, vl, ?_⟩
       (refine hsub_hm ?_ ?_ ?_ ?_ ?_ ?_<;>first|(intro x y h1 h2 h3 h;repeat first|exact h|refine hm_oldT h1 h2 h3 ?_|refine t_ne ‹_› ?_|refine t_fresh ‹_› ?_|refine t_B ?_)|(intro x y hx h;repeat first|exact h|refine hm_old hx ?_|refine g_ne hx ?_|refine g_ne (nb ‹_› h) ?_|refine g_fresh ‹_› ?_|refine g_T ?_)|(repeat' first|(apply Lk.go;constructor)|assumption|exact nb ‹_› ‹_›|exact nt ‹_› ‹_›|(apply Lm.go;constructor)))
def RepeatOk : Prop := ∀ n : Nat, n ≤ 40 → Pure Try.prog 127 [.str [97], .int .i64 (n : Int)] (.str (List.replicate n 97))
def clampText (lo hi : Int) (s : List UInt8) : List UInt8 := (s.take hi.toNat) ++ List.replicate (lo - (s.take hi.toNat).length).toNat 97
def clampV (s : Sort_) (v : Val) : Val × Int :=
 if (validS s && validV v) = false then (val0, 1) else if s.k ≠ v.k then (val0, 11)
 else if v.k = 1 then (⟨v.k, max s.lo (min s.hi v.n), v.s⟩, 0) else (⟨v.k, v.n, clampText s.lo s.hi v.s⟩, 0)
theorem p123 (s : Sort_) (v : Val) (hR : RepeatOk ∨ s.k ≠ 2) : Pure Try.prog 123 [s.av, v.av] (.tup [(clampV s v).1.av, .int .i64 (clampV s v).2]) := by
 have key : ∀ {a : Val} {e : Int}, clampV s v = (a, e) → AVLe (.tup [a.av, .int .i64 e]) (.tup [(clampV s v).1.av, .int .i64 (clampV s v).2]) := by
  intro a e h
  rw [h]
  exact AVLe.refl _
 refine pure_intro mo Try.func123 c123 fun H => ?_
 unfold e123 r123
 simp only [initEnv, initFrom]
 repeat' first|(apply Sp.go;·constructor<;>first|exact ss|(change _=_;first|(simp only[go_sem,Nat.reduceBEq,Nat.reduceAdd,Nat.reduceLeDiff,reduceIte]<;>rfl)|rfl)|exact Nat.le_of_ble_eq_true rfl|decide|(repeat' first|(apply Lk.go;constructor)|assumption|exact nb ‹_› ‹_›|exact nt ‹_› ‹_›))|(intro b hb;repeat first|(refine fe hb ?_;intro _ _ hb)|(refine fT hb ?_;intro hb))|refine gA rfl ?_|refine gB rfl ?_|apply cT rfl|apply cF rfl|(apply DM.gbT;rfl)|(apply DM.gbF;rfl)|intro h
 (apply DM.pcs (p97 s); (· simp only [go_sem, Nat.reduceBEq, Nat.reduceAdd] <;> rfl); (· exact AVLes.refl _))
 repeat' first|(apply Sp.go;·constructor<;>first|exact ss|(change _=_;first|(simp only[go_sem,Nat.reduceBEq,Nat.reduceAdd,Nat.reduceLeDiff,reduceIte]<;>rfl)|rfl)|exact Nat.le_of_ble_eq_true rfl|decide|(repeat' first|(apply Lk.go;constructor)|assumption|exact nb ‹_› ‹_›|exact nt ‹_› ‹_›))|(intro b hb;repeat first|(refine fe hb ?_;intro _ _ hb)|(refine fT hb ?_;intro hb))|refine gA rfl ?_|refine gB rfl ?_|apply cT rfl|apply cF rfl|(apply DM.gbT;rfl)|(apply DM.gbF;rfl)|intro h
 ·(apply DM.pcs (p55 v); (· simp only [go_sem, Nat.reduceBEq, Nat.reduceAdd] <;> rfl); (· exact AVLes.refl _))
  repeat' first|(apply Sp.go;·constructor<;>first|exact ss|(change _=_;first|(simp only[go_sem,Nat.reduceBEq,Nat.reduceAdd,Nat.reduceLeDiff,reduceIte]<;>rfl)|rfl)|exact Nat.le_of_ble_eq_true rfl|decide|(repeat' first|(apply Lk.go;constructor)|assumption|exact nb ‹_› ‹_›|exact nt ‹_› ‹_›))|(intro b hb;repeat first|(refine fe hb ?_;intro _ _ hb)|(refine fT hb ?_;intro hb))|refine gA rfl ?_|refine gB rfl ?_|apply cT rfl|apply cF rfl|(apply DM.gbT;rfl)|(apply DM.gbF;rfl)|intro h
  (apply AM.cond; (· rfl))
  ·intro h1
   simp at h1
   repeat' first|(apply Sp.go;·constructor<;>first|exact ss|(change _=_;first|(simp only[go_sem,Nat.reduceBEq,Nat.reduceAdd,Nat.reduceLeDiff,reduceIte]<;>rfl)|rfl)|exact Nat.le_of_ble_eq_true rfl|decide|(repeat' first|(apply Lk.go;constructor)|assumption|exact nb ‹_› ‹_›|exact nt ‹_› ‹_›))|(intro b hb;repeat first|(refine fe hb ?_;intro _ _ hb)|(refine fT hb ?_;intro hb))|refine gA rfl ?_|refine gB rfl ?_|apply cT rfl|apply cF rfl|(apply DM.gbT;rfl)|(apply DM.gbF;rfl)|intro h
   (apply Sr.go;·constructor<;>first|(apply Lk.go;constructor<;>first|exact ss|(change _=_;first|(simp only[go_sem,Nat.reduceBEq,Nat.reduceAdd,Nat.reduceLeDiff,reduceIte]<;>rfl)|rfl)|exact Nat.le_of_ble_eq_true rfl|decide|(repeat' first|(apply Lk.go;constructor)|assumption|exact nb ‹_› ‹_›|exact nt ‹_› ‹_›))|assumption)
   exact key (a := val0) (by simp at *; simp [clampV, *])
  ·intro h1
   simp at h1
   repeat' first|(apply Sp.go;·constructor<;>first|exact ss|(change _=_;first|(simp only[go_sem,Nat.reduceBEq,Nat.reduceAdd,Nat.reduceLeDiff,reduceIte]<;>rfl)|rfl)|exact Nat.le_of_ble_eq_true rfl|decide|(repeat' first|(apply Lk.go;constructor)|assumption|exact nb ‹_› ‹_›|exact nt ‹_› ‹_›))|(intro b hb;repeat first|(refine fe hb ?_;intro _ _ hb)|(refine fT hb ?_;intro hb))|refine gA rfl ?_|refine gB rfl ?_|apply cT rfl|apply cF rfl|(apply DM.gbT;rfl)|(apply DM.gbF;rfl)|intro h
   (apply AM.cond; (· rfl))
   ·intro h2
    simp at h2
    repeat' first|(apply Sp.go;·constructor<;>first|exact ss|(change _=_;first|(simp only[go_sem,Nat.reduceBEq,Nat.reduceAdd,Nat.reduceLeDiff,reduceIte]<;>rfl)|rfl)|exact Nat.le_of_ble_eq_true rfl|decide|(repeat' first|(apply Lk.go;constructor)|assumption|exact nb ‹_› ‹_›|exact nt ‹_› ‹_›))|(intro b hb;repeat first|(refine fe hb ?_;intro _ _ hb)|(refine fT hb ?_;intro hb))|refine gA rfl ?_|refine gB rfl ?_|apply cT rfl|apply cF rfl|(apply DM.gbT;rfl)|(apply DM.gbF;rfl)|intro h
    (apply Sr.go;·constructor<;>first|(apply Lk.go;constructor<;>first|exact ss|(change _=_;first|(simp only[go_sem,Nat.reduceBEq,Nat.reduceAdd,Nat.reduceLeDiff,reduceIte]<;>rfl)|rfl)|exact Nat.le_of_ble_eq_true rfl|decide|(repeat' first|(apply Lk.go;constructor)|assumption|exact nb ‹_› ‹_›|exact nt ‹_› ‹_›))|assumption)
    exact key (a := val0) (by simp at *; simp [clampV, *])
   ·intro h2
    simp at h2
    repeat' first|(apply Sp.go;·constructor<;>first|exact ss|(change _=_;first|(simp only[go_sem,Nat.reduceBEq,Nat.reduceAdd,Nat.reduceLeDiff,reduceIte]<;>rfl)|rfl)|exact Nat.le_of_ble_eq_true rfl|decide|(repeat' first|(apply Lk.go;constructor)|assumption|exact nb ‹_› ‹_›|exact nt ‹_› ‹_›))|(intro b hb;repeat first|(refine fe hb ?_;intro _ _ hb)|(refine fT hb ?_;intro hb))|refine gA rfl ?_|refine gB rfl ?_|apply cT rfl|apply cF rfl|(apply DM.gbT;rfl)|(apply DM.gbF;rfl)|intro h
    (apply AM.cond; (· rfl))
    ·intro h3
     simp at h3
     repeat' first|(apply Sp.go;·constructor<;>first|exact ss|(change _=_;first|(simp only[go_sem,Nat.reduceBEq,Nat.reduceAdd,Nat.reduceLeDiff,reduceIte]<;>rfl)|rfl)|exact Nat.le_of_ble_eq_true rfl|decide|(repeat' first|(apply Lk.go;constructor)|assumption|exact nb ‹_› ‹_›|exact nt ‹_› ‹_›))|(intro b hb;repeat first|(refine fe hb ?_;intro _ _ hb)|(refine fT hb ?_;intro hb))|refine gA rfl ?_|refine gB rfl ?_|apply cT rfl|apply cF rfl|(apply DM.gbT;rfl)|(apply DM.gbF;rfl)|intro h
     (apply Sr.go;·constructor<;>first|(apply Lk.go;constructor<;>first|exact ss|(change _=_;first|(simp only[go_sem,Nat.reduceBEq,Nat.reduceAdd,Nat.reduceLeDiff,reduceIte]<;>rfl)|rfl)|exact Nat.le_of_ble_eq_true rfl|decide|(repeat' first|(apply Lk.go;constructor)|assumption|exact nb ‹_› ‹_›|exact nt ‹_› ‹_›))|assumption)
     exact key (a := ⟨v.k, max s.lo (min s.hi v.n), v.s⟩) (by simp at *; simp [clampV, *])
    ·intro h3
     simp at h3
     have hs : validS s = true := by simp at *; assumption
     have hk2 : s.k = 2 := by simp [validS] at hs; omega
     have hR' : RepeatOk := hR.elim id (fun h => absurd hk2 h)
     have hb : 0 ≤ s.lo ∧ s.lo ≤ s.hi ∧ s.hi ≤ 40 := by simp [validS, hk2] at hs; exact ⟨hs.1.1, hs.1.2, hs.2⟩
     have hm : min ((v.s.length : Nat) : Int) s.hi = ((min v.s.length s.hi.toNat : Nat) : Int) := by omega
     have ht : (v.s.take (min v.s.length s.hi.toNat)).drop 0 = v.s.take s.hi.toNat := by rw [List.drop_zero, List.take_eq_take_iff]; omega
     repeat' first|(apply Sp.go;·constructor<;>first|exact ss|(change _=_;first|(simp only[go_sem,Nat.reduceBEq,Nat.reduceAdd,Nat.reduceLeDiff,reduceIte]<;>rfl)|rfl)|exact Nat.le_of_ble_eq_true rfl|decide|(repeat' first|(apply Lk.go;constructor)|assumption|exact nb ‹_› ‹_›|exact nt ‹_› ‹_›))|(intro b hb;repeat first|(refine fe hb ?_;intro _ _ hb)|(refine fT hb ?_;intro hb))|refine gA rfl ?_|refine gB rfl ?_|apply cT rfl|apply cF rfl|(apply DM.gbT;rfl)|(apply DM.gbF;rfl)|intro h
     rw [hm]
     apply DM.slSs (p := 0)
     ·simp only [EOpd.ev, Env.get, Nat.reduceBEq, cond_true, cond_false, beq_self_eq_true] <;> rfl
     ·rfl
     ·simp only [optNat, EOpd.ev, Env.get, Nat.reduceBEq, cond_true, cond_false, beq_self_eq_true] <;> rfl
     ·omega
     ·omega
     ·exact ht
     repeat' first|(apply Sp.go;·constructor<;>first|exact ss|(change _=_;first|(simp only[go_sem,Nat.reduceBEq,Nat.reduceAdd,Nat.reduceLeDiff,reduceIte]<;>rfl)|rfl)|exact Nat.le_of_ble_eq_true rfl|decide|(repeat' first|(apply Lk.go;constructor)|assumption|exact nb ‹_› ‹_›|exact nt ‹_› ‹_›))|(intro b hb;repeat first|(refine fe hb ?_;intro _ _ hb)|(refine fT hb ?_;intro hb))|refine gA rfl ?_|refine gB rfl ?_|apply cT rfl|apply cF rfl|(apply DM.gbT;rfl)|(apply DM.gbF;rfl)|intro h
     have hn : max 0 (IntKind.i64.wrap (s.lo - ((v.s.take s.hi.toNat).length : Int))) = (((s.lo - ((v.s.take s.hi.toNat).length : Int)).toNat : Nat) : Int) := by
      have hl : (v.s.take s.hi.toNat).length ≤ 40 := by rw [List.length_take]; omega
      rw [wrap64 (by omega) (by omega)]; omega
     (refine AM.reg [.str (List.replicate (s.lo - ((v.s.take s.hi.toNat).length : Int)).toNat 97)] ?_; simp only [annotate, AV.rows])
     repeat' first|(apply Sp.go;·constructor<;>first|exact ss|(change _=_;first|(simp only[go_sem,Nat.reduceBEq,Nat.reduceAdd,Nat.reduceLeDiff,reduceIte]<;>rfl)|rfl)|exact Nat.le_of_ble_eq_true rfl|decide|(repeat' first|(apply Lk.go;constructor)|assumption|exact nb ‹_› ‹_›|exact nt ‹_› ‹_›))|(intro b hb;repeat first|(refine fe hb ?_;intro _ _ hb)|(refine fT hb ?_;intro hb))|refine rt ?_|refine gA rfl ?_|refine gB rfl ?_|apply cT rfl|apply cF rfl|(apply DM.gbT;rfl)|(apply DM.gbF;rfl)|intro h
     rw [hn]
     (apply DM.pcRs (hR' _ (by omega)); (· simp only [go_sem, Nat.reduceBEq, Nat.reduceAdd] <;> rfl); (· exact AVLes.refl _))
     repeat' first|(apply Sp.go;·constructor<;>first|exact ss|(change _=_;first|(simp only[go_sem,Nat.reduceBEq,Nat.reduceAdd,Nat.reduceLeDiff,reduceIte]<;>rfl)|rfl)|exact Nat.le_of_ble_eq_true rfl|decide|(repeat' first|(apply Lk.go;constructor)|assumption|exact nb ‹_› ‹_›|exact nt ‹_› ‹_›))|(intro b hb;repeat first|(refine fe hb ?_;intro _ _ hb)|(refine fT hb ?_;intro hb))|refine rt ?_|refine gA rfl ?_|refine gB rfl ?_|apply cT rfl|apply cF rfl|(apply DM.gbT;rfl)|(apply DM.gbF;rfl)|(apply DM.catS; (· rfl); (· rfl); (· (rw [List.length_take, List.length_replicate]; unfold maxLen; omega)))|intro h
     (apply Sr.go;·constructor<;>first|(apply Lk.go;constructor<;>first|exact ss|(change _=_;first|(simp only[go_sem,Nat.reduceBEq,Nat.reduceAdd,Nat.reduceLeDiff,reduceIte]<;>rfl)|rfl)|exact Nat.le_of_ble_eq_true rfl|decide|(repeat' first|(apply Lk.go;constructor)|assumption|exact nb ‹_› ‹_›|exact nt ‹_› ‹_›))|assumption)
     exact key (a := ⟨v.k, v.n, clampText s.lo s.hi v.s⟩) (by simp at *; simp [clampV, *])
 ·(apply Sr.go;·constructor<;>first|(apply Lk.go;constructor<;>first|exact ss|(change _=_;first|(simp only[go_sem,Nat.reduceBEq,Nat.reduceAdd,Nat.reduceLeDiff,reduceIte]<;>rfl)|rfl)|exact Nat.le_of_ble_eq_true rfl|decide|(repeat' first|(apply Lk.go;constructor)|assumption|exact nb ‹_› ‹_›|exact nt ‹_› ‹_›))|assumption)
  exact key (a := val0) (by simp at *; simp [clampV, *])
def clampN (v : Val) : Val := ⟨v.k, max (-1000) (min 1000 v.n), v.s⟩
def storeM (s : Sort_) (n : Nat) (M : Mach) : Mach :=
 if (pop s.k M).2.tr then (pop s.k M).2
 else if (clampV s (clampN (pop s.k M).1)).2 = 0 then { (pop s.k M).2 with vars := M.vars.set n (clampV s (clampN (pop s.k M).1)).1 }
 else { (pop s.k M).2 with tr := true }
theorem pop_vars (k : Int) (M : Mach) : (pop k M).2.vars = M.vars := by unfold pop; split <;> rfl
theorem p89 (H0 : AHeap) (ρ : Ref) (d : ρ.Ok) (p : Prog) (ps : List Val) (M : Mach) (hlen : M.stack.length ≤ maxLen) (n : Nat) (w : Var_) (hw : p.vars[n]? = some w) (hv : n < M.vars.length) (hR : RepeatOk ∨ w.sort.k ≠ 2) : Meth 89 [.int .i64 (n : Int)] H0 ρ p ps M (.tup []) (storeM w.sort n M) := by
 refine meth_intro Try.func89 c89 fun vs vl => ?_
 have d1 := d.vs; have d2 := d.vl; have d3 := d.ls
 have d1' := Ne.symm d1; have d2' := Ne.symm d2; have d3' := Ne.symm d3
 obtain ⟨u, hu⟩ := some_of hv
 unfold e89 r89
 simp only [initEnv, initFrom]
 repeat' first|(apply Sp.go;·constructor<;>first|exact ss|(change _=_;first|(simp only[go_sem,Nat.reduceBEq,Nat.reduceAdd,Nat.reduceLeDiff,reduceIte]<;>rfl)|rfl)|exact Nat.le_of_ble_eq_true rfl|decide|(repeat' first|(apply Lk.go;constructor)|assumption|exact nb ‹_› ‹_›|exact nt ‹_› ‹_›|(apply Lm.go;constructor)))|(intro b hb;repeat first|(refine fe hb ?_;intro _ _ hb)|(refine fT hb ?_;intro hb)|(refine fresh_elimM hb ?_;intro _ _ hb))|refine rt ?_|refine gA rfl ?_|refine gB rfl ?_|apply cT rfl|apply cF rfl|(apply DM.gbT;rfl)|(apply DM.gbF;rfl)|(apply DM.ixV (row := w.row) (z := (n : Int)) (by omega) (row_get Var_.row hw); (· rfl); (· rfl))|intro h
 rw [hm_setB (by assumption)]
 (apply DM.cal (p91 _ ρ d p ps M w.sort.k hlen _ ⟨_, _, rfl⟩); (· simp only [go_sem, Nat.reduceBEq, Nat.reduceAdd] <;> rfl); (· exact AVLes.refl _))
 rintro r H1 ⟨rfl, vs, vl, rfl⟩
 simp only [put_some]
 repeat' first|(apply Sp.go;·constructor<;>first|exact ss|(change _=_;first|(simp only[go_sem,Nat.reduceBEq,Nat.reduceAdd,Nat.reduceLeDiff,reduceIte]<;>rfl)|rfl)|exact Nat.le_of_ble_eq_true rfl|decide|(repeat' first|(apply Lk.go;constructor)|assumption|exact nb ‹_› ‹_›|exact nt ‹_› ‹_›|(apply Lm.go;constructor)))|(intro b hb;repeat first|(refine fe hb ?_;intro _ _ hb)|(refine fT hb ?_;intro hb)|(refine fresh_elimM hb ?_;intro _ _ hb))|refine rt ?_|refine gA rfl ?_|refine gB rfl ?_|apply cT rfl|apply cF rfl|(apply DM.gbT;rfl)|(apply DM.gbF;rfl)|intro h
 (apply AM.cond; (· rfl))
 ·intro h1
  repeat' first|(apply Sp.go;·constructor<;>first|exact ss|(change _=_;first|(simp only[go_sem,Nat.reduceBEq,Nat.reduceAdd,Nat.reduceLeDiff,reduceIte]<;>rfl)|rfl)|exact Nat.le_of_ble_eq_true rfl|decide|(repeat' first|(apply Lk.go;constructor)|assumption|exact nb ‹_› ‹_›|exact nt ‹_› ‹_›|(apply Lm.go;constructor)))|(intro b hb;repeat first|(refine fe hb ?_;intro _ _ hb)|(refine fT hb ?_;intro hb)|(refine fresh_elimM hb ?_;intro _ _ hb))|refine rt ?_|refine gA rfl ?_|refine gB rfl ?_|apply cT rfl|apply cF rfl|(apply DM.gbT;rfl)|(apply DM.gbF;rfl)|intro h
  (apply Sr.go;·constructor<;>first|(apply Lk.go;constructor<;>first|exact ss|(change _=_;first|(simp only[go_sem,Nat.reduceBEq,Nat.reduceAdd,Nat.reduceLeDiff,reduceIte]<;>rfl)|rfl)|exact Nat.le_of_ble_eq_true rfl|decide|(repeat' first|(apply Lk.go;constructor)|assumption|exact nb ‹_› ‹_›|exact nt ‹_› ‹_›))|assumption)
  rw [show storeM w.sort n M = (pop w.sort.k M).2 by simp [storeM, h1]]
  refine ⟨rfl, vs, vl, ?_⟩
  (refine hsub_hm ?_ ?_ ?_ ?_ ?_ ?_<;>first|(intro x y h1 h2 h3 h;repeat first|exact h|refine hm_oldT h1 h2 h3 ?_|refine t_ne ‹_› ?_|refine t_fresh ‹_› ?_|refine t_B ?_)|(intro x y hx h;repeat first|exact h|refine hm_old hx ?_|refine g_ne hx ?_|refine g_ne (nb ‹_› h) ?_|refine g_fresh ‹_› ?_|refine g_T ?_)|(repeat' first|(apply Lk.go;constructor)|assumption|exact nb ‹_› ‹_›|exact nt ‹_› ‹_›|(apply Lm.go;constructor)))
 ·intro h1
  repeat' first|(apply Sp.go;·constructor<;>first|exact ss|(change _=_;first|(simp only[go_sem,Nat.reduceBEq,Nat.reduceAdd,Nat.reduceLeDiff,reduceIte]<;>rfl)|rfl)|exact Nat.le_of_ble_eq_true rfl|decide|(repeat' first|(apply Lk.go;constructor)|assumption|exact nb ‹_› ‹_›|exact nt ‹_› ‹_›|(apply Lm.go;constructor)))|(intro b hb;repeat first|(refine fe hb ?_;intro _ _ hb)|(refine fT hb ?_;intro hb)|(refine fresh_elimM hb ?_;intro _ _ hb))|refine rt ?_|refine gA rfl ?_|refine gB rfl ?_|apply cT rfl|apply cF rfl|(apply DM.gbT;rfl)|(apply DM.gbF;rfl)|(apply DM.pcs (p123 w.sort (clampN (pop w.sort.k M).1) hR); (· simp only [go_sem, Nat.reduceBEq, Nat.reduceAdd] <;> rfl); (· exact AVLes.refl _))|intro h
  (apply AM.cond; (· rfl))
  ·intro h2
   simp at h2
   repeat' first|(apply Sp.go;·constructor<;>first|exact ss|(change _=_;first|(simp only[go_sem,Nat.reduceBEq,Nat.reduceAdd,Nat.reduceLeDiff,reduceIte]<;>rfl)|rfl)|exact Nat.le_of_ble_eq_true rfl|decide|(repeat' first|(apply Lk.go;constructor)|assumption|exact nb ‹_› ‹_›|exact nt ‹_› ‹_›|(apply Lm.go;constructor)))|(intro b hb;repeat first|(refine fe hb ?_;intro _ _ hb)|(refine fT hb ?_;intro hb)|(refine fresh_elimM hb ?_;intro _ _ hb))|refine rt ?_|refine gA rfl ?_|refine gB rfl ?_|apply cT rfl|apply cF rfl|(apply DM.gbT;rfl)|(apply DM.gbF;rfl)|intro h
   (apply Sr.go;·constructor<;>first|(apply Lk.go;constructor<;>first|exact ss|(change _=_;first|(simp only[go_sem,Nat.reduceBEq,Nat.reduceAdd,Nat.reduceLeDiff,reduceIte]<;>rfl)|rfl)|exact Nat.le_of_ble_eq_true rfl|decide|(repeat' first|(apply Lk.go;constructor)|assumption|exact nb ‹_› ‹_›|exact nt ‹_› ‹_›))|assumption)
   rw [show storeM w.sort n M = { (pop w.sort.k M).2 with tr := true } by simp [storeM, h1, h2]]
   refine ⟨rfl, vs, vl, ?_⟩
   (refine hsub_hm ?_ ?_ ?_ ?_ ?_ ?_<;>first|(intro x y h1 h2 h3 h;repeat first|exact h|refine hm_oldT h1 h2 h3 ?_|refine t_ne ‹_› ?_|refine t_fresh ‹_› ?_|refine t_B ?_)|(intro x y hx h;repeat first|exact h|refine hm_old hx ?_|refine g_ne hx ?_|refine g_ne (nb ‹_› h) ?_|refine g_fresh ‹_› ?_|refine g_T ?_)|(repeat' first|(apply Lk.go;constructor)|assumption|exact nb ‹_› ‹_›|exact nt ‹_› ‹_›|(apply Lm.go;constructor)))
  ·intro h2
   simp at h2
   repeat' first|(apply Sp.go;·constructor<;>first|exact ss|(change _=_;first|(simp only[go_sem,Nat.reduceBEq,Nat.reduceAdd,Nat.reduceLeDiff,reduceIte]<;>rfl)|rfl)|exact Nat.le_of_ble_eq_true rfl|decide|(repeat' first|(apply Lk.go;constructor)|assumption|exact nb ‹_› ‹_›|exact nt ‹_› ‹_›|(apply Lm.go;constructor)))|(intro b hb;repeat first|(refine fe hb ?_;intro _ _ hb)|(refine fT hb ?_;intro hb)|(refine fresh_elimM hb ?_;intro _ _ hb))|refine rt ?_|refine gA rfl ?_|refine gB rfl ?_|apply cT rfl|apply cF rfl|(apply DM.gbT;rfl)|(apply DM.gbF;rfl)|(apply DM.ixM; (· rfl); (· repeat' first|(apply Lk.go;constructor)|assumption|exact nb ‹_› ‹_›|exact nt ‹_› ‹_›|(apply Lm.go;constructor)); (· rfl); (· (first | omega | (rw [List.length_map, pop_vars]; omega))); (· (first | omega | (rw [List.length_map, pop_vars]; omega))))|(apply DM.stM (i := n); (· rfl); (· repeat' first|(apply Lk.go;constructor)|assumption|exact nb ‹_› ‹_›|exact nt ‹_› ‹_›|(apply Lm.go;constructor)); (· simp only [go_sem, Nat.reduceBEq, Nat.reduceAdd] <;> rfl); (· exact rows_len _); (· (rw [List.getElem?_map, pop_vars, hu]; rfl)); (· simp); (· rfl); (· rfl))|intro h
   (apply Sr.go;·constructor<;>first|(apply Lk.go;constructor<;>first|exact ss|(change _=_;first|(simp only[go_sem,Nat.reduceBEq,Nat.reduceAdd,Nat.reduceLeDiff,reduceIte]<;>rfl)|rfl)|exact Nat.le_of_ble_eq_true rfl|decide|(repeat' first|(apply Lk.go;constructor)|assumption|exact nb ‹_› ‹_›|exact nt ‹_› ‹_›))|assumption)
   rw [show storeM w.sort n M = { (pop w.sort.k M).2 with vars := M.vars.set n (clampV w.sort (clampN (pop w.sort.k M).1)).1 } by simp [storeM, h1, h2]]
   refine ⟨rfl, vs, vl, ?_⟩
   rw [pop_vars]
   rw [show (M.vars.map Val.row).set n [AV.int IntKind.i64 (clampV w.sort (clampN (pop w.sort.k M).1)).1.k, AV.int IntKind.i64 (clampV w.sort (clampN (pop w.sort.k M).1)).1.n, AV.str (clampV w.sort (clampN (pop w.sort.k M).1)).1.s] = (M.vars.set n (clampV w.sort (clampN (pop w.sort.k M).1)).1).map Val.row by rw [List.map_set]]
   (refine hsub_hm ?_ ?_ ?_ ?_ ?_ ?_<;>first|(intro x y h1 h2 h3 h;repeat first|exact h|refine hm_oldT h1 h2 h3 ?_|refine t_ne ‹_› ?_|refine t_fresh ‹_› ?_|refine t_B ?_)|(intro x y hx h;repeat first|exact h|refine hm_old hx ?_|refine g_ne hx ?_|refine g_ne (nb ‹_› h) ?_|refine g_fresh ‹_› ?_|refine g_T ?_)|(repeat' first|(apply Lk.go;constructor)|assumption|exact nb ‹_› ‹_›|exact nt ‹_› ‹_›|(apply Lm.go;constructor)))
def isArith (op : Int) : Bool := decide (op = 6) || decide (op = 7) || decide (op = 8) || decide (op = 9) || decide (op = 10) || decide (op = 13) || decide (op = 15) || decide (op = 16)
def stepX (p : Prog) (ps : List Val) (x : Ins_) (M : Mach) : Mach :=
 if x.op = 1 then push (intV x.n) M
 else if x.op = 2 then push ⟨2, 0, x.s⟩ M
 else if x.op = 3 then push ((M.vars[x.n.toNat]?).getD val0) M
 else if x.op = 4 then (match ps[x.n.toNat]? with | none => { M with tr := true } | some v => push v M)
 else if x.op = 5 then (match p.vars[x.n.toNat]? with | none => M | some w => storeM w.sort x.n.toNat M)
 else if x.op = 11 then result (W (0 - (pop 1 M).1.n)) (pop 1 M).2
 else if x.op = 14 then result (if (pop 1 M).1.n = 0 then 1 else 0) (pop 1 M).2
 else if x.op = 12 ∨ x.op = 17 ∨ x.op = 18 then textsM x.op M
 else if isArith x.op then arithM x.op M
 else controlM x M
def stepM (p : Prog) (ps : List Val) (M : Mach) : Mach := match p.code[M.pc.toNat]? with
 | none => M
 | some x => stepX p ps x { M with pc := W (M.pc + 1) }
structure Good (p : Prog) (M : Mach) : Prop where
 st : M.stack.length ≤ 16
 str : ∀ v ∈ M.stack, v.s.length ≤ 1000
 ll : M.loops.length ≤ maxLen
 vl : M.vars.length = p.vars.length
structure InsOk (p : Prog) (x : Ins_) : Prop where
 var : x.op = 3 ∨ x.op = 5 → 0 ≤ x.n ∧ x.n < p.vars.length
 par : x.op = 4 → 0 ≤ x.n
theorem p58 (H0 : AHeap) (ρ : Ref) (d : ρ.Ok) (p : Prog) (ps : List Val) (M : Mach) (g : Good p M) (hR : RepeatOk ∨ ∀ w ∈ p.vars, w.sort.k ≠ 2) (i : Nat) (hi : M.pc = (i : Int)) (x : Ins_) (hx : p.code[i]? = some x) (hI : InsOk p x) : Meth 58 [] H0 ρ p ps M (.tup []) (stepM p ps M) := by
 refine meth_intro Try.func58 c58 fun vs vl => ?_
 have d1 := d.vs; have d2 := d.vl; have d3 := d.ls
 have d1' := Ne.symm d1; have d2' := Ne.symm d2; have d3' := Ne.symm d3
 have e0 : stepM p ps M = stepX p ps x { M with pc := W (M.pc + 1) } := by simp [stepM, hi, hx]
 have hlen : ({ M with pc := W (M.pc + 1) } : Mach).stack.length ≤ maxLen := by have := g.st; show M.stack.length ≤ maxLen; unfold maxLen; omega
 rw [e0]
 unfold e58 r58
 simp only [initEnv, initFrom]
 repeat' first|(apply Sp.go;·constructor<;>first|exact ss|(change _=_;first|(simp only[go_sem,Nat.reduceBEq,Nat.reduceAdd,Nat.reduceLeDiff,reduceIte]<;>rfl)|rfl)|exact Nat.le_of_ble_eq_true rfl|decide|(repeat' first|(apply Lk.go;constructor)|assumption|exact nb ‹_› ‹_›|exact nt ‹_› ‹_›|(apply Lm.go;constructor)))|(intro b hb;repeat first|(refine fe hb ?_;intro _ _ hb)|(refine fT hb ?_;intro hb)|(refine fresh_elimM hb ?_;intro _ _ hb))|refine rt ?_|refine gA rfl ?_|refine gB rfl ?_|apply cT rfl|apply cF rfl|(apply DM.gbT;rfl)|(apply DM.gbF;rfl)|intro h
 rw [hi]
 (apply DM.ixV (row := x.row) (z := (i : Int)) (by omega) (row_get Ins_.row hx); (· rfl); (· rfl))
 rw [← hi]
 repeat' first|(apply Sp.go;·constructor<;>first|exact ss|(change _=_;first|(simp only[go_sem,Nat.reduceBEq,Nat.reduceAdd,Nat.reduceLeDiff,reduceIte]<;>rfl)|rfl)|exact Nat.le_of_ble_eq_true rfl|decide|(repeat' first|(apply Lk.go;constructor)|assumption|exact nb ‹_› ‹_›|exact nt ‹_› ‹_›|(apply Lm.go;constructor)))|(intro b hb;repeat first|(refine fe hb ?_;intro _ _ hb)|(refine fT hb ?_;intro hb)|(refine fresh_elimM hb ?_;intro _ _ hb))|refine rt ?_|refine gA rfl ?_|refine gB rfl ?_|apply cT rfl|apply cF rfl|(apply DM.gbT;rfl)|(apply DM.gbF;rfl)|intro h
 rw [hm_setB (by assumption)]
 refine AM.eqH (hm_fold (M' := { M with pc := W (M.pc + 1) }) rfl rfl rfl rfl) ?_
 generalize hM : ({ M with pc := W (M.pc + 1) } : Mach) = N at *
 have gst : N.stack.length ≤ 16 := by subst hM; exact g.st
 have gstr : ∀ v ∈ N.stack, v.s.length ≤ 1000 := by subst hM; exact g.str
 have gll : N.loops.length ≤ maxLen := by subst hM; exact g.ll
 have gvl : N.vars.length = p.vars.length := by subst hM; exact g.vl
 (apply AM.cond; (· rfl))
 ·intro h1
  simp at h1
  repeat' first|(apply Sp.go;·constructor<;>first|exact ss|(change _=_;first|(simp only[go_sem,Nat.reduceBEq,Nat.reduceAdd,Nat.reduceLeDiff,reduceIte]<;>rfl)|rfl)|exact Nat.le_of_ble_eq_true rfl|decide|(repeat' first|(apply Lk.go;constructor)|assumption|exact nb ‹_› ‹_›|exact nt ‹_› ‹_›|(apply Lm.go;constructor)))|(intro b hb;repeat first|(refine fe hb ?_;intro _ _ hb)|(refine fT hb ?_;intro hb)|(refine fresh_elimM hb ?_;intro _ _ hb))|refine rt ?_|refine gA rfl ?_|refine gB rfl ?_|apply cT rfl|apply cF rfl|(apply DM.gbT;rfl)|(apply DM.gbF;rfl)|(apply DM.pcs (p88 x.n); (· simp only [go_sem, Nat.reduceBEq, Nat.reduceAdd] <;> rfl); (· exact AVLes.refl _))|((apply DM.cal (p87 _ ρ d p ps N (intV x.n) _ ⟨_, _, rfl⟩); (· simp only [go_sem, Nat.reduceBEq, Nat.reduceAdd] <;> rfl); (· exact AVLes.refl _)); rintro r H1 ⟨rfl, vs, vl, rfl⟩; simp only [put_some])|intro h
  (apply Sr.go;·constructor<;>first|(apply Lk.go;constructor<;>first|exact ss|(change _=_;first|(simp only[go_sem,Nat.reduceBEq,Nat.reduceAdd,Nat.reduceLeDiff,reduceIte]<;>rfl)|rfl)|exact Nat.le_of_ble_eq_true rfl|decide|(repeat' first|(apply Lk.go;constructor)|assumption|exact nb ‹_› ‹_›|exact nt ‹_› ‹_›))|assumption)
  rw [show stepX p ps x N = push (intV x.n) N by simp [stepX, h1]]
  refine ⟨rfl, vs, vl, ?_⟩
  (refine hsub_hm ?_ ?_ ?_ ?_ ?_ ?_<;>first|(intro x y h1 h2 h3 h;repeat first|exact h|refine hm_oldT h1 h2 h3 ?_|refine t_ne ‹_› ?_|refine t_fresh ‹_› ?_|refine t_B ?_)|(intro x y hx h;repeat first|exact h|refine hm_old hx ?_|refine g_ne hx ?_|refine g_ne (nb ‹_› h) ?_|refine g_fresh ‹_› ?_|refine g_T ?_)|(repeat' first|(apply Lk.go;constructor)|assumption|exact nb ‹_› ‹_›|exact nt ‹_› ‹_›|(apply Lm.go;constructor)))
 ·intro h1
  simp at h1
  repeat' first|(apply Sp.go;·constructor<;>first|exact ss|(change _=_;first|(simp only[go_sem,Nat.reduceBEq,Nat.reduceAdd,Nat.reduceLeDiff,reduceIte]<;>rfl)|rfl)|exact Nat.le_of_ble_eq_true rfl|decide|(repeat' first|(apply Lk.go;constructor)|assumption|exact nb ‹_› ‹_›|exact nt ‹_› ‹_›|(apply Lm.go;constructor)))|(intro b hb;repeat first|(refine fe hb ?_;intro _ _ hb)|(refine fT hb ?_;intro hb)|(refine fresh_elimM hb ?_;intro _ _ hb))|refine rt ?_|refine gA rfl ?_|refine gB rfl ?_|apply cT rfl|apply cF rfl|(apply DM.gbT;rfl)|(apply DM.gbF;rfl)|intro h
  (apply AM.cond; (· rfl))
  ·intro h2
   simp at h2
   repeat' first|(apply Sp.go;·constructor<;>first|exact ss|(change _=_;first|(simp only[go_sem,Nat.reduceBEq,Nat.reduceAdd,Nat.reduceLeDiff,reduceIte]<;>rfl)|rfl)|exact Nat.le_of_ble_eq_true rfl|decide|(repeat' first|(apply Lk.go;constructor)|assumption|exact nb ‹_› ‹_›|exact nt ‹_› ‹_›|(apply Lm.go;constructor)))|(intro b hb;repeat first|(refine fe hb ?_;intro _ _ hb)|(refine fT hb ?_;intro hb)|(refine fresh_elimM hb ?_;intro _ _ hb))|refine rt ?_|refine gA rfl ?_|refine gB rfl ?_|apply cT rfl|apply cF rfl|(apply DM.gbT;rfl)|(apply DM.gbF;rfl)|((apply DM.cal (p87 _ ρ d p ps N ⟨2, 0, x.s⟩ _ ⟨_, _, rfl⟩); (· simp only [go_sem, Nat.reduceBEq, Nat.reduceAdd] <;> rfl); (· exact AVLes.refl _)); rintro r H1 ⟨rfl, vs, vl, rfl⟩; simp only [put_some])|intro h
   (apply Sr.go;·constructor<;>first|(apply Lk.go;constructor<;>first|exact ss|(change _=_;first|(simp only[go_sem,Nat.reduceBEq,Nat.reduceAdd,Nat.reduceLeDiff,reduceIte]<;>rfl)|rfl)|exact Nat.le_of_ble_eq_true rfl|decide|(repeat' first|(apply Lk.go;constructor)|assumption|exact nb ‹_› ‹_›|exact nt ‹_› ‹_›))|assumption)
   rw [show stepX p ps x N = push ⟨2, 0, x.s⟩ N by simp [stepX, h2]]
   refine ⟨rfl, vs, vl, ?_⟩
   (refine hsub_hm ?_ ?_ ?_ ?_ ?_ ?_<;>first|(intro x y h1 h2 h3 h;repeat first|exact h|refine hm_oldT h1 h2 h3 ?_|refine t_ne ‹_› ?_|refine t_fresh ‹_› ?_|refine t_B ?_)|(intro x y hx h;repeat first|exact h|refine hm_old hx ?_|refine g_ne hx ?_|refine g_ne (nb ‹_› h) ?_|refine g_fresh ‹_› ?_|refine g_T ?_)|(repeat' first|(apply Lk.go;constructor)|assumption|exact nb ‹_› ‹_›|exact nt ‹_› ‹_›|(apply Lm.go;constructor)))
  ·intro h2
   simp at h2
   repeat' first|(apply Sp.go;·constructor<;>first|exact ss|(change _=_;first|(simp only[go_sem,Nat.reduceBEq,Nat.reduceAdd,Nat.reduceLeDiff,reduceIte]<;>rfl)|rfl)|exact Nat.le_of_ble_eq_true rfl|decide|(repeat' first|(apply Lk.go;constructor)|assumption|exact nb ‹_› ‹_›|exact nt ‹_› ‹_›|(apply Lm.go;constructor)))|(intro b hb;repeat first|(refine fe hb ?_;intro _ _ hb)|(refine fT hb ?_;intro hb)|(refine fresh_elimM hb ?_;intro _ _ hb))|refine rt ?_|refine gA rfl ?_|refine gB rfl ?_|apply cT rfl|apply cF rfl|(apply DM.gbT;rfl)|(apply DM.gbF;rfl)|intro h
   (apply AM.cond; (· rfl))
   ·intro h3
    simp at h3
    obtain ⟨q1, q2⟩ := hI.var (.inl h3)
    obtain ⟨u, hu⟩ := some_of (show x.n.toNat < N.vars.length by omega)
    repeat' first|(apply Sp.go;·constructor<;>first|exact ss|(change _=_;first|(simp only[go_sem,Nat.reduceBEq,Nat.reduceAdd,Nat.reduceLeDiff,reduceIte]<;>rfl)|rfl)|exact Nat.le_of_ble_eq_true rfl|decide|(repeat' first|(apply Lk.go;constructor)|assumption|exact nb ‹_› ‹_›|exact nt ‹_› ‹_›|(apply Lm.go;constructor)))|(intro b hb;repeat first|(refine fe hb ?_;intro _ _ hb)|(refine fT hb ?_;intro hb)|(refine fresh_elimM hb ?_;intro _ _ hb))|refine rt ?_|refine gA rfl ?_|refine gB rfl ?_|apply cT rfl|apply cF rfl|(apply DM.gbT;rfl)|(apply DM.gbF;rfl)|(apply DM.ixM; (· rfl); (· repeat' first|(apply Lk.go;constructor)|assumption|exact nb ‹_› ‹_›|exact nt ‹_› ‹_›|(apply Lm.go;constructor)); (· rfl); (· (first | omega | (rw [List.length_map, gvl]; omega))); (· (first | omega | (rw [List.length_map, gvl]; omega))))|(apply DM.ldMA (i := x.n.toNat); (· rfl); (· repeat' first|(apply Lk.go;constructor)|assumption|exact nb ‹_› ‹_›|exact nt ‹_› ‹_›|(apply Lm.go;constructor)); (· exact rows_len _); (· (rw [List.getElem?_map, hu]; rfl)); (· simp))|((apply DM.cal (p87 _ ρ d p ps N u _ ⟨_, _, rfl⟩); (· simp only [go_sem, Nat.reduceBEq, Nat.reduceAdd] <;> rfl); (· exact AVLes.refl _)); rintro r H1 ⟨rfl, vs, vl, rfl⟩; simp only [put_some])|intro h
    (apply Sr.go;·constructor<;>first|(apply Lk.go;constructor<;>first|exact ss|(change _=_;first|(simp only[go_sem,Nat.reduceBEq,Nat.reduceAdd,Nat.reduceLeDiff,reduceIte]<;>rfl)|rfl)|exact Nat.le_of_ble_eq_true rfl|decide|(repeat' first|(apply Lk.go;constructor)|assumption|exact nb ‹_› ‹_›|exact nt ‹_› ‹_›))|assumption)
    rw [show stepX p ps x N = push u N by simp [stepX, h3, hu]]
    refine ⟨rfl, vs, vl, ?_⟩
    (refine hsub_hm ?_ ?_ ?_ ?_ ?_ ?_<;>first|(intro x y h1 h2 h3 h;repeat first|exact h|refine hm_oldT h1 h2 h3 ?_|refine t_ne ‹_› ?_|refine t_fresh ‹_› ?_|refine t_B ?_)|(intro x y hx h;repeat first|exact h|refine hm_old hx ?_|refine g_ne hx ?_|refine g_ne (nb ‹_› h) ?_|refine g_fresh ‹_› ?_|refine g_T ?_)|(repeat' first|(apply Lk.go;constructor)|assumption|exact nb ‹_› ‹_›|exact nt ‹_› ‹_›|(apply Lm.go;constructor)))
   ·intro h3
    simp at h3
    repeat' first|(apply Sp.go;·constructor<;>first|exact ss|(change _=_;first|(simp only[go_sem,Nat.reduceBEq,Nat.reduceAdd,Nat.reduceLeDiff,reduceIte]<;>rfl)|rfl)|exact Nat.le_of_ble_eq_true rfl|decide|(repeat' first|(apply Lk.go;constructor)|assumption|exact nb ‹_› ‹_›|exact nt ‹_› ‹_›|(apply Lm.go;constructor)))|(intro b hb;repeat first|(refine fe hb ?_;intro _ _ hb)|(refine fT hb ?_;intro hb)|(refine fresh_elimM hb ?_;intro _ _ hb))|refine rt ?_|refine gA rfl ?_|refine gB rfl ?_|apply cT rfl|apply cF rfl|(apply DM.gbT;rfl)|(apply DM.gbF;rfl)|intro h
    (apply AM.cond; (· rfl))
    ·intro h4
     simp at h4
     have q1 := hI.par h4
     repeat' first|(apply Sp.go;·constructor<;>first|exact ss|(change _=_;first|(simp only[go_sem,Nat.reduceBEq,Nat.reduceAdd,Nat.reduceLeDiff,reduceIte]<;>rfl)|rfl)|exact Nat.le_of_ble_eq_true rfl|decide|(repeat' first|(apply Lk.go;constructor)|assumption|exact nb ‹_› ‹_›|exact nt ‹_› ‹_›|(apply Lm.go;constructor)))|(intro b hb;repeat first|(refine fe hb ?_;intro _ _ hb)|(refine fT hb ?_;intro hb)|(refine fresh_elimM hb ?_;intro _ _ hb))|refine rt ?_|refine gA rfl ?_|refine gB rfl ?_|apply cT rfl|apply cF rfl|(apply DM.gbT;rfl)|(apply DM.gbF;rfl)|intro h
     (apply AM.cond; (· rfl))
     ·intro h5
      simp at h5
      repeat' first|(apply Sp.go;·constructor<;>first|exact ss|(change _=_;first|(simp only[go_sem,Nat.reduceBEq,Nat.reduceAdd,Nat.reduceLeDiff,reduceIte]<;>rfl)|rfl)|exact Nat.le_of_ble_eq_true rfl|decide|(repeat' first|(apply Lk.go;constructor)|assumption|exact nb ‹_› ‹_›|exact nt ‹_› ‹_›|(apply Lm.go;constructor)))|(intro b hb;repeat first|(refine fe hb ?_;intro _ _ hb)|(refine fT hb ?_;intro hb)|(refine fresh_elimM hb ?_;intro _ _ hb))|refine rt ?_|refine gA rfl ?_|refine gB rfl ?_|apply cT rfl|apply cF rfl|(apply DM.gbT;rfl)|(apply DM.gbF;rfl)|intro h
      (apply Sr.go;·constructor<;>first|(apply Lk.go;constructor<;>first|exact ss|(change _=_;first|(simp only[go_sem,Nat.reduceBEq,Nat.reduceAdd,Nat.reduceLeDiff,reduceIte]<;>rfl)|rfl)|exact Nat.le_of_ble_eq_true rfl|decide|(repeat' first|(apply Lk.go;constructor)|assumption|exact nb ‹_› ‹_›|exact nt ‹_› ‹_›))|assumption)
      rw [show stepX p ps x N = { N with tr := true } by simp [stepX, h4]; rw [List.getElem?_eq_none (by omega)]]
      refine ⟨rfl, vs, vl, ?_⟩
      (refine hsub_hm ?_ ?_ ?_ ?_ ?_ ?_<;>first|(intro x y h1 h2 h3 h;repeat first|exact h|refine hm_oldT h1 h2 h3 ?_|refine t_ne ‹_› ?_|refine t_fresh ‹_› ?_|refine t_B ?_)|(intro x y hx h;repeat first|exact h|refine hm_old hx ?_|refine g_ne hx ?_|refine g_ne (nb ‹_› h) ?_|refine g_fresh ‹_› ?_|refine g_T ?_)|(repeat' first|(apply Lk.go;constructor)|assumption|exact nb ‹_› ‹_›|exact nt ‹_› ‹_›|(apply Lm.go;constructor)))
     ·intro h5
      simp at h5
      obtain ⟨u, hu⟩ := some_of (show x.n.toNat < ps.length by omega)
      repeat' first|(apply Sp.go;·constructor<;>first|exact ss|(change _=_;first|(simp only[go_sem,Nat.reduceBEq,Nat.reduceAdd,Nat.reduceLeDiff,reduceIte]<;>rfl)|rfl)|exact Nat.le_of_ble_eq_true rfl|decide|(repeat' first|(apply Lk.go;constructor)|assumption|exact nb ‹_› ‹_›|exact nt ‹_› ‹_›|(apply Lm.go;constructor)))|(intro b hb;repeat first|(refine fe hb ?_;intro _ _ hb)|(refine fT hb ?_;intro hb)|(refine fresh_elimM hb ?_;intro _ _ hb))|refine rt ?_|refine gA rfl ?_|refine gB rfl ?_|apply cT rfl|apply cF rfl|(apply DM.gbT;rfl)|(apply DM.gbF;rfl)|(apply DM.ixV (rows := ps.map Val.row) (row := u.row) (z := x.n) q1 (by rw [List.getElem?_map, hu]; rfl); (· rfl); (· rfl))|((apply DM.cal (p87 _ ρ d p ps N u _ ⟨_, _, rfl⟩); (· simp only [go_sem, Nat.reduceBEq, Nat.reduceAdd] <;> rfl); (· exact AVLes.refl _)); rintro r H1 ⟨rfl, vs, vl, rfl⟩; simp only [put_some])|intro h
      (apply Sr.go;·constructor<;>first|(apply Lk.go;constructor<;>first|exact ss|(change _=_;first|(simp only[go_sem,Nat.reduceBEq,Nat.reduceAdd,Nat.reduceLeDiff,reduceIte]<;>rfl)|rfl)|exact Nat.le_of_ble_eq_true rfl|decide|(repeat' first|(apply Lk.go;constructor)|assumption|exact nb ‹_› ‹_›|exact nt ‹_› ‹_›))|assumption)
      rw [show stepX p ps x N = push u N by simp [stepX, h4, hu]]
      refine ⟨rfl, vs, vl, ?_⟩
      (refine hsub_hm ?_ ?_ ?_ ?_ ?_ ?_<;>first|(intro x y h1 h2 h3 h;repeat first|exact h|refine hm_oldT h1 h2 h3 ?_|refine t_ne ‹_› ?_|refine t_fresh ‹_› ?_|refine t_B ?_)|(intro x y hx h;repeat first|exact h|refine hm_old hx ?_|refine g_ne hx ?_|refine g_ne (nb ‹_› h) ?_|refine g_fresh ‹_› ?_|refine g_T ?_)|(repeat' first|(apply Lk.go;constructor)|assumption|exact nb ‹_› ‹_›|exact nt ‹_› ‹_›|(apply Lm.go;constructor)))
    ·intro h4
     simp at h4
     repeat' first|(apply Sp.go;·constructor<;>first|exact ss|(change _=_;first|(simp only[go_sem,Nat.reduceBEq,Nat.reduceAdd,Nat.reduceLeDiff,reduceIte]<;>rfl)|rfl)|exact Nat.le_of_ble_eq_true rfl|decide|(repeat' first|(apply Lk.go;constructor)|assumption|exact nb ‹_› ‹_›|exact nt ‹_› ‹_›|(apply Lm.go;constructor)))|(intro b hb;repeat first|(refine fe hb ?_;intro _ _ hb)|(refine fT hb ?_;intro hb)|(refine fresh_elimM hb ?_;intro _ _ hb))|refine rt ?_|refine gA rfl ?_|refine gB rfl ?_|apply cT rfl|apply cF rfl|(apply DM.gbT;rfl)|(apply DM.gbF;rfl)|intro h
     (apply AM.cond; (· rfl))
     ·intro h5
      simp at h5
      obtain ⟨q1, q2⟩ := hI.var (.inr h5)
      obtain ⟨w, hw⟩ := some_of (show x.n.toNat < p.vars.length by omega)
      have hn : x.n = ((x.n.toNat : Nat) : Int) := by omega
      repeat' first|(apply Sp.go;·constructor<;>first|exact ss|(change _=_;first|(simp only[go_sem,Nat.reduceBEq,Nat.reduceAdd,Nat.reduceLeDiff,reduceIte]<;>rfl)|rfl)|exact Nat.le_of_ble_eq_true rfl|decide|(repeat' first|(apply Lk.go;constructor)|assumption|exact nb ‹_› ‹_›|exact nt ‹_› ‹_›|(apply Lm.go;constructor)))|(intro b hb;repeat first|(refine fe hb ?_;intro _ _ hb)|(refine fT hb ?_;intro hb)|(refine fresh_elimM hb ?_;intro _ _ hb))|refine rt ?_|refine gA rfl ?_|refine gB rfl ?_|apply cT rfl|apply cF rfl|(apply DM.gbT;rfl)|(apply DM.gbF;rfl)|intro h
      rw [show AV.int IntKind.i64 x.n = AV.int IntKind.i64 ((x.n.toNat : Nat) : Int) by rw [← hn]]
      (apply DM.cal (p89 _ ρ d p ps N hlen x.n.toNat w hw (by omega) (hR.imp id (fun h => h w (List.mem_of_getElem? hw))) _ ⟨_, _, rfl⟩); (· simp only [go_sem, Nat.reduceBEq, Nat.reduceAdd] <;> rfl); (· exact AVLes.refl _))
      rintro r H1 ⟨rfl, vs, vl, rfl⟩
      simp only [put_some]
      repeat' first|(apply Sp.go;·constructor<;>first|exact ss|(change _=_;first|(simp only[go_sem,Nat.reduceBEq,Nat.reduceAdd,Nat.reduceLeDiff,reduceIte]<;>rfl)|rfl)|exact Nat.le_of_ble_eq_true rfl|decide|(repeat' first|(apply Lk.go;constructor)|assumption|exact nb ‹_› ‹_›|exact nt ‹_› ‹_›|(apply Lm.go;constructor)))|(intro b hb;repeat first|(refine fe hb ?_;intro _ _ hb)|(refine fT hb ?_;intro hb)|(refine fresh_elimM hb ?_;intro _ _ hb))|refine rt ?_|refine gA rfl ?_|refine gB rfl ?_|apply cT rfl|apply cF rfl|(apply DM.gbT;rfl)|(apply DM.gbF;rfl)|intro h
      (apply Sr.go;·constructor<;>first|(apply Lk.go;constructor<;>first|exact ss|(change _=_;first|(simp only[go_sem,Nat.reduceBEq,Nat.reduceAdd,Nat.reduceLeDiff,reduceIte]<;>rfl)|rfl)|exact Nat.le_of_ble_eq_true rfl|decide|(repeat' first|(apply Lk.go;constructor)|assumption|exact nb ‹_› ‹_›|exact nt ‹_› ‹_›))|assumption)
      rw [show stepX p ps x N = storeM w.sort x.n.toNat N by simp [stepX, h5, hw]]
      refine ⟨rfl, vs, vl, ?_⟩
      (refine hsub_hm ?_ ?_ ?_ ?_ ?_ ?_<;>first|(intro x y h1 h2 h3 h;repeat first|exact h|refine hm_oldT h1 h2 h3 ?_|refine t_ne ‹_› ?_|refine t_fresh ‹_› ?_|refine t_B ?_)|(intro x y hx h;repeat first|exact h|refine hm_old hx ?_|refine g_ne hx ?_|refine g_ne (nb ‹_› h) ?_|refine g_fresh ‹_› ?_|refine g_T ?_)|(repeat' first|(apply Lk.go;constructor)|assumption|exact nb ‹_› ‹_›|exact nt ‹_› ‹_›|(apply Lm.go;constructor)))
     ·intro h5
      simp at h5
      repeat' first|(apply Sp.go;·constructor<;>first|exact ss|(change _=_;first|(simp only[go_sem,Nat.reduceBEq,Nat.reduceAdd,Nat.reduceLeDiff,reduceIte]<;>rfl)|rfl)|exact Nat.le_of_ble_eq_true rfl|decide|(repeat' first|(apply Lk.go;constructor)|assumption|exact nb ‹_› ‹_›|exact nt ‹_› ‹_›|(apply Lm.go;constructor)))|(intro b hb;repeat first|(refine fe hb ?_;intro _ _ hb)|(refine fT hb ?_;intro hb)|(refine fresh_elimM hb ?_;intro _ _ hb))|refine rt ?_|refine gA rfl ?_|refine gB rfl ?_|apply cT rfl|apply cF rfl|(apply DM.gbT;rfl)|(apply DM.gbF;rfl)|intro h
      (apply AM.cond; (· rfl))
      ·intro h6
       simp at h6
       repeat' first|(apply Sp.go;·constructor<;>first|exact ss|(change _=_;first|(simp only[go_sem,Nat.reduceBEq,Nat.reduceAdd,Nat.reduceLeDiff,reduceIte]<;>rfl)|rfl)|exact Nat.le_of_ble_eq_true rfl|decide|(repeat' first|(apply Lk.go;constructor)|assumption|exact nb ‹_› ‹_›|exact nt ‹_› ‹_›|(apply Lm.go;constructor)))|(intro b hb;repeat first|(refine fe hb ?_;intro _ _ hb)|(refine fT hb ?_;intro hb)|(refine fresh_elimM hb ?_;intro _ _ hb))|refine rt ?_|refine gA rfl ?_|refine gB rfl ?_|apply cT rfl|apply cF rfl|(apply DM.gbT;rfl)|(apply DM.gbF;rfl)|((apply DM.cal (p91 _ ρ d p ps N 1 hlen _ ⟨_, _, rfl⟩); (· simp only [go_sem, Nat.reduceBEq, Nat.reduceAdd] <;> rfl); (· exact AVLes.refl _)); rintro r H1 ⟨rfl, vs, vl, rfl⟩; simp only [put_some])|((apply DM.cal (p90 _ ρ d p ps _ _ _ ⟨_, _, rfl⟩); (· simp only [go_sem, Nat.reduceBEq, Nat.reduceAdd] <;> rfl); (· exact AVLes.refl _)); rintro r H1 ⟨rfl, vs, vl, rfl⟩; simp only [put_some])|intro h
       (apply Sr.go;·constructor<;>first|(apply Lk.go;constructor<;>first|exact ss|(change _=_;first|(simp only[go_sem,Nat.reduceBEq,Nat.reduceAdd,Nat.reduceLeDiff,reduceIte]<;>rfl)|rfl)|exact Nat.le_of_ble_eq_true rfl|decide|(repeat' first|(apply Lk.go;constructor)|assumption|exact nb ‹_› ‹_›|exact nt ‹_› ‹_›))|assumption)
       rw [show stepX p ps x N = result (W (0 - (pop 1 N).1.n)) (pop 1 N).2 by simp [stepX, h6]]
       refine ⟨rfl, vs, vl, ?_⟩
       (refine hsub_hm ?_ ?_ ?_ ?_ ?_ ?_<;>first|(intro x y h1 h2 h3 h;repeat first|exact h|refine hm_oldT h1 h2 h3 ?_|refine t_ne ‹_› ?_|refine t_fresh ‹_› ?_|refine t_B ?_)|(intro x y hx h;repeat first|exact h|refine hm_old hx ?_|refine g_ne hx ?_|refine g_ne (nb ‹_› h) ?_|refine g_fresh ‹_› ?_|refine g_T ?_)|(repeat' first|(apply Lk.go;constructor)|assumption|exact nb ‹_› ‹_›|exact nt ‹_› ‹_›|(apply Lm.go;constructor)))
      ·intro h6
       simp at h6
       repeat' first|(apply Sp.go;·constructor<;>first|exact ss|(change _=_;first|(simp only[go_sem,Nat.reduceBEq,Nat.reduceAdd,Nat.reduceLeDiff,reduceIte]<;>rfl)|rfl)|exact Nat.le_of_ble_eq_true rfl|decide|(repeat' first|(apply Lk.go;constructor)|assumption|exact nb ‹_› ‹_›|exact nt ‹_› ‹_›|(apply Lm.go;constructor)))|(intro b hb;repeat first|(refine fe hb ?_;intro _ _ hb)|(refine fT hb ?_;intro hb)|(refine fresh_elimM hb ?_;intro _ _ hb))|refine rt ?_|refine gA rfl ?_|refine gB rfl ?_|apply cT rfl|apply cF rfl|(apply DM.gbT;rfl)|(apply DM.gbF;rfl)|intro h
       (apply AM.cond; (· rfl))
       ·intro h7
        simp at h7
        repeat' first|(apply Sp.go;·constructor<;>first|exact ss|(change _=_;first|(simp only[go_sem,Nat.reduceBEq,Nat.reduceAdd,Nat.reduceLeDiff,reduceIte]<;>rfl)|rfl)|exact Nat.le_of_ble_eq_true rfl|decide|(repeat' first|(apply Lk.go;constructor)|assumption|exact nb ‹_› ‹_›|exact nt ‹_› ‹_›|(apply Lm.go;constructor)))|(intro b hb;repeat first|(refine fe hb ?_;intro _ _ hb)|(refine fT hb ?_;intro hb)|(refine fresh_elimM hb ?_;intro _ _ hb))|refine rt ?_|refine gA rfl ?_|refine gB rfl ?_|apply cT rfl|apply cF rfl|(apply DM.gbT;rfl)|(apply DM.gbF;rfl)|((apply DM.cal (p91 _ ρ d p ps N 1 hlen _ ⟨_, _, rfl⟩); (· simp only [go_sem, Nat.reduceBEq, Nat.reduceAdd] <;> rfl); (· exact AVLes.refl _)); rintro r H1 ⟨rfl, vs, vl, rfl⟩; simp only [put_some])|(apply DM.pcs (p92 _); (· simp only [go_sem, Nat.reduceBEq, Nat.reduceAdd] <;> rfl); (· exact AVLes.refl _))|((apply DM.cal (p90 _ ρ d p ps _ _ _ ⟨_, _, rfl⟩); (· simp only [go_sem, Nat.reduceBEq, Nat.reduceAdd] <;> rfl); (· exact AVLes.refl _)); rintro r H1 ⟨rfl, vs, vl, rfl⟩; simp only [put_some])|intro h
        (apply Sr.go;·constructor<;>first|(apply Lk.go;constructor<;>first|exact ss|(change _=_;first|(simp only[go_sem,Nat.reduceBEq,Nat.reduceAdd,Nat.reduceLeDiff,reduceIte]<;>rfl)|rfl)|exact Nat.le_of_ble_eq_true rfl|decide|(repeat' first|(apply Lk.go;constructor)|assumption|exact nb ‹_› ‹_›|exact nt ‹_› ‹_›))|assumption)
        rw [show stepX p ps x N = result (if decide ((pop 1 N).1.n = 0) = true then 1 else 0) (pop 1 N).2 by simp [stepX, h7]]
        refine ⟨rfl, vs, vl, ?_⟩
        (refine hsub_hm ?_ ?_ ?_ ?_ ?_ ?_<;>first|(intro x y h1 h2 h3 h;repeat first|exact h|refine hm_oldT h1 h2 h3 ?_|refine t_ne ‹_› ?_|refine t_fresh ‹_› ?_|refine t_B ?_)|(intro x y hx h;repeat first|exact h|refine hm_old hx ?_|refine g_ne hx ?_|refine g_ne (nb ‹_› h) ?_|refine g_fresh ‹_› ?_|refine g_T ?_)|(repeat' first|(apply Lk.go;constructor)|assumption|exact nb ‹_› ‹_›|exact nt ‹_› ‹_›|(apply Lm.go;constructor)))
       ·intro h7
        simp at h7
        repeat' first|(apply Sp.go;·constructor<;>first|exact ss|(change _=_;first|(simp only[go_sem,Nat.reduceBEq,Nat.reduceAdd,Nat.reduceLeDiff,reduceIte]<;>rfl)|rfl)|exact Nat.le_of_ble_eq_true rfl|decide|(repeat' first|(apply Lk.go;constructor)|assumption|exact nb ‹_› ‹_›|exact nt ‹_› ‹_›|(apply Lm.go;constructor)))|(intro b hb;repeat first|(refine fe hb ?_;intro _ _ hb)|(refine fT hb ?_;intro hb)|(refine fresh_elimM hb ?_;intro _ _ hb))|refine rt ?_|refine gA rfl ?_|refine gB rfl ?_|apply cT rfl|apply cF rfl|(apply DM.gbT;rfl)|(apply DM.gbF;rfl)|(apply AM.condS;rfl)|intro h
        all_goals try (
         skip
         (apply DM.cal (p93 _ ρ d p ps N hlen gstr x.op _ ⟨_, _, rfl⟩); (· simp only [go_sem, Nat.reduceBEq, Nat.reduceAdd] <;> rfl); (· exact AVLes.refl _))
         rintro r H1 ⟨rfl, vs, vl, rfl⟩
         simp only [put_some]
         repeat' first|(apply Sp.go;·constructor<;>first|exact ss|(change _=_;first|(simp only[go_sem,Nat.reduceBEq,Nat.reduceAdd,Nat.reduceLeDiff,reduceIte]<;>rfl)|rfl)|exact Nat.le_of_ble_eq_true rfl|decide|(repeat' first|(apply Lk.go;constructor)|assumption|exact nb ‹_› ‹_›|exact nt ‹_› ‹_›|(apply Lm.go;constructor)))|(intro b hb;repeat first|(refine fe hb ?_;intro _ _ hb)|(refine fT hb ?_;intro hb)|(refine fresh_elimM hb ?_;intro _ _ hb))|refine rt ?_|refine gA rfl ?_|refine gB rfl ?_|apply cT rfl|apply cF rfl|(apply DM.gbT;rfl)|(apply DM.gbF;rfl)|intro h
         (apply Sr.go;·constructor<;>first|(apply Lk.go;constructor<;>first|exact ss|(change _=_;first|(simp only[go_sem,Nat.reduceBEq,Nat.reduceAdd,Nat.reduceLeDiff,reduceIte]<;>rfl)|rfl)|exact Nat.le_of_ble_eq_true rfl|decide|(repeat' first|(apply Lk.go;constructor)|assumption|exact nb ‹_› ‹_›|exact nt ‹_› ‹_›))|assumption)
         rw [show stepX p ps x N = textsM x.op N by simp at *; simp [stepX, *]]
         refine ⟨rfl, vs, vl, ?_⟩
         (refine hsub_hm ?_ ?_ ?_ ?_ ?_ ?_<;>first|(intro x y h1 h2 h3 h;repeat first|exact h|refine hm_oldT h1 h2 h3 ?_|refine t_ne ‹_› ?_|refine t_fresh ‹_› ?_|refine t_B ?_)|(intro x y hx h;repeat first|exact h|refine hm_old hx ?_|refine g_ne hx ?_|refine g_ne (nb ‹_› h) ?_|refine g_fresh ‹_› ?_|refine g_T ?_)|(repeat' first|(apply Lk.go;constructor)|assumption|exact nb ‹_› ‹_›|exact nt ‹_› ‹_›|(apply Lm.go;constructor)))
         )
        all_goals try (
         skip
         (apply DM.cal (p94 _ ρ d p ps N hlen x.op _ ⟨_, _, rfl⟩); (· simp only [go_sem, Nat.reduceBEq, Nat.reduceAdd] <;> rfl); (· exact AVLes.refl _))
         rintro r H1 ⟨rfl, vs, vl, rfl⟩
         simp only [put_some]
         repeat' first|(apply Sp.go;·constructor<;>first|exact ss|(change _=_;first|(simp only[go_sem,Nat.reduceBEq,Nat.reduceAdd,Nat.reduceLeDiff,reduceIte]<;>rfl)|rfl)|exact Nat.le_of_ble_eq_true rfl|decide|(repeat' first|(apply Lk.go;constructor)|assumption|exact nb ‹_› ‹_›|exact nt ‹_› ‹_›|(apply Lm.go;constructor)))|(intro b hb;repeat first|(refine fe hb ?_;intro _ _ hb)|(refine fT hb ?_;intro hb)|(refine fresh_elimM hb ?_;intro _ _ hb))|refine rt ?_|refine gA rfl ?_|refine gB rfl ?_|apply cT rfl|apply cF rfl|(apply DM.gbT;rfl)|(apply DM.gbF;rfl)|intro h
         (apply Sr.go;·constructor<;>first|(apply Lk.go;constructor<;>first|exact ss|(change _=_;first|(simp only[go_sem,Nat.reduceBEq,Nat.reduceAdd,Nat.reduceLeDiff,reduceIte]<;>rfl)|rfl)|exact Nat.le_of_ble_eq_true rfl|decide|(repeat' first|(apply Lk.go;constructor)|assumption|exact nb ‹_› ‹_›|exact nt ‹_› ‹_›))|assumption)
         rw [show stepX p ps x N = arithM x.op N by simp at *; simp [stepX, isArith, *]]
         refine ⟨rfl, vs, vl, ?_⟩
         (refine hsub_hm ?_ ?_ ?_ ?_ ?_ ?_<;>first|(intro x y h1 h2 h3 h;repeat first|exact h|refine hm_oldT h1 h2 h3 ?_|refine t_ne ‹_› ?_|refine t_fresh ‹_› ?_|refine t_B ?_)|(intro x y hx h;repeat first|exact h|refine hm_old hx ?_|refine g_ne hx ?_|refine g_ne (nb ‹_› h) ?_|refine g_fresh ‹_› ?_|refine g_T ?_)|(repeat' first|(apply Lk.go;constructor)|assumption|exact nb ‹_› ‹_›|exact nt ‹_› ‹_›|(apply Lm.go;constructor)))
         )
        all_goals try (
         skip
         (apply DM.cal (p95 _ ρ d p ps N hlen gll x _ ⟨_, _, rfl⟩); (· simp only [go_sem, Nat.reduceBEq, Nat.reduceAdd] <;> rfl); (· exact AVLes.refl _))
         rintro r H1 ⟨rfl, vs, vl, rfl⟩
         simp only [put_some]
         repeat' first|(apply Sp.go;·constructor<;>first|exact ss|(change _=_;first|(simp only[go_sem,Nat.reduceBEq,Nat.reduceAdd,Nat.reduceLeDiff,reduceIte]<;>rfl)|rfl)|exact Nat.le_of_ble_eq_true rfl|decide|(repeat' first|(apply Lk.go;constructor)|assumption|exact nb ‹_› ‹_›|exact nt ‹_› ‹_›|(apply Lm.go;constructor)))|(intro b hb;repeat first|(refine fe hb ?_;intro _ _ hb)|(refine fT hb ?_;intro hb)|(refine fresh_elimM hb ?_;intro _ _ hb))|refine rt ?_|refine gA rfl ?_|refine gB rfl ?_|apply cT rfl|apply cF rfl|(apply DM.gbT;rfl)|(apply DM.gbF;rfl)|intro h
         (apply Sr.go;·constructor<;>first|(apply Lk.go;constructor<;>first|exact ss|(change _=_;first|(simp only[go_sem,Nat.reduceBEq,Nat.reduceAdd,Nat.reduceLeDiff,reduceIte]<;>rfl)|rfl)|exact Nat.le_of_ble_eq_true rfl|decide|(repeat' first|(apply Lk.go;constructor)|assumption|exact nb ‹_› ‹_›|exact nt ‹_› ‹_›))|assumption)
         rw [show stepX p ps x N = controlM x N by simp at *; simp [stepX, isArith, *]]
         refine ⟨rfl, vs, vl, ?_⟩
         (refine hsub_hm ?_ ?_ ?_ ?_ ?_ ?_<;>first|(intro x y h1 h2 h3 h;repeat first|exact h|refine hm_oldT h1 h2 h3 ?_|refine t_ne ‹_› ?_|refine t_fresh ‹_› ?_|refine t_B ?_)|(intro x y hx h;repeat first|exact h|refine hm_old hx ?_|refine g_ne hx ?_|refine g_ne (nb ‹_› h) ?_|refine g_fresh ‹_› ?_|refine g_T ?_)|(repeat' first|(apply Lk.go;constructor)|assumption|exact nb ‹_› ‹_›|exact nt ‹_› ‹_›|(apply Lm.go;constructor)))
         )
theorem p57 (xs : List Val) (hl : xs.length ≤ 1000) : PureM Try.prog 57 [.vs 3 (xs.map Val.row)] 70 3 (xs.map Val.row) := by
 refine pureM_intro mo Try.func57 c57 (by decide) fun H => ?_
 have tail : ∀ (env : Env), env.get 0 = .vs 3 (xs.map Val.row) → AM Try.prog r57 (fun o H' => HSub H H' ∧ ((∃ t ver, o = .ret (.ms t ver) ∧ H'.tok t = some (.mu 70 3 ver (xs.map Val.row)) ∧ H.tok t = none) ∨ (o = .ret .nilS ∧ xs.map Val.row = [])))
   [.c (.region [⟨some 5, none, .bsliceM 70 3 0 [.int .i64 0, .int .i64 0, .str []] []⟩, ⟨some 6, none, .mv (.t 0)⟩, ⟨some 7, none, .appendM 70 3 32 (.t 5) (.t 6)⟩, ⟨some 2, none, .mv (.t 7)⟩] false), .c .ret] env H := by
  intro env he
  unfold r57
  repeat' first|(apply Sp.go;·constructor<;>first|exact ss|(change _=_;first|(simp only[go_sem,Nat.reduceBEq,Nat.reduceAdd,Nat.reduceLeDiff,reduceIte]<;>rfl)|rfl)|exact Nat.le_of_ble_eq_true rfl|decide|(repeat' first|(apply Lk.go;constructor)|assumption|exact nb ‹_› ‹_›|exact nt ‹_› ‹_›))|(intro b hb;repeat first|(refine fe hb ?_;intro _ _ hb)|(refine fT hb ?_;intro hb))|refine rt ?_|refine gA rfl ?_|refine gB rfl ?_|apply cT rfl|apply cF rfl|(apply DM.gbT;rfl)|(apply DM.gbF;rfl)|intro h
  apply DM.bslM (rows := [])
  ·rfl
  ·rfl
  ·rfl
  ·decide
  intro t ht
  apply DM.p
  ·simp only [peval, EOpd.ev, Env.get, Nat.reduceBEq, cond_true, cond_false, beq_self_eq_true, he] <;> rfl
  apply DM.apM
  ·simp only [EOpd.ev, Env.get, Nat.reduceBEq, cond_true, cond_false, beq_self_eq_true] <;> rfl
  ·exact t_same
  ·simp only [rowsOf, reduceIte, if_true, eq_self, EOpd.ev, Env.get, Nat.reduceBEq, cond_true, cond_false, beq_self_eq_true] <;> rfl
  ·simp only [List.length_map, List.length_nil]; omega
  ·simp only [List.length_map, List.length_nil, maxLen]; omega
  rw [setT_setT]
  repeat' first|(apply Sp.go;·constructor<;>first|exact ss|(change _=_;first|(simp only[go_sem,Nat.reduceBEq,Nat.reduceAdd,Nat.reduceLeDiff,reduceIte]<;>rfl)|rfl)|exact Nat.le_of_ble_eq_true rfl|decide|(repeat' first|(apply Lk.go;constructor)|assumption|exact nb ‹_› ‹_›|exact nt ‹_› ‹_›))|(intro b hb;repeat first|(refine fe hb ?_;intro _ _ hb)|(refine fT hb ?_;intro hb))|refine rt ?_|refine gA rfl ?_|refine gB rfl ?_|apply cT rfl|apply cF rfl|(apply DM.gbT;rfl)|(apply DM.gbF;rfl)|intro h
  refine AM.ret (v := .ms t 1) (by simp only [Aw.results, ERes.ev, Env.get, Nat.reduceBEq, cond_true, cond_false, beq_self_eq_true]) ⟨HSub.setT (HSub.refl _) ht, .inl ⟨t, 1, rfl, t_same, ht⟩⟩
 unfold e57
 simp only [initEnv, initFrom]
 repeat' first|(apply Sp.go;·constructor<;>first|exact ss|(change _=_;first|(simp only[go_sem,Nat.reduceBEq,Nat.reduceAdd,Nat.reduceLeDiff,reduceIte]<;>rfl)|rfl)|exact Nat.le_of_ble_eq_true rfl|decide|(repeat' first|(apply Lk.go;constructor)|assumption|exact nb ‹_› ‹_›|exact nt ‹_› ‹_›))|(intro b hb;repeat first|(refine fe hb ?_;intro _ _ hb)|(refine fT hb ?_;intro hb))|refine rt ?_|refine gA rfl ?_|refine gB rfl ?_|apply cT rfl|apply cF rfl|(apply DM.gbT;rfl)|(apply DM.gbF;rfl)|intro h
 cases xs with
 | cons a xs =>
  apply DM.isF
  ·simp only [EOpd.ev, Env.get, Nat.reduceBEq, cond_true, cond_false, beq_self_eq_true] <;> rfl
  ·simp
  refine DM.nil ?_
  refine AM.condF ?_ ?_
  ·simp only [EOpd.ev, Env.get, Nat.reduceBEq, cond_true, cond_false, beq_self_eq_true]
  refine AM.skip ?_
  refine AM.seq ?_
  refine tail _ ?_
  simp only [Env.get, Nat.reduceBEq, cond_true, cond_false, beq_self_eq_true]
 | nil =>
  apply DM.isU
  ·simp only [EOpd.ev, Env.get, Nat.reduceBEq, cond_true, cond_false, beq_self_eq_true] <;> rfl
  intro b
  refine DM.nil ?_
  cases b with
  | true =>
   refine AM.condT ?_ ?_
   ·simp only [EOpd.ev, Env.get, Nat.reduceBEq, cond_true, cond_false, beq_self_eq_true]
   unfold r57
   repeat' first|(apply Sp.go;·constructor<;>first|exact ss|(change _=_;first|(simp only[go_sem,Nat.reduceBEq,Nat.reduceAdd,Nat.reduceLeDiff,reduceIte]<;>rfl)|rfl)|exact Nat.le_of_ble_eq_true rfl|decide|(repeat' first|(apply Lk.go;constructor)|assumption|exact nb ‹_› ‹_›|exact nt ‹_› ‹_›))|(intro b hb;repeat first|(refine fe hb ?_;intro _ _ hb)|(refine fT hb ?_;intro hb))|refine rt ?_|refine gA rfl ?_|refine gB rfl ?_|apply cT rfl|apply cF rfl|(apply DM.gbT;rfl)|(apply DM.gbF;rfl)|intro h
   exact AM.ret (v := .nilS) (by simp only [Aw.results, ERes.ev, Env.get, Nat.reduceBEq, cond_true, cond_false, beq_self_eq_true]) ⟨HSub.refl _, .inr ⟨rfl, rfl⟩⟩
  | false =>
   refine AM.condF ?_ ?_
   ·simp only [EOpd.ev, Env.get, Nat.reduceBEq, cond_true, cond_false, beq_self_eq_true]
   refine AM.skip ?_
   refine AM.seq ?_
   refine tail _ ?_
   simp only [Env.get, Nat.reduceBEq, cond_true, cond_false, beq_self_eq_true]
structure Res where
 stack : List Val
 vars : List Val
 used : Int
 err : Int
abbrev Res.av (r : Res) : AV := .tup [.agg [.vs 3 (r.stack.map Val.row), .vs 3 (r.vars.map Val.row), .int .i64 r.used], .int .i64 r.err]
def runF (p : Prog) (ps : List Val) : Nat → Mach → Nat → Res
 | fuel, M, used =>
  if M.dn then ⟨M.stack, M.vars, used, 0⟩
  else if (p.code.length : Int) ≤ M.pc then ⟨[], [], 0, 25⟩
  else match fuel with
   | 0 => ⟨[], [], 0, 26⟩
   | fuel + 1 => if (stepM p ps M).tr then ⟨[], [], 0, 25⟩ else runF p ps fuel (stepM p ps M) (used + 1)
def mach0 (vars : List Val) (entry : Int) : Mach := ⟨[], vars, [], entry, false, false⟩
def badArgs (p : Prog) (entry : Int) (vars ps : List Val) : Bool := !(soundP p vars) || decide (entry < 0) || decide ((p.code.length : Int) ≤ entry) || decide (4 < ps.length) || ps.any fun v => !(validV v)
def runP (p : Prog) (entry : Int) (vars ps : List Val) (steps : Int) : Res := if badArgs p entry vars ps then ⟨[], [], 0, 1⟩ else runF p ps steps.toNat (mach0 vars entry) 0
structure Inv (p : Prog) (M : Mach) : Prop where
 st : M.stack.length ≤ 16
 str : ∀ v ∈ M.stack, v.s.length ≤ 1000
 vstr : ∀ v ∈ M.vars, v.s.length ≤ 1000
 ll : M.loops.length ≤ 4
 vl : M.vars.length = p.vars.length
 p0 : 0 ≤ M.pc
 p1 : M.pc ≤ p.code.length
theorem push_inv {p : Prog} {M : Mach} {v : Val} (h : Inv p M) (hv : v.s.length ≤ 1000) : Inv p (push v M) := by
 unfold push
 split
 ·exact ⟨h.st, h.str, h.vstr, h.ll, h.vl, h.p0, h.p1⟩
 ·refine ⟨by simp; omega, fun u hu => ?_, h.vstr, h.ll, h.vl, h.p0, h.p1⟩
  simp only [List.mem_append, List.mem_singleton] at hu
  rcases hu with hu | rfl
  ·exact h.str u hu
  ·exact hv
theorem pop_inv {p : Prog} {M : Mach} {k : Int} (h : Inv p M) : Inv p (pop k M).2 ∧ (pop k M).1.s.length ≤ 1000 := by
 have hs := pop_s (k := k) h.str
 refine ⟨?_, hs.1⟩
 have h2 := hs.2
 unfold pop at h2 ⊢
 split at h2
 ·rw [if_pos (by assumption)]; exact ⟨h.st, h.str, h.vstr, h.ll, h.vl, h.p0, h.p1⟩
 ·rw [if_neg (by assumption)]; exact ⟨by simp; have := h.st; omega, h2, h.vstr, h.ll, h.vl, h.p0, h.p1⟩
theorem result_inv {p : Prog} {M : Mach} {n : Int} (h : Inv p M) : Inv p (result n M) := by
 unfold result
 split
 ·exact h
 ·exact push_inv h (by simp)
theorem texts_inv {p : Prog} {M : Mach} {op : Int} (h : Inv p M) : Inv p (textsM op M) := by
 unfold textsM
 split
 ·exact result_inv (pop_inv (pop_inv h).1).1
 ·split
  ·split
   ·exact (pop_inv (pop_inv h).1).1
   ·exact push_inv (pop_inv (pop_inv h).1).1 (by rw [List.length_take]; omega)
  ·split
   ·exact result_inv (pop_inv h).1
   ·exact h
theorem arith_inv {p : Prog} {M : Mach} {op : Int} (h : Inv p M) : Inv p (arithM op M) := result_inv (pop_inv (pop_inv h).1).1
theorem clamp_len {s : Sort_} {v : Val} (hv : v.s.length ≤ 1000) : (clampV s v).1.s.length ≤ 1000 := by
 unfold clampV
 split
 ·simp
 ·rename_i h1
  split
  ·simp
  ·split
   ·exact hv
   ·rename_i h2 h3
    simp only [Bool.not_eq_false, Bool.and_eq_true] at h1
    have hk : s.k = v.k := by simpa using h2
    have : s.lo ≤ 40 ∧ s.hi ≤ 40 := by
     have := h1.1
     simp [validS] at this
     rw [hk] at this
     omega
    simp only [clampText, List.length_append, List.length_take, List.length_replicate]
    omega
theorem store_inv {p : Prog} {M : Mach} {s : Sort_} {n : Nat} (h : Inv p M) : Inv p (storeM s n M) := by
 have h1 := pop_inv (k := s.k) h
 have hi := h1.1
 unfold storeM
 split
 ·exact hi
 ·split
  ·refine ⟨hi.st, hi.str, fun v hv => ?_, hi.ll, by simp; exact h.vl, hi.p0, hi.p1⟩
   rcases List.mem_or_eq_of_mem_set hv with hv | rfl
   ·exact h.vstr v hv
   ·exact clamp_len h1.2
  ·exact ⟨hi.st, hi.str, hi.vstr, hi.ll, hi.vl, hi.p0, hi.p1⟩
theorem jump_ok {p : Prog} {x : Ins_} (hv : validP p = true) (hx : x ∈ p.code) : okIns p x = true := by
 obtain ⟨i, hi⟩ := List.getElem?_of_mem hx
 have hlt := (List.getElem?_eq_some_iff.1 hi).1
 simp only [validP, Bool.and_eq_true] at hv
 have := hv.2
 simp only [allI, List.all_eq_true, List.mem_range] at this
 have := this i hlt
 simpa [okIx, hi] using this
theorem control_inv {p : Prog} {M : Mach} {x : Ins_} (hv : validP p = true) (hx : x ∈ p.code) (h : Inv p M) : Inv p (controlM x M) := by
 have hok := jump_ok hv hx
 have ht : x.op = 19 ∨ x.op = 20 ∨ x.op = 22 → 0 ≤ x.n ∧ x.n ≤ p.code.length := by
  intro hop
  simp only [okIns, Bool.and_eq_true] at hok
  have := hok.2
  rw [if_neg (by omega), if_pos hop] at this
  simp [Prog.target, inB] at this
  omega
 unfold controlM
 split
 ·have := ht (.inl (by assumption))
  exact ⟨h.st, h.str, h.vstr, h.ll, h.vl, this.1, this.2⟩
 ·split
  ·have := ht (.inr (.inl (by assumption)))
   have h1 := (pop_inv (k := 1) h).1
   split
   ·exact ⟨h1.st, h1.str, h1.vstr, h1.ll, h1.vl, this.1, this.2⟩
   ·exact h1
  ·split
   ·split
    ·exact ⟨h.st, h.str, h.vstr, h.ll, h.vl, h.p0, h.p1⟩
    ·exact ⟨h.st, h.str, h.vstr, by simp; omega, h.vl, h.p0, h.p1⟩
   ·split
    ·have := ht (.inr (.inr (by assumption)))
     split
     ·exact ⟨h.st, h.str, h.vstr, h.ll, h.vl, h.p0, h.p1⟩
     ·rename_i k hk
      have hne : M.loops.length ≠ 0 := fun e => by rw [List.eq_nil_of_length_eq_zero e] at hk; simp at hk
      have hll := h.ll
      split
      ·exact ⟨h.st, h.str, h.vstr, by simp; omega, h.vl, this.1, this.2⟩
      ·exact ⟨h.st, h.str, h.vstr, by simp; omega, h.vl, h.p0, h.p1⟩
    ·split
     ·split
      ·exact ⟨h.st, h.str, h.vstr, h.ll, h.vl, h.p0, h.p1⟩
      ·exact ⟨h.st, h.str, h.vstr, by simp; have := h.ll; omega, h.vl, h.p0, h.p1⟩
     ·split
      ·exact ⟨h.st, h.str, h.vstr, h.ll, h.vl, h.p0, h.p1⟩
      ·exact h
theorem code_len {p : Prog} (hv : validP p = true) : p.code.length ≤ 1000 := by
 simp [validP, inB] at hv
 omega
theorem insOk {p : Prog} {x : Ins_} (hv : validP p = true) (hx : x ∈ p.code) : InsOk p x := by
 have hok := jump_ok hv hx
 simp only [okIns, Bool.and_eq_true] at hok
 obtain ⟨h1, h2⟩ := hok
 refine ⟨fun hop => ?_, fun hop => ?_⟩
 ·rw [if_pos hop] at h2
  have : (numd x.op) = (0, 11, true) := by rcases hop with h | h <;> simp [numd, h]
  rw [formed, if_neg (by omega), this] at h1
  simp [inB] at h1 h2
  omega
 ·have : (numd x.op) = (0, 3, true) := by simp [numd, hop]
  rw [formed, if_neg (by omega), this] at h1
  simp [inB] at h1
  omega
theorem step_inv {p : Prog} {ps : List Val} {M : Mach} {i : Nat} {x : Ins_} (hv : validP p = true) (hp : ∀ v ∈ ps, v.s.length ≤ 1000) (h : Inv p M) (hi : M.pc = (i : Int)) (hx : p.code[i]? = some x) : Inv p (stepM p ps M) := by
 have hlt := (List.getElem?_eq_some_iff.1 hx).1
 have hcl := code_len hv
 have hm := List.mem_of_getElem? hx
 have hW : W (M.pc + 1) = M.pc + 1 := wrap64 (by omega) (by omega)
 have e0 : stepM p ps M = stepX p ps x { M with pc := W (M.pc + 1) } := by simp [stepM, hi, hx]
 rw [e0]
 have hN : Inv p { M with pc := W (M.pc + 1) } := ⟨h.st, h.str, h.vstr, h.ll, h.vl, by show 0 ≤ W _; rw [hW]; omega, by show W _ ≤ _; rw [hW]; omega⟩
 generalize hM : ({ M with pc := W (M.pc + 1) } : Mach) = N at *
 unfold stepX
 split
 ·exact push_inv hN (by simp)
 ·split
  ·refine push_inv hN ?_
   have := jump_ok hv hm
   simp only [okIns, Bool.and_eq_true] at this
   have := this.1
   rw [formed, if_pos (by assumption)] at this
   simp [validV] at this
   show x.s.length ≤ 1000
   omega
  ·split
   ·refine push_inv hN ?_
    cases hu : N.vars[x.n.toNat]? with
    | none => simp
    | some u => exact hN.vstr u (List.mem_of_getElem? hu)
   ·split
    ·split
     ·exact ⟨hN.st, hN.str, hN.vstr, hN.ll, hN.vl, hN.p0, hN.p1⟩
     ·rename_i u hu
      exact push_inv hN (hp u (List.mem_of_getElem? hu))
    ·split
     ·split
      ·exact hN
      ·exact store_inv hN
     ·split
      ·exact result_inv (pop_inv hN).1
      ·split
       ·exact result_inv (pop_inv hN).1
       ·split
        ·exact texts_inv hN
        ·split
         ·exact arith_inv hN
         ·exact control_inv hv hm hN
theorem valid_len {v : Val} (h : validV v = true) : v.s.length ≤ 1000 := by
 simp [validV] at h
 rcases h with h | h
 ·rw [h.2]; simp
 ·omega
theorem eqF_all {α β : Type} {q : α → β → Bool} {r : β → Prop} (hq : ∀ a b, q a b = true → r b) : ∀ {l : List α} {m : List β}, eqF q l m = true → l.length = m.length ∧ ∀ b ∈ m, r b
 | [], [], _ => by simp
 | [], _ :: _, h => by simp [eqF] at h
 | _ :: _, [], h => by simp [eqF] at h
 | a :: l, b :: m, h => by
  simp only [eqF, Bool.and_eq_true] at h
  obtain ⟨h1, h2⟩ := eqF_all hq h.2
  exact ⟨by simp [h1], fun c hc => by rcases List.mem_cons.1 hc with rfl | hc; exact hq a c h.1; exact h2 c hc⟩
theorem sound_len {p : Prog} {vars : List Val} (h : soundP p vars = true) : validP p = true ∧ vars.length = p.vars.length ∧ (∀ v ∈ vars, v.s.length ≤ 1000) ∧ vars.length ≤ 12 := by
 simp only [soundP, Bool.and_eq_true] at h
 obtain ⟨h1, h2⟩ := h
 obtain ⟨h3, h4⟩ := eqF_all (r := fun v : Val => v.s.length ≤ 1000) (fun a b hab => by
  simp only [fitsV, Bool.and_eq_true] at hab
  exact valid_len hab.1.1.1.2) h2
 refine ⟨h1, h3.symm, h4, ?_⟩
 simp [validP, varsOk] at h1
 omega
theorem errLe (e : Int) : AVLe (.tup [.agg [.nilS, .nilS, .int .i64 0], .int .i64 e]) (⟨[], [], 0, e⟩ : Res).av :=
 avle_tup (avles_cons (avle_agg (avles_cons AVLe.nil (avles_cons AVLe.nil (avles_cons (AVLe.refl _) avles_nil)))) (avles_cons (AVLe.refl _) avles_nil))
theorem AM.retF {P : Program} {rs : List ERes} {k : List Item} {env : Env} {H0 H : AHeap} {q r : AV} (hv : Aw.results rs env H = some q) (hs : HSub H0 H) (hf : Frz H H0 q r) : AM P rs (fun o H' => ∃ a, o = .ret a ∧ HSub H0 H' ∧ Frz H' H0 a r) (.c .ret :: k) env H :=
 AM.ret hv ⟨_, rfl, hs, hf⟩
theorem hm_sub {H H0 : AHeap} {ρ : Ref} {p : Prog} {ps : List Val} {M : Mach} {vs vl : Nat} (h : HSub H H0) (hb : H.blk ρ.b = none) (hs : H.tok ρ.ts = none) (hl : H.tok ρ.tl = none) (hv : H.tok ρ.tv = none) : HSub H (HM H0 ρ p ps M vs vl) where
 blk := fun x y hx => hm_old (fun e => by subst e; rw [hb] at hx; cases hx) (h.blk x y hx)
 tok := fun x y hx => hm_oldT (fun e => by subst e; rw [hs] at hx; cases hx) (fun e => by subst e; rw [hl] at hx; cases hx) (fun e => by subst e; rw [hv] at hx; cases hx) (h.tok x y hx)
theorem p26 (p : Prog) (entry : Int) (vars ps : List Val) (steps : Int) (hR : RepeatOk ∨ ∀ w ∈ p.vars, w.sort.k ≠ 2) (hst : steps ≤ 9223372036854775806) : Pure Try.prog 26 [p.av, .int .i64 entry, .vs 3 (vars.map Val.row), .vs 3 (ps.map Val.row), .int .i64 steps] (runP p entry vars ps steps).av := by
 refine pure_introF mo Try.func26 c26 fun H => ?_
 have bad : badArgs p entry vars ps = true → AVLe (.tup [.agg [.nilS, .nilS, .int .i64 0], .int .i64 1]) (runP p entry vars ps steps).av := fun h => by
  rw [runP, if_pos h]; exact errLe 1
 unfold e26 r26
 simp only [initEnv, initFrom]
 repeat' first|(apply Sp.go;·constructor<;>first|exact ss|(change _=_;first|(simp only[go_sem,Nat.reduceBEq,Nat.reduceAdd,Nat.reduceLeDiff,reduceIte]<;>rfl)|rfl)|exact Nat.le_of_ble_eq_true rfl|decide|(repeat' first|(apply Lk.go;constructor)|assumption|exact nb ‹_› ‹_›|exact nt ‹_› ‹_›))|(intro b hb;repeat first|(refine fe hb ?_;intro _ _ hb)|(refine fT hb ?_;intro hb))|refine gA rfl ?_|refine gB rfl ?_|apply cT rfl|apply cF rfl|(apply DM.gbT;rfl)|(apply DM.gbF;rfl)|intro h
 rename_i bp hbp hbr0 nrp npr
 rename Nat => br
 (apply DM.pcs (p28 p vars); (· simp only [go_sem, Nat.reduceBEq, Nat.reduceAdd] <;> rfl); (· exact AVLes.refl _))
 repeat' first|(apply Sp.go;·constructor<;>first|exact ss|(change _=_;first|(simp only[go_sem,Nat.reduceBEq,Nat.reduceAdd,Nat.reduceLeDiff,reduceIte]<;>rfl)|rfl)|exact Nat.le_of_ble_eq_true rfl|decide|(repeat' first|(apply Lk.go;constructor)|assumption|exact nb ‹_› ‹_›|exact nt ‹_› ‹_›))|(intro b hb;repeat first|(refine fe hb ?_;intro _ _ hb)|(refine fT hb ?_;intro hb))|refine gA rfl ?_|refine gB rfl ?_|apply cT rfl|apply cF rfl|(apply DM.gbT;rfl)|(apply DM.gbF;rfl)|intro h
 ·(apply DM.pcs (p56 ps); (· simp only [go_sem, Nat.reduceBEq, Nat.reduceAdd] <;> rfl); (· exact AVLes.refl _))
  repeat' first|(apply Sp.go;·constructor<;>first|exact ss|(change _=_;first|(simp only[go_sem,Nat.reduceBEq,Nat.reduceAdd,Nat.reduceLeDiff,reduceIte]<;>rfl)|rfl)|exact Nat.le_of_ble_eq_true rfl|decide|(repeat' first|(apply Lk.go;constructor)|assumption|exact nb ‹_› ‹_›|exact nt ‹_› ‹_›))|(intro b hb;repeat first|(refine fe hb ?_;intro _ _ hb)|(refine fT hb ?_;intro hb))|refine gA rfl ?_|refine gB rfl ?_|apply cT rfl|apply cF rfl|(apply DM.gbT;rfl)|(apply DM.gbF;rfl)|intro h
  (apply AM.cond; (· rfl))
  ·intro h
   repeat' first|(apply Sp.go;·constructor<;>first|exact ss|(change _=_;first|(simp only[go_sem,Nat.reduceBEq,Nat.reduceAdd,Nat.reduceLeDiff,reduceIte]<;>rfl)|rfl)|exact Nat.le_of_ble_eq_true rfl|decide|(repeat' first|(apply Lk.go;constructor)|assumption|exact nb ‹_› ‹_›|exact nt ‹_› ‹_›))|(intro b hb;repeat first|(refine fe hb ?_;intro _ _ hb)|(refine fT hb ?_;intro hb))|refine gA rfl ?_|refine gB rfl ?_|apply cT rfl|apply cF rfl|(apply DM.gbT;rfl)|(apply DM.gbF;rfl)|intro h
   (apply AM.retF; (· apply Lk.go;constructor<;>first|exact ss|(change _=_;first|(simp only[go_sem,Nat.reduceBEq,Nat.reduceAdd,Nat.reduceLeDiff,reduceIte]<;>rfl)|rfl)|exact Nat.le_of_ble_eq_true rfl|decide|(repeat' first|(apply Lk.go;constructor)|assumption|exact nb ‹_› ‹_›|exact nt ‹_› ‹_›)); (· (repeat' first|assumption|(apply Lk.go;constructor))))
   refine Frz.le ?_ (bad (by simp at *; simp [badArgs, *]))
   (repeat' first|assumption|(apply Lk.go;constructor))
  ·intro h
   have hgood : badArgs p entry vars ps = false := by simp at *; simp [badArgs, *]; exact ⟨by omega, by assumption⟩
   have hsd : soundP p vars = true := by simp [badArgs] at hgood; exact hgood.1.1.1.1
   obtain ⟨hvp, hvl, hvs, hv12⟩ := sound_len hsd
   have hent : 0 ≤ entry ∧ entry < p.code.length := by simp [badArgs] at hgood; omega
   have hps : ∀ v ∈ ps, v.s.length ≤ 1000 := fun v hv => valid_len (by simp [badArgs] at hgood; exact hgood.2 v hv)
   have hrun : runP p entry vars ps steps = runF p ps steps.toNat (mach0 vars entry) 0 := by rw [runP, hgood]; rfl
   rw [hrun]
   repeat' first|(apply Sp.go;·constructor<;>first|exact ss|(change _=_;first|(simp only[go_sem,Nat.reduceBEq,Nat.reduceAdd,Nat.reduceLeDiff,reduceIte]<;>rfl)|rfl)|exact Nat.le_of_ble_eq_true rfl|decide|(repeat' first|(apply Lk.go;constructor)|assumption|exact nb ‹_› ‹_›|exact nt ‹_› ‹_›))|(intro b hb;repeat first|(refine fe hb ?_;intro _ _ hb)|(refine fT hb ?_;intro hb))|refine gA rfl ?_|refine gB rfl ?_|apply cT rfl|apply cF rfl|(apply DM.gbT;rfl)|(apply DM.gbF;rfl)|intro h
   (refine AM.reg [.vs 3 (vars.map Val.row)] ?_; simp only [annotate, AV.rows])
   repeat' first|(apply Sp.go;·constructor<;>first|exact ss|(change _=_;first|(simp only[go_sem,Nat.reduceBEq,Nat.reduceAdd,Nat.reduceLeDiff,reduceIte]<;>rfl)|rfl)|exact Nat.le_of_ble_eq_true rfl|decide|(repeat' first|(apply Lk.go;constructor)|assumption|exact nb ‹_› ‹_›|exact nt ‹_› ‹_›|(apply Lm.go;constructor)))|(intro b hb;repeat first|(refine fe hb ?_;intro _ _ hb)|(refine fT hb ?_;intro hb)|(refine fresh_elimM hb ?_;intro _ _ hb))|refine rt ?_|refine gA rfl ?_|refine gB rfl ?_|apply cT rfl|apply cF rfl|(apply DM.gbT;rfl)|(apply DM.gbF;rfl)|intro h
   apply DM.pcm (p57 vars (by omega))
   ·simp only [List.map_cons, List.map_nil, EOpd.ev, Env.get, Nat.reduceBEq, cond_true, cond_false, beq_self_eq_true] <;> rfl
   ·exact AVLes.refl _
   intro tv htv
   repeat' first|(apply Sp.go;·constructor<;>first|exact ss|(change _=_;first|(simp only[go_sem,Nat.reduceBEq,Nat.reduceAdd,Nat.reduceLeDiff,reduceIte]<;>rfl)|rfl)|exact Nat.le_of_ble_eq_true rfl|decide|(repeat' first|(apply Lk.go;constructor)|assumption|exact nb ‹_› ‹_›|exact nt ‹_› ‹_›|(apply Lm.go;constructor)))|(intro b hb;repeat first|(refine fe hb ?_;intro _ _ hb)|(refine fT hb ?_;intro hb)|(refine fresh_elimM hb ?_;intro _ _ hb))|refine rt ?_|refine gA rfl ?_|refine gB rfl ?_|apply cT rfl|apply cF rfl|(apply DM.gbT;rfl)|(apply DM.gbF;rfl)|intro h
   rename Nat => b
   apply AM.ghostB b 8 70 3 (by decide)
   ·(· repeat' first|(apply Lk.go;constructor)|assumption|exact nb ‹_› ‹_›|exact nt ‹_› ‹_›|(apply Lm.go;constructor))
   ·rfl
   intro ts hts
   apply AM.ghostB b 9 3 1 (by decide)
   ·(· repeat' first|(apply Lk.go;constructor)|assumption|exact nb ‹_› ‹_›|exact nt ‹_› ‹_›|(apply Lm.go;constructor))
   ·rfl
   intro tl htl
   have htv' : H.tok tv = none := freshT_setB (freshT_setB htv)
   obtain ⟨nsv, nvs, q1⟩ := freshT_setT (freshT_setB hts)
   have hts' : H.tok ts = none := freshT_setB (freshT_setB q1)
   obtain ⟨nls, nsl, q2⟩ := freshT_setT (freshT_setB htl)
   obtain ⟨nlv, nvl, q3⟩ := freshT_setT (freshT_setB q2)
   have htl' : H.tok tl = none := freshT_setB (freshT_setB q3)
   have d : (⟨b, tv, ts, tl⟩ : Ref).Ok := ⟨nvs, nvl, nls⟩
   have hsub0 : HSub H ((H.setB bp 41 p.cells).setB br 60 [.nilS, .nilS, .int .i64 0]) := HSub.setB (HSub.setB (HSub.refl _) hbp) (by assumption)
   have hbb : ((H.setB bp 41 p.cells).setB br 60 [.nilS, .nilS, .int .i64 0]).blk b = none := by assumption
   have hbr : ((H.setB bp 41 p.cells).setB br 60 [.nilS, .nilS, .int .i64 0]).blk br = some (60, [.nilS, .nilS, .int .i64 0]) := g_same
   have hbpp : ((H.setB bp 41 p.cells).setB br 60 [.nilS, .nilS, .int .i64 0]).blk bp = some (41, p.cells) := g_ne npr g_same
   have hbrn : H.blk br = none := by assumption
   have nbr : br ≠ b := by assumption
   have nbp : bp ≠ b := by assumption
   refine AM.forget (HM ((H.setB bp 41 p.cells).setB br 60 [.nilS, .nilS, .int .i64 0]) ⟨b, tv, ts, tl⟩ p ps (mach0 vars entry) 0 0) ?_ ?_
   ·(refine hsub_hm ?_ ?_ ?_ ?_ ?_ ?_<;>first|(intro x y h1 h2 h3 h;repeat first|exact h|refine hm_oldT h1 h2 h3 ?_|refine t_ne ‹_› ?_|refine t_fresh ‹_› ?_|refine t_B ?_)|(intro x y hx h;repeat first|exact h|refine hm_old hx ?_|refine g_ne hx ?_|refine g_ne (nb ‹_› h) ?_|refine g_fresh ‹_› ?_|refine g_T ?_)|(repeat' first|(apply Lk.go;constructor)|assumption|exact nb ‹_› ‹_›|exact nt ‹_› ‹_›|(apply Lm.go;constructor)))
   generalize ((H.setB bp 41 p.cells).setB br 60 [.nilS, .nilS, .int .i64 0]) = H0 at hsub0 hbb hbr hbpp
   have inv0 : Inv p (mach0 vars entry) := ⟨by simp [mach0], by simp [mach0], hvs, by simp [mach0], hvl, hent.1, by show entry ≤ _; omega⟩
   clear hts q1 htl q2 q3 htv
   refine AM.loopX (X := Mach × Nat) (mach0 vars entry, 0) (fun x => [(4, .int .i64 steps), (5, .ptr bp 0), (10, .ptr br 0), (13, .ptr b 0), (14, .int .i64 (x.2 : Int))]) (fun x H' => MS H0 ⟨b, tv, ts, tl⟩ p ps x.1 H' ∧ Inv p x.1 ∧ x.2 ≤ steps.toNat ∧ runF p ps steps.toNat (mach0 vars entry) 0 = runF p ps (steps.toNat - x.2) x.1 x.2) (fun x => steps.toNat - x.2) ⟨⟨0, 0, rfl⟩, inv0, Nat.zero_le _, rfl⟩ ?_ ?_
   ·(repeat first | exact envle_nil _ | (refine envle_cons ?_ ?_; · (simp only [go_sem, Nat.reduceBEq, Nat.reduceAdd]; exact AVLe.refl _)))
   ·rintro ⟨M, used⟩ H' ⟨⟨vs, vl, rfl⟩, hinv, hu, he⟩
    simp only at hinv hu he ⊢
    rw [he]
    repeat' first|(apply Sp.go;·constructor<;>first|exact ss|(change _=_;first|(simp only[go_sem,Nat.reduceBEq,Nat.reduceAdd,Nat.reduceLeDiff,reduceIte]<;>rfl)|rfl)|exact Nat.le_of_ble_eq_true rfl|decide|(repeat' first|(apply Lk.go;constructor)|assumption|exact nb ‹_› ‹_›|exact nt ‹_› ‹_›|(apply Lm.go;constructor)))|(intro b hb;repeat first|(refine fe hb ?_;intro _ _ hb)|(refine fT hb ?_;intro hb)|(refine fresh_elimM hb ?_;intro _ _ hb))|refine rt ?_|refine gA rfl ?_|refine gB rfl ?_|apply cT rfl|apply cF rfl|(apply DM.gbT;rfl)|(apply DM.gbF;rfl)|intro h
    (apply AM.cond; (· rfl))
    ·intro hd
     simp at hd
     repeat' first|(apply Sp.go;·constructor<;>first|exact ss|(change _=_;first|(simp only[go_sem,Nat.reduceBEq,Nat.reduceAdd,Nat.reduceLeDiff,reduceIte]<;>rfl)|rfl)|exact Nat.le_of_ble_eq_true rfl|decide|(repeat' first|(apply Lk.go;constructor)|assumption|exact nb ‹_› ‹_›|exact nt ‹_› ‹_›|(apply Lm.go;constructor)))|(intro b hb;repeat first|(refine fe hb ?_;intro _ _ hb)|(refine fT hb ?_;intro hb)|(refine fresh_elimM hb ?_;intro _ _ hb))|refine rt ?_|refine gA rfl ?_|refine gB rfl ?_|apply cT rfl|apply cF rfl|(apply DM.gbT;rfl)|(apply DM.gbF;rfl)|intro h
     (apply AM.cond; (· rfl))
     ·intro h2
      simp at h2
      repeat' first|(apply Sp.go;·constructor<;>first|exact ss|(change _=_;first|(simp only[go_sem,Nat.reduceBEq,Nat.reduceAdd,Nat.reduceLeDiff,reduceIte]<;>rfl)|rfl)|exact Nat.le_of_ble_eq_true rfl|decide|(repeat' first|(apply Lk.go;constructor)|assumption|exact nb ‹_› ‹_›|exact nt ‹_› ‹_›|(apply Lm.go;constructor)))|(intro b hb;repeat first|(refine fe hb ?_;intro _ _ hb)|(refine fT hb ?_;intro hb)|(refine fresh_elimM hb ?_;intro _ _ hb))|refine rt ?_|refine gA rfl ?_|refine gB rfl ?_|apply cT rfl|apply cF rfl|(apply DM.gbT;rfl)|(apply DM.gbF;rfl)|intro h
      (apply AM.retF; (· apply Lk.go;constructor<;>first|exact ss|(change _=_;first|(simp only[go_sem,Nat.reduceBEq,Nat.reduceAdd,Nat.reduceLeDiff,reduceIte]<;>rfl)|rfl)|exact Nat.le_of_ble_eq_true rfl|decide|(repeat' first|(apply Lk.go;constructor)|assumption|exact nb ‹_› ‹_›|exact nt ‹_› ‹_›|(apply Lm.go;constructor))); (· (repeat' first|assumption|refine hm_sub ?_ ‹_› ‹_› ‹_› ‹_›|(apply Lk.go;constructor))))
      have e : runF p ps (steps.toNat - used) M used = ⟨[], [], 0, 25⟩ := by rw [runF.eq_def]; simp [hd, h2]
      rw [e]
      refine Frz.le ?_ (errLe 25)
      (repeat' first|assumption|refine hm_sub ?_ ‹_› ‹_› ‹_› ‹_›|(apply Lk.go;constructor))
     ·intro h2
      simp at h2
      repeat' first|(apply Sp.go;·constructor<;>first|exact ss|(change _=_;first|(simp only[go_sem,Nat.reduceBEq,Nat.reduceAdd,Nat.reduceLeDiff,reduceIte]<;>rfl)|rfl)|exact Nat.le_of_ble_eq_true rfl|decide|(repeat' first|(apply Lk.go;constructor)|assumption|exact nb ‹_› ‹_›|exact nt ‹_› ‹_›|(apply Lm.go;constructor)))|(intro b hb;repeat first|(refine fe hb ?_;intro _ _ hb)|(refine fT hb ?_;intro hb)|(refine fresh_elimM hb ?_;intro _ _ hb))|refine rt ?_|refine gA rfl ?_|refine gB rfl ?_|apply cT rfl|apply cF rfl|(apply DM.gbT;rfl)|(apply DM.gbF;rfl)|intro h
      (apply AM.cond; (· rfl))
      ·intro h3
       simp at h3
       repeat' first|(apply Sp.go;·constructor<;>first|exact ss|(change _=_;first|(simp only[go_sem,Nat.reduceBEq,Nat.reduceAdd,Nat.reduceLeDiff,reduceIte]<;>rfl)|rfl)|exact Nat.le_of_ble_eq_true rfl|decide|(repeat' first|(apply Lk.go;constructor)|assumption|exact nb ‹_› ‹_›|exact nt ‹_› ‹_›|(apply Lm.go;constructor)))|(intro b hb;repeat first|(refine fe hb ?_;intro _ _ hb)|(refine fT hb ?_;intro hb)|(refine fresh_elimM hb ?_;intro _ _ hb))|refine rt ?_|refine gA rfl ?_|refine gB rfl ?_|apply cT rfl|apply cF rfl|(apply DM.gbT;rfl)|(apply DM.gbF;rfl)|intro h
       (apply AM.retF; (· apply Lk.go;constructor<;>first|exact ss|(change _=_;first|(simp only[go_sem,Nat.reduceBEq,Nat.reduceAdd,Nat.reduceLeDiff,reduceIte]<;>rfl)|rfl)|exact Nat.le_of_ble_eq_true rfl|decide|(repeat' first|(apply Lk.go;constructor)|assumption|exact nb ‹_› ‹_›|exact nt ‹_› ‹_›|(apply Lm.go;constructor))); (· (repeat' first|assumption|refine hm_sub ?_ ‹_› ‹_› ‹_› ‹_›|(apply Lk.go;constructor))))
       have e : runF p ps (steps.toNat - used) M used = ⟨[], [], 0, 26⟩ := by
        rw [show steps.toNat - used = 0 by omega, runF.eq_def]; simp [hd]; omega
       rw [e]
       refine Frz.le ?_ (errLe 26)
       (repeat' first|assumption|refine hm_sub ?_ ‹_› ‹_› ‹_› ‹_›|(apply Lk.go;constructor))
      ·intro h3
       simp at h3
       obtain ⟨i, hi⟩ : ∃ i : Nat, M.pc = (i : Int) := ⟨M.pc.toNat, by have := hinv.p0; omega⟩
       obtain ⟨x, hx⟩ := some_of (show i < p.code.length by omega)
       have g : Good p M := ⟨hinv.st, hinv.str, by have := hinv.ll; unfold maxLen; omega, hinv.vl⟩
       obtain ⟨k, hk⟩ : ∃ k, steps.toNat - used = k + 1 := ⟨steps.toNat - used - 1, by omega⟩
       have hstep : runF p ps (steps.toNat - used) M used = if (stepM p ps M).tr then ⟨[], [], 0, 25⟩ else runF p ps k (stepM p ps M) (used + 1) := by
        rw [hk, runF.eq_def]; simp only [hd]; rw [if_neg (by simp), if_neg (by omega)]
       repeat' first|(apply Sp.go;·constructor<;>first|exact ss|(change _=_;first|(simp only[go_sem,Nat.reduceBEq,Nat.reduceAdd,Nat.reduceLeDiff,reduceIte]<;>rfl)|rfl)|exact Nat.le_of_ble_eq_true rfl|decide|(repeat' first|(apply Lk.go;constructor)|assumption|exact nb ‹_› ‹_›|exact nt ‹_› ‹_›|(apply Lm.go;constructor)))|(intro b hb;repeat first|(refine fe hb ?_;intro _ _ hb)|(refine fT hb ?_;intro hb)|(refine fresh_elimM hb ?_;intro _ _ hb))|refine rt ?_|refine gA rfl ?_|refine gB rfl ?_|apply cT rfl|apply cF rfl|(apply DM.gbT;rfl)|(apply DM.gbF;rfl)|((apply DM.cal (p58 H0 ⟨b, tv, ts, tl⟩ d p ps M g hR i hi x hx (insOk hvp (List.mem_of_getElem? hx)) _ ⟨_, _, rfl⟩); (· simp only [go_sem, Nat.reduceBEq, Nat.reduceAdd] <;> rfl); (· exact AVLes.refl _)); rintro r H1 ⟨rfl, vs, vl, rfl⟩; simp only [put_some])|intro h
       (apply AM.cond; (· rfl))
       ·intro h4
        repeat' first|(apply Sp.go;·constructor<;>first|exact ss|(change _=_;first|(simp only[go_sem,Nat.reduceBEq,Nat.reduceAdd,Nat.reduceLeDiff,reduceIte]<;>rfl)|rfl)|exact Nat.le_of_ble_eq_true rfl|decide|(repeat' first|(apply Lk.go;constructor)|assumption|exact nb ‹_› ‹_›|exact nt ‹_› ‹_›|(apply Lm.go;constructor)))|(intro b hb;repeat first|(refine fe hb ?_;intro _ _ hb)|(refine fT hb ?_;intro hb)|(refine fresh_elimM hb ?_;intro _ _ hb))|refine rt ?_|refine gA rfl ?_|refine gB rfl ?_|apply cT rfl|apply cF rfl|(apply DM.gbT;rfl)|(apply DM.gbF;rfl)|intro h
        (apply AM.retF; (· apply Lk.go;constructor<;>first|exact ss|(change _=_;first|(simp only[go_sem,Nat.reduceBEq,Nat.reduceAdd,Nat.reduceLeDiff,reduceIte]<;>rfl)|rfl)|exact Nat.le_of_ble_eq_true rfl|decide|(repeat' first|(apply Lk.go;constructor)|assumption|exact nb ‹_› ‹_›|exact nt ‹_› ‹_›|(apply Lm.go;constructor))); (· (repeat' first|assumption|refine hm_sub ?_ ‹_› ‹_› ‹_› ‹_›|(apply Lk.go;constructor))))
        rw [hstep, if_pos h4]
        refine Frz.le ?_ (errLe 25)
        (repeat' first|assumption|refine hm_sub ?_ ‹_› ‹_› ‹_› ‹_›|(apply Lk.go;constructor))
       ·intro h4
        repeat' first|(apply Sp.go;·constructor<;>first|exact ss|(change _=_;first|(simp only[go_sem,Nat.reduceBEq,Nat.reduceAdd,Nat.reduceLeDiff,reduceIte]<;>rfl)|rfl)|exact Nat.le_of_ble_eq_true rfl|decide|(repeat' first|(apply Lk.go;constructor)|assumption|exact nb ‹_› ‹_›|exact nt ‹_› ‹_›|(apply Lm.go;constructor)))|(intro b hb;repeat first|(refine fe hb ?_;intro _ _ hb)|(refine fT hb ?_;intro hb)|(refine fresh_elimM hb ?_;intro _ _ hb))|refine rt ?_|refine gA rfl ?_|refine gB rfl ?_|apply cT rfl|apply cF rfl|(apply DM.gbT;rfl)|(apply DM.gbF;rfl)|intro h
        rw [← he]
        refine AM.roundX (stepM p ps M, used + 1) ⟨⟨vs, vl, rfl⟩, step_inv hvp hps hinv hi hx, by show used + 1 ≤ _; omega, ?_⟩ ?_ ?_
        ·show _ = runF p ps (steps.toNat - (used + 1)) (stepM p ps M) (used + 1)
         rw [he, hstep, if_neg (by rw [h4]; simp), show steps.toNat - (used + 1) = k by omega]
        ·(repeat first | exact envle_nil _ | (refine envle_cons ?_ ?_; · (simp only [go_sem, Nat.reduceBEq, Nat.reduceAdd]; exact AVLe.refl _)))
         refine envle_cons ?_ (envle_nil _)
         simp only [EOpd.ev, Env.get, Nat.reduceBEq, cond_true, cond_false, beq_self_eq_true, Nat.zero_add, Nat.add_zero, Nat.reduceAdd]
         refine avle_int ?_
         rw [inc64 (show used < steps.toNat by omega) (by unfold maxLen; omega)]
        ·show steps.toNat - (used + 1) < steps.toNat - used
         omega
    ·intro hd
     simp at hd
     have e : runF p ps (steps.toNat - used) M used = ⟨M.stack, M.vars, used, 0⟩ := by rw [runF.eq_def]; simp [hd]
     rw [e]
     repeat' first|(apply Sp.go;·constructor<;>first|exact ss|(change _=_;first|(simp only[go_sem,Nat.reduceBEq,Nat.reduceAdd,Nat.reduceLeDiff,reduceIte]<;>rfl)|rfl)|exact Nat.le_of_ble_eq_true rfl|decide|(repeat' first|(apply Lk.go;constructor)|assumption|exact nb ‹_› ‹_›|exact nt ‹_› ‹_›|(apply Lm.go;constructor)))|(intro b hb;repeat first|(refine fe hb ?_;intro _ _ hb)|(refine fT hb ?_;intro hb)|(refine fresh_elimM hb ?_;intro _ _ hb))|refine rt ?_|refine gA rfl ?_|refine gB rfl ?_|apply cT rfl|apply cF rfl|(apply DM.gbT;rfl)|(apply DM.gbF;rfl)|intro h
     (apply AM.retF; (· apply Lk.go;constructor<;>first|exact ss|(change _=_;first|(simp only[go_sem,Nat.reduceBEq,Nat.reduceAdd,Nat.reduceLeDiff,reduceIte]<;>rfl)|rfl)|exact Nat.le_of_ble_eq_true rfl|decide|(repeat' first|(apply Lk.go;constructor)|assumption|exact nb ‹_› ‹_›|exact nt ‹_› ‹_›|(apply Lm.go;constructor))); (· (repeat' first|assumption|refine hm_sub ?_ ‹_› ‹_› ‹_› ‹_›|(apply Lk.go;constructor))))
     have hs2 : ∀ c, HSub H ((HM H0 ⟨b, tv, ts, tl⟩ p ps M vs vl).setB br 60 c) := by
      intro c
      (repeat' first|assumption|refine hm_sub ?_ ‹_› ‹_› ‹_› ‹_›|(apply Lk.go;constructor))
     exact Frz.tup (FrzL.cons (Frz.agg (FrzL.cons (Frz.ms (hs2 _) (t_B hm_ts) hts') (FrzL.cons (Frz.ms (hs2 _) (t_B (hm_tv d)) htv') (FrzL.cons (Frz.same (hs2 _)) FrzL.nil)))) (FrzL.cons (Frz.same (hs2 _)) FrzL.nil))
 all_goals ((apply AM.retF; (· apply Lk.go;constructor<;>first|exact ss|(change _=_;first|(simp only[go_sem,Nat.reduceBEq,Nat.reduceAdd,Nat.reduceLeDiff,reduceIte]<;>rfl)|rfl)|exact Nat.le_of_ble_eq_true rfl|decide|(repeat' first|(apply Lk.go;constructor)|assumption|exact nb ‹_› ‹_›|exact nt ‹_› ‹_›)); (· (repeat' first|assumption|(apply Lk.go;constructor)))))
 all_goals refine Frz.le ?_ (bad (by simp at *; simp [badArgs, *]; try omega))
 all_goals ((repeat' first|assumption|(apply Lk.go;constructor)))
end Go.Aw.T
namespace Go.Aw.T
open Go Go.Aw Go.Proofs Go.RowKit
set_option maxRecDepth 100000
attribute [local irreducible] Go.Aw.DM Go.Aw.AHeap.setB Go.Aw.AHeap.setT
attribute [local go_sem] peval EOpd.ev Env.get binInt binStr binBool buildParts AV.cells AV.okc setRange minmaxAV AV.one AV.ofCells eqCells eqCell bslRows cond_true cond_false beq_self_eq_true Bool.not_true Bool.not_false beq_true beq_false eq_self if_true Option.some.injEq List.length_cons List.length_nil List.take_succ_cons List.take_zero List.drop_succ_cons List.drop_zero List.set_cons_succ List.set_cons_zero List.nil_append List.cons_append List.append_nil and_self Option.map_some List.map_cons List.map_nil Bool.false_eq_true if_false Nat.zero_add Nat.add_zero true_and and_true Bool.and_true Bool.true_and List.getElem?_cons_zero List.getElem?_cons_succ Nat.zero_le Nat.le_refl
set_option linter.unusedSimpArgs false
set_option linter.unusedVariables false
theorem runF_go {p : Prog} {ps : List Val} {M : Mach} {k u : Nat} (hd : M.dn = false) (hpc : M.pc < p.code.length) (hs : (stepM p ps M).tr = false) : runF p ps (k + 1) M u = runF p ps k (stepM p ps M) (u + 1) := by
 rw [runF.eq_def]
 simp only [hd]
 rw [if_neg (by simp), if_neg (by omega), if_neg (by rw [hs]; simp)]
theorem runF_done {p : Prog} {ps : List Val} {M : Mach} {k u : Nat} (hd : M.dn = true) : runF p ps k M u = ⟨M.stack, M.vars, u, 0⟩ := by
 rw [runF.eq_def]
 simp only [hd, if_true]
abbrev tv (s : List UInt8) : Val := ⟨2, 0, s⟩
theorem runF_trap {p : Prog} {ps : List Val} {M : Mach} {k u : Nat} (hd : M.dn = false) (hpc : M.pc < p.code.length) (hs : (stepM p ps M).tr = true) : runF p ps (k + 1) M u = ⟨[], [], 0, 25⟩ := by
 rw [runF.eq_def]
 simp only [hd]
 rw [if_neg (by simp), if_neg (by omega), if_pos hs]
end Go.Aw.T
namespace Go.Aw.T
open Go Go.Aw Go.Proofs Go.RowKit
set_option maxRecDepth 100000
attribute [local irreducible] Go.Aw.DM Go.Aw.AHeap.setB Go.Aw.AHeap.setT
attribute [local go_sem] peval EOpd.ev Env.get binInt binStr binBool buildParts AV.cells AV.okc setRange minmaxAV AV.one AV.ofCells eqCells eqCell bslRows cond_true cond_false beq_self_eq_true Bool.not_true Bool.not_false beq_true beq_false eq_self if_true Option.some.injEq List.length_cons List.length_nil List.take_succ_cons List.take_zero List.drop_succ_cons List.drop_zero List.set_cons_succ List.set_cons_zero List.nil_append List.cons_append List.append_nil and_self Option.map_some List.map_cons List.map_nil Bool.false_eq_true if_false Nat.zero_add Nat.add_zero true_and and_true Bool.and_true Bool.true_and List.getElem?_cons_zero List.getElem?_cons_succ Nat.zero_le Nat.le_refl
set_option linter.unusedSimpArgs false
set_option linter.unusedVariables false
def fewP (p : Prog) : Bool := p.code.all (fun x => decide (x.s.length ≤ 100)) && p.vars.all (fun v => decide (v.name.length ≤ 100) && decide (v.init.s.length ≤ 100)) && decide (p.name.length ≤ 100) && decide (p.vars.length ≤ 20) && decide (p.hs.length ≤ 60) && decide (p.os.length ≤ 60) && decide (p.code.length ≤ 300)
theorem p16 (p : Prog) : Pure Try.prog 16 [p.av] (.bool (fewP p)) := by
 refine ok_args fun ok => ?_
 refine pure_intro mo Try.func16 c16 fun H => ?_
 unfold e16 r16
 simp only [initEnv, initFrom]
 repeat' first|(apply Sp.go;·constructor<;>first|exact ss|(change _=_;first|(simp only[go_sem,Nat.reduceBEq,Nat.reduceAdd,Nat.reduceLeDiff,reduceIte]<;>rfl)|rfl)|exact Nat.le_of_ble_eq_true rfl|decide|(repeat' first|(apply Lk.go;constructor)|assumption|exact nb ‹_› ‹_›|exact nt ‹_› ‹_›))|(intro b hb;repeat first|(refine fe hb ?_;intro _ _ hb)|(refine fT hb ?_;intro hb))|refine rt ?_|refine gA rfl ?_|refine gB rfl ?_|apply cT rfl|apply cF rfl|(apply DM.gbT;rfl)|(apply DM.gbF;rfl)|intro h
 rename Nat => b1
 refine AM.loopX (X := Nat) 0 (fun i => [(1, .ptr b1 0), (3, .int .i64 (i : Int))]) (fun i H' => H' = H.setB b1 27 p.cells ∧ i ≤ p.code.length ∧ p.code.all (fun x => decide (x.s.length ≤ 100)) = (p.code.drop i).all (fun x => decide (x.s.length ≤ 100))) (fun i => p.code.length - i) ⟨rfl, by omega, by simp⟩ ?_ ?_
 ·(repeat first | exact envle_nil _ | (refine envle_cons ?_ ?_; · (simp only [go_sem, Nat.reduceBEq, Nat.reduceAdd]; exact AVLe.refl _)))
 rintro i H' ⟨rfl, hi, he⟩
 repeat' first|(apply Sp.go;·constructor<;>first|exact ss|(change _=_;first|(simp only[go_sem,Nat.reduceBEq,Nat.reduceAdd,Nat.reduceLeDiff,reduceIte]<;>rfl)|rfl)|exact Nat.le_of_ble_eq_true rfl|decide|(repeat' first|(apply Lk.go;constructor)|assumption|exact nb ‹_› ‹_›|exact nt ‹_› ‹_›))|(intro b hb;repeat first|(refine fe hb ?_;intro _ _ hb)|(refine fT hb ?_;intro hb))|refine rt ?_|refine gA rfl ?_|refine gB rfl ?_|apply cT rfl|apply cF rfl|(apply DM.gbT;rfl)|(apply DM.gbF;rfl)|intro h
 (apply AM.cond; (· rfl))
 ·intro h3
  simp at h3
  obtain ⟨v, hv⟩ := some_of h3
  rw [drop_of hv] at he
  simp only [List.all_cons] at he
  repeat' first|(apply Sp.go;·constructor<;>first|exact ss|(change _=_;first|(simp only[go_sem,Nat.reduceBEq,Nat.reduceAdd,Nat.reduceLeDiff,reduceIte]<;>rfl)|rfl)|exact Nat.le_of_ble_eq_true rfl|decide|(repeat' first|(apply Lk.go;constructor)|assumption|exact nb ‹_› ‹_›|exact nt ‹_› ‹_›))|(intro b hb;repeat first|(refine fe hb ?_;intro _ _ hb)|(refine fT hb ?_;intro hb))|refine rt ?_|refine gA rfl ?_|refine gB rfl ?_|apply cT rfl|apply cF rfl|(apply DM.gbT;rfl)|(apply DM.gbF;rfl)|intro h
  (apply DM.ixV (row := v.row) (z := (i : Int)) (by omega) (row_get Ins_.row hv); (· rfl); (· rfl))
  repeat' first|(apply Sp.go;·constructor<;>first|exact ss|(change _=_;first|(simp only[go_sem,Nat.reduceBEq,Nat.reduceAdd,Nat.reduceLeDiff,reduceIte]<;>rfl)|rfl)|exact Nat.le_of_ble_eq_true rfl|decide|(repeat' first|(apply Lk.go;constructor)|assumption|exact nb ‹_› ‹_›|exact nt ‹_› ‹_›))|(intro b hb;repeat first|(refine fe hb ?_;intro _ _ hb)|(refine fT hb ?_;intro hb))|refine rt ?_|refine gA rfl ?_|refine gB rfl ?_|apply cT rfl|apply cF rfl|(apply DM.gbT;rfl)|(apply DM.gbF;rfl)|intro h
  (apply AM.cond; (· rfl))
  ·intro h4
   simp at h4
   repeat' first|(apply Sp.go;·constructor<;>first|exact ss|(change _=_;first|(simp only[go_sem,Nat.reduceBEq,Nat.reduceAdd,Nat.reduceLeDiff,reduceIte]<;>rfl)|rfl)|exact Nat.le_of_ble_eq_true rfl|decide|(repeat' first|(apply Lk.go;constructor)|assumption|exact nb ‹_› ‹_›|exact nt ‹_› ‹_›))|(intro b hb;repeat first|(refine fe hb ?_;intro _ _ hb)|(refine fT hb ?_;intro hb))|refine rt ?_|refine gA rfl ?_|refine gB rfl ?_|apply cT rfl|apply cF rfl|(apply DM.gbT;rfl)|(apply DM.gbF;rfl)|intro h
   (apply Sr.go;·constructor<;>first|(apply Lk.go;constructor<;>first|exact ss|(change _=_;first|(simp only[go_sem,Nat.reduceBEq,Nat.reduceAdd,Nat.reduceLeDiff,reduceIte]<;>rfl)|rfl)|exact Nat.le_of_ble_eq_true rfl|decide|(repeat' first|(apply Lk.go;constructor)|assumption|exact nb ‹_› ‹_›|exact nt ‹_› ‹_›))|assumption)
   refine avle_eq ?_; rw [AV.bool.injEq, fewP, he]
   rw [show decide (v.s.length ≤ 100) = false by simp; omega]; simp
  ·intro h4
   simp at h4
   rw [show decide (v.s.length ≤ 100) = true by simp; omega, Bool.true_and] at he
   repeat' first|(apply Sp.go;·constructor<;>first|exact ss|(change _=_;first|(simp only[go_sem,Nat.reduceBEq,Nat.reduceAdd,Nat.reduceLeDiff,reduceIte]<;>rfl)|rfl)|exact Nat.le_of_ble_eq_true rfl|decide|(repeat' first|(apply Lk.go;constructor)|assumption|exact nb ‹_› ‹_›|exact nt ‹_› ‹_›))|(intro b hb;repeat first|(refine fe hb ?_;intro _ _ hb)|(refine fT hb ?_;intro hb))|refine rt ?_|refine gA rfl ?_|refine gB rfl ?_|apply cT rfl|apply cF rfl|(apply DM.gbT;rfl)|(apply DM.gbF;rfl)|intro h
   refine AM.roundX (i + 1) ⟨rfl, by omega, he⟩ ?_ (show p.code.length - (i + 1) < p.code.length - i by omega)
   (repeat first | exact envle_nil _ | (refine envle_cons ?_ ?_; · (simp only [go_sem, Nat.reduceBEq, Nat.reduceAdd]; exact AVLe.refl _)))
   refine envle_cons ?_ ?_
   ·simp only [go_sem, Nat.reduceBEq, Nat.reduceAdd]
    refine avle_int ?_
    rw [inc64 h3 ok.code]
   exact envle_nil _
 ·intro h3
  simp at h3
  rw [List.drop_eq_nil_of_le (by omega)] at he
  have hc : p.code.all (fun x => decide (x.s.length ≤ 100)) = true := he
  clear he hi h3
  repeat' first|(apply Sp.go;·constructor<;>first|exact ss|(change _=_;first|(simp only[go_sem,Nat.reduceBEq,Nat.reduceAdd,Nat.reduceLeDiff,reduceIte]<;>rfl)|rfl)|exact Nat.le_of_ble_eq_true rfl|decide|(repeat' first|(apply Lk.go;constructor)|assumption|exact nb ‹_› ‹_›|exact nt ‹_› ‹_›))|(intro b hb;repeat first|(refine fe hb ?_;intro _ _ hb)|(refine fT hb ?_;intro hb))|refine rt ?_|refine gA rfl ?_|refine gB rfl ?_|apply cT rfl|apply cF rfl|(apply DM.gbT;rfl)|(apply DM.gbF;rfl)|intro h
  refine AM.loopX (X := Nat) 0 (fun i => [(1, .ptr b1 0), (4, .int .i64 (i : Int))]) (fun i H' => H' = H.setB b1 27 p.cells ∧ i ≤ p.vars.length ∧ p.vars.all (fun v => decide (v.name.length ≤ 100) && decide (v.init.s.length ≤ 100)) = (p.vars.drop i).all (fun v => decide (v.name.length ≤ 100) && decide (v.init.s.length ≤ 100))) (fun i => p.vars.length - i) ⟨rfl, by omega, by simp⟩ ?_ ?_
  ·(repeat first | exact envle_nil _ | (refine envle_cons ?_ ?_; · (simp only [go_sem, Nat.reduceBEq, Nat.reduceAdd]; exact AVLe.refl _)))
  rintro i H' ⟨rfl, hi, he⟩
  repeat' first|(apply Sp.go;·constructor<;>first|exact ss|(change _=_;first|(simp only[go_sem,Nat.reduceBEq,Nat.reduceAdd,Nat.reduceLeDiff,reduceIte]<;>rfl)|rfl)|exact Nat.le_of_ble_eq_true rfl|decide|(repeat' first|(apply Lk.go;constructor)|assumption|exact nb ‹_› ‹_›|exact nt ‹_› ‹_›))|(intro b hb;repeat first|(refine fe hb ?_;intro _ _ hb)|(refine fT hb ?_;intro hb))|refine rt ?_|refine gA rfl ?_|refine gB rfl ?_|apply cT rfl|apply cF rfl|(apply DM.gbT;rfl)|(apply DM.gbF;rfl)|intro h
  (apply AM.cond; (· rfl))
  ·intro h3
   simp at h3
   obtain ⟨v, hv⟩ := some_of h3
   rw [drop_of hv] at he
   simp only [List.all_cons] at he
   repeat' first|(apply Sp.go;·constructor<;>first|exact ss|(change _=_;first|(simp only[go_sem,Nat.reduceBEq,Nat.reduceAdd,Nat.reduceLeDiff,reduceIte]<;>rfl)|rfl)|exact Nat.le_of_ble_eq_true rfl|decide|(repeat' first|(apply Lk.go;constructor)|assumption|exact nb ‹_› ‹_›|exact nt ‹_› ‹_›))|(intro b hb;repeat first|(refine fe hb ?_;intro _ _ hb)|(refine fT hb ?_;intro hb))|refine rt ?_|refine gA rfl ?_|refine gB rfl ?_|apply cT rfl|apply cF rfl|(apply DM.gbT;rfl)|(apply DM.gbF;rfl)|intro h
   (apply DM.ixV (row := v.row) (z := (i : Int)) (by omega) (row_get Var_.row hv); (· rfl); (· rfl))
   repeat' first|(apply Sp.go;·constructor<;>first|exact ss|(change _=_;first|(simp only[go_sem,Nat.reduceBEq,Nat.reduceAdd,Nat.reduceLeDiff,reduceIte]<;>rfl)|rfl)|exact Nat.le_of_ble_eq_true rfl|decide|(repeat' first|(apply Lk.go;constructor)|assumption|exact nb ‹_› ‹_›|exact nt ‹_› ‹_›))|(intro b hb;repeat first|(refine fe hb ?_;intro _ _ hb)|(refine fT hb ?_;intro hb))|refine rt ?_|refine gA rfl ?_|refine gB rfl ?_|apply cT rfl|apply cF rfl|(apply DM.gbT;rfl)|(apply DM.gbF;rfl)|intro h
   ·(apply DM.ixV (row := v.row) (z := (i : Int)) (by omega) (row_get Var_.row hv); (· rfl); (· rfl))
    repeat' first|(apply Sp.go;·constructor<;>first|exact ss|(change _=_;first|(simp only[go_sem,Nat.reduceBEq,Nat.reduceAdd,Nat.reduceLeDiff,reduceIte]<;>rfl)|rfl)|exact Nat.le_of_ble_eq_true rfl|decide|(repeat' first|(apply Lk.go;constructor)|assumption|exact nb ‹_› ‹_›|exact nt ‹_› ‹_›))|(intro b hb;repeat first|(refine fe hb ?_;intro _ _ hb)|(refine fT hb ?_;intro hb))|refine rt ?_|refine gA rfl ?_|refine gB rfl ?_|apply cT rfl|apply cF rfl|(apply DM.gbT;rfl)|(apply DM.gbF;rfl)|intro h
    (apply AM.cond; (· rfl))
    ·intro h4
     repeat' first|(apply Sp.go;·constructor<;>first|exact ss|(change _=_;first|(simp only[go_sem,Nat.reduceBEq,Nat.reduceAdd,Nat.reduceLeDiff,reduceIte]<;>rfl)|rfl)|exact Nat.le_of_ble_eq_true rfl|decide|(repeat' first|(apply Lk.go;constructor)|assumption|exact nb ‹_› ‹_›|exact nt ‹_› ‹_›))|(intro b hb;repeat first|(refine fe hb ?_;intro _ _ hb)|(refine fT hb ?_;intro hb))|refine rt ?_|refine gA rfl ?_|refine gB rfl ?_|apply cT rfl|apply cF rfl|(apply DM.gbT;rfl)|(apply DM.gbF;rfl)|intro h
     (apply Sr.go;·constructor<;>first|(apply Lk.go;constructor<;>first|exact ss|(change _=_;first|(simp only[go_sem,Nat.reduceBEq,Nat.reduceAdd,Nat.reduceLeDiff,reduceIte]<;>rfl)|rfl)|exact Nat.le_of_ble_eq_true rfl|decide|(repeat' first|(apply Lk.go;constructor)|assumption|exact nb ‹_› ‹_›|exact nt ‹_› ‹_›))|assumption)
     refine avle_eq ?_; rw [AV.bool.injEq, fewP, he]
     simp at h h4
     rw [show decide (v.init.s.length ≤ 100) = false by simp; omega]; simp
    ·intro h4
     simp at h h4
     rw [show decide (v.init.s.length ≤ 100) = true by simp; omega, show decide (v.name.length ≤ 100) = true by simp; omega, Bool.true_and, Bool.true_and] at he
     repeat' first|(apply Sp.go;·constructor<;>first|exact ss|(change _=_;first|(simp only[go_sem,Nat.reduceBEq,Nat.reduceAdd,Nat.reduceLeDiff,reduceIte]<;>rfl)|rfl)|exact Nat.le_of_ble_eq_true rfl|decide|(repeat' first|(apply Lk.go;constructor)|assumption|exact nb ‹_› ‹_›|exact nt ‹_› ‹_›))|(intro b hb;repeat first|(refine fe hb ?_;intro _ _ hb)|(refine fT hb ?_;intro hb))|refine rt ?_|refine gA rfl ?_|refine gB rfl ?_|apply cT rfl|apply cF rfl|(apply DM.gbT;rfl)|(apply DM.gbF;rfl)|intro h
     refine AM.roundX (i + 1) ⟨rfl, by omega, he⟩ ?_ (show p.vars.length - (i + 1) < p.vars.length - i by omega)
     (repeat first | exact envle_nil _ | (refine envle_cons ?_ ?_; · (simp only [go_sem, Nat.reduceBEq, Nat.reduceAdd]; exact AVLe.refl _)))
     refine envle_cons ?_ ?_
     ·simp only [go_sem, Nat.reduceBEq, Nat.reduceAdd]
      refine avle_int ?_
      rw [inc64 h3 ok.vars]
     exact envle_nil _
   ·(apply Sr.go;·constructor<;>first|(apply Lk.go;constructor<;>first|exact ss|(change _=_;first|(simp only[go_sem,Nat.reduceBEq,Nat.reduceAdd,Nat.reduceLeDiff,reduceIte]<;>rfl)|rfl)|exact Nat.le_of_ble_eq_true rfl|decide|(repeat' first|(apply Lk.go;constructor)|assumption|exact nb ‹_› ‹_›|exact nt ‹_› ‹_›))|assumption)
    refine avle_eq ?_; rw [AV.bool.injEq, fewP, he]
    simp at h
    rw [show decide (v.name.length ≤ 100) = false by simp; omega]; simp
  ·intro h3
   simp at h3
   rw [List.drop_eq_nil_of_le (by omega)] at he
   have hv : p.vars.all (fun v => decide (v.name.length ≤ 100) && decide (v.init.s.length ≤ 100)) = true := he
   repeat' first|(apply Sp.go;·constructor<;>first|exact ss|(change _=_;first|(simp only[go_sem,Nat.reduceBEq,Nat.reduceAdd,Nat.reduceLeDiff,reduceIte]<;>rfl)|rfl)|exact Nat.le_of_ble_eq_true rfl|decide|(repeat' first|(apply Lk.go;constructor)|assumption|exact nb ‹_› ‹_›|exact nt ‹_› ‹_›))|(intro b hb;repeat first|(refine fe hb ?_;intro _ _ hb)|(refine fT hb ?_;intro hb))|refine rt ?_|refine gA rfl ?_|refine gB rfl ?_|apply cT rfl|apply cF rfl|(apply DM.gbT;rfl)|(apply DM.gbF;rfl)|intro h
   all_goals ((apply Sr.go;·constructor<;>first|(apply Lk.go;constructor<;>first|exact ss|(change _=_;first|(simp only[go_sem,Nat.reduceBEq,Nat.reduceAdd,Nat.reduceLeDiff,reduceIte]<;>rfl)|rfl)|exact Nat.le_of_ble_eq_true rfl|decide|(repeat' first|(apply Lk.go;constructor)|assumption|exact nb ‹_› ‹_›|exact nt ‹_› ‹_›))|assumption))
   all_goals (refine avle_eq ?_; rw [AV.bool.injEq, fewP, hc, hv, Bool.eq_iff_iff]; simp at *; omega)
structure Dst (ta tb tc td : Nat) : Prop where
  ba : tb ≠ ta
  ca : tc ≠ ta
  cb : tc ≠ tb
  da : td ≠ ta
  db : td ≠ tb
  dc : td ≠ tc
def HO (G : AHeap) (b ta tb tc td : Nat) (nm : List UInt8) (rl : Int) (A B C D : List (List AV)) (va vb vc vd : Nat) : AHeap :=
  ⟨fun q => if q = b then some (41, [.str nm, .int .i64 rl, .ms ta va, .ms tb vb, .ms tc vc, .ms td vd]) else G.blk q,
   fun q => if q = ta then some (.mu 87 7 va A) else if q = tb then some (.mu 128 3 vb B) else if q = tc then some (.mu 117 4 vc C) else if q = td then some (.mu 88 3 vd D) else G.tok q⟩
section
variable {G : AHeap} {b ta tb tc td : Nat} {nm : List UInt8} {rl : Int} {A B C D : List (List AV)} {va vb vc vd : Nat}
theorem ho_blk : (HO G b ta tb tc td nm rl A B C D va vb vc vd).blk b = some (41, [.str nm, .int .i64 rl, .ms ta va, .ms tb vb, .ms tc vc, .ms td vd]) := by simp [HO]
theorem ho_look {x : Nat} {y : Option (TypeId × List AV)} (hx : x ≠ b) (h : G.blk x = y) : (HO G b ta tb tc td nm rl A B C D va vb vc vd).blk x = y := by simp [HO, hx, h]
theorem ho_ta : (HO G b ta tb tc td nm rl A B C D va vb vc vd).tok ta = some (.mu 87 7 va A) := by simp [HO]
theorem ho_tb (d : Dst ta tb tc td) : (HO G b ta tb tc td nm rl A B C D va vb vc vd).tok tb = some (.mu 128 3 vb B) := by simp [HO, d.ba]
theorem ho_tc (d : Dst ta tb tc td) : (HO G b ta tb tc td nm rl A B C D va vb vc vd).tok tc = some (.mu 117 4 vc C) := by simp [HO, d.ca, d.cb]
theorem ho_td (d : Dst ta tb tc td) : (HO G b ta tb tc td nm rl A B C D va vb vc vd).tok td = some (.mu 88 3 vd D) := by simp [HO, d.da, d.db, d.dc]
theorem ho_sub {H : AHeap} (h : HSub H G) (hb : H.blk b = none) (ha : H.tok ta = none) (hb' : H.tok tb = none) (hc : H.tok tc = none) (hd : H.tok td = none) : HSub H (HO G b ta tb tc td nm rl A B C D va vb vc vd) where
  blk := fun x y hx => by
    have e : x ≠ b := fun e => by subst e; rw [hb] at hx; cases hx
    simp only [HO, if_neg e]; exact h.blk x y hx
  tok := fun x y hx => by
    have e1 : x ≠ ta := fun e => by subst e; rw [ha] at hx; cases hx
    have e2 : x ≠ tb := fun e => by subst e; rw [hb'] at hx; cases hx
    have e3 : x ≠ tc := fun e => by subst e; rw [hc] at hx; cases hx
    have e4 : x ≠ td := fun e => by subst e; rw [hd] at hx; cases hx
    simp only [HO, if_neg e1, if_neg e2, if_neg e3, if_neg e4]; exact h.tok x y hx
theorem ho_set_a (d : Dst ta tb tc td) {R : List (List AV)} : ((HO G b ta tb tc td nm rl A B C D va vb vc vd).setT ta (.mu 87 7 (va + 1) R)).setB b 41 [.str nm, .int .i64 rl, .ms ta (va + 1), .ms tb vb, .ms tc vc, .ms td vd] = HO G b ta tb tc td nm rl R B C D (va + 1) vb vc vd := by
  have h1 := d.ba; have h2 := d.ca; have h3 := d.cb; have h4 := d.da; have h5 := d.db; have h6 := d.dc
  simp only [HO, AHeap.setT, AHeap.setB, AHeap.mk.injEq]
  refine ⟨?_, ?_⟩
  · funext q
    by_cases e : q = b <;> simp [e]
  · funext q
    by_cases e : q = ta
    · subst e; simp [*]
    · simp [e]
theorem ho_set_b (d : Dst ta tb tc td) {R : List (List AV)} : ((HO G b ta tb tc td nm rl A B C D va vb vc vd).setT tb (.mu 128 3 (vb + 1) R)).setB b 41 [.str nm, .int .i64 rl, .ms ta va, .ms tb (vb + 1), .ms tc vc, .ms td vd] = HO G b ta tb tc td nm rl A R C D va (vb + 1) vc vd := by
  have h1 := d.ba; have h2 := d.ca; have h3 := d.cb; have h4 := d.da; have h5 := d.db; have h6 := d.dc
  simp only [HO, AHeap.setT, AHeap.setB, AHeap.mk.injEq]
  refine ⟨?_, ?_⟩
  · funext q
    by_cases e : q = b <;> simp [e]
  · funext q
    by_cases e : q = tb
    · subst e; simp [*]
    · simp [e]
theorem ho_set_c (d : Dst ta tb tc td) {R : List (List AV)} : ((HO G b ta tb tc td nm rl A B C D va vb vc vd).setT tc (.mu 117 4 (vc + 1) R)).setB b 41 [.str nm, .int .i64 rl, .ms ta va, .ms tb vb, .ms tc (vc + 1), .ms td vd] = HO G b ta tb tc td nm rl A B R D va vb (vc + 1) vd := by
  have h1 := d.ba; have h2 := d.ca; have h3 := d.cb; have h4 := d.da; have h5 := d.db; have h6 := d.dc
  simp only [HO, AHeap.setT, AHeap.setB, AHeap.mk.injEq]
  refine ⟨?_, ?_⟩
  · funext q
    by_cases e : q = b <;> simp [e]
  · funext q
    by_cases e : q = tc
    · subst e; simp [*]
    · simp [e]
theorem ho_set_d (d : Dst ta tb tc td) {R : List (List AV)} : ((HO G b ta tb tc td nm rl A B C D va vb vc vd).setT td (.mu 88 3 (vd + 1) R)).setB b 41 [.str nm, .int .i64 rl, .ms ta va, .ms tb vb, .ms tc vc, .ms td (vd + 1)] = HO G b ta tb tc td nm rl A B C R va vb vc (vd + 1) := by
  have h1 := d.ba; have h2 := d.ca; have h3 := d.cb; have h4 := d.da; have h5 := d.db; have h6 := d.dc
  simp only [HO, AHeap.setT, AHeap.setB, AHeap.mk.injEq]
  refine ⟨?_, ?_⟩
  · funext q
    by_cases e : q = b <;> simp [e]
  · funext q
    by_cases e : q = td
    · subst e; simp [*]
    · simp [e]
end
theorem take_succ_map {α β : Type} (f : α → β) {l : List α} {i : Nat} {v : α} (h : l[i]? = some v) : (l.take i).map f ++ [f v] = (l.take (i + 1)).map f := by
  rw [List.take_add_one, h]; simp
theorem p18b (p : Prog) (hl : p.vars.length * 72 ≤ 140737488355328 ∧ p.hs.length * 24 ≤ 140737488355328 ∧ p.os.length * 32 ≤ 140737488355328 ∧ p.code.length * 32 ≤ 140737488355328) : Pure Try.prog 18 [p.av] p.av := by
  refine pure_introF mo Try.func18 c18 fun H => ?_
  unfold e18 r18
  simp only [initEnv, initFrom]
  repeat' first|(apply Sp.go;·constructor<;>first|exact ss|(change _=_;first|(simp only[go_sem,Nat.reduceBEq,Nat.reduceAdd,Nat.reduceLeDiff,reduceIte]<;>rfl)|rfl)|exact Nat.le_of_ble_eq_true rfl|decide|(repeat' first|(apply Lk.go;constructor)|assumption|exact nb ‹_› ‹_›|exact nt ‹_› ‹_›))|(intro b hb;repeat first|(refine fe hb ?_;intro _ _ hb)|(refine fT hb ?_;intro hb))|refine rt ?_|refine gA rfl ?_|refine gB rfl ?_|apply cT rfl|apply cF rfl|(apply DM.gbT;rfl)|(apply DM.gbF;rfl)|intro h
  rename_i b1 h1 b2 h2 n1 n2 h3 h4 n3 n4 h5 n5 n6
  rename Nat => b
  have hG : ∃ G : AHeap, HSub H G ∧ G.blk b = none ∧ G.blk b1 = some (27, p.cells) ∧ (G.blk b2 = some (41, [.str [], .int .i64 0, .nilS, .nilS, .nilS, .nilS])) ∧ G = (H.setB b1 27 p.cells).setB b2 41 [.str [], .int .i64 0, .nilS, .nilS, .nilS, .nilS] := ⟨_, HSub.setB (HSub.setB (HSub.refl _) h1) h3, by assumption, g_ne n2 g_same, g_same, rfl⟩
  obtain ⟨G, hGs, hGb, hG1, hG2, hGe⟩ := hG
  have hHb : H.blk b = none := by assumption
  have e1 : b1 ≠ b := (ne_blk hGb hG1).2
  have e2 : b2 ≠ b := (ne_blk hGb hG2).2
  refine AM.eqH (H2 := G.setB b 41 [.str p.name, .int .i64 p.role, .nilS, .nilS, .nilS, .nilS]) (by rw [hGe]) ?_
  apply AM.ghostB b 2 87 7 (by decide) g_same rfl
  intro ta hta
  apply AM.ghostB b 3 128 3 (by decide) g_same rfl
  intro tb htb
  apply AM.ghostB b 4 117 4 (by decide) g_same rfl
  intro tc htc
  apply AM.ghostB b 5 88 3 (by decide) g_same rfl
  intro td htd
  have ha0 : G.tok ta = none := freshT_setB hta
  obtain ⟨nba, _, htb⟩ := freshT_setT (freshT_setB htb)
  have hb0 : G.tok tb = none := freshT_setB htb
  obtain ⟨ncb, _, htc⟩ := freshT_setT (freshT_setB htc)
  obtain ⟨nca, _, htc⟩ := freshT_setT (freshT_setB htc)
  have hc0 : G.tok tc = none := freshT_setB htc
  obtain ⟨ndc, _, htd⟩ := freshT_setT (freshT_setB htd)
  obtain ⟨ndb, _, htd⟩ := freshT_setT (freshT_setB htd)
  obtain ⟨nda, _, htd⟩ := freshT_setT (freshT_setB htd)
  have hd0 : G.tok td = none := freshT_setB htd
  have d : Dst ta tb tc td := ⟨nba, nca, ncb, nda, ndb, ndc⟩
  have fa := hGs.none_tok ha0; have fb := hGs.none_tok hb0; have fc := hGs.none_tok hc0; have fd := hGs.none_tok hd0
  have hsubO : ∀ A B C D va vb vc vd c, HSub H ((HO G b ta tb tc td p.name p.role A B C D va vb vc vd).setB b2 41 c) := fun A B C D va vb vc vd c => HSub.setB (ho_sub hGs hHb fa fb fc fd) h3
  refine AM.eqH (H2 := HO G b ta tb tc td p.name p.role [] [] [] [] 0 0 0 0) ?_ ?_
  · have q1 := d.ba; have q2 := d.ca; have q3 := d.cb; have q4 := d.da; have q5 := d.db; have q6 := d.dc
    simp only [HO, AHeap.setT, AHeap.setB, AHeap.mk.injEq]
    refine ⟨?_, ?_⟩
    · funext q
      by_cases e : q = b <;> simp [e]
    · funext q
      by_cases e3 : q = ta
      · subst e3; simp [*, Ne.symm q1, Ne.symm q2, Ne.symm q4]
      · by_cases e4 : q = tb
        · subst e4; simp [*, Ne.symm q3, Ne.symm q5]
        · by_cases e5 : q = tc
          · subst e5; simp [*, Ne.symm q6]
          · simp [*]
  clear hGe hta htb htc htd
  refine AM.loopX (X := Nat) 0 (fun i => [(1, .ptr b1 0), (2, .ptr b2 0), (3, .ptr b 0), (4, .int .i64 (i : Int))]) (fun i H' => H' = HO G b ta tb tc td p.name p.role ((p.vars.take i).map Var_.row) [] [] [] i 0 0 0 ∧ i ≤ p.vars.length) (fun i => p.vars.length - i) ⟨rfl, Nat.zero_le _⟩ ?_ ?_
  · (repeat first | exact envle_nil _ | (refine envle_cons ?_ ?_; · (simp only [go_sem, Nat.reduceBEq, Nat.reduceAdd]; exact AVLe.refl _)))
  rintro i H' ⟨rfl, hi⟩
  repeat' first|(apply Sp.go;·constructor<;>first|exact ss|(change _=_;first|(simp only[go_sem,Nat.reduceBEq,Nat.reduceAdd,Nat.reduceLeDiff,reduceIte]<;>rfl)|rfl)|exact Nat.le_of_ble_eq_true rfl|decide|(repeat' first|(apply Lk.go;constructor)|assumption|exact nb ‹_› ‹_›|exact nt ‹_› ‹_›| refine ho_look ‹_› ?_ | exact ho_blk | exact ho_ta | exact ho_tb ‹_› | exact ho_tc ‹_› | exact ho_td ‹_›))|(intro b hb;repeat first|(refine fe hb ?_;intro _ _ hb)|(refine fT hb ?_;intro hb))|refine rt ?_|refine gA rfl ?_|refine gB rfl ?_|apply cT rfl|apply cF rfl|(apply DM.gbT;rfl)|(apply DM.gbF;rfl)|intro h
  (apply AM.cond; (· rfl))
  · intro hlt
    simp at hlt
    obtain ⟨v, hv⟩ := some_of hlt
    repeat' first|(apply Sp.go;·constructor<;>first|exact ss|(change _=_;first|(simp only[go_sem,Nat.reduceBEq,Nat.reduceAdd,Nat.reduceLeDiff,reduceIte]<;>rfl)|rfl)|exact Nat.le_of_ble_eq_true rfl|decide|(repeat' first|(apply Lk.go;constructor)|assumption|exact nb ‹_› ‹_›|exact nt ‹_› ‹_›| refine ho_look ‹_› ?_ | exact ho_blk | exact ho_ta | exact ho_tb ‹_› | exact ho_tc ‹_› | exact ho_td ‹_›))|(intro b hb;repeat first|(refine fe hb ?_;intro _ _ hb)|(refine fT hb ?_;intro hb))|refine rt ?_|refine gA rfl ?_|refine gB rfl ?_|apply cT rfl|apply cF rfl|(apply DM.gbT;rfl)|(apply DM.gbF;rfl)|intro h
    (apply DM.ixV (row := v.row) (z := (i : Int)) (by omega) (row_get Var_.row hv); (· rfl); (· rfl))
    repeat' first|(apply Sp.go;·constructor<;>first|exact ss|(change _=_;first|(simp only[go_sem,Nat.reduceBEq,Nat.reduceAdd,Nat.reduceLeDiff,reduceIte]<;>rfl)|rfl)|exact Nat.le_of_ble_eq_true rfl|decide|(repeat' first|(apply Lk.go;constructor)|assumption|exact nb ‹_› ‹_›|exact nt ‹_› ‹_›| refine ho_look ‹_› ?_ | exact ho_blk | exact ho_ta | exact ho_tb ‹_› | exact ho_tc ‹_› | exact ho_td ‹_›))|(intro b hb;repeat first|(refine fe hb ?_;intro _ _ hb)|(refine fT hb ?_;intro hb))|refine rt ?_|refine gA rfl ?_|refine gB rfl ?_|apply cT rfl|apply cF rfl|(apply DM.gbT;rfl)|(apply DM.gbF;rfl)|intro h
    (apply DM.apM; (· rfl); (· repeat' first|(apply Lk.go;constructor)|assumption|exact nb ‹_› ‹_›|exact nt ‹_› ‹_›| refine ho_look ‹_› ?_ | exact ho_blk | exact ho_ta | exact ho_tb ‹_› | exact ho_tc ‹_› | exact ho_td ‹_›); (· simp only [rowsOf, if_true, eq_self, go_sem, Nat.reduceBEq, reduceIte] <;> rfl); (· (simp only [List.length_map, List.length_cons, List.length_nil, List.length_take, maxLen]; omega)); (· (simp only [List.length_map, List.length_cons, List.length_nil, List.length_take, maxLen]; omega)))
    rw [show (p.vars.take i).map Var_.row ++ [v.row] = (p.vars.take (i + 1)).map Var_.row from take_succ_map Var_.row hv]
    repeat' first|(apply Sp.go;·constructor<;>first|exact ss|(change _=_;first|(simp only[go_sem,Nat.reduceBEq,Nat.reduceAdd,Nat.reduceLeDiff,reduceIte]<;>rfl)|rfl)|exact Nat.le_of_ble_eq_true rfl|decide|(repeat' first|(apply Lk.go;constructor)|assumption|exact nb ‹_› ‹_›|exact nt ‹_› ‹_›| refine ho_look ‹_› ?_ | exact ho_blk | exact ho_ta | exact ho_tb ‹_› | exact ho_tc ‹_› | exact ho_td ‹_›))|(intro b hb;repeat first|(refine fe hb ?_;intro _ _ hb)|(refine fT hb ?_;intro hb))|refine rt ?_|refine gA rfl ?_|refine gB rfl ?_|apply cT rfl|apply cF rfl|(apply DM.gbT;rfl)|(apply DM.gbF;rfl)|intro h
    refine AM.eqH (ho_set_a d) ?_
    refine AM.roundX (i + 1) ⟨rfl, by omega⟩ ?_ (show p.vars.length - (i + 1) < p.vars.length - i by omega)
    (repeat first | exact envle_nil _ | (refine envle_cons ?_ ?_; · (simp only [go_sem, Nat.reduceBEq, Nat.reduceAdd]; exact AVLe.refl _)))
    refine envle_cons ?_ ?_
    · simp only [go_sem, Nat.reduceBEq, Nat.reduceAdd]
      refine avle_int ?_
      rw [inc64 hlt (show p.vars.length ≤ maxLen by unfold maxLen; omega)]
    exact envle_nil _
  intro hlt
  simp at hlt
  have hi0 : i = p.vars.length := by omega
  subst hi0
  rw [List.take_length]
  clear hi hlt
  repeat' first|(apply Sp.go;·constructor<;>first|exact ss|(change _=_;first|(simp only[go_sem,Nat.reduceBEq,Nat.reduceAdd,Nat.reduceLeDiff,reduceIte]<;>rfl)|rfl)|exact Nat.le_of_ble_eq_true rfl|decide|(repeat' first|(apply Lk.go;constructor)|assumption|exact nb ‹_› ‹_›|exact nt ‹_› ‹_›| refine ho_look ‹_› ?_ | exact ho_blk | exact ho_ta | exact ho_tb ‹_› | exact ho_tc ‹_› | exact ho_td ‹_›))|(intro b hb;repeat first|(refine fe hb ?_;intro _ _ hb)|(refine fT hb ?_;intro hb))|refine rt ?_|refine gA rfl ?_|refine gB rfl ?_|apply cT rfl|apply cF rfl|(apply DM.gbT;rfl)|(apply DM.gbF;rfl)|intro h
  refine AM.loopX (X := Nat) 0 (fun i => [(1, .ptr b1 0), (2, .ptr b2 0), (3, .ptr b 0), (5, .int .i64 (i : Int))]) (fun i H' => H' = HO G b ta tb tc td p.name p.role (p.vars.map Var_.row) ((p.hs.take i).map Hd.row) [] [] p.vars.length i 0 0 ∧ i ≤ p.hs.length) (fun i => p.hs.length - i) ⟨rfl, Nat.zero_le _⟩ ?_ ?_
  · (repeat first | exact envle_nil _ | (refine envle_cons ?_ ?_; · (simp only [go_sem, Nat.reduceBEq, Nat.reduceAdd]; exact AVLe.refl _)))
  rintro i H' ⟨rfl, hi⟩
  repeat' first|(apply Sp.go;·constructor<;>first|exact ss|(change _=_;first|(simp only[go_sem,Nat.reduceBEq,Nat.reduceAdd,Nat.reduceLeDiff,reduceIte]<;>rfl)|rfl)|exact Nat.le_of_ble_eq_true rfl|decide|(repeat' first|(apply Lk.go;constructor)|assumption|exact nb ‹_› ‹_›|exact nt ‹_› ‹_›| refine ho_look ‹_› ?_ | exact ho_blk | exact ho_ta | exact ho_tb ‹_› | exact ho_tc ‹_› | exact ho_td ‹_›))|(intro b hb;repeat first|(refine fe hb ?_;intro _ _ hb)|(refine fT hb ?_;intro hb))|refine rt ?_|refine gA rfl ?_|refine gB rfl ?_|apply cT rfl|apply cF rfl|(apply DM.gbT;rfl)|(apply DM.gbF;rfl)|intro h
  (apply AM.cond; (· rfl))
  · intro hlt
    simp at hlt
    obtain ⟨v, hv⟩ := some_of hlt
    repeat' first|(apply Sp.go;·constructor<;>first|exact ss|(change _=_;first|(simp only[go_sem,Nat.reduceBEq,Nat.reduceAdd,Nat.reduceLeDiff,reduceIte]<;>rfl)|rfl)|exact Nat.le_of_ble_eq_true rfl|decide|(repeat' first|(apply Lk.go;constructor)|assumption|exact nb ‹_› ‹_›|exact nt ‹_› ‹_›| refine ho_look ‹_› ?_ | exact ho_blk | exact ho_ta | exact ho_tb ‹_› | exact ho_tc ‹_› | exact ho_td ‹_›))|(intro b hb;repeat first|(refine fe hb ?_;intro _ _ hb)|(refine fT hb ?_;intro hb))|refine rt ?_|refine gA rfl ?_|refine gB rfl ?_|apply cT rfl|apply cF rfl|(apply DM.gbT;rfl)|(apply DM.gbF;rfl)|intro h
    (apply DM.ixV (row := v.row) (z := (i : Int)) (by omega) (row_get Hd.row hv); (· rfl); (· rfl))
    repeat' first|(apply Sp.go;·constructor<;>first|exact ss|(change _=_;first|(simp only[go_sem,Nat.reduceBEq,Nat.reduceAdd,Nat.reduceLeDiff,reduceIte]<;>rfl)|rfl)|exact Nat.le_of_ble_eq_true rfl|decide|(repeat' first|(apply Lk.go;constructor)|assumption|exact nb ‹_› ‹_›|exact nt ‹_› ‹_›| refine ho_look ‹_› ?_ | exact ho_blk | exact ho_ta | exact ho_tb ‹_› | exact ho_tc ‹_› | exact ho_td ‹_›))|(intro b hb;repeat first|(refine fe hb ?_;intro _ _ hb)|(refine fT hb ?_;intro hb))|refine rt ?_|refine gA rfl ?_|refine gB rfl ?_|apply cT rfl|apply cF rfl|(apply DM.gbT;rfl)|(apply DM.gbF;rfl)|intro h
    (apply DM.apM; (· rfl); (· repeat' first|(apply Lk.go;constructor)|assumption|exact nb ‹_› ‹_›|exact nt ‹_› ‹_›| refine ho_look ‹_› ?_ | exact ho_blk | exact ho_ta | exact ho_tb ‹_› | exact ho_tc ‹_› | exact ho_td ‹_›); (· simp only [rowsOf, if_true, eq_self, go_sem, Nat.reduceBEq, reduceIte] <;> rfl); (· (simp only [List.length_map, List.length_cons, List.length_nil, List.length_take, maxLen]; omega)); (· (simp only [List.length_map, List.length_cons, List.length_nil, List.length_take, maxLen]; omega)))
    rw [show (p.hs.take i).map Hd.row ++ [v.row] = (p.hs.take (i + 1)).map Hd.row from take_succ_map Hd.row hv]
    repeat' first|(apply Sp.go;·constructor<;>first|exact ss|(change _=_;first|(simp only[go_sem,Nat.reduceBEq,Nat.reduceAdd,Nat.reduceLeDiff,reduceIte]<;>rfl)|rfl)|exact Nat.le_of_ble_eq_true rfl|decide|(repeat' first|(apply Lk.go;constructor)|assumption|exact nb ‹_› ‹_›|exact nt ‹_› ‹_›| refine ho_look ‹_› ?_ | exact ho_blk | exact ho_ta | exact ho_tb ‹_› | exact ho_tc ‹_› | exact ho_td ‹_›))|(intro b hb;repeat first|(refine fe hb ?_;intro _ _ hb)|(refine fT hb ?_;intro hb))|refine rt ?_|refine gA rfl ?_|refine gB rfl ?_|apply cT rfl|apply cF rfl|(apply DM.gbT;rfl)|(apply DM.gbF;rfl)|intro h
    refine AM.eqH (ho_set_b d) ?_
    refine AM.roundX (i + 1) ⟨rfl, by omega⟩ ?_ (show p.hs.length - (i + 1) < p.hs.length - i by omega)
    (repeat first | exact envle_nil _ | (refine envle_cons ?_ ?_; · (simp only [go_sem, Nat.reduceBEq, Nat.reduceAdd]; exact AVLe.refl _)))
    refine envle_cons ?_ ?_
    · simp only [go_sem, Nat.reduceBEq, Nat.reduceAdd]
      refine avle_int ?_
      rw [inc64 hlt (show p.hs.length ≤ maxLen by unfold maxLen; omega)]
    exact envle_nil _
  intro hlt
  simp at hlt
  have hi1 : i = p.hs.length := by omega
  subst hi1
  rw [List.take_length]
  clear hi hlt
  repeat' first|(apply Sp.go;·constructor<;>first|exact ss|(change _=_;first|(simp only[go_sem,Nat.reduceBEq,Nat.reduceAdd,Nat.reduceLeDiff,reduceIte]<;>rfl)|rfl)|exact Nat.le_of_ble_eq_true rfl|decide|(repeat' first|(apply Lk.go;constructor)|assumption|exact nb ‹_› ‹_›|exact nt ‹_› ‹_›| refine ho_look ‹_› ?_ | exact ho_blk | exact ho_ta | exact ho_tb ‹_› | exact ho_tc ‹_› | exact ho_td ‹_›))|(intro b hb;repeat first|(refine fe hb ?_;intro _ _ hb)|(refine fT hb ?_;intro hb))|refine rt ?_|refine gA rfl ?_|refine gB rfl ?_|apply cT rfl|apply cF rfl|(apply DM.gbT;rfl)|(apply DM.gbF;rfl)|intro h
  refine AM.loopX (X := Nat) 0 (fun i => [(1, .ptr b1 0), (2, .ptr b2 0), (3, .ptr b 0), (6, .int .i64 (i : Int))]) (fun i H' => H' = HO G b ta tb tc td p.name p.role (p.vars.map Var_.row) (p.hs.map Hd.row) ((p.os.take i).map Of_.row) [] p.vars.length p.hs.length i 0 ∧ i ≤ p.os.length) (fun i => p.os.length - i) ⟨rfl, Nat.zero_le _⟩ ?_ ?_
  · (repeat first | exact envle_nil _ | (refine envle_cons ?_ ?_; · (simp only [go_sem, Nat.reduceBEq, Nat.reduceAdd]; exact AVLe.refl _)))
  rintro i H' ⟨rfl, hi⟩
  repeat' first|(apply Sp.go;·constructor<;>first|exact ss|(change _=_;first|(simp only[go_sem,Nat.reduceBEq,Nat.reduceAdd,Nat.reduceLeDiff,reduceIte]<;>rfl)|rfl)|exact Nat.le_of_ble_eq_true rfl|decide|(repeat' first|(apply Lk.go;constructor)|assumption|exact nb ‹_› ‹_›|exact nt ‹_› ‹_›| refine ho_look ‹_› ?_ | exact ho_blk | exact ho_ta | exact ho_tb ‹_› | exact ho_tc ‹_› | exact ho_td ‹_›))|(intro b hb;repeat first|(refine fe hb ?_;intro _ _ hb)|(refine fT hb ?_;intro hb))|refine rt ?_|refine gA rfl ?_|refine gB rfl ?_|apply cT rfl|apply cF rfl|(apply DM.gbT;rfl)|(apply DM.gbF;rfl)|intro h
  (apply AM.cond; (· rfl))
  · intro hlt
    simp at hlt
    obtain ⟨v, hv⟩ := some_of hlt
    repeat' first|(apply Sp.go;·constructor<;>first|exact ss|(change _=_;first|(simp only[go_sem,Nat.reduceBEq,Nat.reduceAdd,Nat.reduceLeDiff,reduceIte]<;>rfl)|rfl)|exact Nat.le_of_ble_eq_true rfl|decide|(repeat' first|(apply Lk.go;constructor)|assumption|exact nb ‹_› ‹_›|exact nt ‹_› ‹_›| refine ho_look ‹_› ?_ | exact ho_blk | exact ho_ta | exact ho_tb ‹_› | exact ho_tc ‹_› | exact ho_td ‹_›))|(intro b hb;repeat first|(refine fe hb ?_;intro _ _ hb)|(refine fT hb ?_;intro hb))|refine rt ?_|refine gA rfl ?_|refine gB rfl ?_|apply cT rfl|apply cF rfl|(apply DM.gbT;rfl)|(apply DM.gbF;rfl)|intro h
    (apply DM.ixV (row := v.row) (z := (i : Int)) (by omega) (row_get Of_.row hv); (· rfl); (· rfl))
    repeat' first|(apply Sp.go;·constructor<;>first|exact ss|(change _=_;first|(simp only[go_sem,Nat.reduceBEq,Nat.reduceAdd,Nat.reduceLeDiff,reduceIte]<;>rfl)|rfl)|exact Nat.le_of_ble_eq_true rfl|decide|(repeat' first|(apply Lk.go;constructor)|assumption|exact nb ‹_› ‹_›|exact nt ‹_› ‹_›| refine ho_look ‹_› ?_ | exact ho_blk | exact ho_ta | exact ho_tb ‹_› | exact ho_tc ‹_› | exact ho_td ‹_›))|(intro b hb;repeat first|(refine fe hb ?_;intro _ _ hb)|(refine fT hb ?_;intro hb))|refine rt ?_|refine gA rfl ?_|refine gB rfl ?_|apply cT rfl|apply cF rfl|(apply DM.gbT;rfl)|(apply DM.gbF;rfl)|intro h
    (apply DM.apM; (· rfl); (· repeat' first|(apply Lk.go;constructor)|assumption|exact nb ‹_› ‹_›|exact nt ‹_› ‹_›| refine ho_look ‹_› ?_ | exact ho_blk | exact ho_ta | exact ho_tb ‹_› | exact ho_tc ‹_› | exact ho_td ‹_›); (· simp only [rowsOf, if_true, eq_self, go_sem, Nat.reduceBEq, reduceIte] <;> rfl); (· (simp only [List.length_map, List.length_cons, List.length_nil, List.length_take, maxLen]; omega)); (· (simp only [List.length_map, List.length_cons, List.length_nil, List.length_take, maxLen]; omega)))
    rw [show (p.os.take i).map Of_.row ++ [v.row] = (p.os.take (i + 1)).map Of_.row from take_succ_map Of_.row hv]
    repeat' first|(apply Sp.go;·constructor<;>first|exact ss|(change _=_;first|(simp only[go_sem,Nat.reduceBEq,Nat.reduceAdd,Nat.reduceLeDiff,reduceIte]<;>rfl)|rfl)|exact Nat.le_of_ble_eq_true rfl|decide|(repeat' first|(apply Lk.go;constructor)|assumption|exact nb ‹_› ‹_›|exact nt ‹_› ‹_›| refine ho_look ‹_› ?_ | exact ho_blk | exact ho_ta | exact ho_tb ‹_› | exact ho_tc ‹_› | exact ho_td ‹_›))|(intro b hb;repeat first|(refine fe hb ?_;intro _ _ hb)|(refine fT hb ?_;intro hb))|refine rt ?_|refine gA rfl ?_|refine gB rfl ?_|apply cT rfl|apply cF rfl|(apply DM.gbT;rfl)|(apply DM.gbF;rfl)|intro h
    refine AM.eqH (ho_set_c d) ?_
    refine AM.roundX (i + 1) ⟨rfl, by omega⟩ ?_ (show p.os.length - (i + 1) < p.os.length - i by omega)
    (repeat first | exact envle_nil _ | (refine envle_cons ?_ ?_; · (simp only [go_sem, Nat.reduceBEq, Nat.reduceAdd]; exact AVLe.refl _)))
    refine envle_cons ?_ ?_
    · simp only [go_sem, Nat.reduceBEq, Nat.reduceAdd]
      refine avle_int ?_
      rw [inc64 hlt (show p.os.length ≤ maxLen by unfold maxLen; omega)]
    exact envle_nil _
  intro hlt
  simp at hlt
  have hi2 : i = p.os.length := by omega
  subst hi2
  rw [List.take_length]
  clear hi hlt
  repeat' first|(apply Sp.go;·constructor<;>first|exact ss|(change _=_;first|(simp only[go_sem,Nat.reduceBEq,Nat.reduceAdd,Nat.reduceLeDiff,reduceIte]<;>rfl)|rfl)|exact Nat.le_of_ble_eq_true rfl|decide|(repeat' first|(apply Lk.go;constructor)|assumption|exact nb ‹_› ‹_›|exact nt ‹_› ‹_›| refine ho_look ‹_› ?_ | exact ho_blk | exact ho_ta | exact ho_tb ‹_› | exact ho_tc ‹_› | exact ho_td ‹_›))|(intro b hb;repeat first|(refine fe hb ?_;intro _ _ hb)|(refine fT hb ?_;intro hb))|refine rt ?_|refine gA rfl ?_|refine gB rfl ?_|apply cT rfl|apply cF rfl|(apply DM.gbT;rfl)|(apply DM.gbF;rfl)|intro h
  refine AM.loopX (X := Nat) 0 (fun i => [(1, .ptr b1 0), (2, .ptr b2 0), (3, .ptr b 0), (7, .int .i64 (i : Int))]) (fun i H' => H' = HO G b ta tb tc td p.name p.role (p.vars.map Var_.row) (p.hs.map Hd.row) (p.os.map Of_.row) ((p.code.take i).map Ins_.row) p.vars.length p.hs.length p.os.length i ∧ i ≤ p.code.length) (fun i => p.code.length - i) ⟨rfl, Nat.zero_le _⟩ ?_ ?_
  · (repeat first | exact envle_nil _ | (refine envle_cons ?_ ?_; · (simp only [go_sem, Nat.reduceBEq, Nat.reduceAdd]; exact AVLe.refl _)))
  rintro i H' ⟨rfl, hi⟩
  repeat' first|(apply Sp.go;·constructor<;>first|exact ss|(change _=_;first|(simp only[go_sem,Nat.reduceBEq,Nat.reduceAdd,Nat.reduceLeDiff,reduceIte]<;>rfl)|rfl)|exact Nat.le_of_ble_eq_true rfl|decide|(repeat' first|(apply Lk.go;constructor)|assumption|exact nb ‹_› ‹_›|exact nt ‹_› ‹_›| refine ho_look ‹_› ?_ | exact ho_blk | exact ho_ta | exact ho_tb ‹_› | exact ho_tc ‹_› | exact ho_td ‹_›))|(intro b hb;repeat first|(refine fe hb ?_;intro _ _ hb)|(refine fT hb ?_;intro hb))|refine rt ?_|refine gA rfl ?_|refine gB rfl ?_|apply cT rfl|apply cF rfl|(apply DM.gbT;rfl)|(apply DM.gbF;rfl)|intro h
  (apply AM.cond; (· rfl))
  · intro hlt
    simp at hlt
    obtain ⟨v, hv⟩ := some_of hlt
    repeat' first|(apply Sp.go;·constructor<;>first|exact ss|(change _=_;first|(simp only[go_sem,Nat.reduceBEq,Nat.reduceAdd,Nat.reduceLeDiff,reduceIte]<;>rfl)|rfl)|exact Nat.le_of_ble_eq_true rfl|decide|(repeat' first|(apply Lk.go;constructor)|assumption|exact nb ‹_› ‹_›|exact nt ‹_› ‹_›| refine ho_look ‹_› ?_ | exact ho_blk | exact ho_ta | exact ho_tb ‹_› | exact ho_tc ‹_› | exact ho_td ‹_›))|(intro b hb;repeat first|(refine fe hb ?_;intro _ _ hb)|(refine fT hb ?_;intro hb))|refine rt ?_|refine gA rfl ?_|refine gB rfl ?_|apply cT rfl|apply cF rfl|(apply DM.gbT;rfl)|(apply DM.gbF;rfl)|intro h
    (apply DM.ixV (row := v.row) (z := (i : Int)) (by omega) (row_get Ins_.row hv); (· rfl); (· rfl))
    repeat' first|(apply Sp.go;·constructor<;>first|exact ss|(change _=_;first|(simp only[go_sem,Nat.reduceBEq,Nat.reduceAdd,Nat.reduceLeDiff,reduceIte]<;>rfl)|rfl)|exact Nat.le_of_ble_eq_true rfl|decide|(repeat' first|(apply Lk.go;constructor)|assumption|exact nb ‹_› ‹_›|exact nt ‹_› ‹_›| refine ho_look ‹_› ?_ | exact ho_blk | exact ho_ta | exact ho_tb ‹_› | exact ho_tc ‹_› | exact ho_td ‹_›))|(intro b hb;repeat first|(refine fe hb ?_;intro _ _ hb)|(refine fT hb ?_;intro hb))|refine rt ?_|refine gA rfl ?_|refine gB rfl ?_|apply cT rfl|apply cF rfl|(apply DM.gbT;rfl)|(apply DM.gbF;rfl)|intro h
    (apply DM.apM; (· rfl); (· repeat' first|(apply Lk.go;constructor)|assumption|exact nb ‹_› ‹_›|exact nt ‹_› ‹_›| refine ho_look ‹_› ?_ | exact ho_blk | exact ho_ta | exact ho_tb ‹_› | exact ho_tc ‹_› | exact ho_td ‹_›); (· simp only [rowsOf, if_true, eq_self, go_sem, Nat.reduceBEq, reduceIte] <;> rfl); (· (simp only [List.length_map, List.length_cons, List.length_nil, List.length_take, maxLen]; omega)); (· (simp only [List.length_map, List.length_cons, List.length_nil, List.length_take, maxLen]; omega)))
    rw [show (p.code.take i).map Ins_.row ++ [v.row] = (p.code.take (i + 1)).map Ins_.row from take_succ_map Ins_.row hv]
    repeat' first|(apply Sp.go;·constructor<;>first|exact ss|(change _=_;first|(simp only[go_sem,Nat.reduceBEq,Nat.reduceAdd,Nat.reduceLeDiff,reduceIte]<;>rfl)|rfl)|exact Nat.le_of_ble_eq_true rfl|decide|(repeat' first|(apply Lk.go;constructor)|assumption|exact nb ‹_› ‹_›|exact nt ‹_› ‹_›| refine ho_look ‹_› ?_ | exact ho_blk | exact ho_ta | exact ho_tb ‹_› | exact ho_tc ‹_› | exact ho_td ‹_›))|(intro b hb;repeat first|(refine fe hb ?_;intro _ _ hb)|(refine fT hb ?_;intro hb))|refine rt ?_|refine gA rfl ?_|refine gB rfl ?_|apply cT rfl|apply cF rfl|(apply DM.gbT;rfl)|(apply DM.gbF;rfl)|intro h
    refine AM.eqH (ho_set_d d) ?_
    refine AM.roundX (i + 1) ⟨rfl, by omega⟩ ?_ (show p.code.length - (i + 1) < p.code.length - i by omega)
    (repeat first | exact envle_nil _ | (refine envle_cons ?_ ?_; · (simp only [go_sem, Nat.reduceBEq, Nat.reduceAdd]; exact AVLe.refl _)))
    refine envle_cons ?_ ?_
    · simp only [go_sem, Nat.reduceBEq, Nat.reduceAdd]
      refine avle_int ?_
      rw [inc64 hlt (show p.code.length ≤ maxLen by unfold maxLen; omega)]
    exact envle_nil _
  intro hlt
  simp at hlt
  have hi3 : i = p.code.length := by omega
  subst hi3
  rw [List.take_length]
  clear hi hlt
  repeat' first|(apply Sp.go;·constructor<;>first|exact ss|(change _=_;first|(simp only[go_sem,Nat.reduceBEq,Nat.reduceAdd,Nat.reduceLeDiff,reduceIte]<;>rfl)|rfl)|exact Nat.le_of_ble_eq_true rfl|decide|(repeat' first|(apply Lk.go;constructor)|assumption|exact nb ‹_› ‹_›|exact nt ‹_› ‹_›| refine ho_look ‹_› ?_ | exact ho_blk | exact ho_ta | exact ho_tb ‹_› | exact ho_tc ‹_› | exact ho_td ‹_›))|(intro b hb;repeat first|(refine fe hb ?_;intro _ _ hb)|(refine fT hb ?_;intro hb))|refine rt ?_|refine gA rfl ?_|refine gB rfl ?_|apply cT rfl|apply cF rfl|(apply DM.gbT;rfl)|(apply DM.gbF;rfl)|intro h
  apply AM.retF
  · simp only [Aw.results, ERes.ev, peval, EOpd.ev, Env.get, Nat.reduceBEq, cond_true, cond_false]
    rw [g_same]
    rfl
  · exact hsubO _ _ _ _ _ _ _ _ _
  · exact Frz.agg (FrzL.cons (Frz.same (hsubO _ _ _ _ _ _ _ _ _)) (FrzL.cons (Frz.same (hsubO _ _ _ _ _ _ _ _ _)) (FrzL.cons (Frz.ms (hsubO _ _ _ _ _ _ _ _ _) (t_B ho_ta) fa) (FrzL.cons (Frz.ms (hsubO _ _ _ _ _ _ _ _ _) (t_B (ho_tb d)) fb) (FrzL.cons (Frz.ms (hsubO _ _ _ _ _ _ _ _ _) (t_B (ho_tc d)) fc) (FrzL.cons (Frz.ms (hsubO _ _ _ _ _ _ _ _ _) (t_B (ho_td d)) fd) FrzL.nil))))))
theorem p18 (p : Prog) (hl : p.vars.length ≤ 1000 ∧ p.hs.length ≤ 1000 ∧ p.os.length ≤ 1000 ∧ p.code.length ≤ 1000) : Pure Try.prog 18 [p.av] p.av := p18b p (by omega)
theorem eqF_iff {α β : Type} {q : α → β → Bool} : ∀ {l : List α} {r : List β}, eqF q l r = true ↔ l.length = r.length ∧ ∀ (i : Nat) (a : α) (b : β), l[i]? = some a → r[i]? = some b → q a b = true
 | [], [] => by simp [eqF]
 | [], _ :: _ => by simp [eqF]
 | _ :: _, [] => by simp [eqF]
 | a :: l, b :: r => by
  simp only [eqF, Bool.and_eq_true, eqF_iff (l := l) (r := r), List.length_cons, Nat.add_right_cancel_iff]
  constructor
  ·rintro ⟨h1, h2, h3⟩
   refine ⟨h2, fun i x y hx hy => ?_⟩
   cases i with
   | zero => simp at hx hy; subst hx hy; exact h1
   | succ i => exact h3 i x y (by simpa using hx) (by simpa using hy)
  ·rintro ⟨h2, h3⟩
   exact ⟨h3 0 a b rfl rfl, h2, fun i x y hx hy => h3 (i + 1) x y (by simpa using hx) (by simpa using hy)⟩
theorem clamp_fits {s : Sort_} {v : Val} (h : (clampV s v).2 = 0) : fitsV s (clampV s v).1 = true := by
 unfold clampV at h ⊢
 split at h
 ·simp at h
 ·rename_i h1
  rw [if_neg h1]
  split at h
  ·simp at h
  ·rename_i h2
   rw [if_neg h2]
   simp only [Bool.not_eq_false, Bool.and_eq_true] at h1
   obtain ⟨hs, hv⟩ := h1
   have hk : s.k = v.k := by simpa using h2
   split at h
   ·rename_i h3
    rw [if_pos h3]
    have hs' := hs
    simp [validS] at hs'
    simp [validV] at hv
    have hv3 : -1000 ≤ v.n ∧ v.n ≤ 1000 ∧ v.s = [] := by
     rcases hv with hv | hv
     ·exact ⟨by omega, by omega, hv.2⟩
     ·omega
    simp only [fitsV, Bool.and_eq_true, decide_eq_true_eq]
    refine ⟨⟨⟨⟨hs, ?_⟩, hk⟩, ?_⟩, ?_⟩
    ·simp only [validV, Bool.or_eq_true, Bool.and_eq_true, decide_eq_true_eq]
     exact .inl ⟨⟨⟨h3, by omega⟩, by omega⟩, hv3.2.2⟩
    ·simp only [numberV]; rw [if_pos h3]; omega
    ·simp only [numberV]; rw [if_pos h3]; omega
   ·rename_i h3
    rw [if_neg h3]
    have hs' := hs
    simp [validS] at hs'
    simp [validV] at hv
    have hk2 : v.k = 2 := by omega
    have hlo : 0 ≤ s.lo ∧ s.lo ≤ s.hi ∧ s.hi ≤ 40 := by omega
    have hv2 : v.n = 0 ∧ v.s.length ≤ 40 ∧ printable v.s = true := by
     rcases hv with hv | hv
     ·omega
     ·exact ⟨hv.1.1.2, hv.1.2, hv.2⟩
    have hl : ((clampText s.lo s.hi v.s).length : Int) = max s.lo (min s.hi v.s.length) := by
     simp only [clampText, List.length_append, List.length_take, List.length_replicate]
     omega
    have hp : printable (clampText s.lo s.hi v.s) = true := by
     have h5 := hv2.2.2
     simp only [printable, List.all_eq_true, clampText, List.mem_append] at h5 ⊢
     rintro x (hx | hx)
     ·exact h5 x (List.mem_of_mem_take hx)
     ·obtain ⟨_, rfl⟩ := List.mem_replicate.1 hx
      rfl
    simp only [fitsV, Bool.and_eq_true, decide_eq_true_eq]
    refine ⟨⟨⟨⟨hs, ?_⟩, hk⟩, ?_⟩, ?_⟩
    ·simp only [validV, Bool.or_eq_true, Bool.and_eq_true, decide_eq_true_eq]
     exact .inr ⟨⟨⟨hk2, hv2.1⟩, by omega⟩, hp⟩
    ·simp only [numberV]; rw [if_neg (by omega), if_pos hk2]; omega
    ·simp only [numberV]; rw [if_neg (by omega), if_pos hk2]; omega
theorem push_vars {v : Val} {M : Mach} : (push v M).vars = M.vars := by unfold push; split <;> rfl
theorem result_vars {n : Int} {M : Mach} : (result n M).vars = M.vars := by unfold result; split; rfl; exact push_vars
theorem texts_vars {op : Int} {M : Mach} : (textsM op M).vars = M.vars := by
 unfold textsM
 repeat' split
 all_goals simp only [result_vars, push_vars, pop_vars]
theorem arith_vars {op : Int} {M : Mach} : (arithM op M).vars = M.vars := by unfold arithM ints; rw [result_vars, pop_vars, pop_vars]
theorem control_vars {x : Ins_} {M : Mach} : (controlM x M).vars = M.vars := by
 unfold controlM
 repeat' split
 all_goals simp only [pop_vars]
theorem store_vars {s : Sort_} {n : Nat} {M : Mach} : (storeM s n M).vars = M.vars ∨ ∃ c, fitsV s c = true ∧ (storeM s n M).vars = M.vars.set n c := by
 unfold storeM
 split
 ·exact .inl (pop_vars _ _)
 ·split
  ·rename_i h
   exact .inr ⟨_, clamp_fits h, rfl⟩
  ·exact .inl (pop_vars _ _)
theorem stepX_vars {p : Prog} {ps : List Val} {x : Ins_} {M : Mach} : (stepX p ps x M).vars = M.vars ∨ ∃ w c, x.op = 5 ∧ p.vars[x.n.toNat]? = some w ∧ fitsV w.sort c = true ∧ (stepX p ps x M).vars = M.vars.set x.n.toNat c := by
 unfold stepX
 split
 ·exact .inl push_vars
 ·split
  ·exact .inl push_vars
  ·split
   ·exact .inl push_vars
   ·split
    ·split
     ·exact .inl rfl
     ·exact .inl push_vars
    ·split
     ·rename_i h5
      split
      ·exact .inl rfl
      ·rename_i w hw
       rcases store_vars (s := w.sort) (n := x.n.toNat) (M := M) with h | ⟨c, h1, h2⟩
       ·exact .inl h
       ·exact .inr ⟨w, c, h5, hw, h1, h2⟩
     ·split
      ·exact .inl (by rw [result_vars, pop_vars])
      ·split
       ·exact .inl (by rw [result_vars, pop_vars])
       ·split
        ·exact .inl texts_vars
        ·split
         ·exact .inl arith_vars
         ·exact .inl control_vars
def named (p : Prog) (i : Nat) : Bool := p.code.any fun x => decide (x.op = 5) && decide (x.n = (i : Int))
structure VI (p : Prog) (v0 : List Val) (M : Mach) : Prop where
 inv : Inv p M
 fit : eqF (fun (v : Var_) (x : Val) => fitsV v.sort x) p.vars M.vars = true
 same : ∀ i, named p i = false → M.vars[i]? = v0[i]?
theorem step_VI {p : Prog} {ps v0 : List Val} {M : Mach} (hv : validP p = true) (hp : ∀ v ∈ ps, v.s.length ≤ 1000) (h : VI p v0 M) (hpc : M.pc < p.code.length) : VI p v0 (stepM p ps M) := by
 have h0 := h.inv.p0
 obtain ⟨i, hi⟩ : ∃ i : Nat, M.pc = (i : Int) := ⟨M.pc.toNat, by omega⟩
 obtain ⟨x, hx⟩ : ∃ x, p.code[i]? = some x := ⟨_, List.getElem?_eq_getElem (by omega)⟩
 have hm := List.mem_of_getElem? hx
 refine ⟨step_inv hv hp h.inv hi hx, ?_, ?_⟩
 all_goals
  have e0 : stepM p ps M = stepX p ps x { M with pc := W (M.pc + 1) } := by simp [stepM, hi, hx]
  rw [e0]
  rcases stepX_vars (p := p) (ps := ps) (x := x) (M := { M with pc := W (M.pc + 1) }) with h1 | ⟨w, c, h5, hw, hc, h1⟩
 ·rw [h1]; exact h.fit
 ·rw [h1]
  have hf := eqF_iff.1 h.fit
  refine eqF_iff.2 ⟨by simpa using hf.1, fun j a b ha hb => ?_⟩
  by_cases e : j = x.n.toNat
  ·subst e
   rw [hw] at ha
   obtain rfl : w = a := by simpa using ha
   have := List.mem_or_eq_of_mem_set (List.mem_of_getElem? hb)
   rw [List.getElem?_set_self (by have := (List.getElem?_eq_some_iff.1 hw).1; have := hf.1; show x.n.toNat < M.vars.length; omega)] at hb
   obtain rfl : c = b := by simpa using hb
   exact hc
  ·rw [List.getElem?_set_ne (Ne.symm e)] at hb
   exact hf.2 j a b ha hb
 ·rw [h1]; exact h.same
 ·rw [h1]
  intro j hj
  have hn := (insOk hv hm).var (.inr h5)
  have e : x.n.toNat ≠ j := by
   intro e
   have : named p j = true := by
    simp only [named, List.any_eq_true]
    exact ⟨x, hm, by simp [h5]; omega⟩
   rw [this] at hj
   cases hj
  rw [List.getElem?_set_ne e]
  exact h.same j hj
theorem runF_vars {p : Prog} {ps v0 : List Val} (hv : validP p = true) (hp : ∀ v ∈ ps, v.s.length ≤ 1000) : ∀ (k : Nat) (M : Mach) (u : Nat), VI p v0 M → (runF p ps k M u).err = 0 → ∃ M', VI p v0 M' ∧ (runF p ps k M u).vars = M'.vars ∧ (runF p ps k M u).stack = M'.stack := by
 intro k
 induction k with
 | zero =>
  intro M u hI h
  by_cases hd : M.dn = true
  ·rw [runF_done hd]; exact ⟨M, hI, rfl, rfl⟩
  ·rw [runF.eq_def] at h
   by_cases h2 : (p.code.length : Int) ≤ M.pc <;> simp [hd, h2] at h
 | succ k ih =>
  intro M u hI h
  by_cases hd : M.dn = true
  ·rw [runF_done hd]; exact ⟨M, hI, rfl, rfl⟩
  ·by_cases h2 : (p.code.length : Int) ≤ M.pc
   ·rw [runF.eq_def] at h; simp [hd, h2] at h
   ·by_cases h3 : (stepM p ps M).tr = true
    ·rw [runF.eq_def] at h; simp [hd, h2, h3] at h
    ·rw [runF_go (by simpa using hd) (by omega) (by simpa using h3)] at h ⊢
     exact ih _ _ (step_VI hv hp hI (by omega)) h
theorem runP_vars {p : Prog} {e : Int} {vars ps : List Val} {s : Int} (h : (runP p e vars ps s).err = 0) : soundP p (runP p e vars ps s).vars = true ∧ (runP p e vars ps s).vars.length = vars.length ∧ (runP p e vars ps s).stack.length ≤ 16 ∧ ∀ i, named p i = false → (runP p e vars ps s).vars[i]? = vars[i]? := by
 unfold runP at h ⊢
 split at h
 ·simp at h
 ·rename_i hgood
  rw [if_neg hgood]
  simp [badArgs] at hgood
  obtain ⟨⟨⟨⟨hsd, h1⟩, h2⟩, h3⟩, h4⟩ := hgood
  obtain ⟨hvp, hvl, hvs, hv12⟩ := sound_len hsd
  have hps : ∀ v ∈ ps, v.s.length ≤ 1000 := fun v hv => valid_len (h4 v hv)
  have inv0 : Inv p (mach0 vars e) := ⟨by simp [mach0], by simp [mach0], hvs, by simp [mach0], hvl, h1, by show e ≤ _; omega⟩
  have hsd' := hsd
  simp only [soundP, Bool.and_eq_true] at hsd'
  obtain ⟨M', hI, e1, e2⟩ := runF_vars (v0 := vars) hvp hps _ _ _ ⟨inv0, hsd'.2, fun i _ => rfl⟩ h
  rw [e1, e2]
  refine ⟨by simp only [soundP, hvp, hI.fit, Bool.and_self], by have := hI.inv.vl; omega, hI.inv.st, hI.same⟩
structure RefV where
 b : Nat
 ts : Nat
 tl : Nat
structure RefV.Ok (ρ : RefV) (H0 : AHeap) : Prop where
 sl : ρ.ts ≠ ρ.tl
 fb : H0.blk ρ.b = none
 fs : H0.tok ρ.ts = none
 fl : H0.tok ρ.tl = none
def HV (H0 : AHeap) (ρ : RefV) (st lo : List Int) (vs vl : Nat) : AHeap :=
 ⟨fun x => if x = ρ.b then some (125, [.ms ρ.ts vs, .ms ρ.tl vl]) else H0.blk x, fun x => if x = ρ.ts then some (.mu 3 1 vs (st.map irow)) else if x = ρ.tl then some (.mu 3 1 vl (lo.map irow)) else H0.tok x⟩
section
variable {H0 H : AHeap} {ρ : RefV} {st lo : List Int} {vs vl : Nat}
theorem hv_blk : (HV H0 ρ st lo vs vl).blk ρ.b = some (125, [.ms ρ.ts vs, .ms ρ.tl vl]) := by simp [HV]
theorem hv_ts : (HV H0 ρ st lo vs vl).tok ρ.ts = some (.mu 3 1 vs (st.map irow)) := by simp [HV]
theorem hv_tl (d : ρ.Ok H0) : (HV H0 ρ st lo vs vl).tok ρ.tl = some (.mu 3 1 vl (lo.map irow)) := by simp [HV, Ne.symm d.sl]
theorem hv_look {x : Nat} {y : Option (TypeId × List AV)} (hx : x ≠ ρ.b) (h : H0.blk x = y) : (HV H0 ρ st lo vs vl).blk x = y := by simp [HV, hx, h]
theorem hv_old {x : Nat} {y : TypeId × List AV} (hx : x ≠ ρ.b) (h : H0.blk x = some y) : (HV H0 ρ st lo vs vl).blk x = some y := by simp [HV, hx, h]
theorem hv_oldT {x : Nat} {y : Own} (h1 : x ≠ ρ.ts) (h2 : x ≠ ρ.tl) (h : H0.tok x = some y) : (HV H0 ρ st lo vs vl).tok x = some y := by simp [HV, h1, h2, h]
theorem fresh_elimV {G : Prop} {x : Nat} (h : (HV H0 ρ st lo vs vl).blk x = none) (k : x ≠ ρ.b → ρ.b ≠ x → H0.blk x = none → G) : G := by
 simp only [HV] at h
 by_cases e : x = ρ.b
 ·rw [if_pos e] at h; cases h
 ·rw [if_neg e] at h; exact k e (Ne.symm e) h
theorem hv_setB {x : Nat} {T : TypeId} {c : List AV} (hx : x ≠ ρ.b) : (HV H0 ρ st lo vs vl).setB x T c = HV (H0.setB x T c) ρ st lo vs vl := by
 simp only [HV, AHeap.setB, AHeap.mk.injEq, and_true]
 funext y
 by_cases e : y = x
 ·subst e; simp [hx]
 ·simp [e]
theorem hsub_hv (hb : H.blk ρ.b = some (125, [.ms ρ.ts vs, .ms ρ.tl vl])) (ho : ∀ x y, x ≠ ρ.b → H0.blk x = some y → H.blk x = some y) (hs : H.tok ρ.ts = some (.mu 3 1 vs (st.map irow))) (hl : H.tok ρ.tl = some (.mu 3 1 vl (lo.map irow)))
  (hq : ∀ x y, x ≠ ρ.ts → x ≠ ρ.tl → H0.tok x = some y → H.tok x = some y) : HSub (HV H0 ρ st lo vs vl) H where
 blk := fun x y h => by
  simp only [HV] at h
  by_cases e : x = ρ.b
  ·subst e; rw [if_pos rfl] at h; rw [hb]; exact h
  ·rw [if_neg e] at h; exact ho x y e h
 tok := fun x y h => by
  simp only [HV] at h
  by_cases e : x = ρ.ts
  ·subst e; rw [if_pos rfl] at h; rw [hs]; exact h
  ·rw [if_neg e] at h
   by_cases e2 : x = ρ.tl
   ·subst e2; rw [if_pos rfl] at h; rw [hl]; exact h
   ·rw [if_neg e2] at h; exact hq x y e e2 h
theorem hv_base (d : ρ.Ok H0) : HSub H0 (HV H0 ρ st lo vs vl) where
 blk := fun x y h => hv_old (fun e => by subst e; rw [d.fb] at h; cases h) h
 tok := fun x y h => hv_oldT (fun e => by subst e; rw [d.fs] at h; cases h) (fun e => by subst e; rw [d.fl] at h; cases h) h
inductive Lv : Prop → Prop
 | bk {H0 : AHeap} {ρ : RefV} {st lo : List Int} {vs vl : Nat} : Lv ((HV H0 ρ st lo vs vl).blk ρ.b = some (125, [.ms ρ.ts vs, .ms ρ.tl vl]))
 | lk {H0 : AHeap} {ρ : RefV} {st lo : List Int} {vs vl x : Nat} {y : Option (TypeId × List AV)} (hx : x ≠ ρ.b) (h : H0.blk x = y) : Lv ((HV H0 ρ st lo vs vl).blk x = y)
 | ts {H0 : AHeap} {ρ : RefV} {st lo : List Int} {vs vl : Nat} : Lv ((HV H0 ρ st lo vs vl).tok ρ.ts = some (.mu 3 1 vs (st.map irow)))
 | tl {H0 : AHeap} {ρ : RefV} {st lo : List Int} {vs vl : Nat} (d : ρ.Ok H0) : Lv ((HV H0 ρ st lo vs vl).tok ρ.tl = some (.mu 3 1 vl (lo.map irow)))
theorem Lv.go {G : Prop} (h : Lv G) : G := by
 cases h with
 | bk => exact hv_blk
 | lk hx h => exact hv_look hx h
 | ts => exact hv_ts
 | tl d => exact hv_tl d
end
abbrev stopv (e : Int) : AV := .ifc 162 (.agg [.int .i64 e])
def MVR (H0 : AHeap) (ρ : RefV) (e : Int) : Option (List Int × List Int) → Out → AHeap → Prop
 | some s, o, H' => o = .ret (.tup []) ∧ ∃ vs' vl', H' = HV H0 ρ s.1 s.2 vs' vl'
 | none, o, H' => o = .pan (stopv e) ∧ HSub H0 H'
def MV (f : FuncId) (args : List AV) (H0 : AHeap) (ρ : RefV) (st lo : List Int) (e : Int) (out : Option (List Int × List Int)) : Prop :=
 ∀ vs vl, ACalls Try.prog f args (HV H0 ρ st lo vs vl) (MVR H0 ρ e out)
def MVW (H0 : AHeap) (ρ : RefV) (e : Int) : Option (List Int × List Int) → Out → AHeap → Prop
 | some s, o, H' => o = .ret (.tup []) ∧ ∃ vs' vl', HSub (HV H0 ρ s.1 s.2 vs' vl') H'
 | none, o, H' => o = .pan (stopv e) ∧ HSub H0 H'
theorem mvw_ok {H0 H : AHeap} {ρ : RefV} {e : Int} {s : List Int × List Int} {vs' vl' : Nat} (h : HSub (HV H0 ρ s.1 s.2 vs' vl') H) : MVW H0 ρ e (some s) (.ret (.tup [])) H := ⟨rfl, vs', vl', h⟩
theorem mvw_pan {H0 H : AHeap} {ρ : RefV} {e : Int} (h : HSub H0 H) : MVW H0 ρ e none (.pan (stopv e)) H := ⟨rfl, h⟩
theorem hv_mono {H0 H1 : AHeap} {ρ : RefV} {st lo : List Int} {vs vl : Nat} (h : HSub H0 H1) : HSub (HV H0 ρ st lo vs vl) (HV H1 ρ st lo vs vl) where
 blk := fun x y e => by
  simp only [HV] at e ⊢
  by_cases k : x = ρ.b
  ·rw [if_pos k] at e ⊢; exact e
  ·rw [if_neg k] at e ⊢; exact h.blk x y e
 tok := fun x y e => by
  simp only [HV] at e ⊢
  by_cases k : x = ρ.ts
  ·rw [if_pos k] at e ⊢; exact e
  ·rw [if_neg k] at e ⊢
   by_cases k2 : x = ρ.tl
   ·rw [if_pos k2] at e ⊢; exact e
   ·rw [if_neg k2] at e ⊢; exact h.tok x y e
theorem mv_intro {f : FuncId} {fn : Func} {args : List AV} {ec : EC} {rs : List ERes} {H0 : AHeap} {ρ : RefV} {st lo : List Int} {e : Int} {out : Option (List Int × List Int)} (hf : Try.prog.funcs[f]? = some fn) (hc : chkF Try.prog fn args.length ec rs = true)
  (h : ∀ vs vl, AM Try.prog rs (MVW H0 ρ e out) [.c ec] (initEnv args) (HV H0 ρ st lo vs vl)) : MV f args H0 ρ st lo e out := by
 intro vs vl
 refine (acalls_of mo hf hc (h vs vl)).mono fun o H' hr => ?_
 cases out with
 | none => obtain ⟨rfl, hs⟩ := hr; exact ⟨.pan _, H', AVLe.refl _, HSub.refl _, rfl, hs⟩
 | some s => obtain ⟨rfl, vs', vl', hs⟩ := hr; exact ⟨.ret _, _, AVLe.refl _, hs, rfl, vs', vl', rfl⟩
section
variable {P : Program} {d? : Option Nat} {l : List EI} {env : Env} {K : Env → AHeap → Prop} {Rp : AV → AHeap → Prop} {f : FuncId} {args : List EOpd} {aa az' : List AV} {H0 : AHeap} {ρ : RefV} {st lo st' lo' : List Int} {e : Int} {vs vl : Nat}
theorem DM.mvO (hc : MV f aa H0 ρ st lo e (some (st', lo'))) (hm : args.map (EOpd.ev env) = az') (ha : AVLes az' aa) (h : ∀ vs' vl', DM Try.prog l (env.put d? (.tup [])) (HV H0 ρ st' lo' vs' vl') K Rp) : DM Try.prog (⟨d?, none, .call f args⟩ :: l) env (HV H0 ρ st lo vs vl) K Rp := by
 simp only [DM, wanted]
 exact IStep.call _ (hm ▸ ha) (hc vs vl) fun o H' ⟨e, vs', vl', e2⟩ => by subst e; subst e2; exact h vs' vl'
theorem DM.mvX (hc : MV f aa H0 ρ st lo e none) (hm : args.map (EOpd.ev env) = az') (ha : AVLes az' aa) (h : ∀ H', HSub H0 H' → Rp (stopv e) H') : DM Try.prog (⟨d?, none, .call f args⟩ :: l) env (HV H0 ρ st lo vs vl) K Rp := by
 simp only [DM, wanted]
 exact IStep.call _ (hm ▸ ha) (hc vs vl) fun o H' ⟨e, e2⟩ => by subst e; exact h H' e2
theorem DM.pan {t : TypeId} {v : AV} {x : EOpd} {H : AHeap} (hx : x.ev env = .ifc t v) (h : Rp (.ifc t v) H) : DM P (⟨d?, none, .panic x⟩ :: l) env H K Rp := DM.step rfl (IStep.panic hx h)
end
theorem p115t (e : Int) : Pure Try.prog 115 [.bool true, .int .i64 e] (.tup []) := by
 refine pure_intro mo Try.func115 c115 fun H => ?_
 unfold e115 r115
 simp only [initEnv, initFrom]
 repeat' first|(apply Sp.go;·constructor<;>first|exact ss|(change _=_;first|(simp only[go_sem,Nat.reduceBEq,Nat.reduceAdd,Nat.reduceLeDiff,reduceIte]<;>rfl)|rfl)|exact Nat.le_of_ble_eq_true rfl|decide|(repeat' first|(apply Lk.go;constructor)|assumption|exact nb ‹_› ‹_›|exact nt ‹_› ‹_›))|(intro b hb;repeat first|(refine fe hb ?_;intro _ _ hb)|(refine fT hb ?_;intro hb))|refine rt ?_|refine gA rfl ?_|refine gB rfl ?_|apply cT rfl|apply cF rfl|(apply DM.gbT;rfl)|(apply DM.gbF;rfl)|intro h
 (apply Sr.go;·constructor<;>first|(apply Lk.go;constructor<;>first|exact ss|(change _=_;first|(simp only[go_sem,Nat.reduceBEq,Nat.reduceAdd,Nat.reduceLeDiff,reduceIte]<;>rfl)|rfl)|exact Nat.le_of_ble_eq_true rfl|decide|(repeat' first|(apply Lk.go;constructor)|assumption|exact nb ‹_› ‹_›|exact nt ‹_› ‹_›))|assumption)
 exact AVLe.refl _
theorem p115f (e : Int) (H : AHeap) : ACalls Try.prog 115 [.bool false, .int .i64 e] H fun o H' => ∃ v, o = .pan v ∧ (v = stopv e ∧ H' = H) := by
 refine acalls_of mo Try.func115 c115 ?_
 unfold e115 r115
 simp only [initEnv, initFrom]
 repeat' first|(apply Sp.go;·constructor<;>first|exact ss|(change _=_;first|(simp only[go_sem,Nat.reduceBEq,Nat.reduceAdd,Nat.reduceLeDiff,reduceIte]<;>rfl)|rfl)|exact Nat.le_of_ble_eq_true rfl|decide|(repeat' first|(apply Lk.go;constructor)|assumption|exact nb ‹_› ‹_›|exact nt ‹_› ‹_›))|(intro b hb;repeat first|(refine fe hb ?_;intro _ _ hb)|(refine fT hb ?_;intro hb))|refine rt ?_|refine gA rfl ?_|refine gB rfl ?_|apply cT rfl|apply cF rfl|(apply DM.gbT;rfl)|(apply DM.gbF;rfl)|intro h
 refine DM.pan (by simp only [go_sem, Nat.reduceBEq] <;> rfl) ?_
 exact ⟨_, rfl, rfl, rfl⟩
theorem rows1 (l : List Int) : ∀ r ∈ l.map irow, r.length = 1 := fun r h => by obtain ⟨v, _, rfl⟩ := List.mem_map.1 h; rfl
def pushK (k : Int) (st : List Int) : Option (List Int) := if st.length < 16 then some (st ++ [k]) else none
theorem p114 {H0 : AHeap} {ρ : RefV} (d : ρ.Ok H0) (st lo : List Int) (k : Int) : MV 114 [.ptr ρ.b 0, .int .i64 k] H0 ρ st lo 11 ((pushK k st).map fun s => (s, lo)) := by
 refine mv_intro Try.func114 c114 fun vs vl => ?_
 have d1 := d.sl; have d2 := Ne.symm d.sl
 unfold e114 r114
 simp only [initEnv, initFrom]
 repeat' first|(apply Sp.go;·constructor<;>first|exact ss|(change _=_;first|(simp only[go_sem,Nat.reduceBEq,Nat.reduceAdd,Nat.reduceLeDiff,reduceIte]<;>rfl)|rfl)|exact Nat.le_of_ble_eq_true rfl|decide|(repeat' first|(apply Lk.go;constructor)|assumption|exact nb ‹_› ‹_›|exact nt ‹_› ‹_›|(apply Lv.go;constructor)))|(intro b hb;repeat first|(refine fe hb ?_;intro _ _ hb)|(refine fT hb ?_;intro hb)|(refine fresh_elimV hb ?_;intro _ _ hb))|refine rt ?_|refine gA rfl ?_|refine gB rfl ?_|apply cT rfl|apply cF rfl|(apply DM.gbT;rfl)|(apply DM.gbF;rfl)|intro h
 by_cases h : st.length < 16
 ·have e1 : decide (((st.map irow).length : Int) < 16) = true := by rw [List.length_map]; exact decide_eq_true (by omega)
  simp only [e1]
  rw [show pushK k st = some (st ++ [k]) by simp [pushK, h]]
  (apply DM.pcs (p115t 11); (· simp only [go_sem, Nat.reduceBEq, Nat.reduceAdd] <;> rfl); (· exact AVLes.refl _))
  repeat' first|(apply Sp.go;·constructor<;>first|exact ss|(change _=_;first|(simp only[go_sem,Nat.reduceBEq,Nat.reduceAdd,Nat.reduceLeDiff,reduceIte]<;>rfl)|rfl)|exact Nat.le_of_ble_eq_true rfl|decide|(repeat' first|(apply Lk.go;constructor)|assumption|exact nb ‹_› ‹_›|exact nt ‹_› ‹_›|(apply Lv.go;constructor)))|(intro b hb;repeat first|(refine fe hb ?_;intro _ _ hb)|(refine fT hb ?_;intro hb)|(refine fresh_elimV hb ?_;intro _ _ hb))|refine rt ?_|refine gA rfl ?_|refine gB rfl ?_|apply cT rfl|apply cF rfl|(apply DM.gbT;rfl)|(apply DM.gbF;rfl)|(apply DM.apM; (· rfl); (· repeat' first|(apply Lk.go;constructor)|assumption|exact nb ‹_› ‹_›|exact nt ‹_› ‹_›|(apply Lv.go;constructor)); (· simp only [rowsOf, if_true, eq_self, go_sem, Nat.reduceBEq, reduceIte] <;> rfl); (· (simp only [List.length_map, List.length_cons, List.length_nil]; first | (unfold maxLen; omega) | omega)); (· (simp only [List.length_map, List.length_cons, List.length_nil]; first | (unfold maxLen; omega) | omega)))|intro h
  (first|refine AM.ret (v := .tup []) results_nil ?_|refine AM.done (v := .tup []) results_nil ?_)
  refine mvw_ok (vs' := vs + 1) (vl' := vl) ?_
  dsimp only
  rw [show List.map irow st ++ [[AV.int IntKind.i64 k]] = (st ++ [k]).map irow by simp]
  (refine hsub_hv ?_ ?_ ?_ ?_ ?_<;>first|(intro x y h1 h2 h;repeat first|exact h|refine hv_oldT h1 h2 ?_|refine t_ne ‹_› ?_|refine t_fresh ‹_› ?_|refine t_B ?_)|(intro x y hx h;repeat first|exact h|refine hv_old hx ?_|refine g_ne hx ?_|refine g_ne (nb ‹_› h) ?_|refine g_fresh ‹_› ?_|refine g_T ?_)|(repeat' first|(apply Lk.go;constructor)|assumption|exact nb ‹_› ‹_›|exact nt ‹_› ‹_›|(apply Lv.go;constructor)))
 ·have e1 : decide (((st.map irow).length : Int) < 16) = false := by rw [List.length_map]; exact decide_eq_false (by omega)
  simp only [e1]
  rw [show pushK k st = none by simp [pushK, h]]
  refine DM.calX (p115f 11 _) (by simp only [go_sem, Nat.reduceBEq, Nat.reduceAdd] <;> rfl) (AVLes.refl _) ?_
  rintro v H' ⟨rfl, rfl⟩
  exact mvw_pan (hv_base d)
end Go.Aw.T
