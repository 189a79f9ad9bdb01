/- Part of a proof; own work. -/
import Derived.Below
import Derived.Lib.OthersKept
import Derived.Deep.LoopGhost
import Derived.Laws.RangeAny
import Derived.KernelRfl
import Derived.Shelf.Strconv.Itoa3
import Derived.Shelf.Strconv.AtoiAll
import Derived.Shelf.Strings.BuilderK
import Derived.Shelf.Strings.Search1
import Derived.Test.YtocjjlmnkpnjbaaGreatDoorProg
import Derived.Test.YtocjjlmnkpnjbaaGreatDoorBS3
namespace Go.Aw.T
open Go Go.Aw Go.Proofs Go.RowKit
set_option maxRecDepth 100000
attribute [local irreducible] Go.Aw.DM Go.Aw.AHeap.setB Go.Aw.AHeap.setT
attribute [local go_sem] peval EOpd.ev Env.get binInt binStr binBool buildParts AV.cells AV.okc setRange minmaxAV AV.one AV.ofCells eqCells eqCell bslRows cond_true cond_false beq_self_eq_true Bool.not_true Bool.not_false beq_true beq_false eq_self if_true Option.some.injEq List.length_cons List.length_nil List.take_succ_cons List.take_zero List.drop_succ_cons List.drop_zero List.set_cons_succ List.set_cons_zero List.nil_append List.cons_append List.append_nil and_self Option.map_some List.map_cons List.map_nil Bool.false_eq_true if_false Nat.zero_add Nat.add_zero true_and and_true Bool.and_true Bool.true_and List.getElem?_cons_zero List.getElem?_cons_succ Nat.zero_le Nat.le_refl
set_option linter.unusedSimpArgs false
set_option linter.unusedVariables false
theorem drop_of {α : Type} {l : List α} {i : Nat} {v : α} (h : l[i]? = some v) : l.drop i = v :: l.drop (i + 1) := by
 obtain ⟨h3, e⟩ := List.getElem?_eq_some_iff.1 h
 rw [List.drop_eq_getElem_cons h3, e]
theorem some_of {α : Type} {l : List α} {i : Nat} (h : i < l.length) : ∃ v, l[i]? = some v := ⟨_, List.getElem?_eq_getElem h⟩
theorem AM.ghostE {P : Program} {rs : List ERes} {R : Out → AHeap → Prop} {k : List Item} {env : Env} {H : AHeap} (j Te size : Nat) (h0 : size ≠ 0) (hj : env.get j = .nilS)
  (h : ∀ t, H.tok t = none → AM P rs R k ((j, .ms t 0) :: env) (H.setT t (.mu Te size 0 []))) : AM P rs R k env H := by
 refine AM.conv (fun env' H' => ∃ t, H.tok t = none ∧ env' = (j, .ms t 0) :: env ∧ H' = H.setT t (.mu Te size 0 [])) ?_ ?_
 ·intro m hH rh
  subst hH
  obtain ⟨r1, e1, v1⟩ := new_ms_nil rh (T := Te) h0
  refine ⟨(j, .ms m.T 0) :: env, _, _, _, ⟨m.T, tok_new rh, rfl, rfl⟩, r1, e1, fun i v hv => ?_⟩
  by_cases hi : i = j
  ·subst hi
   rw [hj] at hv
   simp only [Rv] at hv
   subst hv
   have : Env.get ((i, AV.ms m.T 0) :: env) i = .ms m.T 0 := by simp [Env.get]
   rw [this]
   exact v1
  ·have : Env.get ((j, AV.ms m.T 0) :: env) i = Env.get env i := by
    have e : (j == i) = false := by simp only [beq_eq_false_iff_ne]; exact fun e => hi e.symm
    simp only [Env.get, e, cond_false]
   rw [this]
   exact Rv.ev e1 _ _ hv
 ·rintro env' H' ⟨t, h1, rfl, rfl⟩
  exact h t h1
theorem AM.ghostO {P : Program} {rs : List ERes} {R : Out → AHeap → Prop} {k : List Item} {env : Env} {H : AHeap} (j Te size : Nat) (h0 : size ≠ 0) (hj : env.get j = .nilS)
  (h : ∀ t, H.tok t = none → AM P rs R k ((j, .own t size []) :: env) (H.setT t (.frz Te size 0))) : AM P rs R k env H := by
 refine AM.conv (fun env' H' => ∃ t, H.tok t = none ∧ env' = (j, .own t size []) :: env ∧ H' = H.setT t (.frz Te size 0)) ?_ ?_
 ·intro m hH rh
  subst hH
  obtain ⟨r1, e1, v1⟩ := new_tok_nil rh (T := Te) h0
  refine ⟨(j, .own m.T size []) :: env, _, _, _, ⟨m.T, tok_new rh, rfl, rfl⟩, r1, e1, fun i v hv => ?_⟩
  by_cases hi : i = j
  ·subst hi
   rw [hj] at hv
   simp only [Rv] at hv
   subst hv
   have : Env.get ((i, AV.own m.T size []) :: env) i = .own m.T size [] := by simp [Env.get]
   rw [this]
   exact v1
  ·have : Env.get ((j, AV.own m.T size []) :: env) i = Env.get env i := by
    have e : (j == i) = false := by simp only [beq_eq_false_iff_ne]; exact fun e => hi e.symm
    simp only [Env.get, e, cond_false]
   rw [this]
   exact Rv.ev e1 _ _ hv
 ·rintro env' H' ⟨t, h1, rfl, rfl⟩
  exact h t h1
theorem DM.apO {P : Program} {T size bytes t d : Nat} {x y : EOpd} {env : Env} {H : AHeap} {rows nw : List (List AV)} {l : List EI} {K : Env → AHeap → Prop} {Rp : AV → AHeap → Prop} (hx : x.ev env = .own t size rows) (ht : H.tok t = some (.frz T size rows.length)) (hy : rowsOf size (y.ev env) = some nw) (hb : (rows.length + nw.length) * bytes ≤ 140737488355328) (hm : rows.length + nw.length ≤ maxLen) (h : DM P l ((d, .own t size (rows ++ nw)) :: env) (H.setT t (.frz T size (rows.length + nw.length))) K Rp) : DM P (⟨some d, none, .append T size bytes x y⟩ :: l) env H K Rp := by
 simp only [DM, wanted]
 exact IStep.append hx ht hy hb hm h
theorem mo : Tryz.prog.follows .mixedOrders = true := by kernel_rfl
structure Val where
 k : Int
 n : Int
 s : List UInt8
abbrev Val.row (v : Val) : List AV := [.int .i64 v.k, .int .i64 v.n, .str v.s]
abbrev Val.av (v : Val) : AV := .agg [.int .i64 v.k, .int .i64 v.n, .str v.s]
def digit (c : UInt8) : Bool := decide (48 ≤ c.toNat) && decide (c.toNat ≤ 57)
def letter (c : UInt8) : Bool := (decide (97 ≤ c.toNat) && decide (c.toNat ≤ 122)) || (decide (65 ≤ c.toNat) && decide (c.toNat ≤ 90))
def inner (c : UInt8) : Bool := letter c || digit c || decide (c.toNat = 95)
def isName (s : List UInt8) : Bool := match s with | [] => false | c :: _ => letter c && s.all inner && decide (s.length ≤ 16)
theorem p109 (c : UInt8) : Pure Tryz.prog 109 [.int .u8 c.toNat] (.bool (digit c)) := by
 refine pure_intro mo Tryz.func109 c109 fun H => ?_
 unfold e109 r109
 simp only [initEnv, initFrom]
 repeat' first|(apply Sp.go;·constructor<;>first|exact ss|(change _=_;first|(simp only[go_sem,Nat.reduceBEq,Nat.reduceAdd,Nat.reduceLeDiff,reduceIte]<;>rfl)|rfl)|exact Nat.le_of_ble_eq_true rfl|decide|(repeat' first|(apply Lk.go;constructor)|assumption|exact nb ‹_› ‹_›|exact nt ‹_› ‹_›))|(intro b hb;repeat first|(refine fe hb ?_;intro _ _ hb)|(refine fT hb ?_;intro hb))|refine rt ?_|refine gA rfl ?_|refine gB rfl ?_|apply cT rfl|apply cF rfl|(apply DM.gbT;rfl)|(apply DM.gbF;rfl)|intro h
 all_goals ((apply Sr.go;·constructor<;>first|(apply Lk.go;constructor<;>first|exact ss|(change _=_;first|(simp only[go_sem,Nat.reduceBEq,Nat.reduceAdd,Nat.reduceLeDiff,reduceIte]<;>rfl)|rfl)|exact Nat.le_of_ble_eq_true rfl|decide|(repeat' first|(apply Lk.go;constructor)|assumption|exact nb ‹_› ‹_›|exact nt ‹_› ‹_›))|assumption))
 all_goals (refine avle_eq ?_; rw [AV.bool.injEq, Bool.eq_iff_iff]; simp [digit] at *; try omega)
theorem p75 (c : UInt8) : Pure Tryz.prog 75 [.int .u8 c.toNat] (.bool (letter c)) := by
 refine pure_intro mo Tryz.func75 c75 fun H => ?_
 unfold e75 r75
 simp only [initEnv, initFrom]
 repeat' first|(apply Sp.go;·constructor<;>first|exact ss|(change _=_;first|(simp only[go_sem,Nat.reduceBEq,Nat.reduceAdd,Nat.reduceLeDiff,reduceIte]<;>rfl)|rfl)|exact Nat.le_of_ble_eq_true rfl|decide|(repeat' first|(apply Lk.go;constructor)|assumption|exact nb ‹_› ‹_›|exact nt ‹_› ‹_›))|(intro b hb;repeat first|(refine fe hb ?_;intro _ _ hb)|(refine fT hb ?_;intro hb))|refine rt ?_|refine gA rfl ?_|refine gB rfl ?_|apply cT rfl|apply cF rfl|(apply DM.gbT;rfl)|(apply DM.gbF;rfl)|intro h
 all_goals ((apply Sr.go;·constructor<;>first|(apply Lk.go;constructor<;>first|exact ss|(change _=_;first|(simp only[go_sem,Nat.reduceBEq,Nat.reduceAdd,Nat.reduceLeDiff,reduceIte]<;>rfl)|rfl)|exact Nat.le_of_ble_eq_true rfl|decide|(repeat' first|(apply Lk.go;constructor)|assumption|exact nb ‹_› ‹_›|exact nt ‹_› ‹_›))|assumption))
 all_goals (refine avle_eq ?_; rw [AV.bool.injEq, Bool.eq_iff_iff]; simp [letter] at *; try omega)
theorem p76 (c : UInt8) : Pure Tryz.prog 76 [.int .u8 c.toNat] (.bool (inner c)) := by
 refine pure_intro mo Tryz.func76 c76 fun H => ?_
 unfold e76 r76
 simp only [initEnv, initFrom]
 repeat' first|(apply Sp.go;·constructor<;>first|exact ss|(change _=_;first|(simp only[go_sem,Nat.reduceBEq,Nat.reduceAdd,Nat.reduceLeDiff,reduceIte]<;>rfl)|rfl)|exact Nat.le_of_ble_eq_true rfl|decide|(repeat' first|(apply Lk.go;constructor)|assumption|exact nb ‹_› ‹_›|exact nt ‹_› ‹_›))|(intro b hb;repeat first|(refine fe hb ?_;intro _ _ hb)|(refine fT hb ?_;intro hb))|refine rt ?_|refine gA rfl ?_|refine gB rfl ?_|apply cT rfl|apply cF rfl|(apply DM.gbT;rfl)|(apply DM.gbF;rfl)|intro h
 (apply DM.pcs (p75 _); (· simp only [go_sem, Nat.reduceBEq, Nat.reduceAdd] <;> rfl); (· exact AVLes.refl _))
 repeat' first|(apply Sp.go;·constructor<;>first|exact ss|(change _=_;first|(simp only[go_sem,Nat.reduceBEq,Nat.reduceAdd,Nat.reduceLeDiff,reduceIte]<;>rfl)|rfl)|exact Nat.le_of_ble_eq_true rfl|decide|(repeat' first|(apply Lk.go;constructor)|assumption|exact nb ‹_› ‹_›|exact nt ‹_› ‹_›))|(intro b hb;repeat first|(refine fe hb ?_;intro _ _ hb)|(refine fT hb ?_;intro hb))|refine rt ?_|refine gA rfl ?_|refine gB rfl ?_|apply cT rfl|apply cF rfl|(apply DM.gbT;rfl)|(apply DM.gbF;rfl)|intro h
 (apply DM.pcs (p109 _); (· simp only [go_sem, Nat.reduceBEq, Nat.reduceAdd] <;> rfl); (· exact AVLes.refl _))
 repeat' first|(apply Sp.go;·constructor<;>first|exact ss|(change _=_;first|(simp only[go_sem,Nat.reduceBEq,Nat.reduceAdd,Nat.reduceLeDiff,reduceIte]<;>rfl)|rfl)|exact Nat.le_of_ble_eq_true rfl|decide|(repeat' first|(apply Lk.go;constructor)|assumption|exact nb ‹_› ‹_›|exact nt ‹_› ‹_›))|(intro b hb;repeat first|(refine fe hb ?_;intro _ _ hb)|(refine fT hb ?_;intro hb))|refine rt ?_|refine gA rfl ?_|refine gB rfl ?_|apply cT rfl|apply cF rfl|(apply DM.gbT;rfl)|(apply DM.gbF;rfl)|intro h
 all_goals ((apply Sr.go;·constructor<;>first|(apply Lk.go;constructor<;>first|exact ss|(change _=_;first|(simp only[go_sem,Nat.reduceBEq,Nat.reduceAdd,Nat.reduceLeDiff,reduceIte]<;>rfl)|rfl)|exact Nat.le_of_ble_eq_true rfl|decide|(repeat' first|(apply Lk.go;constructor)|assumption|exact nb ‹_› ‹_›|exact nt ‹_› ‹_›))|assumption))
 all_goals (refine avle_eq ?_; rw [AV.bool.injEq, Bool.eq_iff_iff]; simp [inner] at *; first | omega | (simp [*]; done) | (simp [*]; omega))
theorem isName_of {s : List UInt8} {c : UInt8} (h : s[0]? = some c) : isName s = (letter c && s.all inner && decide (s.length ≤ 16)) := by
 cases s with
 | nil => simp at h
 | cons d l => simp at h; subst h; rfl
theorem p29 (s : List UInt8) (hs : s.length ≤ maxLen) : Pure Tryz.prog 29 [.str s] (.bool (isName s)) := by
 refine pure_intro mo Tryz.func29 c29 fun H => ?_
 unfold e29 r29
 simp only [initEnv, initFrom]
 repeat' first|(apply Sp.go;·constructor<;>first|exact ss|(change _=_;first|(simp only[go_sem,Nat.reduceBEq,Nat.reduceAdd,Nat.reduceLeDiff,reduceIte]<;>rfl)|rfl)|exact Nat.le_of_ble_eq_true rfl|decide|(repeat' first|(apply Lk.go;constructor)|assumption|exact nb ‹_› ‹_›|exact nt ‹_› ‹_›))|(intro b hb;repeat first|(refine fe hb ?_;intro _ _ hb)|(refine fT hb ?_;intro hb))|refine rt ?_|refine gA rfl ?_|refine gB rfl ?_|apply cT rfl|apply cF rfl|(apply DM.gbT;rfl)|(apply DM.gbF;rfl)|intro h
 ·obtain ⟨c, hc⟩ : ∃ c, s[0]? = some c := by cases s with | nil => simp at * | cons c l => exact ⟨c, rfl⟩
  have hn := isName_of hc
  (apply DM.idxSs s .i64 0 c (by decide) hc; (· rfl); (· rfl))
  repeat' first|(apply Sp.go;·constructor<;>first|exact ss|(change _=_;first|(simp only[go_sem,Nat.reduceBEq,Nat.reduceAdd,Nat.reduceLeDiff,reduceIte]<;>rfl)|rfl)|exact Nat.le_of_ble_eq_true rfl|decide|(repeat' first|(apply Lk.go;constructor)|assumption|exact nb ‹_› ‹_›|exact nt ‹_› ‹_›))|(intro b hb;repeat first|(refine fe hb ?_;intro _ _ hb)|(refine fT hb ?_;intro hb))|refine rt ?_|refine gA rfl ?_|refine gB rfl ?_|apply cT rfl|apply cF rfl|(apply DM.gbT;rfl)|(apply DM.gbF;rfl)|intro h
  (apply DM.pcs (p75 _); (· simp only [go_sem, Nat.reduceBEq, Nat.reduceAdd] <;> rfl); (· exact AVLes.refl _))
  repeat' first|(apply Sp.go;·constructor<;>first|exact ss|(change _=_;first|(simp only[go_sem,Nat.reduceBEq,Nat.reduceAdd,Nat.reduceLeDiff,reduceIte]<;>rfl)|rfl)|exact Nat.le_of_ble_eq_true rfl|decide|(repeat' first|(apply Lk.go;constructor)|assumption|exact nb ‹_› ‹_›|exact nt ‹_› ‹_›))|(intro b hb;repeat first|(refine fe hb ?_;intro _ _ hb)|(refine fT hb ?_;intro hb))|refine rt ?_|refine gA rfl ?_|refine gB rfl ?_|apply cT rfl|apply cF rfl|(apply DM.gbT;rfl)|(apply DM.gbF;rfl)|intro h
  ·(apply AM.cond; (· rfl))
   ·intro h
    repeat' first|(apply Sp.go;·constructor<;>first|exact ss|(change _=_;first|(simp only[go_sem,Nat.reduceBEq,Nat.reduceAdd,Nat.reduceLeDiff,reduceIte]<;>rfl)|rfl)|exact Nat.le_of_ble_eq_true rfl|decide|(repeat' first|(apply Lk.go;constructor)|assumption|exact nb ‹_› ‹_›|exact nt ‹_› ‹_›))|(intro b hb;repeat first|(refine fe hb ?_;intro _ _ hb)|(refine fT hb ?_;intro hb))|refine rt ?_|refine gA rfl ?_|refine gB rfl ?_|apply cT rfl|apply cF rfl|(apply DM.gbT;rfl)|(apply DM.gbF;rfl)|intro h
    (apply Sr.go;·constructor<;>first|(apply Lk.go;constructor<;>first|exact ss|(change _=_;first|(simp only[go_sem,Nat.reduceBEq,Nat.reduceAdd,Nat.reduceLeDiff,reduceIte]<;>rfl)|rfl)|exact Nat.le_of_ble_eq_true rfl|decide|(repeat' first|(apply Lk.go;constructor)|assumption|exact nb ‹_› ‹_›|exact nt ‹_› ‹_›))|assumption)
    refine avle_eq ?_
    rw [hn]; simp at h; simp [h]
   ·intro h
    repeat' first|(apply Sp.go;·constructor<;>first|exact ss|(change _=_;first|(simp only[go_sem,Nat.reduceBEq,Nat.reduceAdd,Nat.reduceLeDiff,reduceIte]<;>rfl)|rfl)|exact Nat.le_of_ble_eq_true rfl|decide|(repeat' first|(apply Lk.go;constructor)|assumption|exact nb ‹_› ‹_›|exact nt ‹_› ‹_›))|(intro b hb;repeat first|(refine fe hb ?_;intro _ _ hb)|(refine fT hb ?_;intro hb))|refine rt ?_|refine gA rfl ?_|refine gB rfl ?_|apply cT rfl|apply cF rfl|(apply DM.gbT;rfl)|(apply DM.gbF;rfl)|intro h
    refine AM.loopX (X := Nat) 0 (fun i => [(0, .str s), (18, .int .i64 s.length), (19, .int .i64 i)]) (fun i H' => H' = H ∧ i ≤ s.length ∧ isName s = (s.drop i).all inner) (fun i => s.length - i) ⟨rfl, by omega, ?_⟩ ?_ ?_
    ·rename_i h2
     simp at h h2
     rw [hn, h]; simp; intro _; omega
    ·(repeat first | exact envle_nil _ | (refine envle_cons ?_ ?_; · (simp only [go_sem, Nat.reduceBEq, Nat.reduceAdd]; exact AVLe.refl _)))
    ·intro i H' ⟨e, hi, he⟩
     subst e
     repeat' first|(apply Sp.go;·constructor<;>first|exact ss|(change _=_;first|(simp only[go_sem,Nat.reduceBEq,Nat.reduceAdd,Nat.reduceLeDiff,reduceIte]<;>rfl)|rfl)|exact Nat.le_of_ble_eq_true rfl|decide|(repeat' first|(apply Lk.go;constructor)|assumption|exact nb ‹_› ‹_›|exact nt ‹_› ‹_›))|(intro b hb;repeat first|(refine fe hb ?_;intro _ _ hb)|(refine fT hb ?_;intro hb))|refine rt ?_|refine gA rfl ?_|refine gB rfl ?_|apply cT rfl|apply cF rfl|(apply DM.gbT;rfl)|(apply DM.gbF;rfl)|intro h
     (apply AM.cond; (· rfl))
     ·intro h3
      simp at h3
      obtain ⟨c, hc⟩ : ∃ c, s[i]? = some c := ⟨_, List.getElem?_eq_getElem h3⟩
      have hd : s.drop i = c :: s.drop (i + 1) := by rw [List.drop_eq_getElem_cons h3]; congr 1; rw [List.getElem?_eq_getElem h3] at hc; simpa using hc
      repeat' first|(apply Sp.go;·constructor<;>first|exact ss|(change _=_;first|(simp only[go_sem,Nat.reduceBEq,Nat.reduceAdd,Nat.reduceLeDiff,reduceIte]<;>rfl)|rfl)|exact Nat.le_of_ble_eq_true rfl|decide|(repeat' first|(apply Lk.go;constructor)|assumption|exact nb ‹_› ‹_›|exact nt ‹_› ‹_›))|(intro b hb;repeat first|(refine fe hb ?_;intro _ _ hb)|(refine fT hb ?_;intro hb))|refine rt ?_|refine gA rfl ?_|refine gB rfl ?_|apply cT rfl|apply cF rfl|(apply DM.gbT;rfl)|(apply DM.gbF;rfl)|intro h
      (apply DM.idxSs s .i64 i c (by omega) (by simpa using hc); (· rfl); (· rfl))
      repeat' first|(apply Sp.go;·constructor<;>first|exact ss|(change _=_;first|(simp only[go_sem,Nat.reduceBEq,Nat.reduceAdd,Nat.reduceLeDiff,reduceIte]<;>rfl)|rfl)|exact Nat.le_of_ble_eq_true rfl|decide|(repeat' first|(apply Lk.go;constructor)|assumption|exact nb ‹_› ‹_›|exact nt ‹_› ‹_›))|(intro b hb;repeat first|(refine fe hb ?_;intro _ _ hb)|(refine fT hb ?_;intro hb))|refine rt ?_|refine gA rfl ?_|refine gB rfl ?_|apply cT rfl|apply cF rfl|(apply DM.gbT;rfl)|(apply DM.gbF;rfl)|intro h
      (apply DM.pcs (p76 _); (· simp only [go_sem, Nat.reduceBEq, Nat.reduceAdd] <;> rfl); (· exact AVLes.refl _))
      repeat' first|(apply Sp.go;·constructor<;>first|exact ss|(change _=_;first|(simp only[go_sem,Nat.reduceBEq,Nat.reduceAdd,Nat.reduceLeDiff,reduceIte]<;>rfl)|rfl)|exact Nat.le_of_ble_eq_true rfl|decide|(repeat' first|(apply Lk.go;constructor)|assumption|exact nb ‹_› ‹_›|exact nt ‹_› ‹_›))|(intro b hb;repeat first|(refine fe hb ?_;intro _ _ hb)|(refine fT hb ?_;intro hb))|refine rt ?_|refine gA rfl ?_|refine gB rfl ?_|apply cT rfl|apply cF rfl|(apply DM.gbT;rfl)|(apply DM.gbF;rfl)|intro h
      (apply AM.cond; (· rfl))
      ·intro h4
       repeat' first|(apply Sp.go;·constructor<;>first|exact ss|(change _=_;first|(simp only[go_sem,Nat.reduceBEq,Nat.reduceAdd,Nat.reduceLeDiff,reduceIte]<;>rfl)|rfl)|exact Nat.le_of_ble_eq_true rfl|decide|(repeat' first|(apply Lk.go;constructor)|assumption|exact nb ‹_› ‹_›|exact nt ‹_› ‹_›))|(intro b hb;repeat first|(refine fe hb ?_;intro _ _ hb)|(refine fT hb ?_;intro hb))|refine rt ?_|refine gA rfl ?_|refine gB rfl ?_|apply cT rfl|apply cF rfl|(apply DM.gbT;rfl)|(apply DM.gbF;rfl)|intro h
       (apply Sr.go;·constructor<;>first|(apply Lk.go;constructor<;>first|exact ss|(change _=_;first|(simp only[go_sem,Nat.reduceBEq,Nat.reduceAdd,Nat.reduceLeDiff,reduceIte]<;>rfl)|rfl)|exact Nat.le_of_ble_eq_true rfl|decide|(repeat' first|(apply Lk.go;constructor)|assumption|exact nb ‹_› ‹_›|exact nt ‹_› ‹_›))|assumption)
       refine avle_eq ?_
       simp at h4
       rw [he, hd]; simp [h4]
      ·intro h4
       repeat' first|(apply Sp.go;·constructor<;>first|exact ss|(change _=_;first|(simp only[go_sem,Nat.reduceBEq,Nat.reduceAdd,Nat.reduceLeDiff,reduceIte]<;>rfl)|rfl)|exact Nat.le_of_ble_eq_true rfl|decide|(repeat' first|(apply Lk.go;constructor)|assumption|exact nb ‹_› ‹_›|exact nt ‹_› ‹_›))|(intro b hb;repeat first|(refine fe hb ?_;intro _ _ hb)|(refine fT hb ?_;intro hb))|refine rt ?_|refine gA rfl ?_|refine gB rfl ?_|apply cT rfl|apply cF rfl|(apply DM.gbT;rfl)|(apply DM.gbF;rfl)|intro h
       refine AM.roundX (i + 1) ⟨rfl, by omega, ?_⟩ ?_ ?_
       ·simp at h4
        rw [he, hd]; simp [h4]
       ·(repeat first | exact envle_nil _ | (refine envle_cons ?_ ?_; · (simp only [go_sem, Nat.reduceBEq, Nat.reduceAdd]; exact AVLe.refl _)))
        refine envle_cons ?_ (envle_nil _)
        simp only [Env.get, Nat.reduceBEq, cond_true, cond_false, beq_self_eq_true]
        refine avle_int ?_
        rw [wrap64 (by omega) (by unfold maxLen at hs; omega)]; omega
       ·show s.length - (i + 1) < s.length - i
        omega
     ·intro h3
      repeat' first|(apply Sp.go;·constructor<;>first|exact ss|(change _=_;first|(simp only[go_sem,Nat.reduceBEq,Nat.reduceAdd,Nat.reduceLeDiff,reduceIte]<;>rfl)|rfl)|exact Nat.le_of_ble_eq_true rfl|decide|(repeat' first|(apply Lk.go;constructor)|assumption|exact nb ‹_› ‹_›|exact nt ‹_› ‹_›))|(intro b hb;repeat first|(refine fe hb ?_;intro _ _ hb)|(refine fT hb ?_;intro hb))|refine rt ?_|refine gA rfl ?_|refine gB rfl ?_|apply cT rfl|apply cF rfl|(apply DM.gbT;rfl)|(apply DM.gbF;rfl)|intro h
      (apply Sr.go;·constructor<;>first|(apply Lk.go;constructor<;>first|exact ss|(change _=_;first|(simp only[go_sem,Nat.reduceBEq,Nat.reduceAdd,Nat.reduceLeDiff,reduceIte]<;>rfl)|rfl)|exact Nat.le_of_ble_eq_true rfl|decide|(repeat' first|(apply Lk.go;constructor)|assumption|exact nb ‹_› ‹_›|exact nt ‹_› ‹_›))|assumption)
      refine avle_eq ?_
      simp at h3
      rw [he, List.drop_eq_nil_of_le (by omega)]; rfl
 ·(apply Sr.go;·constructor<;>first|(apply Lk.go;constructor<;>first|exact ss|(change _=_;first|(simp only[go_sem,Nat.reduceBEq,Nat.reduceAdd,Nat.reduceLeDiff,reduceIte]<;>rfl)|rfl)|exact Nat.le_of_ble_eq_true rfl|decide|(repeat' first|(apply Lk.go;constructor)|assumption|exact nb ‹_› ‹_›|exact nt ‹_› ‹_›))|assumption)
  refine avle_eq ?_
  simp at h
  cases s with
  | nil => rfl
  | cons c l =>
   simp only [isName]
   have : decide ((c :: l).length ≤ 16) = false := by simp at h ⊢; omega
   rw [this]; simp
 ·(apply Sr.go;·constructor<;>first|(apply Lk.go;constructor<;>first|exact ss|(change _=_;first|(simp only[go_sem,Nat.reduceBEq,Nat.reduceAdd,Nat.reduceLeDiff,reduceIte]<;>rfl)|rfl)|exact Nat.le_of_ble_eq_true rfl|decide|(repeat' first|(apply Lk.go;constructor)|assumption|exact nb ‹_› ‹_›|exact nt ‹_› ‹_›))|assumption)
  refine avle_eq ?_
  simp at h
  subst h; rfl
theorem GlobW.below {w w' : World} (h : GlobW w) {n : Nat} (hn : w.heap.size ≤ n) (hb : Below n w w') : GlobW w' := fun p hp => by
 obtain ⟨ob, h1, h2⟩ := h p hp
 exact ⟨ob, (hb.block p.1 (Nat.lt_of_lt_of_le (Array.getElem?_eq_some_iff.1 h1).1 hn)).trans h1, h2⟩
theorem calls_plain {P : Program} {f : FuncId} {args : List AV} {r : AV} (h : Pure P f args r) (w : World) (vs : List Value) (ha : ∀ m, RvL m args vs) (hG : GlobW w) :
  Calls P f ⟨vs⟩ w fun e w' => (∃ v, e = .returned v ∧ ∃ m : Mem, Rv m r v) ∧ Below w.heap.size w w' := by
 have := h AHeap.none ⟨w, AHeap.none, fun _ => .nilFunc, 0⟩ vs rfl ⟨fun b T cs hb => by simp [AHeap.none] at hb, fun t i hi => by simp [AHeap.none] at hi, hG, fun p hp => ⟨rfl, fun t i hi => by simp [AHeap.none] at hi⟩⟩ (ha _)
 refine this.mono fun e w' ⟨o, H', L', T', g1, g2, g3, g4, g5⟩ => ?_
 subst g4
 simp only [RvOut] at g3
 obtain ⟨v, e1, e2⟩ := g3
 exact ⟨⟨v, e1, _, e2⟩, ⟨g2.os, g2.tape, g2.output, g2.size, fun b hb => (g2.block b hb rfl (fun t i hi => by simp [AHeap.none] at hi)).1⟩⟩
theorem pure_of_plain {P : Program} {f : FuncId} {args : List AV} {r : AV} (h : ∀ (m : Mem) (vs : List Value), GlobW m.w → RvL m args vs → Calls P f ⟨vs⟩ m.w fun e w' => ∃ v, e = .returned v ∧ (∀ m', Rv m' r v) ∧ Below m.w.heap.size m.w w') : Pure P f args r := by
 intro H m vs hH rh hv
 subst hH
 refine (h m vs rh.glob hv).mono fun e w' ⟨v, e1, e2, hb⟩ => ?_
 exact ⟨.ret r, m.H, m.L, m.T, RH.hid rh hb.os hb.tape hb.output hb.size hb.block, Ev.hid hb.os hb.tape hb.output hb.size hb.block, ⟨v, e1, e2 _⟩, rfl, rfl⟩
def bad (n : Nat) : Bool := decide ((n : Int) < 32) || decide ((126 : Int) < n)
theorem p131 (n : Nat) : Pure Tryz.prog 131 [.int .i32 (n : Int)] (.bool (bad n)) := by
 refine pure_intro mo Tryz.func131 c131 fun H => ?_
 unfold e131 r131
 simp only [initEnv, initFrom]
 repeat' first|(apply Sp.go;·constructor<;>first|exact ss|(change _=_;first|(simp only[go_sem,Nat.reduceBEq,Nat.reduceAdd,Nat.reduceLeDiff,reduceIte]<;>rfl)|rfl)|exact Nat.le_of_ble_eq_true rfl|decide|(repeat' first|(apply Lk.go;constructor)|assumption|exact nb ‹_› ‹_›|exact nt ‹_› ‹_›))|(intro b hb;repeat first|(refine fe hb ?_;intro _ _ hb)|(refine fT hb ?_;intro hb))|refine rt ?_|refine gA rfl ?_|refine gB rfl ?_|apply cT rfl|apply cF rfl|(apply DM.gbT;rfl)|(apply DM.gbF;rfl)|intro h
 all_goals ((apply Sr.go;·constructor<;>first|(apply Lk.go;constructor<;>first|exact ss|(change _=_;first|(simp only[go_sem,Nat.reduceBEq,Nat.reduceAdd,Nat.reduceLeDiff,reduceIte]<;>rfl)|rfl)|exact Nat.le_of_ble_eq_true rfl|decide|(repeat' first|(apply Lk.go;constructor)|assumption|exact nb ‹_› ‹_›|exact nt ‹_› ‹_›))|assumption))
 all_goals (refine avle_eq ?_; rw [AV.bool.injEq, Bool.eq_iff_iff]; simp [bad] at *; try omega)
def idxFrom (s : ByteArray) : Nat → Nat → Int
 | 0, _ => -1
 | f + 1, pos => if pos < s.size then (if bad (Utf8.decode s pos).1 then (pos : Int) else idxFrom s f (pos + (Utf8.decode s pos).2)) else -1
theorem idxFrom_end (s : ByteArray) (f pos : Nat) (h : ¬ pos < s.size) : idxFrom s f pos = -1 := by cases f <;> simp [idxFrom, h]
theorem width_pos' (s : ByteArray) (pos : Nat) (h : pos < s.size) : 1 ≤ (Utf8.decode s pos).2 := by
 by_cases ha : (s[pos]'h).toNat < 128
 ·rw [decode_ascii s pos h ha]; exact Nat.le_refl _
 ·exact (decode_high s pos h (by omega)).2
open Go.Lib in
set_option maxHeartbeats 2000000 in
theorem w156 (s : ByteArray) (w : World) (hG : GlobW w) : Calls Tryz.prog 156 #[.string s, .func (.func 131) #[] #[], .bool true] w fun e w' => e = .returned (.int .i64 (idxFrom s s.size 0)) ∧ Below w.heap.size w w' := by
 have hp : ∀ (W : World) (r : Nat), GlobW W → Calls Tryz.prog 131 #[.int .i32 (r : Int)] W fun e w' => e = .returned (.bool (bad r)) ∧ Below W.heap.size W w' := by
  intro W r hGW
  refine (calls_plain (hG := hGW) (p131 r) W [.int .i32 (r : Int)] (fun m => by simp only [RvL, Rv]; exact ⟨_, _, rfl, rfl, rfl⟩)).mono ?_
  rintro e w' ⟨⟨v, rfl, m, hv⟩, hb⟩
  simp only [Rv] at hv
  subst hv
  exact ⟨rfl, hb⟩
 go_enter Tryz.func156, Tryz.ntmps156
 go_wp2
 go_loopg [] s.size (fun gf wx => ∃ pos : Nat, wx.heap[w.heap.size]? = some (.stringIter s pos) ∧ Below w.heap.size w wx ∧ idxFrom s gf pos = idxFrom s s.size 0 ∧ s.size ≤ pos + gf)
 case atStart => exact ⟨0, World.iter_heap w s 0, (Below.refl _ w).alloc (Nat.le_refl _) _, rfl, by omega⟩
 case round =>
  obtain ⟨pos, hit, hbw, hleft, hfu⟩ := hrel
  by_cases hps : pos < s.size
  ·obtain ⟨g', rfl⟩ : ∃ g', gk = g' + 1 := ⟨gk - 1, by omega⟩
   have hnx : ∀ ty, (Instr.next (.pointer (some ⟨w.heap.size, 0, none⟩)) true ty).run Tryz.prog wr = _ := fun ty => Lib.run_next_any_at wr w.heap.size s pos ty hit hps
   have hwd := width_pos' s pos hps
   obtain ⟨R, hR⟩ : ∃ R, (Utf8.decode s pos).1 = R := ⟨_, rfl⟩
   obtain ⟨K, hK⟩ : ∃ K, (Utf8.decode s pos).2 = K := ⟨_, rfl⟩
   simp only [idxFrom, hps, if_true, hR, hK] at hleft
   rw [hR, hK] at hnx
   rw [hK] at hwd
   have hit2 := Lib.iterAt_heap wr w.heap.size s pos (pos + K) hit
   have hbw2 := Lib.below_iterAt hbw (k := w.heap.size) (Nat.le_refl _) s (pos + K)
   obtain ⟨W, hWd⟩ : ∃ W, wr.iterAt w.heap.size s (pos + K) = W := ⟨_, rfl⟩
   rw [hWd] at hnx hit2 hbw2
   have cS := hp W R (GlobW.below hG (Nat.le_refl _) hbw2)
   clear hp
   have hlt : w.heap.size < W.heap.size := (Array.getElem?_eq_some_iff.1 hit2).1
   cases hsp : bad R <;> rw [hsp] at cS <;> simp only [hsp, if_true, Bool.false_eq_true, if_false] at hleft
   ·go_wp2_with (refine cS.mono ?_; rintro e W' ⟨rfl, q⟩)
    go_roundg g'
    case measure => omega
    case rel => exact ⟨pos + K, (q.block _ hlt).trans hit2, hbw2.trans (q.mono (by omega)), hleft, by omega⟩
   ·go_wp2_with (refine cS.mono ?_; rintro e W' ⟨rfl, q⟩)
    go_ret
    exact ⟨by rw [← hleft] <;> rfl, hbw2.trans (q.mono (by omega))⟩
  ·have hnx : ∀ ty, (Instr.next (.pointer (some ⟨w.heap.size, 0, none⟩)) true ty).run Tryz.prog wr = _ := fun ty => Lib.run_next_end_at wr w.heap.size s pos ty hit hps
   rw [idxFrom_end s gk pos hps] at hleft
   go_wp2
   go_ret
   exact ⟨by rw [← hleft] <;> rfl, hbw⟩
def okc (b : UInt8) : Bool := decide (32 ≤ b.toNat) && decide (b.toNat ≤ 126)
theorem idx_ok (bs : ByteArray) : ∀ (f pos : Nat), bs.size ≤ pos + f → decide (0 ≤ idxFrom bs f pos) = !((bs.data.toList.drop pos).all okc)
 | 0, pos, h => by
  have : bs.data.toList.drop pos = [] := List.drop_eq_nil_of_le (by rw [Array.length_toList]; exact (by omega : bs.size ≤ pos))
  simp [idxFrom, this]
 | f + 1, pos, h => by
  by_cases hp : pos < bs.size
  ·have hd : bs.data.toList.drop pos = bs[pos] :: bs.data.toList.drop (pos + 1) := by
    rw [List.drop_eq_getElem_cons (by rw [Array.length_toList]; exact hp)]
    rfl
   simp only [idxFrom, hp, if_true, hd, List.all_cons]
   by_cases ha : (bs[pos]'hp).toNat < 128
   ·rw [decode_ascii bs pos hp ha]
    have ih := idx_ok bs f (pos + 1) (by omega)
    by_cases hb : okc bs[pos] = true
    ·have : bad (bs[pos]).toNat = false := by simp [okc] at hb; simp [bad]; omega
     simp only [this, hb, Bool.true_and, Bool.false_eq_true, if_false]
     exact ih
    ·have : bad (bs[pos]).toNat = true := by simp [okc] at hb; simp [bad]; omega
     have hb' : okc bs[pos] = false := by simpa using hb
     simp [this, hb']
   ·have hh := (decode_high bs pos hp (by omega)).1
    have : bad (Utf8.decode bs pos).1 = true := by simp [bad]; omega
    have hb' : okc bs[pos] = false := by simp [okc]; omega
    simp [this, hb']
  ·have : bs.data.toList.drop pos = [] := List.drop_eq_nil_of_le (by rw [Array.length_toList]; exact (by omega : bs.size ≤ pos))
   simp [idxFrom, hp, this]
def idxBad (s : List UInt8) : Int := idxFrom ⟨⟨s⟩⟩ s.length 0
theorem idxBad_ok (s : List UInt8) : decide (0 ≤ idxBad s) = !(s.all okc) := by
 have := idx_ok ⟨⟨s⟩⟩ s.length 0 (by show s.length ≤ 0 + s.length; omega)
 exact this
theorem p156 (s : List UInt8) : Pure Tryz.prog 156 [.str s, .fn 131 [], .bool true] (.int .i64 (idxBad s)) := by
 refine pure_of_plain fun m vs hG hv => ?_
 simp only [RvL, Rv] at hv
 obtain ⟨_, _, rfl, ⟨rfl, _⟩, _, _, rfl, ⟨l, rfl, rfl⟩, _, _, rfl, rfl, rfl⟩ := hv
 have e : fnV 131 [] = .func (.func 131) #[] #[] := fnV_lt (by decide) []
 rw [e]
 refine (w156 ⟨⟨s⟩⟩ m.w hG).mono ?_
 rintro e w' ⟨rfl, hb⟩
 exact ⟨_, rfl, fun m' => by simp only [Rv]; rfl, hb⟩
theorem p145 (s : List UInt8) : Pure Tryz.prog 145 [.str s, .fn 131 []] (.int .i64 (idxBad s)) := by
 refine pure_intro mo Tryz.func145 c145 fun H => ?_
 unfold e145 r145
 simp only [initEnv, initFrom]
 repeat' first|(apply Sp.go;·constructor<;>first|exact ss|(change _=_;first|(simp only[go_sem,Nat.reduceBEq,Nat.reduceAdd,Nat.reduceLeDiff,reduceIte]<;>rfl)|rfl)|exact Nat.le_of_ble_eq_true rfl|decide|(repeat' first|(apply Lk.go;constructor)|assumption|exact nb ‹_› ‹_›|exact nt ‹_› ‹_›))|(intro b hb;repeat first|(refine fe hb ?_;intro _ _ hb)|(refine fT hb ?_;intro hb))|refine rt ?_|refine gA rfl ?_|refine gB rfl ?_|apply cT rfl|apply cF rfl|(apply DM.gbT;rfl)|(apply DM.gbF;rfl)|intro h
 (apply DM.pcs (p156 _); (· simp only [go_sem, Nat.reduceBEq, Nat.reduceAdd] <;> rfl); (· exact AVLes.refl _))
 repeat' first|(apply Sp.go;·constructor<;>first|exact ss|(change _=_;first|(simp only[go_sem,Nat.reduceBEq,Nat.reduceAdd,Nat.reduceLeDiff,reduceIte]<;>rfl)|rfl)|exact Nat.le_of_ble_eq_true rfl|decide|(repeat' first|(apply Lk.go;constructor)|assumption|exact nb ‹_› ‹_›|exact nt ‹_› ‹_›))|(intro b hb;repeat first|(refine fe hb ?_;intro _ _ hb)|(refine fT hb ?_;intro hb))|refine rt ?_|refine gA rfl ?_|refine gB rfl ?_|apply cT rfl|apply cF rfl|(apply DM.gbT;rfl)|(apply DM.gbF;rfl)|intro h
 (apply Sr.go;·constructor<;>first|(apply Lk.go;constructor<;>first|exact ss|(change _=_;first|(simp only[go_sem,Nat.reduceBEq,Nat.reduceAdd,Nat.reduceLeDiff,reduceIte]<;>rfl)|rfl)|exact Nat.le_of_ble_eq_true rfl|decide|(repeat' first|(apply Lk.go;constructor)|assumption|exact nb ‹_› ‹_›|exact nt ‹_› ‹_›))|assumption)
 exact AVLe.refl _
theorem p130 (s : List UInt8) : Pure Tryz.prog 130 [.str s, .fn 131 []] (.bool (!(s.all okc))) := by
 refine pure_intro mo Tryz.func130 c130 fun H => ?_
 unfold e130 r130
 simp only [initEnv, initFrom]
 repeat' first|(apply Sp.go;·constructor<;>first|exact ss|(change _=_;first|(simp only[go_sem,Nat.reduceBEq,Nat.reduceAdd,Nat.reduceLeDiff,reduceIte]<;>rfl)|rfl)|exact Nat.le_of_ble_eq_true rfl|decide|(repeat' first|(apply Lk.go;constructor)|assumption|exact nb ‹_› ‹_›|exact nt ‹_› ‹_›))|(intro b hb;repeat first|(refine fe hb ?_;intro _ _ hb)|(refine fT hb ?_;intro hb))|refine rt ?_|refine gA rfl ?_|refine gB rfl ?_|apply cT rfl|apply cF rfl|(apply DM.gbT;rfl)|(apply DM.gbF;rfl)|intro h
 (apply DM.pcs (p145 _); (· simp only [go_sem, Nat.reduceBEq, Nat.reduceAdd] <;> rfl); (· exact AVLes.refl _))
 repeat' first|(apply Sp.go;·constructor<;>first|exact ss|(change _=_;first|(simp only[go_sem,Nat.reduceBEq,Nat.reduceAdd,Nat.reduceLeDiff,reduceIte]<;>rfl)|rfl)|exact Nat.le_of_ble_eq_true rfl|decide|(repeat' first|(apply Lk.go;constructor)|assumption|exact nb ‹_› ‹_›|exact nt ‹_› ‹_›))|(intro b hb;repeat first|(refine fe hb ?_;intro _ _ hb)|(refine fT hb ?_;intro hb))|refine rt ?_|refine gA rfl ?_|refine gB rfl ?_|apply cT rfl|apply cF rfl|(apply DM.gbT;rfl)|(apply DM.gbF;rfl)|intro h
 (apply Sr.go;·constructor<;>first|(apply Lk.go;constructor<;>first|exact ss|(change _=_;first|(simp only[go_sem,Nat.reduceBEq,Nat.reduceAdd,Nat.reduceLeDiff,reduceIte]<;>rfl)|rfl)|exact Nat.le_of_ble_eq_true rfl|decide|(repeat' first|(apply Lk.go;constructor)|assumption|exact nb ‹_› ‹_›|exact nt ‹_› ‹_›))|assumption)
 rw [idxBad_ok]
 exact AVLe.refl _
def printable (s : List UInt8) : Bool := s.all okc
theorem p112 (s : List UInt8) : Pure Tryz.prog 112 [.str s] (.bool (printable s)) := by
 refine pure_intro mo Tryz.func112 c112 fun H => ?_
 unfold e112 r112
 simp only [initEnv, initFrom]
 repeat' first|(apply Sp.go;·constructor<;>first|exact ss|(change _=_;first|(simp only[go_sem,Nat.reduceBEq,Nat.reduceAdd,Nat.reduceLeDiff,reduceIte]<;>rfl)|rfl)|exact Nat.le_of_ble_eq_true rfl|decide|(repeat' first|(apply Lk.go;constructor)|assumption|exact nb ‹_› ‹_›|exact nt ‹_› ‹_›))|(intro b hb;repeat first|(refine fe hb ?_;intro _ _ hb)|(refine fT hb ?_;intro hb))|refine rt ?_|refine gA rfl ?_|refine gB rfl ?_|apply cT rfl|apply cF rfl|(apply DM.gbT;rfl)|(apply DM.gbF;rfl)|intro h
 (apply DM.pcs (p130 _); (· simp only [go_sem, Nat.reduceBEq, Nat.reduceAdd] <;> rfl); (· exact AVLes.refl _))
 repeat' first|(apply Sp.go;·constructor<;>first|exact ss|(change _=_;first|(simp only[go_sem,Nat.reduceBEq,Nat.reduceAdd,Nat.reduceLeDiff,reduceIte]<;>rfl)|rfl)|exact Nat.le_of_ble_eq_true rfl|decide|(repeat' first|(apply Lk.go;constructor)|assumption|exact nb ‹_› ‹_›|exact nt ‹_› ‹_›))|(intro b hb;repeat first|(refine fe hb ?_;intro _ _ hb)|(refine fT hb ?_;intro hb))|refine rt ?_|refine gA rfl ?_|refine gB rfl ?_|apply cT rfl|apply cF rfl|(apply DM.gbT;rfl)|(apply DM.gbF;rfl)|intro h
 (apply Sr.go;·constructor<;>first|(apply Lk.go;constructor<;>first|exact ss|(change _=_;first|(simp only[go_sem,Nat.reduceBEq,Nat.reduceAdd,Nat.reduceLeDiff,reduceIte]<;>rfl)|rfl)|exact Nat.le_of_ble_eq_true rfl|decide|(repeat' first|(apply Lk.go;constructor)|assumption|exact nb ‹_› ‹_›|exact nt ‹_› ‹_›))|assumption)
 rw [Bool.not_not]
 exact AVLe.refl _
def validV (v : Val) : Bool := (decide (v.k = 1) && decide (-1000 ≤ v.n) && decide (v.n ≤ 1000) && decide (v.s = [])) || (decide (v.k = 2) && decide (v.n = 0) && decide (v.s.length ≤ 40) && printable v.s)
theorem p83 (v : Val) : Pure Tryz.prog 83 [v.av] (.bool (validV v)) := by
 refine pure_intro mo Tryz.func83 c83 fun H => ?_
 unfold e83 r83
 simp only [initEnv, initFrom]
 repeat' first|(apply Sp.go;·constructor<;>first|exact ss|(change _=_;first|(simp only[go_sem,Nat.reduceBEq,Nat.reduceAdd,Nat.reduceLeDiff,reduceIte]<;>rfl)|rfl)|exact Nat.le_of_ble_eq_true rfl|decide|(repeat' first|(apply Lk.go;constructor)|assumption|exact nb ‹_› ‹_›|exact nt ‹_› ‹_›))|(intro b hb;repeat first|(refine fe hb ?_;intro _ _ hb)|(refine fT hb ?_;intro hb))|refine rt ?_|refine gA rfl ?_|refine gB rfl ?_|apply cT rfl|apply cF rfl|(apply DM.gbT;rfl)|(apply DM.gbF;rfl)|intro h
 (apply AM.cond; (· rfl))
 ·intro h1
  repeat' first|(apply Sp.go;·constructor<;>first|exact ss|(change _=_;first|(simp only[go_sem,Nat.reduceBEq,Nat.reduceAdd,Nat.reduceLeDiff,reduceIte]<;>rfl)|rfl)|exact Nat.le_of_ble_eq_true rfl|decide|(repeat' first|(apply Lk.go;constructor)|assumption|exact nb ‹_› ‹_›|exact nt ‹_› ‹_›))|(intro b hb;repeat first|(refine fe hb ?_;intro _ _ hb)|(refine fT hb ?_;intro hb))|refine rt ?_|refine gA rfl ?_|refine gB rfl ?_|apply cT rfl|apply cF rfl|(apply DM.gbT;rfl)|(apply DM.gbF;rfl)|intro h
  all_goals ((apply Sr.go;·constructor<;>first|(apply Lk.go;constructor<;>first|exact ss|(change _=_;first|(simp only[go_sem,Nat.reduceBEq,Nat.reduceAdd,Nat.reduceLeDiff,reduceIte]<;>rfl)|rfl)|exact Nat.le_of_ble_eq_true rfl|decide|(repeat' first|(apply Lk.go;constructor)|assumption|exact nb ‹_› ‹_›|exact nt ‹_› ‹_›))|assumption))
  all_goals (refine avle_eq ?_; rw [AV.bool.injEq]; simp [validV] at *; try (simp [*]; done))
  all_goals (simp [*]; try omega)
 ·intro h1
  repeat' first|(apply Sp.go;·constructor<;>first|exact ss|(change _=_;first|(simp only[go_sem,Nat.reduceBEq,Nat.reduceAdd,Nat.reduceLeDiff,reduceIte]<;>rfl)|rfl)|exact Nat.le_of_ble_eq_true rfl|decide|(repeat' first|(apply Lk.go;constructor)|assumption|exact nb ‹_› ‹_›|exact nt ‹_› ‹_›))|(intro b hb;repeat first|(refine fe hb ?_;intro _ _ hb)|(refine fT hb ?_;intro hb))|refine rt ?_|refine gA rfl ?_|refine gB rfl ?_|apply cT rfl|apply cF rfl|(apply DM.gbT;rfl)|(apply DM.gbF;rfl)|intro h
  (apply AM.cond; (· rfl))
  ·intro h2
   repeat' first|(apply Sp.go;·constructor<;>first|exact ss|(change _=_;first|(simp only[go_sem,Nat.reduceBEq,Nat.reduceAdd,Nat.reduceLeDiff,reduceIte]<;>rfl)|rfl)|exact Nat.le_of_ble_eq_true rfl|decide|(repeat' first|(apply Lk.go;constructor)|assumption|exact nb ‹_› ‹_›|exact nt ‹_› ‹_›))|(intro b hb;repeat first|(refine fe hb ?_;intro _ _ hb)|(refine fT hb ?_;intro hb))|refine rt ?_|refine gA rfl ?_|refine gB rfl ?_|apply cT rfl|apply cF rfl|(apply DM.gbT;rfl)|(apply DM.gbF;rfl)|intro h
   ·(apply DM.pcs (p112 _); (· simp only [go_sem, Nat.reduceBEq, Nat.reduceAdd] <;> rfl); (· exact AVLes.refl _))
    repeat' first|(apply Sp.go;·constructor<;>first|exact ss|(change _=_;first|(simp only[go_sem,Nat.reduceBEq,Nat.reduceAdd,Nat.reduceLeDiff,reduceIte]<;>rfl)|rfl)|exact Nat.le_of_ble_eq_true rfl|decide|(repeat' first|(apply Lk.go;constructor)|assumption|exact nb ‹_› ‹_›|exact nt ‹_› ‹_›))|(intro b hb;repeat first|(refine fe hb ?_;intro _ _ hb)|(refine fT hb ?_;intro hb))|refine rt ?_|refine gA rfl ?_|refine gB rfl ?_|apply cT rfl|apply cF rfl|(apply DM.gbT;rfl)|(apply DM.gbF;rfl)|intro h
    (apply Sr.go;·constructor<;>first|(apply Lk.go;constructor<;>first|exact ss|(change _=_;first|(simp only[go_sem,Nat.reduceBEq,Nat.reduceAdd,Nat.reduceLeDiff,reduceIte]<;>rfl)|rfl)|exact Nat.le_of_ble_eq_true rfl|decide|(repeat' first|(apply Lk.go;constructor)|assumption|exact nb ‹_› ‹_›|exact nt ‹_› ‹_›))|assumption)
    refine avle_eq ?_; rw [AV.bool.injEq]; simp [validV] at *; simp [*]
    omega
   all_goals ((apply Sr.go;·constructor<;>first|(apply Lk.go;constructor<;>first|exact ss|(change _=_;first|(simp only[go_sem,Nat.reduceBEq,Nat.reduceAdd,Nat.reduceLeDiff,reduceIte]<;>rfl)|rfl)|exact Nat.le_of_ble_eq_true rfl|decide|(repeat' first|(apply Lk.go;constructor)|assumption|exact nb ‹_› ‹_›|exact nt ‹_› ‹_›))|assumption))
   all_goals (refine avle_eq ?_; rw [AV.bool.injEq]; simp [validV] at *; try (simp [*]; done))
   all_goals (simp [*]; try omega)
  ·intro h2
   repeat' first|(apply Sp.go;·constructor<;>first|exact ss|(change _=_;first|(simp only[go_sem,Nat.reduceBEq,Nat.reduceAdd,Nat.reduceLeDiff,reduceIte]<;>rfl)|rfl)|exact Nat.le_of_ble_eq_true rfl|decide|(repeat' first|(apply Lk.go;constructor)|assumption|exact nb ‹_› ‹_›|exact nt ‹_› ‹_›))|(intro b hb;repeat first|(refine fe hb ?_;intro _ _ hb)|(refine fT hb ?_;intro hb))|refine rt ?_|refine gA rfl ?_|refine gB rfl ?_|apply cT rfl|apply cF rfl|(apply DM.gbT;rfl)|(apply DM.gbF;rfl)|intro h
   (apply Sr.go;·constructor<;>first|(apply Lk.go;constructor<;>first|exact ss|(change _=_;first|(simp only[go_sem,Nat.reduceBEq,Nat.reduceAdd,Nat.reduceLeDiff,reduceIte]<;>rfl)|rfl)|exact Nat.le_of_ble_eq_true rfl|decide|(repeat' first|(apply Lk.go;constructor)|assumption|exact nb ‹_› ‹_›|exact nt ‹_› ‹_›))|assumption)
   refine avle_eq ?_; rw [AV.bool.injEq]; simp [validV] at *; simp [*]
def numberV (v : Val) : Int := if v.k = 1 then v.n else if v.k = 2 then v.s.length else 0
theorem p110 (v : Val) : Pure Tryz.prog 110 [v.av] (.int .i64 (numberV v)) := by
 refine pure_intro mo Tryz.func110 c110 fun H => ?_
 unfold e110 r110
 simp only [initEnv, initFrom]
 repeat' first|(apply Sp.go;·constructor<;>first|exact ss|(change _=_;first|(simp only[go_sem,Nat.reduceBEq,Nat.reduceAdd,Nat.reduceLeDiff,reduceIte]<;>rfl)|rfl)|exact Nat.le_of_ble_eq_true rfl|decide|(repeat' first|(apply Lk.go;constructor)|assumption|exact nb ‹_› ‹_›|exact nt ‹_› ‹_›))|(intro b hb;repeat first|(refine fe hb ?_;intro _ _ hb)|(refine fT hb ?_;intro hb))|refine rt ?_|refine gA rfl ?_|refine gB rfl ?_|apply cT rfl|apply cF rfl|(apply DM.gbT;rfl)|(apply DM.gbF;rfl)|intro h
 (apply AM.cond; (· rfl))
 ·intro h1
  repeat' first|(apply Sp.go;·constructor<;>first|exact ss|(change _=_;first|(simp only[go_sem,Nat.reduceBEq,Nat.reduceAdd,Nat.reduceLeDiff,reduceIte]<;>rfl)|rfl)|exact Nat.le_of_ble_eq_true rfl|decide|(repeat' first|(apply Lk.go;constructor)|assumption|exact nb ‹_› ‹_›|exact nt ‹_› ‹_›))|(intro b hb;repeat first|(refine fe hb ?_;intro _ _ hb)|(refine fT hb ?_;intro hb))|refine rt ?_|refine gA rfl ?_|refine gB rfl ?_|apply cT rfl|apply cF rfl|(apply DM.gbT;rfl)|(apply DM.gbF;rfl)|intro h
  (apply Sr.go;·constructor<;>first|(apply Lk.go;constructor<;>first|exact ss|(change _=_;first|(simp only[go_sem,Nat.reduceBEq,Nat.reduceAdd,Nat.reduceLeDiff,reduceIte]<;>rfl)|rfl)|exact Nat.le_of_ble_eq_true rfl|decide|(repeat' first|(apply Lk.go;constructor)|assumption|exact nb ‹_› ‹_›|exact nt ‹_› ‹_›))|assumption)
  refine avle_int ?_; simp [numberV] at *; simp [*]
 ·intro h1
  repeat' first|(apply Sp.go;·constructor<;>first|exact ss|(change _=_;first|(simp only[go_sem,Nat.reduceBEq,Nat.reduceAdd,Nat.reduceLeDiff,reduceIte]<;>rfl)|rfl)|exact Nat.le_of_ble_eq_true rfl|decide|(repeat' first|(apply Lk.go;constructor)|assumption|exact nb ‹_› ‹_›|exact nt ‹_› ‹_›))|(intro b hb;repeat first|(refine fe hb ?_;intro _ _ hb)|(refine fT hb ?_;intro hb))|refine rt ?_|refine gA rfl ?_|refine gB rfl ?_|apply cT rfl|apply cF rfl|(apply DM.gbT;rfl)|(apply DM.gbF;rfl)|intro h
  (apply AM.cond; (· rfl))
  ·intro h2
   repeat' first|(apply Sp.go;·constructor<;>first|exact ss|(change _=_;first|(simp only[go_sem,Nat.reduceBEq,Nat.reduceAdd,Nat.reduceLeDiff,reduceIte]<;>rfl)|rfl)|exact Nat.le_of_ble_eq_true rfl|decide|(repeat' first|(apply Lk.go;constructor)|assumption|exact nb ‹_› ‹_›|exact nt ‹_› ‹_›))|(intro b hb;repeat first|(refine fe hb ?_;intro _ _ hb)|(refine fT hb ?_;intro hb))|refine rt ?_|refine gA rfl ?_|refine gB rfl ?_|apply cT rfl|apply cF rfl|(apply DM.gbT;rfl)|(apply DM.gbF;rfl)|intro h
   (apply Sr.go;·constructor<;>first|(apply Lk.go;constructor<;>first|exact ss|(change _=_;first|(simp only[go_sem,Nat.reduceBEq,Nat.reduceAdd,Nat.reduceLeDiff,reduceIte]<;>rfl)|rfl)|exact Nat.le_of_ble_eq_true rfl|decide|(repeat' first|(apply Lk.go;constructor)|assumption|exact nb ‹_› ‹_›|exact nt ‹_› ‹_›))|assumption)
   refine avle_int ?_; simp [numberV] at *; simp [*]
  ·intro h2
   repeat' first|(apply Sp.go;·constructor<;>first|exact ss|(change _=_;first|(simp only[go_sem,Nat.reduceBEq,Nat.reduceAdd,Nat.reduceLeDiff,reduceIte]<;>rfl)|rfl)|exact Nat.le_of_ble_eq_true rfl|decide|(repeat' first|(apply Lk.go;constructor)|assumption|exact nb ‹_› ‹_›|exact nt ‹_› ‹_›))|(intro b hb;repeat first|(refine fe hb ?_;intro _ _ hb)|(refine fT hb ?_;intro hb))|refine rt ?_|refine gA rfl ?_|refine gB rfl ?_|apply cT rfl|apply cF rfl|(apply DM.gbT;rfl)|(apply DM.gbF;rfl)|intro h
   (apply Sr.go;·constructor<;>first|(apply Lk.go;constructor<;>first|exact ss|(change _=_;first|(simp only[go_sem,Nat.reduceBEq,Nat.reduceAdd,Nat.reduceLeDiff,reduceIte]<;>rfl)|rfl)|exact Nat.le_of_ble_eq_true rfl|decide|(repeat' first|(apply Lk.go;constructor)|assumption|exact nb ‹_› ‹_›|exact nt ‹_› ‹_›))|assumption)
   refine avle_int ?_; simp [numberV] at *; simp [*]
structure Sort_ where
 k : Int
 lo : Int
 hi : Int
abbrev Sort_.row (v : Sort_) : List AV := [.int .i64 v.k, .int .i64 v.lo, .int .i64 v.hi]
abbrev Sort_.av (v : Sort_) : AV := .agg [.int .i64 v.k, .int .i64 v.lo, .int .i64 v.hi]
def validS (s : Sort_) : Bool := (decide (s.k = 1) && decide (-1000 ≤ s.lo) && decide (s.lo ≤ s.hi) && decide (s.hi ≤ 1000)) || (decide (s.k = 2) && decide (0 ≤ s.lo) && decide (s.lo ≤ s.hi) && decide (s.hi ≤ 40))
theorem p111 (s : Sort_) : Pure Tryz.prog 111 [s.av] (.bool (validS s)) := by
 refine pure_intro mo Tryz.func111 c111 fun H => ?_
 unfold e111 r111
 simp only [initEnv, initFrom]
 repeat' first|(apply Sp.go;·constructor<;>first|exact ss|(change _=_;first|(simp only[go_sem,Nat.reduceBEq,Nat.reduceAdd,Nat.reduceLeDiff,reduceIte]<;>rfl)|rfl)|exact Nat.le_of_ble_eq_true rfl|decide|(repeat' first|(apply Lk.go;constructor)|assumption|exact nb ‹_› ‹_›|exact nt ‹_› ‹_›))|(intro b hb;repeat first|(refine fe hb ?_;intro _ _ hb)|(refine fT hb ?_;intro hb))|refine rt ?_|refine gA rfl ?_|refine gB rfl ?_|apply cT rfl|apply cF rfl|(apply DM.gbT;rfl)|(apply DM.gbF;rfl)|intro h
 (apply AM.cond; (· rfl))
 ·intro h1
  repeat' first|(apply Sp.go;·constructor<;>first|exact ss|(change _=_;first|(simp only[go_sem,Nat.reduceBEq,Nat.reduceAdd,Nat.reduceLeDiff,reduceIte]<;>rfl)|rfl)|exact Nat.le_of_ble_eq_true rfl|decide|(repeat' first|(apply Lk.go;constructor)|assumption|exact nb ‹_› ‹_›|exact nt ‹_› ‹_›))|(intro b hb;repeat first|(refine fe hb ?_;intro _ _ hb)|(refine fT hb ?_;intro hb))|refine rt ?_|refine gA rfl ?_|refine gB rfl ?_|apply cT rfl|apply cF rfl|(apply DM.gbT;rfl)|(apply DM.gbF;rfl)|intro h
  all_goals ((apply Sr.go;·constructor<;>first|(apply Lk.go;constructor<;>first|exact ss|(change _=_;first|(simp only[go_sem,Nat.reduceBEq,Nat.reduceAdd,Nat.reduceLeDiff,reduceIte]<;>rfl)|rfl)|exact Nat.le_of_ble_eq_true rfl|decide|(repeat' first|(apply Lk.go;constructor)|assumption|exact nb ‹_› ‹_›|exact nt ‹_› ‹_›))|assumption))
  all_goals (refine avle_eq ?_; rw [AV.bool.injEq]; simp [validS] at *; try (simp [*]; done))
  all_goals (simp [*]; try omega)
 ·intro h1
  repeat' first|(apply Sp.go;·constructor<;>first|exact ss|(change _=_;first|(simp only[go_sem,Nat.reduceBEq,Nat.reduceAdd,Nat.reduceLeDiff,reduceIte]<;>rfl)|rfl)|exact Nat.le_of_ble_eq_true rfl|decide|(repeat' first|(apply Lk.go;constructor)|assumption|exact nb ‹_› ‹_›|exact nt ‹_› ‹_›))|(intro b hb;repeat first|(refine fe hb ?_;intro _ _ hb)|(refine fT hb ?_;intro hb))|refine rt ?_|refine gA rfl ?_|refine gB rfl ?_|apply cT rfl|apply cF rfl|(apply DM.gbT;rfl)|(apply DM.gbF;rfl)|intro h
  (apply AM.cond; (· rfl))
  ·intro h2
   repeat' first|(apply Sp.go;·constructor<;>first|exact ss|(change _=_;first|(simp only[go_sem,Nat.reduceBEq,Nat.reduceAdd,Nat.reduceLeDiff,reduceIte]<;>rfl)|rfl)|exact Nat.le_of_ble_eq_true rfl|decide|(repeat' first|(apply Lk.go;constructor)|assumption|exact nb ‹_› ‹_›|exact nt ‹_› ‹_›))|(intro b hb;repeat first|(refine fe hb ?_;intro _ _ hb)|(refine fT hb ?_;intro hb))|refine rt ?_|refine gA rfl ?_|refine gB rfl ?_|apply cT rfl|apply cF rfl|(apply DM.gbT;rfl)|(apply DM.gbF;rfl)|intro h
   all_goals ((apply Sr.go;·constructor<;>first|(apply Lk.go;constructor<;>first|exact ss|(change _=_;first|(simp only[go_sem,Nat.reduceBEq,Nat.reduceAdd,Nat.reduceLeDiff,reduceIte]<;>rfl)|rfl)|exact Nat.le_of_ble_eq_true rfl|decide|(repeat' first|(apply Lk.go;constructor)|assumption|exact nb ‹_› ‹_›|exact nt ‹_› ‹_›))|assumption))
   all_goals (refine avle_eq ?_; rw [AV.bool.injEq]; simp [validS] at *; try (simp [*]; done))
   all_goals (simp [*]; try omega)
  ·intro h2
   repeat' first|(apply Sp.go;·constructor<;>first|exact ss|(change _=_;first|(simp only[go_sem,Nat.reduceBEq,Nat.reduceAdd,Nat.reduceLeDiff,reduceIte]<;>rfl)|rfl)|exact Nat.le_of_ble_eq_true rfl|decide|(repeat' first|(apply Lk.go;constructor)|assumption|exact nb ‹_› ‹_›|exact nt ‹_› ‹_›))|(intro b hb;repeat first|(refine fe hb ?_;intro _ _ hb)|(refine fT hb ?_;intro hb))|refine rt ?_|refine gA rfl ?_|refine gB rfl ?_|apply cT rfl|apply cF rfl|(apply DM.gbT;rfl)|(apply DM.gbF;rfl)|intro h
   (apply Sr.go;·constructor<;>first|(apply Lk.go;constructor<;>first|exact ss|(change _=_;first|(simp only[go_sem,Nat.reduceBEq,Nat.reduceAdd,Nat.reduceLeDiff,reduceIte]<;>rfl)|rfl)|exact Nat.le_of_ble_eq_true rfl|decide|(repeat' first|(apply Lk.go;constructor)|assumption|exact nb ‹_› ‹_›|exact nt ‹_› ‹_›))|assumption)
   refine avle_eq ?_; rw [AV.bool.injEq]; simp [validS] at *; simp [*]
def fitsV (s : Sort_) (v : Val) : Bool := validS s && validV v && decide (s.k = v.k) && decide (s.lo ≤ numberV v) && decide (numberV v ≤ s.hi)
theorem p79 (s : Sort_) (v : Val) : Pure Tryz.prog 79 [s.av, v.av] (.bool (fitsV s v)) := by
 refine pure_intro mo Tryz.func79 c79 fun H => ?_
 unfold e79 r79
 simp only [initEnv, initFrom]
 repeat' first|(apply Sp.go;·constructor<;>first|exact ss|(change _=_;first|(simp only[go_sem,Nat.reduceBEq,Nat.reduceAdd,Nat.reduceLeDiff,reduceIte]<;>rfl)|rfl)|exact Nat.le_of_ble_eq_true rfl|decide|(repeat' first|(apply Lk.go;constructor)|assumption|exact nb ‹_› ‹_›|exact nt ‹_› ‹_›))|(intro b hb;repeat first|(refine fe hb ?_;intro _ _ hb)|(refine fT hb ?_;intro hb))|refine rt ?_|refine gA rfl ?_|refine gB rfl ?_|apply cT rfl|apply cF rfl|(apply DM.gbT;rfl)|(apply DM.gbF;rfl)|intro h
 (apply DM.pcs (p110 v); (· simp only [go_sem, Nat.reduceBEq, Nat.reduceAdd] <;> rfl); (· exact AVLes.refl _))
 repeat' first|(apply Sp.go;·constructor<;>first|exact ss|(change _=_;first|(simp only[go_sem,Nat.reduceBEq,Nat.reduceAdd,Nat.reduceLeDiff,reduceIte]<;>rfl)|rfl)|exact Nat.le_of_ble_eq_true rfl|decide|(repeat' first|(apply Lk.go;constructor)|assumption|exact nb ‹_› ‹_›|exact nt ‹_› ‹_›))|(intro b hb;repeat first|(refine fe hb ?_;intro _ _ hb)|(refine fT hb ?_;intro hb))|refine rt ?_|refine gA rfl ?_|refine gB rfl ?_|apply cT rfl|apply cF rfl|(apply DM.gbT;rfl)|(apply DM.gbF;rfl)|intro h
 (apply DM.pcs (p111 s); (· simp only [go_sem, Nat.reduceBEq, Nat.reduceAdd] <;> rfl); (· exact AVLes.refl _))
 repeat' first|(apply Sp.go;·constructor<;>first|exact ss|(change _=_;first|(simp only[go_sem,Nat.reduceBEq,Nat.reduceAdd,Nat.reduceLeDiff,reduceIte]<;>rfl)|rfl)|exact Nat.le_of_ble_eq_true rfl|decide|(repeat' first|(apply Lk.go;constructor)|assumption|exact nb ‹_› ‹_›|exact nt ‹_› ‹_›))|(intro b hb;repeat first|(refine fe hb ?_;intro _ _ hb)|(refine fT hb ?_;intro hb))|refine rt ?_|refine gA rfl ?_|refine gB rfl ?_|apply cT rfl|apply cF rfl|(apply DM.gbT;rfl)|(apply DM.gbF;rfl)|intro h
 ·(apply DM.pcs (p83 v); (· simp only [go_sem, Nat.reduceBEq, Nat.reduceAdd] <;> rfl); (· exact AVLes.refl _))
  repeat' first|(apply Sp.go;·constructor<;>first|exact ss|(change _=_;first|(simp only[go_sem,Nat.reduceBEq,Nat.reduceAdd,Nat.reduceLeDiff,reduceIte]<;>rfl)|rfl)|exact Nat.le_of_ble_eq_true rfl|decide|(repeat' first|(apply Lk.go;constructor)|assumption|exact nb ‹_› ‹_›|exact nt ‹_› ‹_›))|(intro b hb;repeat first|(refine fe hb ?_;intro _ _ hb)|(refine fT hb ?_;intro hb))|refine rt ?_|refine gA rfl ?_|refine gB rfl ?_|apply cT rfl|apply cF rfl|(apply DM.gbT;rfl)|(apply DM.gbF;rfl)|intro h
  all_goals ((apply Sr.go;·constructor<;>first|(apply Lk.go;constructor<;>first|exact ss|(change _=_;first|(simp only[go_sem,Nat.reduceBEq,Nat.reduceAdd,Nat.reduceLeDiff,reduceIte]<;>rfl)|rfl)|exact Nat.le_of_ble_eq_true rfl|decide|(repeat' first|(apply Lk.go;constructor)|assumption|exact nb ‹_› ‹_›|exact nt ‹_› ‹_›))|assumption))
  all_goals (refine avle_eq ?_; rw [AV.bool.injEq]; simp [fitsV] at *; simp [*]; try omega)
 ·(apply Sr.go;·constructor<;>first|(apply Lk.go;constructor<;>first|exact ss|(change _=_;first|(simp only[go_sem,Nat.reduceBEq,Nat.reduceAdd,Nat.reduceLeDiff,reduceIte]<;>rfl)|rfl)|exact Nat.le_of_ble_eq_true rfl|decide|(repeat' first|(apply Lk.go;constructor)|assumption|exact nb ‹_› ‹_›|exact nt ‹_› ‹_›))|assumption)
  refine avle_eq ?_; rw [AV.bool.injEq]; simp [fitsV] at *; simp [*]
theorem p67' (s : List UInt8) : Pure Tryz.prog 29 [.str s] (.bool (isName s)) :=
 pure_assume (G := s.length ≤ maxLen) (fun m vs h => by simp only [RvL, Rv] at h; obtain ⟨_, _, _, ⟨_, h⟩, _⟩ := h; exact h) (p29 s)
def inB (n lo hi : Int) : Bool := decide (lo ≤ n) && decide (n ≤ hi)
theorem p30 (n lo hi : Int) : Pure Tryz.prog 30 [.int .i64 n, .int .i64 lo, .int .i64 hi] (.bool (inB n lo hi)) := by
 refine pure_intro mo Tryz.func30 c30 fun H => ?_
 unfold e30 r30
 simp only [initEnv, initFrom]
 repeat' first|(apply Sp.go;·constructor<;>first|exact ss|(change _=_;first|(simp only[go_sem,Nat.reduceBEq,Nat.reduceAdd,Nat.reduceLeDiff,reduceIte]<;>rfl)|rfl)|exact Nat.le_of_ble_eq_true rfl|decide|(repeat' first|(apply Lk.go;constructor)|assumption|exact nb ‹_› ‹_›|exact nt ‹_› ‹_›))|(intro b hb;repeat first|(refine fe hb ?_;intro _ _ hb)|(refine fT hb ?_;intro hb))|refine rt ?_|refine gA rfl ?_|refine gB rfl ?_|apply cT rfl|apply cF rfl|(apply DM.gbT;rfl)|(apply DM.gbF;rfl)|intro h
 all_goals ((apply Sr.go;·constructor<;>first|(apply Lk.go;constructor<;>first|exact ss|(change _=_;first|(simp only[go_sem,Nat.reduceBEq,Nat.reduceAdd,Nat.reduceLeDiff,reduceIte]<;>rfl)|rfl)|exact Nat.le_of_ble_eq_true rfl|decide|(repeat' first|(apply Lk.go;constructor)|assumption|exact nb ‹_› ‹_›|exact nt ‹_› ‹_›))|assumption))
 all_goals (refine avle_eq ?_; rw [AV.bool.injEq, Bool.eq_iff_iff]; simp [inB] at *; try omega)
def numd (op : Int) : Int × Int × Bool :=
 if op = 1 then (-1000, 1000, true) else if op = 3 ∨ op = 5 then (0, 11, true) else if op = 4 then (0, 3, true) else if op = 19 ∨ op = 20 ∨ op = 22 then (0, 999, true) else if op = 21 then (1, 50, true) else (0, 0, false)
theorem p45 (op : Int) : Pure Tryz.prog 45 [.int .i64 op] (.tup [.int .i64 (numd op).1, .int .i64 (numd op).2.1, .bool (numd op).2.2]) := by
 have key : ∀ {a b : Int} {c : Bool}, numd op = (a, b, c) → AVLe (.tup [.int .i64 a, .int .i64 b, .bool c]) (.tup [.int .i64 (numd op).1, .int .i64 (numd op).2.1, .bool (numd op).2.2]) := by
  intro a b c h
  rw [h]
  exact AVLe.refl _
 refine pure_intro mo Tryz.func45 c45 fun H => ?_
 unfold e45 r45
 simp only [initEnv, initFrom]
 repeat' first|(apply Sp.go;·constructor<;>first|exact ss|(change _=_;first|(simp only[go_sem,Nat.reduceBEq,Nat.reduceAdd,Nat.reduceLeDiff,reduceIte]<;>rfl)|rfl)|exact Nat.le_of_ble_eq_true rfl|decide|(repeat' first|(apply Lk.go;constructor)|assumption|exact nb ‹_› ‹_›|exact nt ‹_› ‹_›))|(intro b hb;repeat first|(refine fe hb ?_;intro _ _ hb)|(refine fT hb ?_;intro hb))|refine rt ?_|refine gA rfl ?_|refine gB rfl ?_|apply cT rfl|apply cF rfl|(apply DM.gbT;rfl)|(apply DM.gbF;rfl)|(apply AM.condS;rfl)|intro h
 all_goals ((apply Sr.go;·constructor<;>first|(apply Lk.go;constructor<;>first|exact ss|(change _=_;first|(simp only[go_sem,Nat.reduceBEq,Nat.reduceAdd,Nat.reduceLeDiff,reduceIte]<;>rfl)|rfl)|exact Nat.le_of_ble_eq_true rfl|decide|(repeat' first|(apply Lk.go;constructor)|assumption|exact nb ‹_› ‹_›|exact nt ‹_› ‹_›))|assumption))
 all_goals (refine key ?_; clear key; simp at *; simp [numd, *])
structure Ins_ where
 op : Int
 n : Int
 s : List UInt8
abbrev Ins_.row (v : Ins_) : List AV := [.int .i64 v.op, .int .i64 v.n, .str v.s]
abbrev Ins_.av (v : Ins_) : AV := .agg [.int .i64 v.op, .int .i64 v.n, .str v.s]
def formed (x : Ins_) : Bool :=
 if x.op = 2 then decide (x.n = 0) && validV ⟨2, 0, x.s⟩
 else if (numd x.op).2.2 then inB x.n (numd x.op).1 (numd x.op).2.1 && decide (x.s = []) else inB x.op 1 24 && decide (x.n = 0) && decide (x.s = [])
theorem p33 (x : Ins_) : Pure Tryz.prog 33 [x.av] (.bool (formed x)) := by
 refine pure_intro mo Tryz.func33 c33 fun H => ?_
 unfold e33 r33
 simp only [initEnv, initFrom]
 repeat' first|(apply Sp.go;·constructor<;>first|exact ss|(change _=_;first|(simp only[go_sem,Nat.reduceBEq,Nat.reduceAdd,Nat.reduceLeDiff,reduceIte]<;>rfl)|rfl)|exact Nat.le_of_ble_eq_true rfl|decide|(repeat' first|(apply Lk.go;constructor)|assumption|exact nb ‹_› ‹_›|exact nt ‹_› ‹_›))|(intro b hb;repeat first|(refine fe hb ?_;intro _ _ hb)|(refine fT hb ?_;intro hb))|refine rt ?_|refine gA rfl ?_|refine gB rfl ?_|apply cT rfl|apply cF rfl|(apply DM.gbT;rfl)|(apply DM.gbF;rfl)|(apply AM.condS;rfl)|intro h
 ·(apply DM.pcs (p83 ⟨2, 0, x.s⟩); (· simp only [go_sem, Nat.reduceBEq, Nat.reduceAdd] <;> rfl); (· exact AVLes.refl _))
  repeat' first|(apply Sp.go;·constructor<;>first|exact ss|(change _=_;first|(simp only[go_sem,Nat.reduceBEq,Nat.reduceAdd,Nat.reduceLeDiff,reduceIte]<;>rfl)|rfl)|exact Nat.le_of_ble_eq_true rfl|decide|(repeat' first|(apply Lk.go;constructor)|assumption|exact nb ‹_› ‹_›|exact nt ‹_› ‹_›))|(intro b hb;repeat first|(refine fe hb ?_;intro _ _ hb)|(refine fT hb ?_;intro hb))|refine rt ?_|refine gA rfl ?_|refine gB rfl ?_|apply cT rfl|apply cF rfl|(apply DM.gbT;rfl)|(apply DM.gbF;rfl)|(apply AM.condS;rfl)|intro h
  (apply Sr.go;·constructor<;>first|(apply Lk.go;constructor<;>first|exact ss|(change _=_;first|(simp only[go_sem,Nat.reduceBEq,Nat.reduceAdd,Nat.reduceLeDiff,reduceIte]<;>rfl)|rfl)|exact Nat.le_of_ble_eq_true rfl|decide|(repeat' first|(apply Lk.go;constructor)|assumption|exact nb ‹_› ‹_›|exact nt ‹_› ‹_›))|assumption)
  refine avle_eq ?_; rw [AV.bool.injEq]; simp at *; simp [formed, *]
 ·(apply Sr.go;·constructor<;>first|(apply Lk.go;constructor<;>first|exact ss|(change _=_;first|(simp only[go_sem,Nat.reduceBEq,Nat.reduceAdd,Nat.reduceLeDiff,reduceIte]<;>rfl)|rfl)|exact Nat.le_of_ble_eq_true rfl|decide|(repeat' first|(apply Lk.go;constructor)|assumption|exact nb ‹_› ‹_›|exact nt ‹_› ‹_›))|assumption)
  refine avle_eq ?_; rw [AV.bool.injEq]; simp at *; simp [formed, *]
 ·(apply DM.pcs (p45 _); (· simp only [go_sem, Nat.reduceBEq, Nat.reduceAdd] <;> rfl); (· exact AVLes.refl _))
  repeat' first|(apply Sp.go;·constructor<;>first|exact ss|(change _=_;first|(simp only[go_sem,Nat.reduceBEq,Nat.reduceAdd,Nat.reduceLeDiff,reduceIte]<;>rfl)|rfl)|exact Nat.le_of_ble_eq_true rfl|decide|(repeat' first|(apply Lk.go;constructor)|assumption|exact nb ‹_› ‹_›|exact nt ‹_› ‹_›))|(intro b hb;repeat first|(refine fe hb ?_;intro _ _ hb)|(refine fT hb ?_;intro hb))|refine rt ?_|refine gA rfl ?_|refine gB rfl ?_|apply cT rfl|apply cF rfl|(apply DM.gbT;rfl)|(apply DM.gbF;rfl)|(apply AM.condS;rfl)|intro h
  ·(apply DM.pcs (p30 _ _ _); (· simp only [go_sem, Nat.reduceBEq, Nat.reduceAdd] <;> rfl); (· exact AVLes.refl _))
   repeat' first|(apply Sp.go;·constructor<;>first|exact ss|(change _=_;first|(simp only[go_sem,Nat.reduceBEq,Nat.reduceAdd,Nat.reduceLeDiff,reduceIte]<;>rfl)|rfl)|exact Nat.le_of_ble_eq_true rfl|decide|(repeat' first|(apply Lk.go;constructor)|assumption|exact nb ‹_› ‹_›|exact nt ‹_› ‹_›))|(intro b hb;repeat first|(refine fe hb ?_;intro _ _ hb)|(refine fT hb ?_;intro hb))|refine rt ?_|refine gA rfl ?_|refine gB rfl ?_|apply cT rfl|apply cF rfl|(apply DM.gbT;rfl)|(apply DM.gbF;rfl)|(apply AM.condS;rfl)|intro h
   all_goals ((apply Sr.go;·constructor<;>first|(apply Lk.go;constructor<;>first|exact ss|(change _=_;first|(simp only[go_sem,Nat.reduceBEq,Nat.reduceAdd,Nat.reduceLeDiff,reduceIte]<;>rfl)|rfl)|exact Nat.le_of_ble_eq_true rfl|decide|(repeat' first|(apply Lk.go;constructor)|assumption|exact nb ‹_› ‹_›|exact nt ‹_› ‹_›))|assumption))
   all_goals (refine avle_eq ?_; rw [AV.bool.injEq]; simp at *; simp [formed, *])
  ·(apply DM.pcs (p30 _ _ _); (· simp only [go_sem, Nat.reduceBEq, Nat.reduceAdd] <;> rfl); (· exact AVLes.refl _))
   repeat' first|(apply Sp.go;·constructor<;>first|exact ss|(change _=_;first|(simp only[go_sem,Nat.reduceBEq,Nat.reduceAdd,Nat.reduceLeDiff,reduceIte]<;>rfl)|rfl)|exact Nat.le_of_ble_eq_true rfl|decide|(repeat' first|(apply Lk.go;constructor)|assumption|exact nb ‹_› ‹_›|exact nt ‹_› ‹_›))|(intro b hb;repeat first|(refine fe hb ?_;intro _ _ hb)|(refine fT hb ?_;intro hb))|refine rt ?_|refine gA rfl ?_|refine gB rfl ?_|apply cT rfl|apply cF rfl|(apply DM.gbT;rfl)|(apply DM.gbF;rfl)|(apply AM.condS;rfl)|intro h
   all_goals ((apply Sr.go;·constructor<;>first|(apply Lk.go;constructor<;>first|exact ss|(change _=_;first|(simp only[go_sem,Nat.reduceBEq,Nat.reduceAdd,Nat.reduceLeDiff,reduceIte]<;>rfl)|rfl)|exact Nat.le_of_ble_eq_true rfl|decide|(repeat' first|(apply Lk.go;constructor)|assumption|exact nb ‹_› ‹_›|exact nt ‹_› ‹_›))|assumption))
   all_goals (refine avle_eq ?_; rw [AV.bool.injEq]; simp at *; simp [formed, *])
structure Var_ where
 name : List UInt8
 sort : Sort_
 init : Val
abbrev Var_.row (v : Var_) : List AV := [.str v.name, .int .i64 v.sort.k, .int .i64 v.sort.lo, .int .i64 v.sort.hi, .int .i64 v.init.k, .int .i64 v.init.n, .str v.init.s]
abbrev Var_.av (v : Var_) : AV := .agg [.str v.name, .int .i64 v.sort.k, .int .i64 v.sort.lo, .int .i64 v.sort.hi, .int .i64 v.init.k, .int .i64 v.init.n, .str v.init.s]
structure Hd where
 peer : Int
 label : Int
 entry : Int
abbrev Hd.row (v : Hd) : List AV := [.int .i64 v.peer, .int .i64 v.label, .int .i64 v.entry]
abbrev Hd.av (v : Hd) : AV := .agg [.int .i64 v.peer, .int .i64 v.label, .int .i64 v.entry]
structure Of_ where
 peer : Int
 label : Int
 cond : Int
 args : Int
abbrev Of_.row (v : Of_) : List AV := [.int .i64 v.peer, .int .i64 v.label, .int .i64 v.cond, .int .i64 v.args]
structure Prog where
 name : List UInt8
 role : Int
 vars : List Var_
 hs : List Hd
 os : List Of_
 code : List Ins_
abbrev Prog.cells (p : Prog) : List AV := [.str p.name, .int .i64 p.role, .vs 7 (p.vars.map Var_.row), .vs 3 (p.hs.map Hd.row), .vs 4 (p.os.map Of_.row), .vs 3 (p.code.map Ins_.row)]
abbrev Prog.av (p : Prog) : AV := .agg [.str p.name, .int .i64 p.role, .vs 7 (p.vars.map Var_.row), .vs 3 (p.hs.map Hd.row), .vs 4 (p.os.map Of_.row), .vs 3 (p.code.map Ins_.row)]
structure Prog.Ok (p : Prog) : Prop where
 vars : p.vars.length ≤ maxLen
 hs : p.hs.length ≤ maxLen
 os : p.os.length ≤ maxLen
 code : p.code.length ≤ maxLen
theorem vs_len {m : Mem} {size : Nat} {rows : List (List AV)} {v : Value} (h : Rv m (.vs size rows) v) : rows.length ≤ maxLen := by
 simp only [Rv] at h
 obtain ⟨_, _, _, _, rfl, ⟨h1, h2⟩, _⟩ := h
 omega
theorem Prog.ok {m : Mem} {p : Prog} {v : Value} (h : Rv m p.av v) : p.Ok := by
 simp only [Rv] at h
 obtain ⟨l, _, h⟩ := h
 simp only [RvL] at h
 obtain ⟨_, _, _, _, _, _, _, _, _, _, _, h1, _, _, _, h2, _, _, _, h3, _, _, _, h4, _⟩ := h
 have := vs_len h1; have := vs_len h2; have := vs_len h3; have := vs_len h4
 simp only [List.length_map] at *
 constructor <;> assumption
theorem ok_args {f : FuncId} {p : Prog} {rest : List AV} {r : AV} (h : p.Ok → Pure Tryz.prog f (p.av :: rest) r) : Pure Tryz.prog f (p.av :: rest) r :=
 pure_assume (G := p.Ok) (fun m vs h => by simp only [RvL] at h; obtain ⟨_, _, _, h, _⟩ := h; exact Prog.ok h) h
def Prog.target (p : Prog) (n : Int) : Bool := inB n 0 (p.code.length - 1)
def Prog.party (p : Prog) (peer label : Int) : Bool := inB peer 0 5 && decide (peer ≠ p.role) && inB label 0 39
theorem p34 (p : Prog) (n : Int) : Pure Tryz.prog 34 [p.av, .int .i64 n] (.bool (p.target n)) := by
 refine ok_args fun ok => ?_
 refine pure_intro mo Tryz.func34 c34 fun H => ?_
 unfold e34 r34
 simp only [initEnv, initFrom]
 repeat' first|(apply Sp.go;·constructor<;>first|exact ss|(change _=_;first|(simp only[go_sem,Nat.reduceBEq,Nat.reduceAdd,Nat.reduceLeDiff,reduceIte]<;>rfl)|rfl)|exact Nat.le_of_ble_eq_true rfl|decide|(repeat' first|(apply Lk.go;constructor)|assumption|exact nb ‹_› ‹_›|exact nt ‹_› ‹_›))|(intro b hb;repeat first|(refine fe hb ?_;intro _ _ hb)|(refine fT hb ?_;intro hb))|refine rt ?_|refine gA rfl ?_|refine gB rfl ?_|apply cT rfl|apply cF rfl|(apply DM.gbT;rfl)|(apply DM.gbF;rfl)|intro h
 (apply DM.pcs (p30 _ _ _); (· simp only [go_sem, Nat.reduceBEq, Nat.reduceAdd] <;> rfl); (· exact AVLes.refl _))
 repeat' first|(apply Sp.go;·constructor<;>first|exact ss|(change _=_;first|(simp only[go_sem,Nat.reduceBEq,Nat.reduceAdd,Nat.reduceLeDiff,reduceIte]<;>rfl)|rfl)|exact Nat.le_of_ble_eq_true rfl|decide|(repeat' first|(apply Lk.go;constructor)|assumption|exact nb ‹_› ‹_›|exact nt ‹_› ‹_›))|(intro b hb;repeat first|(refine fe hb ?_;intro _ _ hb)|(refine fT hb ?_;intro hb))|refine rt ?_|refine gA rfl ?_|refine gB rfl ?_|apply cT rfl|apply cF rfl|(apply DM.gbT;rfl)|(apply DM.gbF;rfl)|intro h
 (apply Sr.go;·constructor<;>first|(apply Lk.go;constructor<;>first|exact ss|(change _=_;first|(simp only[go_sem,Nat.reduceBEq,Nat.reduceAdd,Nat.reduceLeDiff,reduceIte]<;>rfl)|rfl)|exact Nat.le_of_ble_eq_true rfl|decide|(repeat' first|(apply Lk.go;constructor)|assumption|exact nb ‹_› ‹_›|exact nt ‹_› ‹_›))|assumption)
 refine avle_eq ?_
 have := ok.code
 rw [Prog.target, List.length_map, wrap64 (by omega) (by unfold maxLen at this; omega)]
theorem p81 (p : Prog) (peer label : Int) : Pure Tryz.prog 81 [p.av, .int .i64 peer, .int .i64 label] (.bool (p.party peer label)) := by
 refine pure_intro mo Tryz.func81 c81 fun H => ?_
 unfold e81 r81
 simp only [initEnv, initFrom]
 repeat' first|(apply Sp.go;·constructor<;>first|exact ss|(change _=_;first|(simp only[go_sem,Nat.reduceBEq,Nat.reduceAdd,Nat.reduceLeDiff,reduceIte]<;>rfl)|rfl)|exact Nat.le_of_ble_eq_true rfl|decide|(repeat' first|(apply Lk.go;constructor)|assumption|exact nb ‹_› ‹_›|exact nt ‹_› ‹_›))|(intro b hb;repeat first|(refine fe hb ?_;intro _ _ hb)|(refine fT hb ?_;intro hb))|refine rt ?_|refine gA rfl ?_|refine gB rfl ?_|apply cT rfl|apply cF rfl|(apply DM.gbT;rfl)|(apply DM.gbF;rfl)|intro h
 (apply DM.pcs (p30 _ _ _); (· simp only [go_sem, Nat.reduceBEq, Nat.reduceAdd] <;> rfl); (· exact AVLes.refl _))
 repeat' first|(apply Sp.go;·constructor<;>first|exact ss|(change _=_;first|(simp only[go_sem,Nat.reduceBEq,Nat.reduceAdd,Nat.reduceLeDiff,reduceIte]<;>rfl)|rfl)|exact Nat.le_of_ble_eq_true rfl|decide|(repeat' first|(apply Lk.go;constructor)|assumption|exact nb ‹_› ‹_›|exact nt ‹_› ‹_›))|(intro b hb;repeat first|(refine fe hb ?_;intro _ _ hb)|(refine fT hb ?_;intro hb))|refine rt ?_|refine gA rfl ?_|refine gB rfl ?_|apply cT rfl|apply cF rfl|(apply DM.gbT;rfl)|(apply DM.gbF;rfl)|intro h
 ·(apply DM.pcs (p30 _ _ _); (· simp only [go_sem, Nat.reduceBEq, Nat.reduceAdd] <;> rfl); (· exact AVLes.refl _))
  repeat' first|(apply Sp.go;·constructor<;>first|exact ss|(change _=_;first|(simp only[go_sem,Nat.reduceBEq,Nat.reduceAdd,Nat.reduceLeDiff,reduceIte]<;>rfl)|rfl)|exact Nat.le_of_ble_eq_true rfl|decide|(repeat' first|(apply Lk.go;constructor)|assumption|exact nb ‹_› ‹_›|exact nt ‹_› ‹_›))|(intro b hb;repeat first|(refine fe hb ?_;intro _ _ hb)|(refine fT hb ?_;intro hb))|refine rt ?_|refine gA rfl ?_|refine gB rfl ?_|apply cT rfl|apply cF rfl|(apply DM.gbT;rfl)|(apply DM.gbF;rfl)|intro h
  all_goals ((apply Sr.go;·constructor<;>first|(apply Lk.go;constructor<;>first|exact ss|(change _=_;first|(simp only[go_sem,Nat.reduceBEq,Nat.reduceAdd,Nat.reduceLeDiff,reduceIte]<;>rfl)|rfl)|exact Nat.le_of_ble_eq_true rfl|decide|(repeat' first|(apply Lk.go;constructor)|assumption|exact nb ‹_› ‹_›|exact nt ‹_› ‹_›))|assumption))
  all_goals (refine avle_eq ?_; rw [AV.bool.injEq]; simp at *; simp [Prog.party, *])
 all_goals ((apply Sr.go;·constructor<;>first|(apply Lk.go;constructor<;>first|exact ss|(change _=_;first|(simp only[go_sem,Nat.reduceBEq,Nat.reduceAdd,Nat.reduceLeDiff,reduceIte]<;>rfl)|rfl)|exact Nat.le_of_ble_eq_true rfl|decide|(repeat' first|(apply Lk.go;constructor)|assumption|exact nb ‹_› ‹_›|exact nt ‹_› ‹_›))|assumption))
 all_goals (refine avle_eq ?_; rw [AV.bool.injEq]; simp at *; simp [Prog.party, *])
theorem row_get {α β : Type} (f : α → β) {l : List α} {i : Nat} {v : α} (h : l[i]? = some v) : (l.map f)[((i : Int)).toNat]? = some (f v) := by simp [h]
def idxP {α : Type} (q : α → Bool) : List α → Int → Int
 | [], _ => -1
 | a :: l, i => if q a then i else idxP q l (i + 1)
theorem p78 (H : AHeap) (f : FuncId) (cap : List AV) (vals : List Var_) (q : Var_ → Bool) (hf : callable Tryz.prog f = true) (hq : ∀ v ∈ vals, PureAt Tryz.prog f (v.av :: cap) H (.bool (q v))) : PureAt Tryz.prog 78 [.vs 7 (vals.map Var_.row), .fn f cap] H (.int .i64 (idxP q vals 0)) := by
 refine pureAt_assume (G := vals.length ≤ maxLen) (fun m vs h => by simp only [RvL] at h; obtain ⟨_, _, _, h, _⟩ := h; simpa using vs_len h) fun hlen => ?_
 refine pureAt_intro mo Tryz.func78 c78 ?_
 unfold e78 r78
 simp only [initEnv, initFrom]
 repeat' first|(apply Sp.go;·constructor<;>first|exact ss|(change _=_;first|(simp only[go_sem,Nat.reduceBEq,Nat.reduceAdd,Nat.reduceLeDiff,reduceIte]<;>rfl)|rfl)|exact Nat.le_of_ble_eq_true rfl|decide|(repeat' first|(apply Lk.go;constructor)|assumption|exact nb ‹_› ‹_›|exact nt ‹_› ‹_›))|(intro b hb;repeat first|(refine fe hb ?_;intro _ _ hb)|(refine fT hb ?_;intro hb))|refine rt ?_|refine gA rfl ?_|refine gB rfl ?_|apply cT rfl|apply cF rfl|(apply DM.gbT;rfl)|(apply DM.gbF;rfl)|intro h
 refine AM.loopX (X := Nat) 0 (fun i => [(0, .vs 7 (vals.map Var_.row)), (1, .fn f cap), (7, .int .i64 vals.length), (8, .int .i64 i)]) (fun i H' => H' = H ∧ i ≤ vals.length ∧ idxP q vals 0 = idxP q (vals.drop i) i) (fun i => vals.length - i) ⟨rfl, by omega, by simp⟩ ?_ ?_
 ·(repeat first | exact envle_nil _ | (refine envle_cons ?_ ?_; · (simp only [go_sem, Nat.reduceBEq, Nat.reduceAdd]; exact AVLe.refl _)))
  refine envle_cons ?_ (envle_cons ?_ (envle_nil _))
  ·simp only [Env.get, Nat.reduceBEq, cond_true, cond_false, beq_self_eq_true]
   exact avle_int (by simp)
  ·simp only [Env.get, Nat.reduceBEq, cond_true, cond_false, beq_self_eq_true]
   exact AVLe.refl _
 ·intro i H' ⟨e, hi, he⟩
  subst e
  repeat' first|(apply Sp.go;·constructor<;>first|exact ss|(change _=_;first|(simp only[go_sem,Nat.reduceBEq,Nat.reduceAdd,Nat.reduceLeDiff,reduceIte]<;>rfl)|rfl)|exact Nat.le_of_ble_eq_true rfl|decide|(repeat' first|(apply Lk.go;constructor)|assumption|exact nb ‹_› ‹_›|exact nt ‹_› ‹_›))|(intro b hb;repeat first|(refine fe hb ?_;intro _ _ hb)|(refine fT hb ?_;intro hb))|refine rt ?_|refine gA rfl ?_|refine gB rfl ?_|apply cT rfl|apply cF rfl|(apply DM.gbT;rfl)|(apply DM.gbF;rfl)|intro h
  (apply AM.cond; (· rfl))
  ·intro h3
   simp at h3
   obtain ⟨v, hv⟩ : ∃ v, vals[i]? = some v := ⟨_, List.getElem?_eq_getElem h3⟩
   have hd : vals.drop i = v :: vals.drop (i + 1) := by rw [List.drop_eq_getElem_cons h3]; congr 1; rw [List.getElem?_eq_getElem h3] at hv; simpa using hv
   rw [hd] at he
   simp only [idxP] at he
   repeat' first|(apply Sp.go;·constructor<;>first|exact ss|(change _=_;first|(simp only[go_sem,Nat.reduceBEq,Nat.reduceAdd,Nat.reduceLeDiff,reduceIte]<;>rfl)|rfl)|exact Nat.le_of_ble_eq_true rfl|decide|(repeat' first|(apply Lk.go;constructor)|assumption|exact nb ‹_› ‹_›|exact nt ‹_› ‹_›))|(intro b hb;repeat first|(refine fe hb ?_;intro _ _ hb)|(refine fT hb ?_;intro hb))|refine rt ?_|refine gA rfl ?_|refine gB rfl ?_|apply cT rfl|apply cF rfl|(apply DM.gbT;rfl)|(apply DM.gbF;rfl)|intro h
   (apply DM.ixV (row := v.row) (z := (i : Int)) (by omega) (row_get Var_.row hv); (· rfl); (· rfl))
   repeat' first|(apply Sp.go;·constructor<;>first|exact ss|(change _=_;first|(simp only[go_sem,Nat.reduceBEq,Nat.reduceAdd,Nat.reduceLeDiff,reduceIte]<;>rfl)|rfl)|exact Nat.le_of_ble_eq_true rfl|decide|(repeat' first|(apply Lk.go;constructor)|assumption|exact nb ‹_› ‹_›|exact nt ‹_› ‹_›))|(intro b hb;repeat first|(refine fe hb ?_;intro _ _ hb)|(refine fT hb ?_;intro hb))|refine rt ?_|refine gA rfl ?_|refine gB rfl ?_|apply cT rfl|apply cF rfl|(apply DM.gbT;rfl)|(apply DM.gbF;rfl)|intro h
   (apply DM.pvat (hq v (List.mem_of_getElem? hv)) (hf); (· rfl); (· simp only [go_sem, Nat.reduceBEq, Nat.reduceAdd] <;> rfl); (· exact AVLes.refl _))
   repeat' first|(apply Sp.go;·constructor<;>first|exact ss|(change _=_;first|(simp only[go_sem,Nat.reduceBEq,Nat.reduceAdd,Nat.reduceLeDiff,reduceIte]<;>rfl)|rfl)|exact Nat.le_of_ble_eq_true rfl|decide|(repeat' first|(apply Lk.go;constructor)|assumption|exact nb ‹_› ‹_›|exact nt ‹_› ‹_›))|(intro b hb;repeat first|(refine fe hb ?_;intro _ _ hb)|(refine fT hb ?_;intro hb))|refine rt ?_|refine gA rfl ?_|refine gB rfl ?_|apply cT rfl|apply cF rfl|(apply DM.gbT;rfl)|(apply DM.gbF;rfl)|intro h
   (apply AM.cond; (· rfl))
   ·intro h4
    repeat' first|(apply Sp.go;·constructor<;>first|exact ss|(change _=_;first|(simp only[go_sem,Nat.reduceBEq,Nat.reduceAdd,Nat.reduceLeDiff,reduceIte]<;>rfl)|rfl)|exact Nat.le_of_ble_eq_true rfl|decide|(repeat' first|(apply Lk.go;constructor)|assumption|exact nb ‹_› ‹_›|exact nt ‹_› ‹_›))|(intro b hb;repeat first|(refine fe hb ?_;intro _ _ hb)|(refine fT hb ?_;intro hb))|refine rt ?_|refine gA rfl ?_|refine gB rfl ?_|apply cT rfl|apply cF rfl|(apply DM.gbT;rfl)|(apply DM.gbF;rfl)|intro h
    (apply Sr.go;·constructor<;>first|(apply Lk.go;constructor<;>first|exact ss|(change _=_;first|(simp only[go_sem,Nat.reduceBEq,Nat.reduceAdd,Nat.reduceLeDiff,reduceIte]<;>rfl)|rfl)|exact Nat.le_of_ble_eq_true rfl|decide|(repeat' first|(apply Lk.go;constructor)|assumption|exact nb ‹_› ‹_›|exact nt ‹_› ‹_›))|assumption)
    rw [h4] at he
    refine avle_int ?_
    rw [he]; simp
   ·intro h4
    repeat' first|(apply Sp.go;·constructor<;>first|exact ss|(change _=_;first|(simp only[go_sem,Nat.reduceBEq,Nat.reduceAdd,Nat.reduceLeDiff,reduceIte]<;>rfl)|rfl)|exact Nat.le_of_ble_eq_true rfl|decide|(repeat' first|(apply Lk.go;constructor)|assumption|exact nb ‹_› ‹_›|exact nt ‹_› ‹_›))|(intro b hb;repeat first|(refine fe hb ?_;intro _ _ hb)|(refine fT hb ?_;intro hb))|refine rt ?_|refine gA rfl ?_|refine gB rfl ?_|apply cT rfl|apply cF rfl|(apply DM.gbT;rfl)|(apply DM.gbF;rfl)|intro h
    rw [h4] at he
    refine AM.roundX (i + 1) ⟨rfl, by omega, ?_⟩ ?_ ?_
    ·rw [he]; simp
    ·(repeat first | exact envle_nil _ | (refine envle_cons ?_ ?_; · (simp only [go_sem, Nat.reduceBEq, Nat.reduceAdd]; exact AVLe.refl _)))
     refine envle_cons ?_ ?_
     ·simp only [go_sem, Nat.reduceBEq, Nat.reduceAdd]
      refine avle_int ?_
      rw [inc64 h3 hlen]
     exact envle_nil _
    ·show vals.length - (i + 1) < vals.length - i
     omega
  ·intro h3
   repeat' first|(apply Sp.go;·constructor<;>first|exact ss|(change _=_;first|(simp only[go_sem,Nat.reduceBEq,Nat.reduceAdd,Nat.reduceLeDiff,reduceIte]<;>rfl)|rfl)|exact Nat.le_of_ble_eq_true rfl|decide|(repeat' first|(apply Lk.go;constructor)|assumption|exact nb ‹_› ‹_›|exact nt ‹_› ‹_›))|(intro b hb;repeat first|(refine fe hb ?_;intro _ _ hb)|(refine fT hb ?_;intro hb))|refine rt ?_|refine gA rfl ?_|refine gB rfl ?_|apply cT rfl|apply cF rfl|(apply DM.gbT;rfl)|(apply DM.gbF;rfl)|intro h
   (apply Sr.go;·constructor<;>first|(apply Lk.go;constructor<;>first|exact ss|(change _=_;first|(simp only[go_sem,Nat.reduceBEq,Nat.reduceAdd,Nat.reduceLeDiff,reduceIte]<;>rfl)|rfl)|exact Nat.le_of_ble_eq_true rfl|decide|(repeat' first|(apply Lk.go;constructor)|assumption|exact nb ‹_› ‹_›|exact nt ‹_› ‹_›))|assumption)
   simp at h3
   refine avle_int ?_
   rw [he, List.drop_eq_nil_of_le (by omega)]; rfl
theorem p82 (H : AHeap) (f : FuncId) (cap : List AV) (vals : List Hd) (q : Hd → Bool) (hf : callable Tryz.prog f = true) (hq : ∀ v ∈ vals, PureAt Tryz.prog f (v.av :: cap) H (.bool (q v))) : PureAt Tryz.prog 82 [.vs 3 (vals.map Hd.row), .fn f cap] H (.int .i64 (idxP q vals 0)) := by
 refine pureAt_assume (G := vals.length ≤ maxLen) (fun m vs h => by simp only [RvL] at h; obtain ⟨_, _, _, h, _⟩ := h; simpa using vs_len h) fun hlen => ?_
 refine pureAt_intro mo Tryz.func82 c82 ?_
 unfold e82 r82
 simp only [initEnv, initFrom]
 repeat' first|(apply Sp.go;·constructor<;>first|exact ss|(change _=_;first|(simp only[go_sem,Nat.reduceBEq,Nat.reduceAdd,Nat.reduceLeDiff,reduceIte]<;>rfl)|rfl)|exact Nat.le_of_ble_eq_true rfl|decide|(repeat' first|(apply Lk.go;constructor)|assumption|exact nb ‹_› ‹_›|exact nt ‹_› ‹_›))|(intro b hb;repeat first|(refine fe hb ?_;intro _ _ hb)|(refine fT hb ?_;intro hb))|refine rt ?_|refine gA rfl ?_|refine gB rfl ?_|apply cT rfl|apply cF rfl|(apply DM.gbT;rfl)|(apply DM.gbF;rfl)|intro h
 refine AM.loopX (X := Nat) 0 (fun i => [(0, .vs 3 (vals.map Hd.row)), (1, .fn f cap), (7, .int .i64 vals.length), (8, .int .i64 i)]) (fun i H' => H' = H ∧ i ≤ vals.length ∧ idxP q vals 0 = idxP q (vals.drop i) i) (fun i => vals.length - i) ⟨rfl, by omega, by simp⟩ ?_ ?_
 ·(repeat first | exact envle_nil _ | (refine envle_cons ?_ ?_; · (simp only [go_sem, Nat.reduceBEq, Nat.reduceAdd]; exact AVLe.refl _)))
  refine envle_cons ?_ (envle_cons ?_ (envle_nil _))
  ·simp only [Env.get, Nat.reduceBEq, cond_true, cond_false, beq_self_eq_true]
   exact avle_int (by simp)
  ·simp only [Env.get, Nat.reduceBEq, cond_true, cond_false, beq_self_eq_true]
   exact AVLe.refl _
 ·intro i H' ⟨e, hi, he⟩
  subst e
  repeat' first|(apply Sp.go;·constructor<;>first|exact ss|(change _=_;first|(simp only[go_sem,Nat.reduceBEq,Nat.reduceAdd,Nat.reduceLeDiff,reduceIte]<;>rfl)|rfl)|exact Nat.le_of_ble_eq_true rfl|decide|(repeat' first|(apply Lk.go;constructor)|assumption|exact nb ‹_› ‹_›|exact nt ‹_› ‹_›))|(intro b hb;repeat first|(refine fe hb ?_;intro _ _ hb)|(refine fT hb ?_;intro hb))|refine rt ?_|refine gA rfl ?_|refine gB rfl ?_|apply cT rfl|apply cF rfl|(apply DM.gbT;rfl)|(apply DM.gbF;rfl)|intro h
  (apply AM.cond; (· rfl))
  ·intro h3
   simp at h3
   obtain ⟨v, hv⟩ : ∃ v, vals[i]? = some v := ⟨_, List.getElem?_eq_getElem h3⟩
   have hd : vals.drop i = v :: vals.drop (i + 1) := by rw [List.drop_eq_getElem_cons h3]; congr 1; rw [List.getElem?_eq_getElem h3] at hv; simpa using hv
   rw [hd] at he
   simp only [idxP] at he
   repeat' first|(apply Sp.go;·constructor<;>first|exact ss|(change _=_;first|(simp only[go_sem,Nat.reduceBEq,Nat.reduceAdd,Nat.reduceLeDiff,reduceIte]<;>rfl)|rfl)|exact Nat.le_of_ble_eq_true rfl|decide|(repeat' first|(apply Lk.go;constructor)|assumption|exact nb ‹_› ‹_›|exact nt ‹_› ‹_›))|(intro b hb;repeat first|(refine fe hb ?_;intro _ _ hb)|(refine fT hb ?_;intro hb))|refine rt ?_|refine gA rfl ?_|refine gB rfl ?_|apply cT rfl|apply cF rfl|(apply DM.gbT;rfl)|(apply DM.gbF;rfl)|intro h
   (apply DM.ixV (row := v.row) (z := (i : Int)) (by omega) (row_get Hd.row hv); (· rfl); (· rfl))
   repeat' first|(apply Sp.go;·constructor<;>first|exact ss|(change _=_;first|(simp only[go_sem,Nat.reduceBEq,Nat.reduceAdd,Nat.reduceLeDiff,reduceIte]<;>rfl)|rfl)|exact Nat.le_of_ble_eq_true rfl|decide|(repeat' first|(apply Lk.go;constructor)|assumption|exact nb ‹_› ‹_›|exact nt ‹_› ‹_›))|(intro b hb;repeat first|(refine fe hb ?_;intro _ _ hb)|(refine fT hb ?_;intro hb))|refine rt ?_|refine gA rfl ?_|refine gB rfl ?_|apply cT rfl|apply cF rfl|(apply DM.gbT;rfl)|(apply DM.gbF;rfl)|intro h
   (apply DM.pvat (hq v (List.mem_of_getElem? hv)) (hf); (· rfl); (· simp only [go_sem, Nat.reduceBEq, Nat.reduceAdd] <;> rfl); (· exact AVLes.refl _))
   repeat' first|(apply Sp.go;·constructor<;>first|exact ss|(change _=_;first|(simp only[go_sem,Nat.reduceBEq,Nat.reduceAdd,Nat.reduceLeDiff,reduceIte]<;>rfl)|rfl)|exact Nat.le_of_ble_eq_true rfl|decide|(repeat' first|(apply Lk.go;constructor)|assumption|exact nb ‹_› ‹_›|exact nt ‹_› ‹_›))|(intro b hb;repeat first|(refine fe hb ?_;intro _ _ hb)|(refine fT hb ?_;intro hb))|refine rt ?_|refine gA rfl ?_|refine gB rfl ?_|apply cT rfl|apply cF rfl|(apply DM.gbT;rfl)|(apply DM.gbF;rfl)|intro h
   (apply AM.cond; (· rfl))
   ·intro h4
    repeat' first|(apply Sp.go;·constructor<;>first|exact ss|(change _=_;first|(simp only[go_sem,Nat.reduceBEq,Nat.reduceAdd,Nat.reduceLeDiff,reduceIte]<;>rfl)|rfl)|exact Nat.le_of_ble_eq_true rfl|decide|(repeat' first|(apply Lk.go;constructor)|assumption|exact nb ‹_› ‹_›|exact nt ‹_› ‹_›))|(intro b hb;repeat first|(refine fe hb ?_;intro _ _ hb)|(refine fT hb ?_;intro hb))|refine rt ?_|refine gA rfl ?_|refine gB rfl ?_|apply cT rfl|apply cF rfl|(apply DM.gbT;rfl)|(apply DM.gbF;rfl)|intro h
    (apply Sr.go;·constructor<;>first|(apply Lk.go;constructor<;>first|exact ss|(change _=_;first|(simp only[go_sem,Nat.reduceBEq,Nat.reduceAdd,Nat.reduceLeDiff,reduceIte]<;>rfl)|rfl)|exact Nat.le_of_ble_eq_true rfl|decide|(repeat' first|(apply Lk.go;constructor)|assumption|exact nb ‹_› ‹_›|exact nt ‹_› ‹_›))|assumption)
    rw [h4] at he
    refine avle_int ?_
    rw [he]; simp
   ·intro h4
    repeat' first|(apply Sp.go;·constructor<;>first|exact ss|(change _=_;first|(simp only[go_sem,Nat.reduceBEq,Nat.reduceAdd,Nat.reduceLeDiff,reduceIte]<;>rfl)|rfl)|exact Nat.le_of_ble_eq_true rfl|decide|(repeat' first|(apply Lk.go;constructor)|assumption|exact nb ‹_› ‹_›|exact nt ‹_› ‹_›))|(intro b hb;repeat first|(refine fe hb ?_;intro _ _ hb)|(refine fT hb ?_;intro hb))|refine rt ?_|refine gA rfl ?_|refine gB rfl ?_|apply cT rfl|apply cF rfl|(apply DM.gbT;rfl)|(apply DM.gbF;rfl)|intro h
    rw [h4] at he
    refine AM.roundX (i + 1) ⟨rfl, by omega, ?_⟩ ?_ ?_
    ·rw [he]; simp
    ·(repeat first | exact envle_nil _ | (refine envle_cons ?_ ?_; · (simp only [go_sem, Nat.reduceBEq, Nat.reduceAdd]; exact AVLe.refl _)))
     refine envle_cons ?_ ?_
     ·simp only [go_sem, Nat.reduceBEq, Nat.reduceAdd]
      refine avle_int ?_
      rw [inc64 h3 hlen]
     exact envle_nil _
    ·show vals.length - (i + 1) < vals.length - i
     omega
  ·intro h3
   repeat' first|(apply Sp.go;·constructor<;>first|exact ss|(change _=_;first|(simp only[go_sem,Nat.reduceBEq,Nat.reduceAdd,Nat.reduceLeDiff,reduceIte]<;>rfl)|rfl)|exact Nat.le_of_ble_eq_true rfl|decide|(repeat' first|(apply Lk.go;constructor)|assumption|exact nb ‹_› ‹_›|exact nt ‹_› ‹_›))|(intro b hb;repeat first|(refine fe hb ?_;intro _ _ hb)|(refine fT hb ?_;intro hb))|refine rt ?_|refine gA rfl ?_|refine gB rfl ?_|apply cT rfl|apply cF rfl|(apply DM.gbT;rfl)|(apply DM.gbF;rfl)|intro h
   (apply Sr.go;·constructor<;>first|(apply Lk.go;constructor<;>first|exact ss|(change _=_;first|(simp only[go_sem,Nat.reduceBEq,Nat.reduceAdd,Nat.reduceLeDiff,reduceIte]<;>rfl)|rfl)|exact Nat.le_of_ble_eq_true rfl|decide|(repeat' first|(apply Lk.go;constructor)|assumption|exact nb ‹_› ‹_›|exact nt ‹_› ‹_›))|assumption)
   simp at h3
   refine avle_int ?_
   rw [he, List.drop_eq_nil_of_le (by omega)]; rfl
theorem call77 : callable Tryz.prog 77 = true := by kernel_rfl
theorem call80 : callable Tryz.prog 80 = true := by kernel_rfl
theorem p77 (w v : Var_) (H : AHeap) (b : Nat) (hv : H.blk b = some (73, v.row)) : PureAt Tryz.prog 77 [w.av, .ptr b 0] H (.bool (decide (w.name = v.name))) := by
 refine pureAt_intro mo Tryz.func77 c77 ?_
 unfold e77 r77
 simp only [initEnv, initFrom]
 repeat' first|(apply Sp.go;·constructor<;>first|exact ss|(change _=_;first|(simp only[go_sem,Nat.reduceBEq,Nat.reduceAdd,Nat.reduceLeDiff,reduceIte]<;>rfl)|rfl)|exact Nat.le_of_ble_eq_true rfl|decide|(repeat' first|(apply Lk.go;constructor)|assumption|exact nb ‹_› ‹_›|exact nt ‹_› ‹_›))|(intro b hb;repeat first|(refine fe hb ?_;intro _ _ hb)|(refine fT hb ?_;intro hb))|refine rt ?_|refine gA rfl ?_|refine gB rfl ?_|apply cT rfl|apply cF rfl|(apply DM.gbT;rfl)|(apply DM.gbF;rfl)|intro h
 (apply Sr.go;·constructor<;>first|(apply Lk.go;constructor<;>first|exact ss|(change _=_;first|(simp only[go_sem,Nat.reduceBEq,Nat.reduceAdd,Nat.reduceLeDiff,reduceIte]<;>rfl)|rfl)|exact Nat.le_of_ble_eq_true rfl|decide|(repeat' first|(apply Lk.go;constructor)|assumption|exact nb ‹_› ‹_›|exact nt ‹_› ‹_›))|assumption)
 exact AVLe.refl _
theorem p80 (w v : Hd) (H : AHeap) (b : Nat) (hv : H.blk b = some (75, v.row)) : PureAt Tryz.prog 80 [w.av, .ptr b 0] H (.bool (decide (w.peer = v.peer) && decide (w.label = v.label))) := by
 refine pureAt_intro mo Tryz.func80 c80 ?_
 unfold e80 r80
 simp only [initEnv, initFrom]
 repeat' first|(apply Sp.go;·constructor<;>first|exact ss|(change _=_;first|(simp only[go_sem,Nat.reduceBEq,Nat.reduceAdd,Nat.reduceLeDiff,reduceIte]<;>rfl)|rfl)|exact Nat.le_of_ble_eq_true rfl|decide|(repeat' first|(apply Lk.go;constructor)|assumption|exact nb ‹_› ‹_›|exact nt ‹_› ‹_›))|(intro b hb;repeat first|(refine fe hb ?_;intro _ _ hb)|(refine fT hb ?_;intro hb))|refine rt ?_|refine gA rfl ?_|refine gB rfl ?_|apply cT rfl|apply cF rfl|(apply DM.gbT;rfl)|(apply DM.gbF;rfl)|intro h
 all_goals ((apply Sr.go;·constructor<;>first|(apply Lk.go;constructor<;>first|exact ss|(change _=_;first|(simp only[go_sem,Nat.reduceBEq,Nat.reduceAdd,Nat.reduceLeDiff,reduceIte]<;>rfl)|rfl)|exact Nat.le_of_ble_eq_true rfl|decide|(repeat' first|(apply Lk.go;constructor)|assumption|exact nb ‹_› ‹_›|exact nt ‹_› ‹_›))|assumption))
 all_goals (refine avle_eq ?_; rw [AV.bool.injEq]; simp at *; simp [*])
def okVar (vs : List Var_) (i : Nat) : Bool := match vs[i]? with
 | none => false
 | some v => isName v.name && decide (idxP (fun w : Var_ => decide (w.name = v.name)) vs 0 = (i : Int)) && fitsV v.sort v.init
def allI (n : Nat) (q : Nat → Bool) : Bool := (List.range n).all q
theorem allI_true {n : Nat} {q : Nat → Bool} (h : ∀ j, j < n → q j = true) : allI n q = true := by
 simp only [allI, List.all_eq_true, List.mem_range]; exact h
theorem allI_false {n i : Nat} {q : Nat → Bool} (hi : i < n) (h : q i = false) : allI n q = false := by
 simp only [allI, List.all_eq_false, List.mem_range]
 exact ⟨i, hi, by simp [h]⟩
def varsOk (vs : List Var_) : Bool := allI vs.length (okVar vs) && decide (vs.length ≤ 12)
theorem p31 (p : Prog) : Pure Tryz.prog 31 [p.av] (.bool (varsOk p.vars)) := by
 refine ok_args fun ok => ?_
 refine pure_intro mo Tryz.func31 c31 fun H => ?_
 unfold e31 r31
 simp only [initEnv, initFrom]
 repeat' first|(apply Sp.go;·constructor<;>first|exact ss|(change _=_;first|(simp only[go_sem,Nat.reduceBEq,Nat.reduceAdd,Nat.reduceLeDiff,reduceIte]<;>rfl)|rfl)|exact Nat.le_of_ble_eq_true rfl|decide|(repeat' first|(apply Lk.go;constructor)|assumption|exact nb ‹_› ‹_›|exact nt ‹_› ‹_›))|(intro b hb;repeat first|(refine fe hb ?_;intro _ _ hb)|(refine fT hb ?_;intro hb))|refine rt ?_|refine gA rfl ?_|refine gB rfl ?_|apply cT rfl|apply cF rfl|(apply DM.gbT;rfl)|(apply DM.gbF;rfl)|intro h
 rename Nat => b1
 refine AM.loopX (X := Nat) 0 (fun i => [(1, .ptr b1 0), (7, .vs 7 (p.vars.map Var_.row)), (8, .int .i64 p.vars.length), (9, .int .i64 i)]) (fun i H' => H' = H.setB b1 36 p.cells ∧ i ≤ p.vars.length ∧ ∀ j, j < i → okVar p.vars j = true) (fun i => p.vars.length - i) ⟨rfl, by omega, fun j hj => by omega⟩ ?_ ?_
 ·(repeat first | exact envle_nil _ | (refine envle_cons ?_ ?_; · (simp only [go_sem, Nat.reduceBEq, Nat.reduceAdd]; exact AVLe.refl _)))
  refine envle_cons ?_ (envle_cons ?_ (envle_nil _))
  ·simp only [Env.get, Nat.reduceBEq, cond_true, cond_false, beq_self_eq_true]
   exact avle_int (by simp)
  ·simp only [Env.get, Nat.reduceBEq, cond_true, cond_false, beq_self_eq_true]
   exact AVLe.refl _
 ·intro i H' ⟨e, hi, he⟩
  subst e
  repeat' first|(apply Sp.go;·constructor<;>first|exact ss|(change _=_;first|(simp only[go_sem,Nat.reduceBEq,Nat.reduceAdd,Nat.reduceLeDiff,reduceIte]<;>rfl)|rfl)|exact Nat.le_of_ble_eq_true rfl|decide|(repeat' first|(apply Lk.go;constructor)|assumption|exact nb ‹_› ‹_›|exact nt ‹_› ‹_›))|(intro b hb;repeat first|(refine fe hb ?_;intro _ _ hb)|(refine fT hb ?_;intro hb))|refine rt ?_|refine gA rfl ?_|refine gB rfl ?_|apply cT rfl|apply cF rfl|(apply DM.gbT;rfl)|(apply DM.gbF;rfl)|intro h
  (apply AM.cond; (· rfl))
  ·intro h3
   simp at h3
   obtain ⟨v, hv⟩ : ∃ v, p.vars[i]? = some v := ⟨_, List.getElem?_eq_getElem h3⟩
   have hok : okVar p.vars i = (isName v.name && decide (idxP (fun w : Var_ => decide (w.name = v.name)) p.vars 0 = (i : Int)) && fitsV v.sort v.init) := by simp [okVar, hv]
   repeat' first|(apply Sp.go;·constructor<;>first|exact ss|(change _=_;first|(simp only[go_sem,Nat.reduceBEq,Nat.reduceAdd,Nat.reduceLeDiff,reduceIte]<;>rfl)|rfl)|exact Nat.le_of_ble_eq_true rfl|decide|(repeat' first|(apply Lk.go;constructor)|assumption|exact nb ‹_› ‹_›|exact nt ‹_› ‹_›))|(intro b hb;repeat first|(refine fe hb ?_;intro _ _ hb)|(refine fT hb ?_;intro hb))|refine rt ?_|refine gA rfl ?_|refine gB rfl ?_|apply cT rfl|apply cF rfl|(apply DM.gbT;rfl)|(apply DM.gbF;rfl)|intro h
   (apply DM.ixV (row := v.row) (z := (i : Int)) (by omega) (row_get Var_.row hv); (· rfl); (· rfl))
   repeat' first|(apply Sp.go;·constructor<;>first|exact ss|(change _=_;first|(simp only[go_sem,Nat.reduceBEq,Nat.reduceAdd,Nat.reduceLeDiff,reduceIte]<;>rfl)|rfl)|exact Nat.le_of_ble_eq_true rfl|decide|(repeat' first|(apply Lk.go;constructor)|assumption|exact nb ‹_› ‹_›|exact nt ‹_› ‹_›))|(intro b hb;repeat first|(refine fe hb ?_;intro _ _ hb)|(refine fT hb ?_;intro hb))|refine rt ?_|refine gA rfl ?_|refine gB rfl ?_|apply cT rfl|apply cF rfl|(apply DM.gbT;rfl)|(apply DM.gbF;rfl)|intro h
   (apply DM.pcs (p67' _); (· simp only [go_sem, Nat.reduceBEq, Nat.reduceAdd] <;> rfl); (· exact AVLes.refl _))
   repeat' first|(apply Sp.go;·constructor<;>first|exact ss|(change _=_;first|(simp only[go_sem,Nat.reduceBEq,Nat.reduceAdd,Nat.reduceLeDiff,reduceIte]<;>rfl)|rfl)|exact Nat.le_of_ble_eq_true rfl|decide|(repeat' first|(apply Lk.go;constructor)|assumption|exact nb ‹_› ‹_›|exact nt ‹_› ‹_›))|(intro b hb;repeat first|(refine fe hb ?_;intro _ _ hb)|(refine fT hb ?_;intro hb))|refine rt ?_|refine gA rfl ?_|refine gB rfl ?_|apply cT rfl|apply cF rfl|(apply DM.gbT;rfl)|(apply DM.gbF;rfl)|intro h
   ·(apply DM.pcat (p78 _ 77 _ p.vars (fun w => decide (w.name = v.name)) call77 (fun w _ => p77 w v _ _ g_same)); (· simp only [go_sem, Nat.reduceBEq, Nat.reduceAdd] <;> rfl); (· exact AVLes.refl _))
    repeat' first|(apply Sp.go;·constructor<;>first|exact ss|(change _=_;first|(simp only[go_sem,Nat.reduceBEq,Nat.reduceAdd,Nat.reduceLeDiff,reduceIte]<;>rfl)|rfl)|exact Nat.le_of_ble_eq_true rfl|decide|(repeat' first|(apply Lk.go;constructor)|assumption|exact nb ‹_› ‹_›|exact nt ‹_› ‹_›))|(intro b hb;repeat first|(refine fe hb ?_;intro _ _ hb)|(refine fT hb ?_;intro hb))|refine rt ?_|refine gA rfl ?_|refine gB rfl ?_|apply cT rfl|apply cF rfl|(apply DM.gbT;rfl)|(apply DM.gbF;rfl)|intro h
    ·(apply DM.pcs (p79 v.sort v.init); (· simp only [go_sem, Nat.reduceBEq, Nat.reduceAdd] <;> rfl); (· exact AVLes.refl _))
     repeat' first|(apply Sp.go;·constructor<;>first|exact ss|(change _=_;first|(simp only[go_sem,Nat.reduceBEq,Nat.reduceAdd,Nat.reduceLeDiff,reduceIte]<;>rfl)|rfl)|exact Nat.le_of_ble_eq_true rfl|decide|(repeat' first|(apply Lk.go;constructor)|assumption|exact nb ‹_› ‹_›|exact nt ‹_› ‹_›))|(intro b hb;repeat first|(refine fe hb ?_;intro _ _ hb)|(refine fT hb ?_;intro hb))|refine rt ?_|refine gA rfl ?_|refine gB rfl ?_|apply cT rfl|apply cF rfl|(apply DM.gbT;rfl)|(apply DM.gbF;rfl)|intro h
     (apply AM.cond; (· rfl))
     ·intro h4
      repeat' first|(apply Sp.go;·constructor<;>first|exact ss|(change _=_;first|(simp only[go_sem,Nat.reduceBEq,Nat.reduceAdd,Nat.reduceLeDiff,reduceIte]<;>rfl)|rfl)|exact Nat.le_of_ble_eq_true rfl|decide|(repeat' first|(apply Lk.go;constructor)|assumption|exact nb ‹_› ‹_›|exact nt ‹_› ‹_›))|(intro b hb;repeat first|(refine fe hb ?_;intro _ _ hb)|(refine fT hb ?_;intro hb))|refine rt ?_|refine gA rfl ?_|refine gB rfl ?_|apply cT rfl|apply cF rfl|(apply DM.gbT;rfl)|(apply DM.gbF;rfl)|intro h
      (apply Sr.go;·constructor<;>first|(apply Lk.go;constructor<;>first|exact ss|(change _=_;first|(simp only[go_sem,Nat.reduceBEq,Nat.reduceAdd,Nat.reduceLeDiff,reduceIte]<;>rfl)|rfl)|exact Nat.le_of_ble_eq_true rfl|decide|(repeat' first|(apply Lk.go;constructor)|assumption|exact nb ‹_› ‹_›|exact nt ‹_› ‹_›))|assumption)
      refine avle_eq ?_; rw [AV.bool.injEq]
      refine (Bool.and_eq_false_iff.2 (.inl (allI_false h3 ?_))).symm
      rw [hok]; simp at *; simp [*]
     ·intro h4
      repeat' first|(apply Sp.go;·constructor<;>first|exact ss|(change _=_;first|(simp only[go_sem,Nat.reduceBEq,Nat.reduceAdd,Nat.reduceLeDiff,reduceIte]<;>rfl)|rfl)|exact Nat.le_of_ble_eq_true rfl|decide|(repeat' first|(apply Lk.go;constructor)|assumption|exact nb ‹_› ‹_›|exact nt ‹_› ‹_›))|(intro b hb;repeat first|(refine fe hb ?_;intro _ _ hb)|(refine fT hb ?_;intro hb))|refine rt ?_|refine gA rfl ?_|refine gB rfl ?_|apply cT rfl|apply cF rfl|(apply DM.gbT;rfl)|(apply DM.gbF;rfl)|intro h
      refine AM.forget (H.setB b1 36 p.cells) ?_ ?_
      ·(repeat' first|assumption|(apply Lk.go;constructor))
      refine AM.roundX (i + 1) ⟨rfl, by omega, fun j hj => ?_⟩ ?_ ?_
      ·by_cases e : j = i
       ·subst e; rw [hok]; simp at *; simp [*]
       ·exact he j (by omega)
      ·(repeat first | exact envle_nil _ | (refine envle_cons ?_ ?_; · (simp only [go_sem, Nat.reduceBEq, Nat.reduceAdd]; exact AVLe.refl _)))
       refine envle_cons ?_ ?_
       ·simp only [go_sem, Nat.reduceBEq, Nat.reduceAdd]
        refine avle_int ?_
        rw [inc64 h3 ok.vars]
       exact envle_nil _
      ·show p.vars.length - (i + 1) < p.vars.length - i
       omega
    ·(apply Sr.go;·constructor<;>first|(apply Lk.go;constructor<;>first|exact ss|(change _=_;first|(simp only[go_sem,Nat.reduceBEq,Nat.reduceAdd,Nat.reduceLeDiff,reduceIte]<;>rfl)|rfl)|exact Nat.le_of_ble_eq_true rfl|decide|(repeat' first|(apply Lk.go;constructor)|assumption|exact nb ‹_› ‹_›|exact nt ‹_› ‹_›))|assumption)
     refine avle_eq ?_; rw [AV.bool.injEq]
     refine (Bool.and_eq_false_iff.2 (.inl (allI_false h3 ?_))).symm
     rw [hok]; simp at *; simp [*]
   ·(apply Sr.go;·constructor<;>first|(apply Lk.go;constructor<;>first|exact ss|(change _=_;first|(simp only[go_sem,Nat.reduceBEq,Nat.reduceAdd,Nat.reduceLeDiff,reduceIte]<;>rfl)|rfl)|exact Nat.le_of_ble_eq_true rfl|decide|(repeat' first|(apply Lk.go;constructor)|assumption|exact nb ‹_› ‹_›|exact nt ‹_› ‹_›))|assumption)
    refine avle_eq ?_; rw [AV.bool.injEq]
    refine (Bool.and_eq_false_iff.2 (.inl (allI_false h3 ?_))).symm
    rw [hok]; simp at *; simp [*]
  ·intro h3
   repeat' first|(apply Sp.go;·constructor<;>first|exact ss|(change _=_;first|(simp only[go_sem,Nat.reduceBEq,Nat.reduceAdd,Nat.reduceLeDiff,reduceIte]<;>rfl)|rfl)|exact Nat.le_of_ble_eq_true rfl|decide|(repeat' first|(apply Lk.go;constructor)|assumption|exact nb ‹_› ‹_›|exact nt ‹_› ‹_›))|(intro b hb;repeat first|(refine fe hb ?_;intro _ _ hb)|(refine fT hb ?_;intro hb))|refine rt ?_|refine gA rfl ?_|refine gB rfl ?_|apply cT rfl|apply cF rfl|(apply DM.gbT;rfl)|(apply DM.gbF;rfl)|intro h
   (apply Sr.go;·constructor<;>first|(apply Lk.go;constructor<;>first|exact ss|(change _=_;first|(simp only[go_sem,Nat.reduceBEq,Nat.reduceAdd,Nat.reduceLeDiff,reduceIte]<;>rfl)|rfl)|exact Nat.le_of_ble_eq_true rfl|decide|(repeat' first|(apply Lk.go;constructor)|assumption|exact nb ‹_› ‹_›|exact nt ‹_› ‹_›))|assumption)
   refine avle_eq ?_; rw [AV.bool.injEq]
   simp at h3
   rw [varsOk, allI_true fun j hj => he j (by omega), Bool.true_and, Bool.eq_iff_iff]
   simp
   omega
def okHd (p : Prog) (i : Nat) : Bool := match p.hs[i]? with
  | none => false
  | some v => p.party v.peer v.label && p.target v.entry && decide (idxP (fun w : Hd => decide (w.peer = v.peer) && decide (w.label = v.label)) p.hs 0 = (i : Int))
def okOf (p : Prog) (i : Nat) : Bool := match p.os[i]? with
  | none => false
  | some v => p.party v.peer v.label && p.target v.args && (decide (v.cond = -1) || p.target v.cond)
def partsOk (p : Prog) : Bool := allI p.hs.length (okHd p) && allI p.os.length (okOf p) && decide (p.hs.length ≤ 40) && decide (p.os.length ≤ 40)
theorem p32 (p : Prog) : Pure Tryz.prog 32 [p.av] (.bool (partsOk p)) := by
  refine ok_args fun ok => ?_
  refine pure_intro mo Tryz.func32 c32 fun H => ?_
  unfold e32 r32
  simp only [initEnv, initFrom]
  repeat' first|(apply Sp.go;·constructor<;>first|exact ss|(change _=_;first|(simp only[go_sem,Nat.reduceBEq,Nat.reduceAdd,Nat.reduceLeDiff,reduceIte]<;>rfl)|rfl)|exact Nat.le_of_ble_eq_true rfl|decide|(repeat' first|(apply Lk.go;constructor)|assumption|exact nb ‹_› ‹_›|exact nt ‹_› ‹_›))|(intro b hb;repeat first|(refine fe hb ?_;intro _ _ hb)|(refine fT hb ?_;intro hb))|refine rt ?_|refine gA rfl ?_|refine gB rfl ?_|apply cT rfl|apply cF rfl|(apply DM.gbT;rfl)|(apply DM.gbF;rfl)|intro h
  rename Nat => b1
  refine AM.loopX (X := Nat) 0 (fun i => [(1, .ptr b1 0), (9, .vs 3 (p.hs.map Hd.row)), (10, .int .i64 p.hs.length), (11, .int .i64 i)]) (fun i H' => H' = H.setB b1 36 p.cells ∧ i ≤ p.hs.length ∧ ∀ j, j < i → okHd p j = true) (fun i => p.hs.length - i) ⟨rfl, by omega, fun j hj => by omega⟩ ?_ ?_
  · (repeat first | exact envle_nil _ | (refine envle_cons ?_ ?_; · (simp only [go_sem, Nat.reduceBEq, Nat.reduceAdd]; exact AVLe.refl _)))
    refine envle_cons ?_ (envle_cons ?_ (envle_nil _))
    · simp only [Env.get, Nat.reduceBEq, cond_true, cond_false, beq_self_eq_true]
      exact avle_int (by simp)
    · simp only [Env.get, Nat.reduceBEq, cond_true, cond_false, beq_self_eq_true]
      exact AVLe.refl _
  · intro i H' ⟨e, hi, he⟩
    subst e
    repeat' first|(apply Sp.go;·constructor<;>first|exact ss|(change _=_;first|(simp only[go_sem,Nat.reduceBEq,Nat.reduceAdd,Nat.reduceLeDiff,reduceIte]<;>rfl)|rfl)|exact Nat.le_of_ble_eq_true rfl|decide|(repeat' first|(apply Lk.go;constructor)|assumption|exact nb ‹_› ‹_›|exact nt ‹_› ‹_›))|(intro b hb;repeat first|(refine fe hb ?_;intro _ _ hb)|(refine fT hb ?_;intro hb))|refine rt ?_|refine gA rfl ?_|refine gB rfl ?_|apply cT rfl|apply cF rfl|(apply DM.gbT;rfl)|(apply DM.gbF;rfl)|intro h
    (apply AM.cond; (· rfl))
    · intro h3
      simp at h3
      obtain ⟨v, hv⟩ : ∃ v, p.hs[i]? = some v := ⟨_, List.getElem?_eq_getElem h3⟩
      have hok : okHd p i = (p.party v.peer v.label && p.target v.entry && decide (idxP (fun w : Hd => decide (w.peer = v.peer) && decide (w.label = v.label)) p.hs 0 = (i : Int))) := by simp [okHd, hv]
      repeat' first|(apply Sp.go;·constructor<;>first|exact ss|(change _=_;first|(simp only[go_sem,Nat.reduceBEq,Nat.reduceAdd,Nat.reduceLeDiff,reduceIte]<;>rfl)|rfl)|exact Nat.le_of_ble_eq_true rfl|decide|(repeat' first|(apply Lk.go;constructor)|assumption|exact nb ‹_› ‹_›|exact nt ‹_› ‹_›))|(intro b hb;repeat first|(refine fe hb ?_;intro _ _ hb)|(refine fT hb ?_;intro hb))|refine rt ?_|refine gA rfl ?_|refine gB rfl ?_|apply cT rfl|apply cF rfl|(apply DM.gbT;rfl)|(apply DM.gbF;rfl)|intro h
      (apply DM.ixV (row := v.row) (z := (i : Int)) (by omega) (row_get Hd.row hv); (· rfl); (· rfl))
      repeat' first|(apply Sp.go;·constructor<;>first|exact ss|(change _=_;first|(simp only[go_sem,Nat.reduceBEq,Nat.reduceAdd,Nat.reduceLeDiff,reduceIte]<;>rfl)|rfl)|exact Nat.le_of_ble_eq_true rfl|decide|(repeat' first|(apply Lk.go;constructor)|assumption|exact nb ‹_› ‹_›|exact nt ‹_› ‹_›))|(intro b hb;repeat first|(refine fe hb ?_;intro _ _ hb)|(refine fT hb ?_;intro hb))|refine rt ?_|refine gA rfl ?_|refine gB rfl ?_|apply cT rfl|apply cF rfl|(apply DM.gbT;rfl)|(apply DM.gbF;rfl)|intro h
      (apply DM.pcs (p81 p _ _); (· simp only [go_sem, Nat.reduceBEq, Nat.reduceAdd] <;> rfl); (· exact AVLes.refl _))
      repeat' first|(apply Sp.go;·constructor<;>first|exact ss|(change _=_;first|(simp only[go_sem,Nat.reduceBEq,Nat.reduceAdd,Nat.reduceLeDiff,reduceIte]<;>rfl)|rfl)|exact Nat.le_of_ble_eq_true rfl|decide|(repeat' first|(apply Lk.go;constructor)|assumption|exact nb ‹_› ‹_›|exact nt ‹_› ‹_›))|(intro b hb;repeat first|(refine fe hb ?_;intro _ _ hb)|(refine fT hb ?_;intro hb))|refine rt ?_|refine gA rfl ?_|refine gB rfl ?_|apply cT rfl|apply cF rfl|(apply DM.gbT;rfl)|(apply DM.gbF;rfl)|intro h
      · (apply DM.pcs (p34 p _); (· simp only [go_sem, Nat.reduceBEq, Nat.reduceAdd] <;> rfl); (· exact AVLes.refl _))
        repeat' first|(apply Sp.go;·constructor<;>first|exact ss|(change _=_;first|(simp only[go_sem,Nat.reduceBEq,Nat.reduceAdd,Nat.reduceLeDiff,reduceIte]<;>rfl)|rfl)|exact Nat.le_of_ble_eq_true rfl|decide|(repeat' first|(apply Lk.go;constructor)|assumption|exact nb ‹_› ‹_›|exact nt ‹_› ‹_›))|(intro b hb;repeat first|(refine fe hb ?_;intro _ _ hb)|(refine fT hb ?_;intro hb))|refine rt ?_|refine gA rfl ?_|refine gB rfl ?_|apply cT rfl|apply cF rfl|(apply DM.gbT;rfl)|(apply DM.gbF;rfl)|intro h
        · (apply DM.pcat (p82 _ 80 _ p.hs (fun w => decide (w.peer = v.peer) && decide (w.label = v.label)) call80 (fun w _ => p80 w v _ _ g_same)); (· simp only [go_sem, Nat.reduceBEq, Nat.reduceAdd] <;> rfl); (· exact AVLes.refl _))
          repeat' first|(apply Sp.go;·constructor<;>first|exact ss|(change _=_;first|(simp only[go_sem,Nat.reduceBEq,Nat.reduceAdd,Nat.reduceLeDiff,reduceIte]<;>rfl)|rfl)|exact Nat.le_of_ble_eq_true rfl|decide|(repeat' first|(apply Lk.go;constructor)|assumption|exact nb ‹_› ‹_›|exact nt ‹_› ‹_›))|(intro b hb;repeat first|(refine fe hb ?_;intro _ _ hb)|(refine fT hb ?_;intro hb))|refine rt ?_|refine gA rfl ?_|refine gB rfl ?_|apply cT rfl|apply cF rfl|(apply DM.gbT;rfl)|(apply DM.gbF;rfl)|intro h
          (apply AM.cond; (· rfl))
          · intro h4
            repeat' first|(apply Sp.go;·constructor<;>first|exact ss|(change _=_;first|(simp only[go_sem,Nat.reduceBEq,Nat.reduceAdd,Nat.reduceLeDiff,reduceIte]<;>rfl)|rfl)|exact Nat.le_of_ble_eq_true rfl|decide|(repeat' first|(apply Lk.go;constructor)|assumption|exact nb ‹_› ‹_›|exact nt ‹_› ‹_›))|(intro b hb;repeat first|(refine fe hb ?_;intro _ _ hb)|(refine fT hb ?_;intro hb))|refine rt ?_|refine gA rfl ?_|refine gB rfl ?_|apply cT rfl|apply cF rfl|(apply DM.gbT;rfl)|(apply DM.gbF;rfl)|intro h
            (apply Sr.go;·constructor<;>first|(apply Lk.go;constructor<;>first|exact ss|(change _=_;first|(simp only[go_sem,Nat.reduceBEq,Nat.reduceAdd,Nat.reduceLeDiff,reduceIte]<;>rfl)|rfl)|exact Nat.le_of_ble_eq_true rfl|decide|(repeat' first|(apply Lk.go;constructor)|assumption|exact nb ‹_› ‹_›|exact nt ‹_› ‹_›))|assumption)
            refine avle_eq ?_; rw [AV.bool.injEq]
            simp only [partsOk]
            rw [allI_false h3]
            · simp
            · rw [hok]; simp at *; simp [*]
          · intro h4
            repeat' first|(apply Sp.go;·constructor<;>first|exact ss|(change _=_;first|(simp only[go_sem,Nat.reduceBEq,Nat.reduceAdd,Nat.reduceLeDiff,reduceIte]<;>rfl)|rfl)|exact Nat.le_of_ble_eq_true rfl|decide|(repeat' first|(apply Lk.go;constructor)|assumption|exact nb ‹_› ‹_›|exact nt ‹_› ‹_›))|(intro b hb;repeat first|(refine fe hb ?_;intro _ _ hb)|(refine fT hb ?_;intro hb))|refine rt ?_|refine gA rfl ?_|refine gB rfl ?_|apply cT rfl|apply cF rfl|(apply DM.gbT;rfl)|(apply DM.gbF;rfl)|intro h
            refine AM.forget (H.setB b1 36 p.cells) ?_ ?_
            · (repeat' first|assumption|(apply Lk.go;constructor))
            refine AM.roundX (i + 1) ⟨rfl, by omega, fun j hj => ?_⟩ ?_ ?_
            · by_cases e : j = i
              · subst e; rw [hok]; simp at *; simp [*]
              · exact he j (by omega)
            · (repeat first | exact envle_nil _ | (refine envle_cons ?_ ?_; · (simp only [go_sem, Nat.reduceBEq, Nat.reduceAdd]; exact AVLe.refl _)))
              refine envle_cons ?_ ?_
              · simp only [go_sem, Nat.reduceBEq, Nat.reduceAdd]
                refine avle_int ?_
                rw [inc64 h3 ok.hs]
              exact envle_nil _
            · show p.hs.length - (i + 1) < p.hs.length - i
              omega
        · (apply Sr.go;·constructor<;>first|(apply Lk.go;constructor<;>first|exact ss|(change _=_;first|(simp only[go_sem,Nat.reduceBEq,Nat.reduceAdd,Nat.reduceLeDiff,reduceIte]<;>rfl)|rfl)|exact Nat.le_of_ble_eq_true rfl|decide|(repeat' first|(apply Lk.go;constructor)|assumption|exact nb ‹_› ‹_›|exact nt ‹_› ‹_›))|assumption)
          refine avle_eq ?_; rw [AV.bool.injEq]
          simp only [partsOk]
          rw [allI_false h3]
          · simp
          · rw [hok]; simp at *; simp [*]
      · (apply Sr.go;·constructor<;>first|(apply Lk.go;constructor<;>first|exact ss|(change _=_;first|(simp only[go_sem,Nat.reduceBEq,Nat.reduceAdd,Nat.reduceLeDiff,reduceIte]<;>rfl)|rfl)|exact Nat.le_of_ble_eq_true rfl|decide|(repeat' first|(apply Lk.go;constructor)|assumption|exact nb ‹_› ‹_›|exact nt ‹_› ‹_›))|assumption)
        refine avle_eq ?_; rw [AV.bool.injEq]
        simp only [partsOk]
        rw [allI_false h3]
        · simp
        · rw [hok]; simp at *; simp [*]
    · intro h3
      simp at h3
      have hall : allI p.hs.length (okHd p) = true := allI_true fun j hj => he j (by omega)
      repeat' first|(apply Sp.go;·constructor<;>first|exact ss|(change _=_;first|(simp only[go_sem,Nat.reduceBEq,Nat.reduceAdd,Nat.reduceLeDiff,reduceIte]<;>rfl)|rfl)|exact Nat.le_of_ble_eq_true rfl|decide|(repeat' first|(apply Lk.go;constructor)|assumption|exact nb ‹_› ‹_›|exact nt ‹_› ‹_›))|(intro b hb;repeat first|(refine fe hb ?_;intro _ _ hb)|(refine fT hb ?_;intro hb))|refine rt ?_|refine gA rfl ?_|refine gB rfl ?_|apply cT rfl|apply cF rfl|(apply DM.gbT;rfl)|(apply DM.gbF;rfl)|intro h
      refine AM.loopX (X := Nat) 0 (fun i => [(1, .ptr b1 0), (41, .vs 4 (p.os.map Of_.row)), (42, .int .i64 p.os.length), (43, .int .i64 i)]) (fun i H' => H' = H.setB b1 36 p.cells ∧ i ≤ p.os.length ∧ ∀ j, j < i → okOf p j = true) (fun i => p.os.length - i) ⟨rfl, by omega, fun j hj => by omega⟩ ?_ ?_
      · (repeat first | exact envle_nil _ | (refine envle_cons ?_ ?_; · (simp only [go_sem, Nat.reduceBEq, Nat.reduceAdd]; exact AVLe.refl _)))
        refine envle_cons ?_ (envle_cons ?_ (envle_nil _))
        · simp only [Env.get, Nat.reduceBEq, cond_true, cond_false, beq_self_eq_true]
          exact avle_int (by simp)
        · simp only [Env.get, Nat.reduceBEq, cond_true, cond_false, beq_self_eq_true]
          exact AVLe.refl _
      · clear he hi h3
        intro i H' ⟨e, hi, he⟩
        subst e
        repeat' first|(apply Sp.go;·constructor<;>first|exact ss|(change _=_;first|(simp only[go_sem,Nat.reduceBEq,Nat.reduceAdd,Nat.reduceLeDiff,reduceIte]<;>rfl)|rfl)|exact Nat.le_of_ble_eq_true rfl|decide|(repeat' first|(apply Lk.go;constructor)|assumption|exact nb ‹_› ‹_›|exact nt ‹_› ‹_›))|(intro b hb;repeat first|(refine fe hb ?_;intro _ _ hb)|(refine fT hb ?_;intro hb))|refine rt ?_|refine gA rfl ?_|refine gB rfl ?_|apply cT rfl|apply cF rfl|(apply DM.gbT;rfl)|(apply DM.gbF;rfl)|intro h
        (apply AM.cond; (· rfl))
        · intro h3
          simp at h3
          obtain ⟨v, hv⟩ : ∃ v, p.os[i]? = some v := ⟨_, List.getElem?_eq_getElem h3⟩
          have hok : okOf p i = (p.party v.peer v.label && p.target v.args && (decide (v.cond = -1) || p.target v.cond)) := by simp [okOf, hv]
          have fin : okOf p i = false → partsOk p = false := fun h => by simp only [partsOk]; rw [allI_false h3 h]; simp
          repeat' first|(apply Sp.go;·constructor<;>first|exact ss|(change _=_;first|(simp only[go_sem,Nat.reduceBEq,Nat.reduceAdd,Nat.reduceLeDiff,reduceIte]<;>rfl)|rfl)|exact Nat.le_of_ble_eq_true rfl|decide|(repeat' first|(apply Lk.go;constructor)|assumption|exact nb ‹_› ‹_›|exact nt ‹_› ‹_›))|(intro b hb;repeat first|(refine fe hb ?_;intro _ _ hb)|(refine fT hb ?_;intro hb))|refine rt ?_|refine gA rfl ?_|refine gB rfl ?_|apply cT rfl|apply cF rfl|(apply DM.gbT;rfl)|(apply DM.gbF;rfl)|intro h
          (apply DM.ixV (row := v.row) (z := (i : Int)) (by omega) (row_get Of_.row hv); (· rfl); (· rfl))
          repeat' first|(apply Sp.go;·constructor<;>first|exact ss|(change _=_;first|(simp only[go_sem,Nat.reduceBEq,Nat.reduceAdd,Nat.reduceLeDiff,reduceIte]<;>rfl)|rfl)|exact Nat.le_of_ble_eq_true rfl|decide|(repeat' first|(apply Lk.go;constructor)|assumption|exact nb ‹_› ‹_›|exact nt ‹_› ‹_›))|(intro b hb;repeat first|(refine fe hb ?_;intro _ _ hb)|(refine fT hb ?_;intro hb))|refine rt ?_|refine gA rfl ?_|refine gB rfl ?_|apply cT rfl|apply cF rfl|(apply DM.gbT;rfl)|(apply DM.gbF;rfl)|intro h
          (apply DM.pcs (p81 p _ _); (· simp only [go_sem, Nat.reduceBEq, Nat.reduceAdd] <;> rfl); (· exact AVLes.refl _))
          repeat' first|(apply Sp.go;·constructor<;>first|exact ss|(change _=_;first|(simp only[go_sem,Nat.reduceBEq,Nat.reduceAdd,Nat.reduceLeDiff,reduceIte]<;>rfl)|rfl)|exact Nat.le_of_ble_eq_true rfl|decide|(repeat' first|(apply Lk.go;constructor)|assumption|exact nb ‹_› ‹_›|exact nt ‹_› ‹_›))|(intro b hb;repeat first|(refine fe hb ?_;intro _ _ hb)|(refine fT hb ?_;intro hb))|refine rt ?_|refine gA rfl ?_|refine gB rfl ?_|apply cT rfl|apply cF rfl|(apply DM.gbT;rfl)|(apply DM.gbF;rfl)|intro h
          · (apply DM.pcs (p34 p _); (· simp only [go_sem, Nat.reduceBEq, Nat.reduceAdd] <;> rfl); (· exact AVLes.refl _))
            repeat' first|(apply Sp.go;·constructor<;>first|exact ss|(change _=_;first|(simp only[go_sem,Nat.reduceBEq,Nat.reduceAdd,Nat.reduceLeDiff,reduceIte]<;>rfl)|rfl)|exact Nat.le_of_ble_eq_true rfl|decide|(repeat' first|(apply Lk.go;constructor)|assumption|exact nb ‹_› ‹_›|exact nt ‹_› ‹_›))|(intro b hb;repeat first|(refine fe hb ?_;intro _ _ hb)|(refine fT hb ?_;intro hb))|refine rt ?_|refine gA rfl ?_|refine gB rfl ?_|apply cT rfl|apply cF rfl|(apply DM.gbT;rfl)|(apply DM.gbF;rfl)|intro h
            · (apply DM.pcs (p34 p _); (· simp only [go_sem, Nat.reduceBEq, Nat.reduceAdd] <;> rfl); (· exact AVLes.refl _))
              repeat' first|(apply Sp.go;·constructor<;>first|exact ss|(change _=_;first|(simp only[go_sem,Nat.reduceBEq,Nat.reduceAdd,Nat.reduceLeDiff,reduceIte]<;>rfl)|rfl)|exact Nat.le_of_ble_eq_true rfl|decide|(repeat' first|(apply Lk.go;constructor)|assumption|exact nb ‹_› ‹_›|exact nt ‹_› ‹_›))|(intro b hb;repeat first|(refine fe hb ?_;intro _ _ hb)|(refine fT hb ?_;intro hb))|refine rt ?_|refine gA rfl ?_|refine gB rfl ?_|apply cT rfl|apply cF rfl|(apply DM.gbT;rfl)|(apply DM.gbF;rfl)|intro h
              (apply AM.cond; (· rfl))
              · intro h4
                repeat' first|(apply Sp.go;·constructor<;>first|exact ss|(change _=_;first|(simp only[go_sem,Nat.reduceBEq,Nat.reduceAdd,Nat.reduceLeDiff,reduceIte]<;>rfl)|rfl)|exact Nat.le_of_ble_eq_true rfl|decide|(repeat' first|(apply Lk.go;constructor)|assumption|exact nb ‹_› ‹_›|exact nt ‹_› ‹_›))|(intro b hb;repeat first|(refine fe hb ?_;intro _ _ hb)|(refine fT hb ?_;intro hb))|refine rt ?_|refine gA rfl ?_|refine gB rfl ?_|apply cT rfl|apply cF rfl|(apply DM.gbT;rfl)|(apply DM.gbF;rfl)|intro h
                (apply Sr.go;·constructor<;>first|(apply Lk.go;constructor<;>first|exact ss|(change _=_;first|(simp only[go_sem,Nat.reduceBEq,Nat.reduceAdd,Nat.reduceLeDiff,reduceIte]<;>rfl)|rfl)|exact Nat.le_of_ble_eq_true rfl|decide|(repeat' first|(apply Lk.go;constructor)|assumption|exact nb ‹_› ‹_›|exact nt ‹_› ‹_›))|assumption)
                refine avle_eq ?_; rw [AV.bool.injEq, fin]
                rw [hok]; simp at *; simp [*]
              · intro h4
                repeat' first|(apply Sp.go;·constructor<;>first|exact ss|(change _=_;first|(simp only[go_sem,Nat.reduceBEq,Nat.reduceAdd,Nat.reduceLeDiff,reduceIte]<;>rfl)|rfl)|exact Nat.le_of_ble_eq_true rfl|decide|(repeat' first|(apply Lk.go;constructor)|assumption|exact nb ‹_› ‹_›|exact nt ‹_› ‹_›))|(intro b hb;repeat first|(refine fe hb ?_;intro _ _ hb)|(refine fT hb ?_;intro hb))|refine rt ?_|refine gA rfl ?_|refine gB rfl ?_|apply cT rfl|apply cF rfl|(apply DM.gbT;rfl)|(apply DM.gbF;rfl)|intro h
                refine AM.forget (H.setB b1 36 p.cells) ?_ ?_
                · (repeat' first|assumption|(apply Lk.go;constructor))
                refine AM.roundX (i + 1) ⟨rfl, by omega, fun j hj => ?_⟩ ?_ ?_
                · by_cases e : j = i
                  · subst e; rw [hok]; simp at *; simp [*]
                  · exact he j (by omega)
                · (repeat first | exact envle_nil _ | (refine envle_cons ?_ ?_; · (simp only [go_sem, Nat.reduceBEq, Nat.reduceAdd]; exact AVLe.refl _)))
                  refine envle_cons ?_ ?_
                  · simp only [go_sem, Nat.reduceBEq, Nat.reduceAdd]
                    refine avle_int ?_
                    rw [inc64 h3 ok.os]
                  exact envle_nil _
                · show p.os.length - (i + 1) < p.os.length - i
                  omega
            · refine AM.forget (H.setB b1 36 p.cells) ?_ ?_
              · (repeat' first|assumption|(apply Lk.go;constructor))
              refine AM.roundX (i + 1) ⟨rfl, by omega, fun j hj => ?_⟩ ?_ ?_
              · by_cases e : j = i
                · subst e; rw [hok]; simp at *; simp [*]
                · exact he j (by omega)
              · (repeat first | exact envle_nil _ | (refine envle_cons ?_ ?_; · (simp only [go_sem, Nat.reduceBEq, Nat.reduceAdd]; exact AVLe.refl _)))
                refine envle_cons ?_ ?_
                · simp only [go_sem, Nat.reduceBEq, Nat.reduceAdd]
                  refine avle_int ?_
                  rw [inc64 h3 ok.os]
                exact envle_nil _
              · show p.os.length - (i + 1) < p.os.length - i
                omega
            · (apply Sr.go;·constructor<;>first|(apply Lk.go;constructor<;>first|exact ss|(change _=_;first|(simp only[go_sem,Nat.reduceBEq,Nat.reduceAdd,Nat.reduceLeDiff,reduceIte]<;>rfl)|rfl)|exact Nat.le_of_ble_eq_true rfl|decide|(repeat' first|(apply Lk.go;constructor)|assumption|exact nb ‹_› ‹_›|exact nt ‹_› ‹_›))|assumption)
              refine avle_eq ?_; rw [AV.bool.injEq, fin]
              rw [hok]; simp at *; simp [*]
          · (apply Sr.go;·constructor<;>first|(apply Lk.go;constructor<;>first|exact ss|(change _=_;first|(simp only[go_sem,Nat.reduceBEq,Nat.reduceAdd,Nat.reduceLeDiff,reduceIte]<;>rfl)|rfl)|exact Nat.le_of_ble_eq_true rfl|decide|(repeat' first|(apply Lk.go;constructor)|assumption|exact nb ‹_› ‹_›|exact nt ‹_› ‹_›))|assumption)
            refine avle_eq ?_; rw [AV.bool.injEq, fin]
            rw [hok]; simp at *; simp [*]
        · intro h3
          simp at h3
          have hall2 : allI p.os.length (okOf p) = true := allI_true fun j hj => he j (by omega)
          repeat' first|(apply Sp.go;·constructor<;>first|exact ss|(change _=_;first|(simp only[go_sem,Nat.reduceBEq,Nat.reduceAdd,Nat.reduceLeDiff,reduceIte]<;>rfl)|rfl)|exact Nat.le_of_ble_eq_true rfl|decide|(repeat' first|(apply Lk.go;constructor)|assumption|exact nb ‹_› ‹_›|exact nt ‹_› ‹_›))|(intro b hb;repeat first|(refine fe hb ?_;intro _ _ hb)|(refine fT hb ?_;intro hb))|refine rt ?_|refine gA rfl ?_|refine gB rfl ?_|apply cT rfl|apply cF rfl|(apply DM.gbT;rfl)|(apply DM.gbF;rfl)|intro h
          all_goals ((apply Sr.go;·constructor<;>first|(apply Lk.go;constructor<;>first|exact ss|(change _=_;first|(simp only[go_sem,Nat.reduceBEq,Nat.reduceAdd,Nat.reduceLeDiff,reduceIte]<;>rfl)|rfl)|exact Nat.le_of_ble_eq_true rfl|decide|(repeat' first|(apply Lk.go;constructor)|assumption|exact nb ‹_› ‹_›|exact nt ‹_› ‹_›))|assumption))
          all_goals (refine avle_eq ?_; rw [AV.bool.injEq, partsOk, hall, hall2, Bool.true_and, Bool.true_and, Bool.eq_iff_iff]; simp at *; omega)
def okIns (p : Prog) (x : Ins_) : Bool := formed x && (if x.op = 3 ∨ x.op = 5 then decide (x.n < p.vars.length) else if x.op = 19 ∨ x.op = 20 ∨ x.op = 22 then p.target x.n else true)
def okIx (p : Prog) (i : Nat) : Bool := match p.code[i]? with
  | none => false
  | some x => okIns p x
def validP (p : Prog) : Bool := isName p.name && inB p.role 0 5 && inB p.code.length 1 1000 && varsOk p.vars && partsOk p && allI p.code.length (okIx p)
theorem p11 (p : Prog) : Pure Tryz.prog 11 [p.av] (.bool (validP p)) := by
  refine ok_args fun ok => ?_
  refine pure_intro mo Tryz.func11 c11 fun H => ?_
  unfold e11 r11
  simp only [initEnv, initFrom]
  repeat' first|(apply Sp.go;·constructor<;>first|exact ss|(change _=_;first|(simp only[go_sem,Nat.reduceBEq,Nat.reduceAdd,Nat.reduceLeDiff,reduceIte]<;>rfl)|rfl)|exact Nat.le_of_ble_eq_true rfl|decide|(repeat' first|(apply Lk.go;constructor)|assumption|exact nb ‹_› ‹_›|exact nt ‹_› ‹_›))|(intro b hb;repeat first|(refine fe hb ?_;intro _ _ hb)|(refine fT hb ?_;intro hb))|refine rt ?_|refine gA rfl ?_|refine gB rfl ?_|apply cT rfl|apply cF rfl|(apply DM.gbT;rfl)|(apply DM.gbF;rfl)|intro h
  (apply DM.pcs (p67' _); (· simp only [go_sem, Nat.reduceBEq, Nat.reduceAdd] <;> rfl); (· exact AVLes.refl _))
  repeat' first|(apply Sp.go;·constructor<;>first|exact ss|(change _=_;first|(simp only[go_sem,Nat.reduceBEq,Nat.reduceAdd,Nat.reduceLeDiff,reduceIte]<;>rfl)|rfl)|exact Nat.le_of_ble_eq_true rfl|decide|(repeat' first|(apply Lk.go;constructor)|assumption|exact nb ‹_› ‹_›|exact nt ‹_› ‹_›))|(intro b hb;repeat first|(refine fe hb ?_;intro _ _ hb)|(refine fT hb ?_;intro hb))|refine rt ?_|refine gA rfl ?_|refine gB rfl ?_|apply cT rfl|apply cF rfl|(apply DM.gbT;rfl)|(apply DM.gbF;rfl)|intro h
  · (apply DM.pcs (p30 _ _ _); (· simp only [go_sem, Nat.reduceBEq, Nat.reduceAdd] <;> rfl); (· exact AVLes.refl _))
    repeat' first|(apply Sp.go;·constructor<;>first|exact ss|(change _=_;first|(simp only[go_sem,Nat.reduceBEq,Nat.reduceAdd,Nat.reduceLeDiff,reduceIte]<;>rfl)|rfl)|exact Nat.le_of_ble_eq_true rfl|decide|(repeat' first|(apply Lk.go;constructor)|assumption|exact nb ‹_› ‹_›|exact nt ‹_› ‹_›))|(intro b hb;repeat first|(refine fe hb ?_;intro _ _ hb)|(refine fT hb ?_;intro hb))|refine rt ?_|refine gA rfl ?_|refine gB rfl ?_|apply cT rfl|apply cF rfl|(apply DM.gbT;rfl)|(apply DM.gbF;rfl)|intro h
    · (apply DM.pcs (p30 _ _ _); (· simp only [go_sem, Nat.reduceBEq, Nat.reduceAdd] <;> rfl); (· exact AVLes.refl _))
      repeat' first|(apply Sp.go;·constructor<;>first|exact ss|(change _=_;first|(simp only[go_sem,Nat.reduceBEq,Nat.reduceAdd,Nat.reduceLeDiff,reduceIte]<;>rfl)|rfl)|exact Nat.le_of_ble_eq_true rfl|decide|(repeat' first|(apply Lk.go;constructor)|assumption|exact nb ‹_› ‹_›|exact nt ‹_› ‹_›))|(intro b hb;repeat first|(refine fe hb ?_;intro _ _ hb)|(refine fT hb ?_;intro hb))|refine rt ?_|refine gA rfl ?_|refine gB rfl ?_|apply cT rfl|apply cF rfl|(apply DM.gbT;rfl)|(apply DM.gbF;rfl)|intro h
      · (apply DM.pcs (p31 p); (· simp only [go_sem, Nat.reduceBEq, Nat.reduceAdd] <;> rfl); (· exact AVLes.refl _))
        repeat' first|(apply Sp.go;·constructor<;>first|exact ss|(change _=_;first|(simp only[go_sem,Nat.reduceBEq,Nat.reduceAdd,Nat.reduceLeDiff,reduceIte]<;>rfl)|rfl)|exact Nat.le_of_ble_eq_true rfl|decide|(repeat' first|(apply Lk.go;constructor)|assumption|exact nb ‹_› ‹_›|exact nt ‹_› ‹_›))|(intro b hb;repeat first|(refine fe hb ?_;intro _ _ hb)|(refine fT hb ?_;intro hb))|refine rt ?_|refine gA rfl ?_|refine gB rfl ?_|apply cT rfl|apply cF rfl|(apply DM.gbT;rfl)|(apply DM.gbF;rfl)|intro h
        · (apply DM.pcs (p32 p); (· simp only [go_sem, Nat.reduceBEq, Nat.reduceAdd] <;> rfl); (· exact AVLes.refl _))
          repeat' first|(apply Sp.go;·constructor<;>first|exact ss|(change _=_;first|(simp only[go_sem,Nat.reduceBEq,Nat.reduceAdd,Nat.reduceLeDiff,reduceIte]<;>rfl)|rfl)|exact Nat.le_of_ble_eq_true rfl|decide|(repeat' first|(apply Lk.go;constructor)|assumption|exact nb ‹_› ‹_›|exact nt ‹_› ‹_›))|(intro b hb;repeat first|(refine fe hb ?_;intro _ _ hb)|(refine fT hb ?_;intro hb))|refine rt ?_|refine gA rfl ?_|refine gB rfl ?_|apply cT rfl|apply cF rfl|(apply DM.gbT;rfl)|(apply DM.gbF;rfl)|intro h
          · (apply AM.cond; (· rfl))
            · intro h
              repeat' first|(apply Sp.go;·constructor<;>first|exact ss|(change _=_;first|(simp only[go_sem,Nat.reduceBEq,Nat.reduceAdd,Nat.reduceLeDiff,reduceIte]<;>rfl)|rfl)|exact Nat.le_of_ble_eq_true rfl|decide|(repeat' first|(apply Lk.go;constructor)|assumption|exact nb ‹_› ‹_›|exact nt ‹_› ‹_›))|(intro b hb;repeat first|(refine fe hb ?_;intro _ _ hb)|(refine fT hb ?_;intro hb))|refine rt ?_|refine gA rfl ?_|refine gB rfl ?_|apply cT rfl|apply cF rfl|(apply DM.gbT;rfl)|(apply DM.gbF;rfl)|intro h
              (apply Sr.go;·constructor<;>first|(apply Lk.go;constructor<;>first|exact ss|(change _=_;first|(simp only[go_sem,Nat.reduceBEq,Nat.reduceAdd,Nat.reduceLeDiff,reduceIte]<;>rfl)|rfl)|exact Nat.le_of_ble_eq_true rfl|decide|(repeat' first|(apply Lk.go;constructor)|assumption|exact nb ‹_› ‹_›|exact nt ‹_› ‹_›))|assumption)
              refine avle_eq ?_; rw [AV.bool.injEq]; simp at *; simp [validP, *]
            · intro h
              have hpre : (isName p.name && inB p.role 0 5 && inB p.code.length 1 1000 && varsOk p.vars && partsOk p) = true := by simp at *; simp [*]
              rename Nat => b1
              repeat' first|(apply Sp.go;·constructor<;>first|exact ss|(change _=_;first|(simp only[go_sem,Nat.reduceBEq,Nat.reduceAdd,Nat.reduceLeDiff,reduceIte]<;>rfl)|rfl)|exact Nat.le_of_ble_eq_true rfl|decide|(repeat' first|(apply Lk.go;constructor)|assumption|exact nb ‹_› ‹_›|exact nt ‹_› ‹_›))|(intro b hb;repeat first|(refine fe hb ?_;intro _ _ hb)|(refine fT hb ?_;intro hb))|refine rt ?_|refine gA rfl ?_|refine gB rfl ?_|apply cT rfl|apply cF rfl|(apply DM.gbT;rfl)|(apply DM.gbF;rfl)|intro h
              refine AM.loopX (X := Nat) 0 (fun i => [(1, .ptr b1 0), (33, .vs 3 (p.code.map Ins_.row)), (34, .int .i64 p.code.length), (35, .int .i64 i)]) (fun i H' => H' = H.setB b1 36 p.cells ∧ i ≤ p.code.length ∧ ∀ j, j < i → okIx p j = true) (fun i => p.code.length - i) ⟨rfl, by omega, fun j hj => by omega⟩ ?_ ?_
              · (repeat first | exact envle_nil _ | (refine envle_cons ?_ ?_; · (simp only [go_sem, Nat.reduceBEq, Nat.reduceAdd]; exact AVLe.refl _)))
                refine envle_cons ?_ (envle_cons ?_ (envle_nil _))
                · simp only [Env.get, Nat.reduceBEq, cond_true, cond_false, beq_self_eq_true]
                  exact avle_int (by simp)
                · simp only [Env.get, Nat.reduceBEq, cond_true, cond_false, beq_self_eq_true]
                  exact AVLe.refl _
              · intro i H' ⟨e, hi, he⟩
                subst e
                repeat' first|(apply Sp.go;·constructor<;>first|exact ss|(change _=_;first|(simp only[go_sem,Nat.reduceBEq,Nat.reduceAdd,Nat.reduceLeDiff,reduceIte]<;>rfl)|rfl)|exact Nat.le_of_ble_eq_true rfl|decide|(repeat' first|(apply Lk.go;constructor)|assumption|exact nb ‹_› ‹_›|exact nt ‹_› ‹_›))|(intro b hb;repeat first|(refine fe hb ?_;intro _ _ hb)|(refine fT hb ?_;intro hb))|refine rt ?_|refine gA rfl ?_|refine gB rfl ?_|apply cT rfl|apply cF rfl|(apply DM.gbT;rfl)|(apply DM.gbF;rfl)|intro h
                (apply AM.cond; (· rfl))
                · intro h3
                  simp at h3
                  obtain ⟨x, hx⟩ : ∃ v, p.code[i]? = some v := ⟨_, List.getElem?_eq_getElem h3⟩
                  have hok : okIx p i = okIns p x := by simp [okIx, hx]
                  have fin : okIx p i = false → validP p = false := fun h => by simp only [validP]; rw [allI_false h3 h]; simp
                  repeat' first|(apply Sp.go;·constructor<;>first|exact ss|(change _=_;first|(simp only[go_sem,Nat.reduceBEq,Nat.reduceAdd,Nat.reduceLeDiff,reduceIte]<;>rfl)|rfl)|exact Nat.le_of_ble_eq_true rfl|decide|(repeat' first|(apply Lk.go;constructor)|assumption|exact nb ‹_› ‹_›|exact nt ‹_› ‹_›))|(intro b hb;repeat first|(refine fe hb ?_;intro _ _ hb)|(refine fT hb ?_;intro hb))|refine rt ?_|refine gA rfl ?_|refine gB rfl ?_|apply cT rfl|apply cF rfl|(apply DM.gbT;rfl)|(apply DM.gbF;rfl)|intro h
                  (apply DM.ixV (row := x.row) (z := (i : Int)) (by omega) (row_get Ins_.row hx); (· rfl); (· rfl))
                  repeat' first|(apply Sp.go;·constructor<;>first|exact ss|(change _=_;first|(simp only[go_sem,Nat.reduceBEq,Nat.reduceAdd,Nat.reduceLeDiff,reduceIte]<;>rfl)|rfl)|exact Nat.le_of_ble_eq_true rfl|decide|(repeat' first|(apply Lk.go;constructor)|assumption|exact nb ‹_› ‹_›|exact nt ‹_› ‹_›))|(intro b hb;repeat first|(refine fe hb ?_;intro _ _ hb)|(refine fT hb ?_;intro hb))|refine rt ?_|refine gA rfl ?_|refine gB rfl ?_|apply cT rfl|apply cF rfl|(apply DM.gbT;rfl)|(apply DM.gbF;rfl)|intro h
                  (apply DM.pcs (p33 x); (· simp only [go_sem, Nat.reduceBEq, Nat.reduceAdd] <;> rfl); (· exact AVLes.refl _))
                  repeat' first|(apply Sp.go;·constructor<;>first|exact ss|(change _=_;first|(simp only[go_sem,Nat.reduceBEq,Nat.reduceAdd,Nat.reduceLeDiff,reduceIte]<;>rfl)|rfl)|exact Nat.le_of_ble_eq_true rfl|decide|(repeat' first|(apply Lk.go;constructor)|assumption|exact nb ‹_› ‹_›|exact nt ‹_› ‹_›))|(intro b hb;repeat first|(refine fe hb ?_;intro _ _ hb)|(refine fT hb ?_;intro hb))|refine rt ?_|refine gA rfl ?_|refine gB rfl ?_|apply cT rfl|apply cF rfl|(apply DM.gbT;rfl)|(apply DM.gbF;rfl)|(apply AM.condS;rfl)|intro h
                  all_goals try (apply DM.pcs (p34 p _); (· (simp only [List.map_cons, List.map_nil, EOpd.ev, Env.get, Nat.reduceBEq, cond_true, cond_false, beq_self_eq_true] <;> rfl)); (· exact AVLes.refl _))
                  all_goals (repeat' first|(apply Sp.go;·constructor<;>first|exact ss|(change _=_;first|(simp only[go_sem,Nat.reduceBEq,Nat.reduceAdd,Nat.reduceLeDiff,reduceIte]<;>rfl)|rfl)|exact Nat.le_of_ble_eq_true rfl|decide|(repeat' first|(apply Lk.go;constructor)|assumption|exact nb ‹_› ‹_›|exact nt ‹_› ‹_›))|(intro b hb;repeat first|(refine fe hb ?_;intro _ _ hb)|(refine fT hb ?_;intro hb))|refine rt ?_|refine gA rfl ?_|refine gB rfl ?_|apply cT rfl|apply cF rfl|(apply DM.gbT;rfl)|(apply DM.gbF;rfl)|(apply AM.condS;rfl)|intro h)
                  all_goals first
                    | (skip
                       (apply Sr.go;·constructor<;>first|(apply Lk.go;constructor<;>first|exact ss|(change _=_;first|(simp only[go_sem,Nat.reduceBEq,Nat.reduceAdd,Nat.reduceLeDiff,reduceIte]<;>rfl)|rfl)|exact Nat.le_of_ble_eq_true rfl|decide|(repeat' first|(apply Lk.go;constructor)|assumption|exact nb ‹_› ‹_›|exact nt ‹_› ‹_›))|assumption)
                       refine avle_eq ?_
                       rw [AV.bool.injEq, fin]
                       rw [hok]
                       simp at *
                       simp [okIns, *]
                       done)
                    | (skip
                       (apply Sr.go;·constructor<;>first|(apply Lk.go;constructor<;>first|exact ss|(change _=_;first|(simp only[go_sem,Nat.reduceBEq,Nat.reduceAdd,Nat.reduceLeDiff,reduceIte]<;>rfl)|rfl)|exact Nat.le_of_ble_eq_true rfl|decide|(repeat' first|(apply Lk.go;constructor)|assumption|exact nb ‹_› ‹_›|exact nt ‹_› ‹_›))|assumption)
                       refine avle_eq ?_
                       rw [AV.bool.injEq, fin]
                       rw [hok]
                       simp at *
                       simp [okIns, *]
                       omega)
                    | (skip
                       refine AM.forget (H.setB b1 36 p.cells) ?_ ?_
                       · (repeat' first|assumption|(apply Lk.go;constructor))
                       refine AM.roundX (i + 1) ⟨rfl, by omega, fun j hj => ?_⟩ ?_ ?_
                       · by_cases e : j = i
                         · subst e
                           rw [hok]
                           simp at *
                           simp [okIns, *]
                           try omega
                         · exact he j (by omega)
                       · (repeat first | exact envle_nil _ | (refine envle_cons ?_ ?_; · (simp only [go_sem, Nat.reduceBEq, Nat.reduceAdd]; exact AVLe.refl _)))
                         refine envle_cons ?_ ?_
                         · simp only [go_sem, Nat.reduceBEq, Nat.reduceAdd]
                           refine avle_int ?_
                           rw [inc64 h3 ok.code]
                         exact envle_nil _
                       · show p.code.length - (i + 1) < p.code.length - i
                         omega)
                · intro h3
                  simp at h3
                  repeat' first|(apply Sp.go;·constructor<;>first|exact ss|(change _=_;first|(simp only[go_sem,Nat.reduceBEq,Nat.reduceAdd,Nat.reduceLeDiff,reduceIte]<;>rfl)|rfl)|exact Nat.le_of_ble_eq_true rfl|decide|(repeat' first|(apply Lk.go;constructor)|assumption|exact nb ‹_› ‹_›|exact nt ‹_› ‹_›))|(intro b hb;repeat first|(refine fe hb ?_;intro _ _ hb)|(refine fT hb ?_;intro hb))|refine rt ?_|refine gA rfl ?_|refine gB rfl ?_|apply cT rfl|apply cF rfl|(apply DM.gbT;rfl)|(apply DM.gbF;rfl)|intro h
                  (apply Sr.go;·constructor<;>first|(apply Lk.go;constructor<;>first|exact ss|(change _=_;first|(simp only[go_sem,Nat.reduceBEq,Nat.reduceAdd,Nat.reduceLeDiff,reduceIte]<;>rfl)|rfl)|exact Nat.le_of_ble_eq_true rfl|decide|(repeat' first|(apply Lk.go;constructor)|assumption|exact nb ‹_› ‹_›|exact nt ‹_› ‹_›))|assumption)
                  refine avle_eq ?_; rw [AV.bool.injEq, validP, hpre, Bool.true_and, allI_true fun j hj => he j (by omega)]
        · (apply Sr.go;·constructor<;>first|(apply Lk.go;constructor<;>first|exact ss|(change _=_;first|(simp only[go_sem,Nat.reduceBEq,Nat.reduceAdd,Nat.reduceLeDiff,reduceIte]<;>rfl)|rfl)|exact Nat.le_of_ble_eq_true rfl|decide|(repeat' first|(apply Lk.go;constructor)|assumption|exact nb ‹_› ‹_›|exact nt ‹_› ‹_›))|assumption)
          refine avle_eq ?_; rw [AV.bool.injEq]; simp at *; simp [validP, *]
      · (apply Sr.go;·constructor<;>first|(apply Lk.go;constructor<;>first|exact ss|(change _=_;first|(simp only[go_sem,Nat.reduceBEq,Nat.reduceAdd,Nat.reduceLeDiff,reduceIte]<;>rfl)|rfl)|exact Nat.le_of_ble_eq_true rfl|decide|(repeat' first|(apply Lk.go;constructor)|assumption|exact nb ‹_› ‹_›|exact nt ‹_› ‹_›))|assumption)
        refine avle_eq ?_; rw [AV.bool.injEq]; simp at *; simp [validP, *]
    · (apply Sr.go;·constructor<;>first|(apply Lk.go;constructor<;>first|exact ss|(change _=_;first|(simp only[go_sem,Nat.reduceBEq,Nat.reduceAdd,Nat.reduceLeDiff,reduceIte]<;>rfl)|rfl)|exact Nat.le_of_ble_eq_true rfl|decide|(repeat' first|(apply Lk.go;constructor)|assumption|exact nb ‹_› ‹_›|exact nt ‹_› ‹_›))|assumption)
      refine avle_eq ?_; rw [AV.bool.injEq]; simp at *; simp [validP, *]
  · (apply Sr.go;·constructor<;>first|(apply Lk.go;constructor<;>first|exact ss|(change _=_;first|(simp only[go_sem,Nat.reduceBEq,Nat.reduceAdd,Nat.reduceLeDiff,reduceIte]<;>rfl)|rfl)|exact Nat.le_of_ble_eq_true rfl|decide|(repeat' first|(apply Lk.go;constructor)|assumption|exact nb ‹_› ‹_›|exact nt ‹_› ‹_›))|assumption)
    refine avle_eq ?_; rw [AV.bool.injEq]; simp at *; simp [validP, *]
theorem p55 (s : List UInt8) : Pure Tryz.prog 55 [.str s] (.agg [.int .i64 2, .int .i64 0, .str s]) := by
 refine pure_intro mo Tryz.func55 c55 fun H => ?_
 unfold e55 r55
 simp only [initEnv, initFrom]
 repeat' first|(apply Sp.go;·constructor<;>first|exact ss|(change _=_;first|(simp only[go_sem,Nat.reduceBEq,Nat.reduceAdd,Nat.reduceLeDiff,reduceIte]<;>rfl)|rfl)|exact Nat.le_of_ble_eq_true rfl|decide|(repeat' first|(apply Lk.go;constructor)|assumption|exact nb ‹_› ‹_›|exact nt ‹_› ‹_›))|(intro b hb;repeat first|(refine fe hb ?_;intro _ _ hb)|(refine fT hb ?_;intro hb))|refine rt ?_|refine gA rfl ?_|refine gB rfl ?_|apply cT rfl|apply cF rfl|(apply DM.gbT;rfl)|(apply DM.gbF;rfl)|intro h
 (apply Sr.go;·constructor<;>first|(apply Lk.go;constructor<;>first|exact ss|(change _=_;first|(simp only[go_sem,Nat.reduceBEq,Nat.reduceAdd,Nat.reduceLeDiff,reduceIte]<;>rfl)|rfl)|exact Nat.le_of_ble_eq_true rfl|decide|(repeat' first|(apply Lk.go;constructor)|assumption|exact nb ‹_› ‹_›|exact nt ‹_› ‹_›))|assumption)
 exact AVLe.refl _
theorem p95 (s : List UInt8) : Pure Tryz.prog 95 [.str s] (.bool (printable s)) := by
 refine pure_assume (G := s.length ≤ maxLen) (fun m vs h => by simp only [RvL, Rv] at h; obtain ⟨_, _, _, ⟨_, h⟩, _⟩ := h; exact h) fun hs => ?_
 refine pure_intro mo Tryz.func95 c95 fun H => ?_
 unfold e95 r95
 simp only [initEnv, initFrom]
 repeat' first|(apply Sp.go;·constructor<;>first|exact ss|(change _=_;first|(simp only[go_sem,Nat.reduceBEq,Nat.reduceAdd,Nat.reduceLeDiff,reduceIte]<;>rfl)|rfl)|exact Nat.le_of_ble_eq_true rfl|decide|(repeat' first|(apply Lk.go;constructor)|assumption|exact nb ‹_› ‹_›|exact nt ‹_› ‹_›))|(intro b hb;repeat first|(refine fe hb ?_;intro _ _ hb)|(refine fT hb ?_;intro hb))|refine rt ?_|refine gA rfl ?_|refine gB rfl ?_|apply cT rfl|apply cF rfl|(apply DM.gbT;rfl)|(apply DM.gbF;rfl)|intro h
 refine AM.loopX (X := Nat) 0 (fun i => [(0, .str s), (3, .int .i64 i)]) (fun i H' => H' = H ∧ i ≤ s.length ∧ printable s = (s.drop i).all okc) (fun i => s.length - i) ⟨rfl, by omega, rfl⟩ ?_ ?_
 ·(repeat first | exact envle_nil _ | (refine envle_cons ?_ ?_; · (simp only [go_sem, Nat.reduceBEq, Nat.reduceAdd]; exact AVLe.refl _)))
 ·intro i H' ⟨e, hi, he⟩
  subst e
  repeat' first|(apply Sp.go;·constructor<;>first|exact ss|(change _=_;first|(simp only[go_sem,Nat.reduceBEq,Nat.reduceAdd,Nat.reduceLeDiff,reduceIte]<;>rfl)|rfl)|exact Nat.le_of_ble_eq_true rfl|decide|(repeat' first|(apply Lk.go;constructor)|assumption|exact nb ‹_› ‹_›|exact nt ‹_› ‹_›))|(intro b hb;repeat first|(refine fe hb ?_;intro _ _ hb)|(refine fT hb ?_;intro hb))|refine rt ?_|refine gA rfl ?_|refine gB rfl ?_|apply cT rfl|apply cF rfl|(apply DM.gbT;rfl)|(apply DM.gbF;rfl)|intro h
  (apply AM.cond; (· rfl))
  ·intro h3
   simp at h3
   obtain ⟨c, hc⟩ := some_of h3
   rw [drop_of hc] at he
   simp only [List.all_cons] at he
   repeat' first|(apply Sp.go;·constructor<;>first|exact ss|(change _=_;first|(simp only[go_sem,Nat.reduceBEq,Nat.reduceAdd,Nat.reduceLeDiff,reduceIte]<;>rfl)|rfl)|exact Nat.le_of_ble_eq_true rfl|decide|(repeat' first|(apply Lk.go;constructor)|assumption|exact nb ‹_› ‹_›|exact nt ‹_› ‹_›))|(intro b hb;repeat first|(refine fe hb ?_;intro _ _ hb)|(refine fT hb ?_;intro hb))|refine rt ?_|refine gA rfl ?_|refine gB rfl ?_|apply cT rfl|apply cF rfl|(apply DM.gbT;rfl)|(apply DM.gbF;rfl)|intro h
   (apply DM.idxSs s .i64 i c (by omega) (by simpa using hc); (· rfl); (· rfl))
   repeat' first|(apply Sp.go;·constructor<;>first|exact ss|(change _=_;first|(simp only[go_sem,Nat.reduceBEq,Nat.reduceAdd,Nat.reduceLeDiff,reduceIte]<;>rfl)|rfl)|exact Nat.le_of_ble_eq_true rfl|decide|(repeat' first|(apply Lk.go;constructor)|assumption|exact nb ‹_› ‹_›|exact nt ‹_› ‹_›))|(intro b hb;repeat first|(refine fe hb ?_;intro _ _ hb)|(refine fT hb ?_;intro hb))|refine rt ?_|refine gA rfl ?_|refine gB rfl ?_|apply cT rfl|apply cF rfl|(apply DM.gbT;rfl)|(apply DM.gbF;rfl)|intro h
   ·(apply DM.idxSs s .i64 i c (by omega) (by simpa using hc); (· rfl); (· rfl))
    repeat' first|(apply Sp.go;·constructor<;>first|exact ss|(change _=_;first|(simp only[go_sem,Nat.reduceBEq,Nat.reduceAdd,Nat.reduceLeDiff,reduceIte]<;>rfl)|rfl)|exact Nat.le_of_ble_eq_true rfl|decide|(repeat' first|(apply Lk.go;constructor)|assumption|exact nb ‹_› ‹_›|exact nt ‹_› ‹_›))|(intro b hb;repeat first|(refine fe hb ?_;intro _ _ hb)|(refine fT hb ?_;intro hb))|refine rt ?_|refine gA rfl ?_|refine gB rfl ?_|apply cT rfl|apply cF rfl|(apply DM.gbT;rfl)|(apply DM.gbF;rfl)|intro h
    (apply AM.cond; (· rfl))
    ·intro h4
     have hk : okc c = false := by simp at *; simp [okc]; omega
     repeat' first|(apply Sp.go;·constructor<;>first|exact ss|(change _=_;first|(simp only[go_sem,Nat.reduceBEq,Nat.reduceAdd,Nat.reduceLeDiff,reduceIte]<;>rfl)|rfl)|exact Nat.le_of_ble_eq_true rfl|decide|(repeat' first|(apply Lk.go;constructor)|assumption|exact nb ‹_› ‹_›|exact nt ‹_› ‹_›))|(intro b hb;repeat first|(refine fe hb ?_;intro _ _ hb)|(refine fT hb ?_;intro hb))|refine rt ?_|refine gA rfl ?_|refine gB rfl ?_|apply cT rfl|apply cF rfl|(apply DM.gbT;rfl)|(apply DM.gbF;rfl)|intro h
     (apply Sr.go;·constructor<;>first|(apply Lk.go;constructor<;>first|exact ss|(change _=_;first|(simp only[go_sem,Nat.reduceBEq,Nat.reduceAdd,Nat.reduceLeDiff,reduceIte]<;>rfl)|rfl)|exact Nat.le_of_ble_eq_true rfl|decide|(repeat' first|(apply Lk.go;constructor)|assumption|exact nb ‹_› ‹_›|exact nt ‹_› ‹_›))|assumption)
     refine avle_eq ?_
     rw [he, hk]; rfl
    ·intro h4
     have hk : okc c = true := by simp at *; simp [okc]; omega
     repeat' first|(apply Sp.go;·constructor<;>first|exact ss|(change _=_;first|(simp only[go_sem,Nat.reduceBEq,Nat.reduceAdd,Nat.reduceLeDiff,reduceIte]<;>rfl)|rfl)|exact Nat.le_of_ble_eq_true rfl|decide|(repeat' first|(apply Lk.go;constructor)|assumption|exact nb ‹_› ‹_›|exact nt ‹_› ‹_›))|(intro b hb;repeat first|(refine fe hb ?_;intro _ _ hb)|(refine fT hb ?_;intro hb))|refine rt ?_|refine gA rfl ?_|refine gB rfl ?_|apply cT rfl|apply cF rfl|(apply DM.gbT;rfl)|(apply DM.gbF;rfl)|intro h
     rw [hk, Bool.true_and] at he
     refine AM.roundX (i + 1) ⟨rfl, by omega, he⟩ ?_ ?_
     ·(repeat first | exact envle_nil _ | (refine envle_cons ?_ ?_; · (simp only [go_sem, Nat.reduceBEq, Nat.reduceAdd]; exact AVLe.refl _)))
      refine envle_cons ?_ ?_
      ·simp only [go_sem, Nat.reduceBEq, Nat.reduceAdd]
       refine avle_int ?_
       rw [inc64 h3 hs]
      exact envle_nil _
     ·show s.length - (i + 1) < s.length - i
      omega
   ·have hk : okc c = false := by simp at *; simp [okc]; omega
    (apply Sr.go;·constructor<;>first|(apply Lk.go;constructor<;>first|exact ss|(change _=_;first|(simp only[go_sem,Nat.reduceBEq,Nat.reduceAdd,Nat.reduceLeDiff,reduceIte]<;>rfl)|rfl)|exact Nat.le_of_ble_eq_true rfl|decide|(repeat' first|(apply Lk.go;constructor)|assumption|exact nb ‹_› ‹_›|exact nt ‹_› ‹_›))|assumption)
    refine avle_eq ?_
    rw [he, hk]; rfl
  ·intro h3
   repeat' first|(apply Sp.go;·constructor<;>first|exact ss|(change _=_;first|(simp only[go_sem,Nat.reduceBEq,Nat.reduceAdd,Nat.reduceLeDiff,reduceIte]<;>rfl)|rfl)|exact Nat.le_of_ble_eq_true rfl|decide|(repeat' first|(apply Lk.go;constructor)|assumption|exact nb ‹_› ‹_›|exact nt ‹_› ‹_›))|(intro b hb;repeat first|(refine fe hb ?_;intro _ _ hb)|(refine fT hb ?_;intro hb))|refine rt ?_|refine gA rfl ?_|refine gB rfl ?_|apply cT rfl|apply cF rfl|(apply DM.gbT;rfl)|(apply DM.gbF;rfl)|intro h
   (apply Sr.go;·constructor<;>first|(apply Lk.go;constructor<;>first|exact ss|(change _=_;first|(simp only[go_sem,Nat.reduceBEq,Nat.reduceAdd,Nat.reduceLeDiff,reduceIte]<;>rfl)|rfl)|exact Nat.le_of_ble_eq_true rfl|decide|(repeat' first|(apply Lk.go;constructor)|assumption|exact nb ‹_› ‹_›|exact nt ‹_› ‹_›))|assumption)
   refine avle_eq ?_
   simp at h3
   rw [he, List.drop_eq_nil_of_le (by omega)]; rfl
theorem p56 (v : Val) : Pure Tryz.prog 56 [v.av] (.bool (validV v)) := by
 refine pure_intro mo Tryz.func56 c56 fun H => ?_
 unfold e56 r56
 simp only [initEnv, initFrom]
 repeat' first|(apply Sp.go;·constructor<;>first|exact ss|(change _=_;first|(simp only[go_sem,Nat.reduceBEq,Nat.reduceAdd,Nat.reduceLeDiff,reduceIte]<;>rfl)|rfl)|exact Nat.le_of_ble_eq_true rfl|decide|(repeat' first|(apply Lk.go;constructor)|assumption|exact nb ‹_› ‹_›|exact nt ‹_› ‹_›))|(intro b hb;repeat first|(refine fe hb ?_;intro _ _ hb)|(refine fT hb ?_;intro hb))|refine rt ?_|refine gA rfl ?_|refine gB rfl ?_|apply cT rfl|apply cF rfl|(apply DM.gbT;rfl)|(apply DM.gbF;rfl)|intro h
 (apply AM.cond; (· rfl))
 ·intro h1
  repeat' first|(apply Sp.go;·constructor<;>first|exact ss|(change _=_;first|(simp only[go_sem,Nat.reduceBEq,Nat.reduceAdd,Nat.reduceLeDiff,reduceIte]<;>rfl)|rfl)|exact Nat.le_of_ble_eq_true rfl|decide|(repeat' first|(apply Lk.go;constructor)|assumption|exact nb ‹_› ‹_›|exact nt ‹_› ‹_›))|(intro b hb;repeat first|(refine fe hb ?_;intro _ _ hb)|(refine fT hb ?_;intro hb))|refine rt ?_|refine gA rfl ?_|refine gB rfl ?_|apply cT rfl|apply cF rfl|(apply DM.gbT;rfl)|(apply DM.gbF;rfl)|intro h
  all_goals ((apply Sr.go;·constructor<;>first|(apply Lk.go;constructor<;>first|exact ss|(change _=_;first|(simp only[go_sem,Nat.reduceBEq,Nat.reduceAdd,Nat.reduceLeDiff,reduceIte]<;>rfl)|rfl)|exact Nat.le_of_ble_eq_true rfl|decide|(repeat' first|(apply Lk.go;constructor)|assumption|exact nb ‹_› ‹_›|exact nt ‹_› ‹_›))|assumption))
  all_goals (refine avle_eq ?_; rw [AV.bool.injEq]; simp [validV] at *; try (simp [*]; done))
  all_goals (simp [*]; try omega)
 ·intro h1
  repeat' first|(apply Sp.go;·constructor<;>first|exact ss|(change _=_;first|(simp only[go_sem,Nat.reduceBEq,Nat.reduceAdd,Nat.reduceLeDiff,reduceIte]<;>rfl)|rfl)|exact Nat.le_of_ble_eq_true rfl|decide|(repeat' first|(apply Lk.go;constructor)|assumption|exact nb ‹_› ‹_›|exact nt ‹_› ‹_›))|(intro b hb;repeat first|(refine fe hb ?_;intro _ _ hb)|(refine fT hb ?_;intro hb))|refine rt ?_|refine gA rfl ?_|refine gB rfl ?_|apply cT rfl|apply cF rfl|(apply DM.gbT;rfl)|(apply DM.gbF;rfl)|intro h
  (apply AM.cond; (· rfl))
  ·intro h2
   repeat' first|(apply Sp.go;·constructor<;>first|exact ss|(change _=_;first|(simp only[go_sem,Nat.reduceBEq,Nat.reduceAdd,Nat.reduceLeDiff,reduceIte]<;>rfl)|rfl)|exact Nat.le_of_ble_eq_true rfl|decide|(repeat' first|(apply Lk.go;constructor)|assumption|exact nb ‹_› ‹_›|exact nt ‹_› ‹_›))|(intro b hb;repeat first|(refine fe hb ?_;intro _ _ hb)|(refine fT hb ?_;intro hb))|refine rt ?_|refine gA rfl ?_|refine gB rfl ?_|apply cT rfl|apply cF rfl|(apply DM.gbT;rfl)|(apply DM.gbF;rfl)|intro h
   ·(apply DM.pcs (p95 _); (· simp only [go_sem, Nat.reduceBEq, Nat.reduceAdd] <;> rfl); (· exact AVLes.refl _))
    repeat' first|(apply Sp.go;·constructor<;>first|exact ss|(change _=_;first|(simp only[go_sem,Nat.reduceBEq,Nat.reduceAdd,Nat.reduceLeDiff,reduceIte]<;>rfl)|rfl)|exact Nat.le_of_ble_eq_true rfl|decide|(repeat' first|(apply Lk.go;constructor)|assumption|exact nb ‹_› ‹_›|exact nt ‹_› ‹_›))|(intro b hb;repeat first|(refine fe hb ?_;intro _ _ hb)|(refine fT hb ?_;intro hb))|refine rt ?_|refine gA rfl ?_|refine gB rfl ?_|apply cT rfl|apply cF rfl|(apply DM.gbT;rfl)|(apply DM.gbF;rfl)|intro h
    (apply Sr.go;·constructor<;>first|(apply Lk.go;constructor<;>first|exact ss|(change _=_;first|(simp only[go_sem,Nat.reduceBEq,Nat.reduceAdd,Nat.reduceLeDiff,reduceIte]<;>rfl)|rfl)|exact Nat.le_of_ble_eq_true rfl|decide|(repeat' first|(apply Lk.go;constructor)|assumption|exact nb ‹_› ‹_›|exact nt ‹_› ‹_›))|assumption)
    refine avle_eq ?_; rw [AV.bool.injEq]; simp [validV] at *; simp [*]
    omega
   all_goals ((apply Sr.go;·constructor<;>first|(apply Lk.go;constructor<;>first|exact ss|(change _=_;first|(simp only[go_sem,Nat.reduceBEq,Nat.reduceAdd,Nat.reduceLeDiff,reduceIte]<;>rfl)|rfl)|exact Nat.le_of_ble_eq_true rfl|decide|(repeat' first|(apply Lk.go;constructor)|assumption|exact nb ‹_› ‹_›|exact nt ‹_› ‹_›))|assumption))
   all_goals (refine avle_eq ?_; rw [AV.bool.injEq]; simp [validV] at *; try (simp [*]; done))
   all_goals (simp [*]; try omega)
  ·intro h2
   repeat' first|(apply Sp.go;·constructor<;>first|exact ss|(change _=_;first|(simp only[go_sem,Nat.reduceBEq,Nat.reduceAdd,Nat.reduceLeDiff,reduceIte]<;>rfl)|rfl)|exact Nat.le_of_ble_eq_true rfl|decide|(repeat' first|(apply Lk.go;constructor)|assumption|exact nb ‹_› ‹_›|exact nt ‹_› ‹_›))|(intro b hb;repeat first|(refine fe hb ?_;intro _ _ hb)|(refine fT hb ?_;intro hb))|refine rt ?_|refine gA rfl ?_|refine gB rfl ?_|apply cT rfl|apply cF rfl|(apply DM.gbT;rfl)|(apply DM.gbF;rfl)|intro h
   (apply Sr.go;·constructor<;>first|(apply Lk.go;constructor<;>first|exact ss|(change _=_;first|(simp only[go_sem,Nat.reduceBEq,Nat.reduceAdd,Nat.reduceLeDiff,reduceIte]<;>rfl)|rfl)|exact Nat.le_of_ble_eq_true rfl|decide|(repeat' first|(apply Lk.go;constructor)|assumption|exact nb ‹_› ‹_›|exact nt ‹_› ‹_›))|assumption)
   refine avle_eq ?_; rw [AV.bool.injEq]; simp [validV] at *; simp [*]
theorem p52 (op : Int) : Pure Tryz.prog 52 [.int .i64 op] (.tup [.int .i64 (numd op).1, .int .i64 (numd op).2.1]) := by
  have key : ∀ {a b : Int} {c : Bool}, numd op = (a, b, c) → AVLe (.tup [.int .i64 a, .int .i64 b]) (.tup [.int .i64 (numd op).1, .int .i64 (numd op).2.1]) := by
    intro a b c h
    rw [h]
    exact AVLe.refl _
  refine pure_intro mo Tryz.func52 c52 fun H => ?_
  unfold e52 r52
  simp only [initEnv, initFrom]
  repeat' first|(apply Sp.go;·constructor<;>first|exact ss|(change _=_;first|(simp only[go_sem,Nat.reduceBEq,Nat.reduceAdd,Nat.reduceLeDiff,reduceIte]<;>rfl)|rfl)|exact Nat.le_of_ble_eq_true rfl|decide|(repeat' first|(apply Lk.go;constructor)|assumption|exact nb ‹_› ‹_›|exact nt ‹_› ‹_›))|(intro b hb;repeat first|(refine fe hb ?_;intro _ _ hb)|(refine fT hb ?_;intro hb))|refine rt ?_|refine gA rfl ?_|refine gB rfl ?_|apply cT rfl|apply cF rfl|(apply DM.gbT;rfl)|(apply DM.gbF;rfl)|(apply AM.condS;rfl)|intro h
  all_goals ((apply Sr.go;·constructor<;>first|(apply Lk.go;constructor<;>first|exact ss|(change _=_;first|(simp only[go_sem,Nat.reduceBEq,Nat.reduceAdd,Nat.reduceLeDiff,reduceIte]<;>rfl)|rfl)|exact Nat.le_of_ble_eq_true rfl|decide|(repeat' first|(apply Lk.go;constructor)|assumption|exact nb ‹_› ‹_›|exact nt ‹_› ‹_›))|assumption))
  all_goals first | (refine key (c := true) ?_; clear key; simp at *; simp [numd, *]; done) | (refine key (c := false) ?_; clear key; simp at *; simp [numd, *]; done)
theorem formed_eq (x : Ins_) : formed x = (inB x.op 1 24 && inB x.n (numd x.op).1 (numd x.op).2.1 && if x.op = 2 then validV ⟨2, 0, x.s⟩ else decide (x.s = [])) := by
  obtain ⟨op, n, s⟩ := x
  simp only [formed, numd, inB]
  by_cases h2 : op = 2
  · subst h2
    simp
    rw [Bool.eq_iff_iff]
    simp
    intro _
    omega
  · rw [if_neg h2, if_neg h2]
    split
    · rename_i h; subst h; simp
    · split
      · rename_i h; rcases h with h | h <;> subst h <;> simp
      · split
        · rename_i h; subst h; simp
        · split
          · rename_i h; rcases h with h | h | h <;> subst h <;> simp
          · split
            · rename_i h; subst h; simp
            · rw [Bool.eq_iff_iff]
              simp
              intro _ _ _
              omega
theorem p19 (x : Ins_) : Pure Tryz.prog 19 [x.av] (.bool (formed x)) := by
  have key : ∀ {b : Bool}, (inB x.op 1 24 && inB x.n (numd x.op).1 (numd x.op).2.1 && if x.op = 2 then validV ⟨2, 0, x.s⟩ else decide (x.s = [])) = b → AVLe (.bool b) (.bool (formed x)) := by
    intro b h
    rw [formed_eq, h]
    exact AVLe.refl _
  refine pure_intro mo Tryz.func19 c19 fun H => ?_
  unfold e19 r19
  simp only [initEnv, initFrom]
  repeat' first|(apply Sp.go;·constructor<;>first|exact ss|(change _=_;first|(simp only[go_sem,Nat.reduceBEq,Nat.reduceAdd,Nat.reduceLeDiff,reduceIte]<;>rfl)|rfl)|exact Nat.le_of_ble_eq_true rfl|decide|(repeat' first|(apply Lk.go;constructor)|assumption|exact nb ‹_› ‹_›|exact nt ‹_› ‹_›))|(intro b hb;repeat first|(refine fe hb ?_;intro _ _ hb)|(refine fT hb ?_;intro hb))|refine rt ?_|refine gA rfl ?_|refine gB rfl ?_|apply cT rfl|apply cF rfl|(apply DM.gbT;rfl)|(apply DM.gbF;rfl)|(apply AM.condS;rfl)|intro h
  all_goals try (
    skip
    (apply DM.pcs (p52 x.op); (· simp only [go_sem, Nat.reduceBEq, Nat.reduceAdd] <;> rfl); (· exact AVLes.refl _))
    repeat' first|(apply Sp.go;·constructor<;>first|exact ss|(change _=_;first|(simp only[go_sem,Nat.reduceBEq,Nat.reduceAdd,Nat.reduceLeDiff,reduceIte]<;>rfl)|rfl)|exact Nat.le_of_ble_eq_true rfl|decide|(repeat' first|(apply Lk.go;constructor)|assumption|exact nb ‹_› ‹_›|exact nt ‹_› ‹_›))|(intro b hb;repeat first|(refine fe hb ?_;intro _ _ hb)|(refine fT hb ?_;intro hb))|refine rt ?_|refine gA rfl ?_|refine gB rfl ?_|apply cT rfl|apply cF rfl|(apply DM.gbT;rfl)|(apply DM.gbF;rfl)|(apply AM.condS;rfl)|intro h
    )
  all_goals try (
    skip
    (apply DM.pcs (p55 x.s); (· simp only [go_sem, Nat.reduceBEq, Nat.reduceAdd] <;> rfl); (· exact AVLes.refl _))
    repeat' first|(apply Sp.go;·constructor<;>first|exact ss|(change _=_;first|(simp only[go_sem,Nat.reduceBEq,Nat.reduceAdd,Nat.reduceLeDiff,reduceIte]<;>rfl)|rfl)|exact Nat.le_of_ble_eq_true rfl|decide|(repeat' first|(apply Lk.go;constructor)|assumption|exact nb ‹_› ‹_›|exact nt ‹_› ‹_›))|(intro b hb;repeat first|(refine fe hb ?_;intro _ _ hb)|(refine fT hb ?_;intro hb))|refine rt ?_|refine gA rfl ?_|refine gB rfl ?_|apply cT rfl|apply cF rfl|(apply DM.gbT;rfl)|(apply DM.gbF;rfl)|intro h
    (apply DM.pcs (p56 ⟨2, 0, x.s⟩); (· simp only [go_sem, Nat.reduceBEq, Nat.reduceAdd] <;> rfl); (· exact AVLes.refl _))
    repeat' first|(apply Sp.go;·constructor<;>first|exact ss|(change _=_;first|(simp only[go_sem,Nat.reduceBEq,Nat.reduceAdd,Nat.reduceLeDiff,reduceIte]<;>rfl)|rfl)|exact Nat.le_of_ble_eq_true rfl|decide|(repeat' first|(apply Lk.go;constructor)|assumption|exact nb ‹_› ‹_›|exact nt ‹_› ‹_›))|(intro b hb;repeat first|(refine fe hb ?_;intro _ _ hb)|(refine fT hb ?_;intro hb))|refine rt ?_|refine gA rfl ?_|refine gB rfl ?_|apply cT rfl|apply cF rfl|(apply DM.gbT;rfl)|(apply DM.gbF;rfl)|intro h
    )
  all_goals ((apply Sr.go;·constructor<;>first|(apply Lk.go;constructor<;>first|exact ss|(change _=_;first|(simp only[go_sem,Nat.reduceBEq,Nat.reduceAdd,Nat.reduceLeDiff,reduceIte]<;>rfl)|rfl)|exact Nat.le_of_ble_eq_true rfl|decide|(repeat' first|(apply Lk.go;constructor)|assumption|exact nb ‹_› ‹_›|exact nt ‹_› ‹_›))|assumption))
  all_goals (refine key ?_; clear key; simp only [decide_eq_true_eq, decide_eq_false_iff_not] at *)
  all_goals first
    | (have e1 : inB x.op 1 24 = false := by simp only [inB, Bool.and_eq_false_iff, decide_eq_false_iff_not]; omega
       rw [e1, Bool.false_and, Bool.false_and]
       done)
    | (have e2 : inB x.n (numd x.op).1 (numd x.op).2.1 = false := by simp only [inB, Bool.and_eq_false_iff, decide_eq_false_iff_not]; omega
       rw [e2, Bool.and_false, Bool.false_and]
       done)
    | (have e1 : inB x.op 1 24 = true := by simp only [inB, Bool.and_eq_true, decide_eq_true_eq]; omega
       have e2 : inB x.n (numd x.op).1 (numd x.op).2.1 = true := by simp only [inB, Bool.and_eq_true, decide_eq_true_eq]; omega
       rw [e1, e2, Bool.true_and, Bool.true_and]
       simp [*]
       done)
end Go.Aw.T
namespace Go.Aw.T
open Go Go.Aw Go.Proofs Go.RowKit
set_option maxRecDepth 100000
attribute [local irreducible] Go.Aw.DM Go.Aw.AHeap.setB Go.Aw.AHeap.setT
attribute [local go_sem] peval EOpd.ev Env.get binInt binStr binBool buildParts AV.cells AV.okc setRange minmaxAV AV.one AV.ofCells eqCells eqCell bslRows cond_true cond_false beq_self_eq_true Bool.not_true Bool.not_false beq_true beq_false eq_self if_true Option.some.injEq List.length_cons List.length_nil List.take_succ_cons List.take_zero List.drop_succ_cons List.drop_zero List.set_cons_succ List.set_cons_zero List.nil_append List.cons_append List.append_nil and_self Option.map_some List.map_cons List.map_nil Bool.false_eq_true if_false Nat.zero_add Nat.add_zero true_and and_true Bool.and_true Bool.true_and List.getElem?_cons_zero List.getElem?_cons_succ Nat.zero_le Nat.le_refl
set_option linter.unusedSimpArgs false
set_option linter.unusedVariables false
end Go.Aw.T
namespace Go.Aw.T
open Go Go.Aw Go.Proofs Go.RowKit
set_option maxRecDepth 100000
attribute [local irreducible] Go.Aw.DM Go.Aw.AHeap.setB Go.Aw.AHeap.setT
attribute [local go_sem] peval EOpd.ev Env.get binInt binStr binBool buildParts AV.cells AV.okc setRange minmaxAV AV.one AV.ofCells eqCells eqCell bslRows cond_true cond_false beq_self_eq_true Bool.not_true Bool.not_false beq_true beq_false eq_self if_true Option.some.injEq List.length_cons List.length_nil List.take_succ_cons List.take_zero List.drop_succ_cons List.drop_zero List.set_cons_succ List.set_cons_zero List.nil_append List.cons_append List.append_nil and_self Option.map_some List.map_cons List.map_nil Bool.false_eq_true if_false Nat.zero_add Nat.add_zero true_and and_true Bool.and_true Bool.true_and List.getElem?_cons_zero List.getElem?_cons_succ Nat.zero_le Nat.le_refl
set_option linter.unusedSimpArgs false
set_option linter.unusedVariables false
structure Dst (ta tb tc td : Nat) : Prop where
  ba : tb ≠ ta
  ca : tc ≠ ta
  cb : tc ≠ tb
  da : td ≠ ta
  db : td ≠ tb
  dc : td ≠ tc
section
variable {G : AHeap} {b ta tb tc td : Nat} {nm : List UInt8} {rl : Int} {A B C D : List (List AV)} {va vb vc vd : Nat}
end
def eqF {α β : Type} (q : α → β → Bool) : List α → List β → Bool
 | [], [] => true
 | a :: l, b :: r => q a b && eqF q l r
 | _, _ => false
theorem eqF_len {α β : Type} {q : α → β → Bool} : ∀ {l : List α} {r : List β}, l.length ≠ r.length → eqF q l r = false
 | [], [], h => by simp at h
 | [], _ :: _, _ => rfl
 | _ :: _, [], _ => rfl
 | a :: l, b :: r, h => by simp only [eqF]; rw [eqF_len (by simpa using h)]; simp
theorem eqF_iff {α : Type} {q : α → α → Bool} (hq : ∀ a b, q a b = true ↔ a = b) : ∀ (l r : List α), eqF q l r = true ↔ l = r
 | [], [] => by simp [eqF]
 | [], _ :: _ => by simp [eqF]
 | _ :: _, [] => by simp [eqF]
 | a :: l, b :: r => by simp only [eqF, Bool.and_eq_true, hq, eqF_iff hq l r, List.cons.injEq]
def Var_.eqb (v x : Var_) : Bool := decide (v.name = x.name) && (decide (v.sort.k = x.sort.k) && (decide (v.sort.lo = x.sort.lo) && (decide (v.sort.hi = x.sort.hi) && (decide (v.init.k = x.init.k) && (decide (v.init.n = x.init.n) && (decide (v.init.s = x.init.s)))))))
theorem Var_.eqb_iff (v x : Var_) : v.eqb x = true ↔ v = x := by
 obtain ⟨a, ⟨b, c, d⟩, ⟨e, f, g⟩⟩ := v
 obtain ⟨a1, ⟨b1, c1, d1⟩, ⟨e1, f1, g1⟩⟩ := x
 simp [Var_.eqb, and_assoc]
theorem p39 (vs xs : List Var_) : Pure Tryz.prog 39 [.vs 7 (vs.map Var_.row), .vs 7 (xs.map Var_.row)] (.bool (eqF Var_.eqb vs xs)) := by
 refine pure_assume (G := vs.length ≤ maxLen) (fun m vs h => by simp only [RvL] at h; obtain ⟨_, _, _, h, _⟩ := h; simpa using vs_len h) fun hlen => ?_
 refine pure_intro mo Tryz.func39 c39 fun H => ?_
 unfold e39 r39
 simp only [initEnv, initFrom]
 repeat' first|(apply Sp.go;·constructor<;>first|exact ss|(change _=_;first|(simp only[go_sem,Nat.reduceBEq,Nat.reduceAdd,Nat.reduceLeDiff,reduceIte]<;>rfl)|rfl)|exact Nat.le_of_ble_eq_true rfl|decide|(repeat' first|(apply Lk.go;constructor)|assumption|exact nb ‹_› ‹_›|exact nt ‹_› ‹_›))|(intro b hb;repeat first|(refine fe hb ?_;intro _ _ hb)|(refine fT hb ?_;intro hb))|refine rt ?_|refine gA rfl ?_|refine gB rfl ?_|apply cT rfl|apply cF rfl|(apply DM.gbT;rfl)|(apply DM.gbF;rfl)|intro h
 (apply AM.cond; (· rfl))
 ·intro h
  repeat' first|(apply Sp.go;·constructor<;>first|exact ss|(change _=_;first|(simp only[go_sem,Nat.reduceBEq,Nat.reduceAdd,Nat.reduceLeDiff,reduceIte]<;>rfl)|rfl)|exact Nat.le_of_ble_eq_true rfl|decide|(repeat' first|(apply Lk.go;constructor)|assumption|exact nb ‹_› ‹_›|exact nt ‹_› ‹_›))|(intro b hb;repeat first|(refine fe hb ?_;intro _ _ hb)|(refine fT hb ?_;intro hb))|refine rt ?_|refine gA rfl ?_|refine gB rfl ?_|apply cT rfl|apply cF rfl|(apply DM.gbT;rfl)|(apply DM.gbF;rfl)|intro h
  (apply Sr.go;·constructor<;>first|(apply Lk.go;constructor<;>first|exact ss|(change _=_;first|(simp only[go_sem,Nat.reduceBEq,Nat.reduceAdd,Nat.reduceLeDiff,reduceIte]<;>rfl)|rfl)|exact Nat.le_of_ble_eq_true rfl|decide|(repeat' first|(apply Lk.go;constructor)|assumption|exact nb ‹_› ‹_›|exact nt ‹_› ‹_›))|assumption)
  refine avle_eq ?_; rw [AV.bool.injEq, eqF_len (by simp at h; omega)]
 ·intro h
  have hl : vs.length = xs.length := by simp at h; omega
  repeat' first|(apply Sp.go;·constructor<;>first|exact ss|(change _=_;first|(simp only[go_sem,Nat.reduceBEq,Nat.reduceAdd,Nat.reduceLeDiff,reduceIte]<;>rfl)|rfl)|exact Nat.le_of_ble_eq_true rfl|decide|(repeat' first|(apply Lk.go;constructor)|assumption|exact nb ‹_› ‹_›|exact nt ‹_› ‹_›))|(intro b hb;repeat first|(refine fe hb ?_;intro _ _ hb)|(refine fT hb ?_;intro hb))|refine rt ?_|refine gA rfl ?_|refine gB rfl ?_|apply cT rfl|apply cF rfl|(apply DM.gbT;rfl)|(apply DM.gbF;rfl)|intro h
  refine AM.loopX (X := Nat) 0 (fun i => [(0, .vs 7 (vs.map Var_.row)), (1, .vs 7 (xs.map Var_.row)), (12, .int .i64 vs.length), (13, .int .i64 i)]) (fun i H' => H' = H ∧ i ≤ vs.length ∧ eqF Var_.eqb vs xs = eqF Var_.eqb (vs.drop i) (xs.drop i)) (fun i => vs.length - i) ⟨rfl, by omega, by simp⟩ ?_ ?_
  ·(repeat first | exact envle_nil _ | (refine envle_cons ?_ ?_; · (simp only [go_sem, Nat.reduceBEq, Nat.reduceAdd]; exact AVLe.refl _)))
   refine envle_cons ?_ (envle_cons ?_ (envle_nil _))
   ·simp only [Env.get, Nat.reduceBEq, cond_true, cond_false, beq_self_eq_true]
    exact avle_int (by simp)
   ·simp only [Env.get, Nat.reduceBEq, cond_true, cond_false, beq_self_eq_true]
    exact AVLe.refl _
  ·intro i H' ⟨e, hi, he⟩
   subst e
   repeat' first|(apply Sp.go;·constructor<;>first|exact ss|(change _=_;first|(simp only[go_sem,Nat.reduceBEq,Nat.reduceAdd,Nat.reduceLeDiff,reduceIte]<;>rfl)|rfl)|exact Nat.le_of_ble_eq_true rfl|decide|(repeat' first|(apply Lk.go;constructor)|assumption|exact nb ‹_› ‹_›|exact nt ‹_› ‹_›))|(intro b hb;repeat first|(refine fe hb ?_;intro _ _ hb)|(refine fT hb ?_;intro hb))|refine rt ?_|refine gA rfl ?_|refine gB rfl ?_|apply cT rfl|apply cF rfl|(apply DM.gbT;rfl)|(apply DM.gbF;rfl)|intro h
   (apply AM.cond; (· rfl))
   ·intro h3
    simp at h3
    obtain ⟨v, hv⟩ := some_of h3
    obtain ⟨x, hx⟩ := some_of (hl ▸ h3 : i < xs.length)
    rw [drop_of hv, drop_of hx] at he
    simp only [eqF] at he
    repeat' first|(apply Sp.go;·constructor<;>first|exact ss|(change _=_;first|(simp only[go_sem,Nat.reduceBEq,Nat.reduceAdd,Nat.reduceLeDiff,reduceIte]<;>rfl)|rfl)|exact Nat.le_of_ble_eq_true rfl|decide|(repeat' first|(apply Lk.go;constructor)|assumption|exact nb ‹_› ‹_›|exact nt ‹_› ‹_›))|(intro b hb;repeat first|(refine fe hb ?_;intro _ _ hb)|(refine fT hb ?_;intro hb))|refine rt ?_|refine gA rfl ?_|refine gB rfl ?_|apply cT rfl|apply cF rfl|(apply DM.gbT;rfl)|(apply DM.gbF;rfl)|intro h
    (apply DM.ixV (row := v.row) (z := (i : Int)) (by omega) (row_get Var_.row hv); (· rfl); (· rfl))
    repeat' first|(apply Sp.go;·constructor<;>first|exact ss|(change _=_;first|(simp only[go_sem,Nat.reduceBEq,Nat.reduceAdd,Nat.reduceLeDiff,reduceIte]<;>rfl)|rfl)|exact Nat.le_of_ble_eq_true rfl|decide|(repeat' first|(apply Lk.go;constructor)|assumption|exact nb ‹_› ‹_›|exact nt ‹_› ‹_›))|(intro b hb;repeat first|(refine fe hb ?_;intro _ _ hb)|(refine fT hb ?_;intro hb))|refine rt ?_|refine gA rfl ?_|refine gB rfl ?_|apply cT rfl|apply cF rfl|(apply DM.gbT;rfl)|(apply DM.gbF;rfl)|intro h
    (apply DM.ixV (row := x.row) (z := (i : Int)) (by omega) (row_get Var_.row hx); (· rfl); (· rfl))
    repeat' first|(apply Sp.go;·constructor<;>first|exact ss|(change _=_;first|(simp only[go_sem,Nat.reduceBEq,Nat.reduceAdd,Nat.reduceLeDiff,reduceIte]<;>rfl)|rfl)|exact Nat.le_of_ble_eq_true rfl|decide|(repeat' first|(apply Lk.go;constructor)|assumption|exact nb ‹_› ‹_›|exact nt ‹_› ‹_›))|(intro b hb;repeat first|(refine fe hb ?_;intro _ _ hb)|(refine fT hb ?_;intro hb))|refine rt ?_|refine gA rfl ?_|refine gB rfl ?_|apply cT rfl|apply cF rfl|(apply DM.gbT;rfl)|(apply DM.gbF;rfl)|intro h
    apply AM.cond (t := !(v.eqb x))
    ·rfl
    ·intro h4
     have h4' : v.eqb x = false := by simpa using h4
     repeat' first|(apply Sp.go;·constructor<;>first|exact ss|(change _=_;first|(simp only[go_sem,Nat.reduceBEq,Nat.reduceAdd,Nat.reduceLeDiff,reduceIte]<;>rfl)|rfl)|exact Nat.le_of_ble_eq_true rfl|decide|(repeat' first|(apply Lk.go;constructor)|assumption|exact nb ‹_› ‹_›|exact nt ‹_› ‹_›))|(intro b hb;repeat first|(refine fe hb ?_;intro _ _ hb)|(refine fT hb ?_;intro hb))|refine rt ?_|refine gA rfl ?_|refine gB rfl ?_|apply cT rfl|apply cF rfl|(apply DM.gbT;rfl)|(apply DM.gbF;rfl)|intro h
     (apply Sr.go;·constructor<;>first|(apply Lk.go;constructor<;>first|exact ss|(change _=_;first|(simp only[go_sem,Nat.reduceBEq,Nat.reduceAdd,Nat.reduceLeDiff,reduceIte]<;>rfl)|rfl)|exact Nat.le_of_ble_eq_true rfl|decide|(repeat' first|(apply Lk.go;constructor)|assumption|exact nb ‹_› ‹_›|exact nt ‹_› ‹_›))|assumption)
     refine avle_eq ?_; rw [AV.bool.injEq, he, h4', Bool.false_and]
    ·intro h4
     have h4' : v.eqb x = true := by simpa using h4
     repeat' first|(apply Sp.go;·constructor<;>first|exact ss|(change _=_;first|(simp only[go_sem,Nat.reduceBEq,Nat.reduceAdd,Nat.reduceLeDiff,reduceIte]<;>rfl)|rfl)|exact Nat.le_of_ble_eq_true rfl|decide|(repeat' first|(apply Lk.go;constructor)|assumption|exact nb ‹_› ‹_›|exact nt ‹_› ‹_›))|(intro b hb;repeat first|(refine fe hb ?_;intro _ _ hb)|(refine fT hb ?_;intro hb))|refine rt ?_|refine gA rfl ?_|refine gB rfl ?_|apply cT rfl|apply cF rfl|(apply DM.gbT;rfl)|(apply DM.gbF;rfl)|intro h
     rw [h4', Bool.true_and] at he
     refine AM.roundX (i + 1) ⟨rfl, by omega, he⟩ ?_ ?_
     ·(repeat first | exact envle_nil _ | (refine envle_cons ?_ ?_; · (simp only [go_sem, Nat.reduceBEq, Nat.reduceAdd]; exact AVLe.refl _)))
      refine envle_cons ?_ ?_
      ·simp only [go_sem, Nat.reduceBEq, Nat.reduceAdd]
       refine avle_int ?_
       rw [inc64 h3 hlen]
      exact envle_nil _
     ·show vs.length - (i + 1) < vs.length - i
      omega
   ·intro h3
    repeat' first|(apply Sp.go;·constructor<;>first|exact ss|(change _=_;first|(simp only[go_sem,Nat.reduceBEq,Nat.reduceAdd,Nat.reduceLeDiff,reduceIte]<;>rfl)|rfl)|exact Nat.le_of_ble_eq_true rfl|decide|(repeat' first|(apply Lk.go;constructor)|assumption|exact nb ‹_› ‹_›|exact nt ‹_› ‹_›))|(intro b hb;repeat first|(refine fe hb ?_;intro _ _ hb)|(refine fT hb ?_;intro hb))|refine rt ?_|refine gA rfl ?_|refine gB rfl ?_|apply cT rfl|apply cF rfl|(apply DM.gbT;rfl)|(apply DM.gbF;rfl)|intro h
    (apply Sr.go;·constructor<;>first|(apply Lk.go;constructor<;>first|exact ss|(change _=_;first|(simp only[go_sem,Nat.reduceBEq,Nat.reduceAdd,Nat.reduceLeDiff,reduceIte]<;>rfl)|rfl)|exact Nat.le_of_ble_eq_true rfl|decide|(repeat' first|(apply Lk.go;constructor)|assumption|exact nb ‹_› ‹_›|exact nt ‹_› ‹_›))|assumption)
    simp at h3
    refine avle_eq ?_; rw [AV.bool.injEq, he, List.drop_eq_nil_of_le (by omega), List.drop_eq_nil_of_le (by omega)]; rfl
def Hd.eqb (v x : Hd) : Bool := decide (v.peer = x.peer) && (decide (v.label = x.label) && (decide (v.entry = x.entry)))
theorem Hd.eqb_iff (v x : Hd) : v.eqb x = true ↔ v = x := by
 cases v; cases x
 simp [Hd.eqb]
theorem p40 (vs xs : List Hd) : Pure Tryz.prog 40 [.vs 3 (vs.map Hd.row), .vs 3 (xs.map Hd.row)] (.bool (eqF Hd.eqb vs xs)) := by
 refine pure_assume (G := vs.length ≤ maxLen) (fun m vs h => by simp only [RvL] at h; obtain ⟨_, _, _, h, _⟩ := h; simpa using vs_len h) fun hlen => ?_
 refine pure_intro mo Tryz.func40 c40 fun H => ?_
 unfold e40 r40
 simp only [initEnv, initFrom]
 repeat' first|(apply Sp.go;·constructor<;>first|exact ss|(change _=_;first|(simp only[go_sem,Nat.reduceBEq,Nat.reduceAdd,Nat.reduceLeDiff,reduceIte]<;>rfl)|rfl)|exact Nat.le_of_ble_eq_true rfl|decide|(repeat' first|(apply Lk.go;constructor)|assumption|exact nb ‹_› ‹_›|exact nt ‹_› ‹_›))|(intro b hb;repeat first|(refine fe hb ?_;intro _ _ hb)|(refine fT hb ?_;intro hb))|refine rt ?_|refine gA rfl ?_|refine gB rfl ?_|apply cT rfl|apply cF rfl|(apply DM.gbT;rfl)|(apply DM.gbF;rfl)|intro h
 (apply AM.cond; (· rfl))
 ·intro h
  repeat' first|(apply Sp.go;·constructor<;>first|exact ss|(change _=_;first|(simp only[go_sem,Nat.reduceBEq,Nat.reduceAdd,Nat.reduceLeDiff,reduceIte]<;>rfl)|rfl)|exact Nat.le_of_ble_eq_true rfl|decide|(repeat' first|(apply Lk.go;constructor)|assumption|exact nb ‹_› ‹_›|exact nt ‹_› ‹_›))|(intro b hb;repeat first|(refine fe hb ?_;intro _ _ hb)|(refine fT hb ?_;intro hb))|refine rt ?_|refine gA rfl ?_|refine gB rfl ?_|apply cT rfl|apply cF rfl|(apply DM.gbT;rfl)|(apply DM.gbF;rfl)|intro h
  (apply Sr.go;·constructor<;>first|(apply Lk.go;constructor<;>first|exact ss|(change _=_;first|(simp only[go_sem,Nat.reduceBEq,Nat.reduceAdd,Nat.reduceLeDiff,reduceIte]<;>rfl)|rfl)|exact Nat.le_of_ble_eq_true rfl|decide|(repeat' first|(apply Lk.go;constructor)|assumption|exact nb ‹_› ‹_›|exact nt ‹_› ‹_›))|assumption)
  refine avle_eq ?_; rw [AV.bool.injEq, eqF_len (by simp at h; omega)]
 ·intro h
  have hl : vs.length = xs.length := by simp at h; omega
  repeat' first|(apply Sp.go;·constructor<;>first|exact ss|(change _=_;first|(simp only[go_sem,Nat.reduceBEq,Nat.reduceAdd,Nat.reduceLeDiff,reduceIte]<;>rfl)|rfl)|exact Nat.le_of_ble_eq_true rfl|decide|(repeat' first|(apply Lk.go;constructor)|assumption|exact nb ‹_› ‹_›|exact nt ‹_› ‹_›))|(intro b hb;repeat first|(refine fe hb ?_;intro _ _ hb)|(refine fT hb ?_;intro hb))|refine rt ?_|refine gA rfl ?_|refine gB rfl ?_|apply cT rfl|apply cF rfl|(apply DM.gbT;rfl)|(apply DM.gbF;rfl)|intro h
  refine AM.loopX (X := Nat) 0 (fun i => [(0, .vs 3 (vs.map Hd.row)), (1, .vs 3 (xs.map Hd.row)), (12, .int .i64 vs.length), (13, .int .i64 i)]) (fun i H' => H' = H ∧ i ≤ vs.length ∧ eqF Hd.eqb vs xs = eqF Hd.eqb (vs.drop i) (xs.drop i)) (fun i => vs.length - i) ⟨rfl, by omega, by simp⟩ ?_ ?_
  ·(repeat first | exact envle_nil _ | (refine envle_cons ?_ ?_; · (simp only [go_sem, Nat.reduceBEq, Nat.reduceAdd]; exact AVLe.refl _)))
   refine envle_cons ?_ (envle_cons ?_ (envle_nil _))
   ·simp only [Env.get, Nat.reduceBEq, cond_true, cond_false, beq_self_eq_true]
    exact avle_int (by simp)
   ·simp only [Env.get, Nat.reduceBEq, cond_true, cond_false, beq_self_eq_true]
    exact AVLe.refl _
  ·intro i H' ⟨e, hi, he⟩
   subst e
   repeat' first|(apply Sp.go;·constructor<;>first|exact ss|(change _=_;first|(simp only[go_sem,Nat.reduceBEq,Nat.reduceAdd,Nat.reduceLeDiff,reduceIte]<;>rfl)|rfl)|exact Nat.le_of_ble_eq_true rfl|decide|(repeat' first|(apply Lk.go;constructor)|assumption|exact nb ‹_› ‹_›|exact nt ‹_› ‹_›))|(intro b hb;repeat first|(refine fe hb ?_;intro _ _ hb)|(refine fT hb ?_;intro hb))|refine rt ?_|refine gA rfl ?_|refine gB rfl ?_|apply cT rfl|apply cF rfl|(apply DM.gbT;rfl)|(apply DM.gbF;rfl)|intro h
   (apply AM.cond; (· rfl))
   ·intro h3
    simp at h3
    obtain ⟨v, hv⟩ := some_of h3
    obtain ⟨x, hx⟩ := some_of (hl ▸ h3 : i < xs.length)
    rw [drop_of hv, drop_of hx] at he
    simp only [eqF] at he
    repeat' first|(apply Sp.go;·constructor<;>first|exact ss|(change _=_;first|(simp only[go_sem,Nat.reduceBEq,Nat.reduceAdd,Nat.reduceLeDiff,reduceIte]<;>rfl)|rfl)|exact Nat.le_of_ble_eq_true rfl|decide|(repeat' first|(apply Lk.go;constructor)|assumption|exact nb ‹_› ‹_›|exact nt ‹_› ‹_›))|(intro b hb;repeat first|(refine fe hb ?_;intro _ _ hb)|(refine fT hb ?_;intro hb))|refine rt ?_|refine gA rfl ?_|refine gB rfl ?_|apply cT rfl|apply cF rfl|(apply DM.gbT;rfl)|(apply DM.gbF;rfl)|intro h
    (apply DM.ixV (row := v.row) (z := (i : Int)) (by omega) (row_get Hd.row hv); (· rfl); (· rfl))
    repeat' first|(apply Sp.go;·constructor<;>first|exact ss|(change _=_;first|(simp only[go_sem,Nat.reduceBEq,Nat.reduceAdd,Nat.reduceLeDiff,reduceIte]<;>rfl)|rfl)|exact Nat.le_of_ble_eq_true rfl|decide|(repeat' first|(apply Lk.go;constructor)|assumption|exact nb ‹_› ‹_›|exact nt ‹_› ‹_›))|(intro b hb;repeat first|(refine fe hb ?_;intro _ _ hb)|(refine fT hb ?_;intro hb))|refine rt ?_|refine gA rfl ?_|refine gB rfl ?_|apply cT rfl|apply cF rfl|(apply DM.gbT;rfl)|(apply DM.gbF;rfl)|intro h
    (apply DM.ixV (row := x.row) (z := (i : Int)) (by omega) (row_get Hd.row hx); (· rfl); (· rfl))
    repeat' first|(apply Sp.go;·constructor<;>first|exact ss|(change _=_;first|(simp only[go_sem,Nat.reduceBEq,Nat.reduceAdd,Nat.reduceLeDiff,reduceIte]<;>rfl)|rfl)|exact Nat.le_of_ble_eq_true rfl|decide|(repeat' first|(apply Lk.go;constructor)|assumption|exact nb ‹_› ‹_›|exact nt ‹_› ‹_›))|(intro b hb;repeat first|(refine fe hb ?_;intro _ _ hb)|(refine fT hb ?_;intro hb))|refine rt ?_|refine gA rfl ?_|refine gB rfl ?_|apply cT rfl|apply cF rfl|(apply DM.gbT;rfl)|(apply DM.gbF;rfl)|intro h
    apply AM.cond (t := !(v.eqb x))
    ·rfl
    ·intro h4
     have h4' : v.eqb x = false := by simpa using h4
     repeat' first|(apply Sp.go;·constructor<;>first|exact ss|(change _=_;first|(simp only[go_sem,Nat.reduceBEq,Nat.reduceAdd,Nat.reduceLeDiff,reduceIte]<;>rfl)|rfl)|exact Nat.le_of_ble_eq_true rfl|decide|(repeat' first|(apply Lk.go;constructor)|assumption|exact nb ‹_› ‹_›|exact nt ‹_› ‹_›))|(intro b hb;repeat first|(refine fe hb ?_;intro _ _ hb)|(refine fT hb ?_;intro hb))|refine rt ?_|refine gA rfl ?_|refine gB rfl ?_|apply cT rfl|apply cF rfl|(apply DM.gbT;rfl)|(apply DM.gbF;rfl)|intro h
     (apply Sr.go;·constructor<;>first|(apply Lk.go;constructor<;>first|exact ss|(change _=_;first|(simp only[go_sem,Nat.reduceBEq,Nat.reduceAdd,Nat.reduceLeDiff,reduceIte]<;>rfl)|rfl)|exact Nat.le_of_ble_eq_true rfl|decide|(repeat' first|(apply Lk.go;constructor)|assumption|exact nb ‹_› ‹_›|exact nt ‹_› ‹_›))|assumption)
     refine avle_eq ?_; rw [AV.bool.injEq, he, h4', Bool.false_and]
    ·intro h4
     have h4' : v.eqb x = true := by simpa using h4
     repeat' first|(apply Sp.go;·constructor<;>first|exact ss|(change _=_;first|(simp only[go_sem,Nat.reduceBEq,Nat.reduceAdd,Nat.reduceLeDiff,reduceIte]<;>rfl)|rfl)|exact Nat.le_of_ble_eq_true rfl|decide|(repeat' first|(apply Lk.go;constructor)|assumption|exact nb ‹_› ‹_›|exact nt ‹_› ‹_›))|(intro b hb;repeat first|(refine fe hb ?_;intro _ _ hb)|(refine fT hb ?_;intro hb))|refine rt ?_|refine gA rfl ?_|refine gB rfl ?_|apply cT rfl|apply cF rfl|(apply DM.gbT;rfl)|(apply DM.gbF;rfl)|intro h
     rw [h4', Bool.true_and] at he
     refine AM.roundX (i + 1) ⟨rfl, by omega, he⟩ ?_ ?_
     ·(repeat first | exact envle_nil _ | (refine envle_cons ?_ ?_; · (simp only [go_sem, Nat.reduceBEq, Nat.reduceAdd]; exact AVLe.refl _)))
      refine envle_cons ?_ ?_
      ·simp only [go_sem, Nat.reduceBEq, Nat.reduceAdd]
       refine avle_int ?_
       rw [inc64 h3 hlen]
      exact envle_nil _
     ·show vs.length - (i + 1) < vs.length - i
      omega
   ·intro h3
    repeat' first|(apply Sp.go;·constructor<;>first|exact ss|(change _=_;first|(simp only[go_sem,Nat.reduceBEq,Nat.reduceAdd,Nat.reduceLeDiff,reduceIte]<;>rfl)|rfl)|exact Nat.le_of_ble_eq_true rfl|decide|(repeat' first|(apply Lk.go;constructor)|assumption|exact nb ‹_› ‹_›|exact nt ‹_› ‹_›))|(intro b hb;repeat first|(refine fe hb ?_;intro _ _ hb)|(refine fT hb ?_;intro hb))|refine rt ?_|refine gA rfl ?_|refine gB rfl ?_|apply cT rfl|apply cF rfl|(apply DM.gbT;rfl)|(apply DM.gbF;rfl)|intro h
    (apply Sr.go;·constructor<;>first|(apply Lk.go;constructor<;>first|exact ss|(change _=_;first|(simp only[go_sem,Nat.reduceBEq,Nat.reduceAdd,Nat.reduceLeDiff,reduceIte]<;>rfl)|rfl)|exact Nat.le_of_ble_eq_true rfl|decide|(repeat' first|(apply Lk.go;constructor)|assumption|exact nb ‹_› ‹_›|exact nt ‹_› ‹_›))|assumption)
    simp at h3
    refine avle_eq ?_; rw [AV.bool.injEq, he, List.drop_eq_nil_of_le (by omega), List.drop_eq_nil_of_le (by omega)]; rfl
def Of_.eqb (v x : Of_) : Bool := decide (v.peer = x.peer) && (decide (v.label = x.label) && (decide (v.cond = x.cond) && (decide (v.args = x.args))))
theorem Of_.eqb_iff (v x : Of_) : v.eqb x = true ↔ v = x := by
 cases v; cases x
 simp [Of_.eqb]
theorem p41 (vs xs : List Of_) : Pure Tryz.prog 41 [.vs 4 (vs.map Of_.row), .vs 4 (xs.map Of_.row)] (.bool (eqF Of_.eqb vs xs)) := by
 refine pure_assume (G := vs.length ≤ maxLen) (fun m vs h => by simp only [RvL] at h; obtain ⟨_, _, _, h, _⟩ := h; simpa using vs_len h) fun hlen => ?_
 refine pure_intro mo Tryz.func41 c41 fun H => ?_
 unfold e41 r41
 simp only [initEnv, initFrom]
 repeat' first|(apply Sp.go;·constructor<;>first|exact ss|(change _=_;first|(simp only[go_sem,Nat.reduceBEq,Nat.reduceAdd,Nat.reduceLeDiff,reduceIte]<;>rfl)|rfl)|exact Nat.le_of_ble_eq_true rfl|decide|(repeat' first|(apply Lk.go;constructor)|assumption|exact nb ‹_› ‹_›|exact nt ‹_› ‹_›))|(intro b hb;repeat first|(refine fe hb ?_;intro _ _ hb)|(refine fT hb ?_;intro hb))|refine rt ?_|refine gA rfl ?_|refine gB rfl ?_|apply cT rfl|apply cF rfl|(apply DM.gbT;rfl)|(apply DM.gbF;rfl)|intro h
 (apply AM.cond; (· rfl))
 ·intro h
  repeat' first|(apply Sp.go;·constructor<;>first|exact ss|(change _=_;first|(simp only[go_sem,Nat.reduceBEq,Nat.reduceAdd,Nat.reduceLeDiff,reduceIte]<;>rfl)|rfl)|exact Nat.le_of_ble_eq_true rfl|decide|(repeat' first|(apply Lk.go;constructor)|assumption|exact nb ‹_› ‹_›|exact nt ‹_› ‹_›))|(intro b hb;repeat first|(refine fe hb ?_;intro _ _ hb)|(refine fT hb ?_;intro hb))|refine rt ?_|refine gA rfl ?_|refine gB rfl ?_|apply cT rfl|apply cF rfl|(apply DM.gbT;rfl)|(apply DM.gbF;rfl)|intro h
  (apply Sr.go;·constructor<;>first|(apply Lk.go;constructor<;>first|exact ss|(change _=_;first|(simp only[go_sem,Nat.reduceBEq,Nat.reduceAdd,Nat.reduceLeDiff,reduceIte]<;>rfl)|rfl)|exact Nat.le_of_ble_eq_true rfl|decide|(repeat' first|(apply Lk.go;constructor)|assumption|exact nb ‹_› ‹_›|exact nt ‹_› ‹_›))|assumption)
  refine avle_eq ?_; rw [AV.bool.injEq, eqF_len (by simp at h; omega)]
 ·intro h
  have hl : vs.length = xs.length := by simp at h; omega
  repeat' first|(apply Sp.go;·constructor<;>first|exact ss|(change _=_;first|(simp only[go_sem,Nat.reduceBEq,Nat.reduceAdd,Nat.reduceLeDiff,reduceIte]<;>rfl)|rfl)|exact Nat.le_of_ble_eq_true rfl|decide|(repeat' first|(apply Lk.go;constructor)|assumption|exact nb ‹_› ‹_›|exact nt ‹_› ‹_›))|(intro b hb;repeat first|(refine fe hb ?_;intro _ _ hb)|(refine fT hb ?_;intro hb))|refine rt ?_|refine gA rfl ?_|refine gB rfl ?_|apply cT rfl|apply cF rfl|(apply DM.gbT;rfl)|(apply DM.gbF;rfl)|intro h
  refine AM.loopX (X := Nat) 0 (fun i => [(0, .vs 4 (vs.map Of_.row)), (1, .vs 4 (xs.map Of_.row)), (12, .int .i64 vs.length), (13, .int .i64 i)]) (fun i H' => H' = H ∧ i ≤ vs.length ∧ eqF Of_.eqb vs xs = eqF Of_.eqb (vs.drop i) (xs.drop i)) (fun i => vs.length - i) ⟨rfl, by omega, by simp⟩ ?_ ?_
  ·(repeat first | exact envle_nil _ | (refine envle_cons ?_ ?_; · (simp only [go_sem, Nat.reduceBEq, Nat.reduceAdd]; exact AVLe.refl _)))
   refine envle_cons ?_ (envle_cons ?_ (envle_nil _))
   ·simp only [Env.get, Nat.reduceBEq, cond_true, cond_false, beq_self_eq_true]
    exact avle_int (by simp)
   ·simp only [Env.get, Nat.reduceBEq, cond_true, cond_false, beq_self_eq_true]
    exact AVLe.refl _
  ·intro i H' ⟨e, hi, he⟩
   subst e
   repeat' first|(apply Sp.go;·constructor<;>first|exact ss|(change _=_;first|(simp only[go_sem,Nat.reduceBEq,Nat.reduceAdd,Nat.reduceLeDiff,reduceIte]<;>rfl)|rfl)|exact Nat.le_of_ble_eq_true rfl|decide|(repeat' first|(apply Lk.go;constructor)|assumption|exact nb ‹_› ‹_›|exact nt ‹_› ‹_›))|(intro b hb;repeat first|(refine fe hb ?_;intro _ _ hb)|(refine fT hb ?_;intro hb))|refine rt ?_|refine gA rfl ?_|refine gB rfl ?_|apply cT rfl|apply cF rfl|(apply DM.gbT;rfl)|(apply DM.gbF;rfl)|intro h
   (apply AM.cond; (· rfl))
   ·intro h3
    simp at h3
    obtain ⟨v, hv⟩ := some_of h3
    obtain ⟨x, hx⟩ := some_of (hl ▸ h3 : i < xs.length)
    rw [drop_of hv, drop_of hx] at he
    simp only [eqF] at he
    repeat' first|(apply Sp.go;·constructor<;>first|exact ss|(change _=_;first|(simp only[go_sem,Nat.reduceBEq,Nat.reduceAdd,Nat.reduceLeDiff,reduceIte]<;>rfl)|rfl)|exact Nat.le_of_ble_eq_true rfl|decide|(repeat' first|(apply Lk.go;constructor)|assumption|exact nb ‹_› ‹_›|exact nt ‹_› ‹_›))|(intro b hb;repeat first|(refine fe hb ?_;intro _ _ hb)|(refine fT hb ?_;intro hb))|refine rt ?_|refine gA rfl ?_|refine gB rfl ?_|apply cT rfl|apply cF rfl|(apply DM.gbT;rfl)|(apply DM.gbF;rfl)|intro h
    (apply DM.ixV (row := v.row) (z := (i : Int)) (by omega) (row_get Of_.row hv); (· rfl); (· rfl))
    repeat' first|(apply Sp.go;·constructor<;>first|exact ss|(change _=_;first|(simp only[go_sem,Nat.reduceBEq,Nat.reduceAdd,Nat.reduceLeDiff,reduceIte]<;>rfl)|rfl)|exact Nat.le_of_ble_eq_true rfl|decide|(repeat' first|(apply Lk.go;constructor)|assumption|exact nb ‹_› ‹_›|exact nt ‹_› ‹_›))|(intro b hb;repeat first|(refine fe hb ?_;intro _ _ hb)|(refine fT hb ?_;intro hb))|refine rt ?_|refine gA rfl ?_|refine gB rfl ?_|apply cT rfl|apply cF rfl|(apply DM.gbT;rfl)|(apply DM.gbF;rfl)|intro h
    (apply DM.ixV (row := x.row) (z := (i : Int)) (by omega) (row_get Of_.row hx); (· rfl); (· rfl))
    repeat' first|(apply Sp.go;·constructor<;>first|exact ss|(change _=_;first|(simp only[go_sem,Nat.reduceBEq,Nat.reduceAdd,Nat.reduceLeDiff,reduceIte]<;>rfl)|rfl)|exact Nat.le_of_ble_eq_true rfl|decide|(repeat' first|(apply Lk.go;constructor)|assumption|exact nb ‹_› ‹_›|exact nt ‹_› ‹_›))|(intro b hb;repeat first|(refine fe hb ?_;intro _ _ hb)|(refine fT hb ?_;intro hb))|refine rt ?_|refine gA rfl ?_|refine gB rfl ?_|apply cT rfl|apply cF rfl|(apply DM.gbT;rfl)|(apply DM.gbF;rfl)|intro h
    apply AM.cond (t := !(v.eqb x))
    ·rfl
    ·intro h4
     have h4' : v.eqb x = false := by simpa using h4
     repeat' first|(apply Sp.go;·constructor<;>first|exact ss|(change _=_;first|(simp only[go_sem,Nat.reduceBEq,Nat.reduceAdd,Nat.reduceLeDiff,reduceIte]<;>rfl)|rfl)|exact Nat.le_of_ble_eq_true rfl|decide|(repeat' first|(apply Lk.go;constructor)|assumption|exact nb ‹_› ‹_›|exact nt ‹_› ‹_›))|(intro b hb;repeat first|(refine fe hb ?_;intro _ _ hb)|(refine fT hb ?_;intro hb))|refine rt ?_|refine gA rfl ?_|refine gB rfl ?_|apply cT rfl|apply cF rfl|(apply DM.gbT;rfl)|(apply DM.gbF;rfl)|intro h
     (apply Sr.go;·constructor<;>first|(apply Lk.go;constructor<;>first|exact ss|(change _=_;first|(simp only[go_sem,Nat.reduceBEq,Nat.reduceAdd,Nat.reduceLeDiff,reduceIte]<;>rfl)|rfl)|exact Nat.le_of_ble_eq_true rfl|decide|(repeat' first|(apply Lk.go;constructor)|assumption|exact nb ‹_› ‹_›|exact nt ‹_› ‹_›))|assumption)
     refine avle_eq ?_; rw [AV.bool.injEq, he, h4', Bool.false_and]
    ·intro h4
     have h4' : v.eqb x = true := by simpa using h4
     repeat' first|(apply Sp.go;·constructor<;>first|exact ss|(change _=_;first|(simp only[go_sem,Nat.reduceBEq,Nat.reduceAdd,Nat.reduceLeDiff,reduceIte]<;>rfl)|rfl)|exact Nat.le_of_ble_eq_true rfl|decide|(repeat' first|(apply Lk.go;constructor)|assumption|exact nb ‹_› ‹_›|exact nt ‹_› ‹_›))|(intro b hb;repeat first|(refine fe hb ?_;intro _ _ hb)|(refine fT hb ?_;intro hb))|refine rt ?_|refine gA rfl ?_|refine gB rfl ?_|apply cT rfl|apply cF rfl|(apply DM.gbT;rfl)|(apply DM.gbF;rfl)|intro h
     rw [h4', Bool.true_and] at he
     refine AM.roundX (i + 1) ⟨rfl, by omega, he⟩ ?_ ?_
     ·(repeat first | exact envle_nil _ | (refine envle_cons ?_ ?_; · (simp only [go_sem, Nat.reduceBEq, Nat.reduceAdd]; exact AVLe.refl _)))
      refine envle_cons ?_ ?_
      ·simp only [go_sem, Nat.reduceBEq, Nat.reduceAdd]
       refine avle_int ?_
       rw [inc64 h3 hlen]
      exact envle_nil _
     ·show vs.length - (i + 1) < vs.length - i
      omega
   ·intro h3
    repeat' first|(apply Sp.go;·constructor<;>first|exact ss|(change _=_;first|(simp only[go_sem,Nat.reduceBEq,Nat.reduceAdd,Nat.reduceLeDiff,reduceIte]<;>rfl)|rfl)|exact Nat.le_of_ble_eq_true rfl|decide|(repeat' first|(apply Lk.go;constructor)|assumption|exact nb ‹_› ‹_›|exact nt ‹_› ‹_›))|(intro b hb;repeat first|(refine fe hb ?_;intro _ _ hb)|(refine fT hb ?_;intro hb))|refine rt ?_|refine gA rfl ?_|refine gB rfl ?_|apply cT rfl|apply cF rfl|(apply DM.gbT;rfl)|(apply DM.gbF;rfl)|intro h
    (apply Sr.go;·constructor<;>first|(apply Lk.go;constructor<;>first|exact ss|(change _=_;first|(simp only[go_sem,Nat.reduceBEq,Nat.reduceAdd,Nat.reduceLeDiff,reduceIte]<;>rfl)|rfl)|exact Nat.le_of_ble_eq_true rfl|decide|(repeat' first|(apply Lk.go;constructor)|assumption|exact nb ‹_› ‹_›|exact nt ‹_› ‹_›))|assumption)
    simp at h3
    refine avle_eq ?_; rw [AV.bool.injEq, he, List.drop_eq_nil_of_le (by omega), List.drop_eq_nil_of_le (by omega)]; rfl
def Ins_.eqb (v x : Ins_) : Bool := decide (v.op = x.op) && (decide (v.n = x.n) && (decide (v.s = x.s)))
theorem Ins_.eqb_iff (v x : Ins_) : v.eqb x = true ↔ v = x := by
 cases v; cases x
 simp [Ins_.eqb]
theorem p42 (vs xs : List Ins_) : Pure Tryz.prog 42 [.vs 3 (vs.map Ins_.row), .vs 3 (xs.map Ins_.row)] (.bool (eqF Ins_.eqb vs xs)) := by
 refine pure_assume (G := vs.length ≤ maxLen) (fun m vs h => by simp only [RvL] at h; obtain ⟨_, _, _, h, _⟩ := h; simpa using vs_len h) fun hlen => ?_
 refine pure_intro mo Tryz.func42 c42 fun H => ?_
 unfold e42 r42
 simp only [initEnv, initFrom]
 repeat' first|(apply Sp.go;·constructor<;>first|exact ss|(change _=_;first|(simp only[go_sem,Nat.reduceBEq,Nat.reduceAdd,Nat.reduceLeDiff,reduceIte]<;>rfl)|rfl)|exact Nat.le_of_ble_eq_true rfl|decide|(repeat' first|(apply Lk.go;constructor)|assumption|exact nb ‹_› ‹_›|exact nt ‹_› ‹_›))|(intro b hb;repeat first|(refine fe hb ?_;intro _ _ hb)|(refine fT hb ?_;intro hb))|refine rt ?_|refine gA rfl ?_|refine gB rfl ?_|apply cT rfl|apply cF rfl|(apply DM.gbT;rfl)|(apply DM.gbF;rfl)|intro h
 (apply AM.cond; (· rfl))
 ·intro h
  repeat' first|(apply Sp.go;·constructor<;>first|exact ss|(change _=_;first|(simp only[go_sem,Nat.reduceBEq,Nat.reduceAdd,Nat.reduceLeDiff,reduceIte]<;>rfl)|rfl)|exact Nat.le_of_ble_eq_true rfl|decide|(repeat' first|(apply Lk.go;constructor)|assumption|exact nb ‹_› ‹_›|exact nt ‹_› ‹_›))|(intro b hb;repeat first|(refine fe hb ?_;intro _ _ hb)|(refine fT hb ?_;intro hb))|refine rt ?_|refine gA rfl ?_|refine gB rfl ?_|apply cT rfl|apply cF rfl|(apply DM.gbT;rfl)|(apply DM.gbF;rfl)|intro h
  (apply Sr.go;·constructor<;>first|(apply Lk.go;constructor<;>first|exact ss|(change _=_;first|(simp only[go_sem,Nat.reduceBEq,Nat.reduceAdd,Nat.reduceLeDiff,reduceIte]<;>rfl)|rfl)|exact Nat.le_of_ble_eq_true rfl|decide|(repeat' first|(apply Lk.go;constructor)|assumption|exact nb ‹_› ‹_›|exact nt ‹_› ‹_›))|assumption)
  refine avle_eq ?_; rw [AV.bool.injEq, eqF_len (by simp at h; omega)]
 ·intro h
  have hl : vs.length = xs.length := by simp at h; omega
  repeat' first|(apply Sp.go;·constructor<;>first|exact ss|(change _=_;first|(simp only[go_sem,Nat.reduceBEq,Nat.reduceAdd,Nat.reduceLeDiff,reduceIte]<;>rfl)|rfl)|exact Nat.le_of_ble_eq_true rfl|decide|(repeat' first|(apply Lk.go;constructor)|assumption|exact nb ‹_› ‹_›|exact nt ‹_› ‹_›))|(intro b hb;repeat first|(refine fe hb ?_;intro _ _ hb)|(refine fT hb ?_;intro hb))|refine rt ?_|refine gA rfl ?_|refine gB rfl ?_|apply cT rfl|apply cF rfl|(apply DM.gbT;rfl)|(apply DM.gbF;rfl)|intro h
  refine AM.loopX (X := Nat) 0 (fun i => [(0, .vs 3 (vs.map Ins_.row)), (1, .vs 3 (xs.map Ins_.row)), (12, .int .i64 vs.length), (13, .int .i64 i)]) (fun i H' => H' = H ∧ i ≤ vs.length ∧ eqF Ins_.eqb vs xs = eqF Ins_.eqb (vs.drop i) (xs.drop i)) (fun i => vs.length - i) ⟨rfl, by omega, by simp⟩ ?_ ?_
  ·(repeat first | exact envle_nil _ | (refine envle_cons ?_ ?_; · (simp only [go_sem, Nat.reduceBEq, Nat.reduceAdd]; exact AVLe.refl _)))
   refine envle_cons ?_ (envle_cons ?_ (envle_nil _))
   ·simp only [Env.get, Nat.reduceBEq, cond_true, cond_false, beq_self_eq_true]
    exact avle_int (by simp)
   ·simp only [Env.get, Nat.reduceBEq, cond_true, cond_false, beq_self_eq_true]
    exact AVLe.refl _
  ·intro i H' ⟨e, hi, he⟩
   subst e
   repeat' first|(apply Sp.go;·constructor<;>first|exact ss|(change _=_;first|(simp only[go_sem,Nat.reduceBEq,Nat.reduceAdd,Nat.reduceLeDiff,reduceIte]<;>rfl)|rfl)|exact Nat.le_of_ble_eq_true rfl|decide|(repeat' first|(apply Lk.go;constructor)|assumption|exact nb ‹_› ‹_›|exact nt ‹_› ‹_›))|(intro b hb;repeat first|(refine fe hb ?_;intro _ _ hb)|(refine fT hb ?_;intro hb))|refine rt ?_|refine gA rfl ?_|refine gB rfl ?_|apply cT rfl|apply cF rfl|(apply DM.gbT;rfl)|(apply DM.gbF;rfl)|intro h
   (apply AM.cond; (· rfl))
   ·intro h3
    simp at h3
    obtain ⟨v, hv⟩ := some_of h3
    obtain ⟨x, hx⟩ := some_of (hl ▸ h3 : i < xs.length)
    rw [drop_of hv, drop_of hx] at he
    simp only [eqF] at he
    repeat' first|(apply Sp.go;·constructor<;>first|exact ss|(change _=_;first|(simp only[go_sem,Nat.reduceBEq,Nat.reduceAdd,Nat.reduceLeDiff,reduceIte]<;>rfl)|rfl)|exact Nat.le_of_ble_eq_true rfl|decide|(repeat' first|(apply Lk.go;constructor)|assumption|exact nb ‹_› ‹_›|exact nt ‹_› ‹_›))|(intro b hb;repeat first|(refine fe hb ?_;intro _ _ hb)|(refine fT hb ?_;intro hb))|refine rt ?_|refine gA rfl ?_|refine gB rfl ?_|apply cT rfl|apply cF rfl|(apply DM.gbT;rfl)|(apply DM.gbF;rfl)|intro h
    (apply DM.ixV (row := v.row) (z := (i : Int)) (by omega) (row_get Ins_.row hv); (· rfl); (· rfl))
    repeat' first|(apply Sp.go;·constructor<;>first|exact ss|(change _=_;first|(simp only[go_sem,Nat.reduceBEq,Nat.reduceAdd,Nat.reduceLeDiff,reduceIte]<;>rfl)|rfl)|exact Nat.le_of_ble_eq_true rfl|decide|(repeat' first|(apply Lk.go;constructor)|assumption|exact nb ‹_› ‹_›|exact nt ‹_› ‹_›))|(intro b hb;repeat first|(refine fe hb ?_;intro _ _ hb)|(refine fT hb ?_;intro hb))|refine rt ?_|refine gA rfl ?_|refine gB rfl ?_|apply cT rfl|apply cF rfl|(apply DM.gbT;rfl)|(apply DM.gbF;rfl)|intro h
    (apply DM.ixV (row := x.row) (z := (i : Int)) (by omega) (row_get Ins_.row hx); (· rfl); (· rfl))
    repeat' first|(apply Sp.go;·constructor<;>first|exact ss|(change _=_;first|(simp only[go_sem,Nat.reduceBEq,Nat.reduceAdd,Nat.reduceLeDiff,reduceIte]<;>rfl)|rfl)|exact Nat.le_of_ble_eq_true rfl|decide|(repeat' first|(apply Lk.go;constructor)|assumption|exact nb ‹_› ‹_›|exact nt ‹_› ‹_›))|(intro b hb;repeat first|(refine fe hb ?_;intro _ _ hb)|(refine fT hb ?_;intro hb))|refine rt ?_|refine gA rfl ?_|refine gB rfl ?_|apply cT rfl|apply cF rfl|(apply DM.gbT;rfl)|(apply DM.gbF;rfl)|intro h
    apply AM.cond (t := !(v.eqb x))
    ·rfl
    ·intro h4
     have h4' : v.eqb x = false := by simpa using h4
     repeat' first|(apply Sp.go;·constructor<;>first|exact ss|(change _=_;first|(simp only[go_sem,Nat.reduceBEq,Nat.reduceAdd,Nat.reduceLeDiff,reduceIte]<;>rfl)|rfl)|exact Nat.le_of_ble_eq_true rfl|decide|(repeat' first|(apply Lk.go;constructor)|assumption|exact nb ‹_› ‹_›|exact nt ‹_› ‹_›))|(intro b hb;repeat first|(refine fe hb ?_;intro _ _ hb)|(refine fT hb ?_;intro hb))|refine rt ?_|refine gA rfl ?_|refine gB rfl ?_|apply cT rfl|apply cF rfl|(apply DM.gbT;rfl)|(apply DM.gbF;rfl)|intro h
     (apply Sr.go;·constructor<;>first|(apply Lk.go;constructor<;>first|exact ss|(change _=_;first|(simp only[go_sem,Nat.reduceBEq,Nat.reduceAdd,Nat.reduceLeDiff,reduceIte]<;>rfl)|rfl)|exact Nat.le_of_ble_eq_true rfl|decide|(repeat' first|(apply Lk.go;constructor)|assumption|exact nb ‹_› ‹_›|exact nt ‹_› ‹_›))|assumption)
     refine avle_eq ?_; rw [AV.bool.injEq, he, h4', Bool.false_and]
    ·intro h4
     have h4' : v.eqb x = true := by simpa using h4
     repeat' first|(apply Sp.go;·constructor<;>first|exact ss|(change _=_;first|(simp only[go_sem,Nat.reduceBEq,Nat.reduceAdd,Nat.reduceLeDiff,reduceIte]<;>rfl)|rfl)|exact Nat.le_of_ble_eq_true rfl|decide|(repeat' first|(apply Lk.go;constructor)|assumption|exact nb ‹_› ‹_›|exact nt ‹_› ‹_›))|(intro b hb;repeat first|(refine fe hb ?_;intro _ _ hb)|(refine fT hb ?_;intro hb))|refine rt ?_|refine gA rfl ?_|refine gB rfl ?_|apply cT rfl|apply cF rfl|(apply DM.gbT;rfl)|(apply DM.gbF;rfl)|intro h
     rw [h4', Bool.true_and] at he
     refine AM.roundX (i + 1) ⟨rfl, by omega, he⟩ ?_ ?_
     ·(repeat first | exact envle_nil _ | (refine envle_cons ?_ ?_; · (simp only [go_sem, Nat.reduceBEq, Nat.reduceAdd]; exact AVLe.refl _)))
      refine envle_cons ?_ ?_
      ·simp only [go_sem, Nat.reduceBEq, Nat.reduceAdd]
       refine avle_int ?_
       rw [inc64 h3 hlen]
      exact envle_nil _
     ·show vs.length - (i + 1) < vs.length - i
      omega
   ·intro h3
    repeat' first|(apply Sp.go;·constructor<;>first|exact ss|(change _=_;first|(simp only[go_sem,Nat.reduceBEq,Nat.reduceAdd,Nat.reduceLeDiff,reduceIte]<;>rfl)|rfl)|exact Nat.le_of_ble_eq_true rfl|decide|(repeat' first|(apply Lk.go;constructor)|assumption|exact nb ‹_› ‹_›|exact nt ‹_› ‹_›))|(intro b hb;repeat first|(refine fe hb ?_;intro _ _ hb)|(refine fT hb ?_;intro hb))|refine rt ?_|refine gA rfl ?_|refine gB rfl ?_|apply cT rfl|apply cF rfl|(apply DM.gbT;rfl)|(apply DM.gbF;rfl)|intro h
    (apply Sr.go;·constructor<;>first|(apply Lk.go;constructor<;>first|exact ss|(change _=_;first|(simp only[go_sem,Nat.reduceBEq,Nat.reduceAdd,Nat.reduceLeDiff,reduceIte]<;>rfl)|rfl)|exact Nat.le_of_ble_eq_true rfl|decide|(repeat' first|(apply Lk.go;constructor)|assumption|exact nb ‹_› ‹_›|exact nt ‹_› ‹_›))|assumption)
    simp at h3
    refine avle_eq ?_; rw [AV.bool.injEq, he, List.drop_eq_nil_of_le (by omega), List.drop_eq_nil_of_le (by omega)]; rfl
def sameP (p q : Prog) : Bool := decide (p.name = q.name) && decide (p.role = q.role) && eqF Var_.eqb p.vars q.vars && eqF Hd.eqb p.hs q.hs && eqF Of_.eqb p.os q.os && eqF Ins_.eqb p.code q.code
theorem sameP_iff (p q : Prog) : sameP p q = true ↔ p = q := by
 cases p; cases q
 simp [sameP, eqF_iff Var_.eqb_iff, eqF_iff Hd.eqb_iff, eqF_iff Of_.eqb_iff, eqF_iff Ins_.eqb_iff, and_assoc]
theorem p14 (p q : Prog) : Pure Tryz.prog 14 [p.av, q.av] (.bool (sameP p q)) := by
 refine pure_intro mo Tryz.func14 c14 fun H => ?_
 unfold e14 r14
 simp only [initEnv, initFrom]
 repeat' first|(apply Sp.go;·constructor<;>first|exact ss|(change _=_;first|(simp only[go_sem,Nat.reduceBEq,Nat.reduceAdd,Nat.reduceLeDiff,reduceIte]<;>rfl)|rfl)|exact Nat.le_of_ble_eq_true rfl|decide|(repeat' first|(apply Lk.go;constructor)|assumption|exact nb ‹_› ‹_›|exact nt ‹_› ‹_›))|(intro b hb;repeat first|(refine fe hb ?_;intro _ _ hb)|(refine fT hb ?_;intro hb))|refine rt ?_|refine gA rfl ?_|refine gB rfl ?_|apply cT rfl|apply cF rfl|(apply DM.gbT;rfl)|(apply DM.gbF;rfl)|intro h
 ·(apply DM.pcs (p39 _ _); (· simp only [go_sem, Nat.reduceBEq, Nat.reduceAdd] <;> rfl); (· exact AVLes.refl _))
  repeat' first|(apply Sp.go;·constructor<;>first|exact ss|(change _=_;first|(simp only[go_sem,Nat.reduceBEq,Nat.reduceAdd,Nat.reduceLeDiff,reduceIte]<;>rfl)|rfl)|exact Nat.le_of_ble_eq_true rfl|decide|(repeat' first|(apply Lk.go;constructor)|assumption|exact nb ‹_› ‹_›|exact nt ‹_› ‹_›))|(intro b hb;repeat first|(refine fe hb ?_;intro _ _ hb)|(refine fT hb ?_;intro hb))|refine rt ?_|refine gA rfl ?_|refine gB rfl ?_|apply cT rfl|apply cF rfl|(apply DM.gbT;rfl)|(apply DM.gbF;rfl)|intro h
  ·(apply DM.pcs (p40 _ _); (· simp only [go_sem, Nat.reduceBEq, Nat.reduceAdd] <;> rfl); (· exact AVLes.refl _))
   repeat' first|(apply Sp.go;·constructor<;>first|exact ss|(change _=_;first|(simp only[go_sem,Nat.reduceBEq,Nat.reduceAdd,Nat.reduceLeDiff,reduceIte]<;>rfl)|rfl)|exact Nat.le_of_ble_eq_true rfl|decide|(repeat' first|(apply Lk.go;constructor)|assumption|exact nb ‹_› ‹_›|exact nt ‹_› ‹_›))|(intro b hb;repeat first|(refine fe hb ?_;intro _ _ hb)|(refine fT hb ?_;intro hb))|refine rt ?_|refine gA rfl ?_|refine gB rfl ?_|apply cT rfl|apply cF rfl|(apply DM.gbT;rfl)|(apply DM.gbF;rfl)|intro h
   ·(apply DM.pcs (p41 _ _); (· simp only [go_sem, Nat.reduceBEq, Nat.reduceAdd] <;> rfl); (· exact AVLes.refl _))
    repeat' first|(apply Sp.go;·constructor<;>first|exact ss|(change _=_;first|(simp only[go_sem,Nat.reduceBEq,Nat.reduceAdd,Nat.reduceLeDiff,reduceIte]<;>rfl)|rfl)|exact Nat.le_of_ble_eq_true rfl|decide|(repeat' first|(apply Lk.go;constructor)|assumption|exact nb ‹_› ‹_›|exact nt ‹_› ‹_›))|(intro b hb;repeat first|(refine fe hb ?_;intro _ _ hb)|(refine fT hb ?_;intro hb))|refine rt ?_|refine gA rfl ?_|refine gB rfl ?_|apply cT rfl|apply cF rfl|(apply DM.gbT;rfl)|(apply DM.gbF;rfl)|intro h
    ·(apply DM.pcs (p42 _ _); (· simp only [go_sem, Nat.reduceBEq, Nat.reduceAdd] <;> rfl); (· exact AVLes.refl _))
     repeat' first|(apply Sp.go;·constructor<;>first|exact ss|(change _=_;first|(simp only[go_sem,Nat.reduceBEq,Nat.reduceAdd,Nat.reduceLeDiff,reduceIte]<;>rfl)|rfl)|exact Nat.le_of_ble_eq_true rfl|decide|(repeat' first|(apply Lk.go;constructor)|assumption|exact nb ‹_› ‹_›|exact nt ‹_› ‹_›))|(intro b hb;repeat first|(refine fe hb ?_;intro _ _ hb)|(refine fT hb ?_;intro hb))|refine rt ?_|refine gA rfl ?_|refine gB rfl ?_|apply cT rfl|apply cF rfl|(apply DM.gbT;rfl)|(apply DM.gbF;rfl)|intro h
     (apply Sr.go;·constructor<;>first|(apply Lk.go;constructor<;>first|exact ss|(change _=_;first|(simp only[go_sem,Nat.reduceBEq,Nat.reduceAdd,Nat.reduceLeDiff,reduceIte]<;>rfl)|rfl)|exact Nat.le_of_ble_eq_true rfl|decide|(repeat' first|(apply Lk.go;constructor)|assumption|exact nb ‹_› ‹_›|exact nt ‹_› ‹_›))|assumption)
     refine avle_eq ?_; rw [AV.bool.injEq]; simp at *; simp [sameP, *]
    ·(apply Sr.go;·constructor<;>first|(apply Lk.go;constructor<;>first|exact ss|(change _=_;first|(simp only[go_sem,Nat.reduceBEq,Nat.reduceAdd,Nat.reduceLeDiff,reduceIte]<;>rfl)|rfl)|exact Nat.le_of_ble_eq_true rfl|decide|(repeat' first|(apply Lk.go;constructor)|assumption|exact nb ‹_› ‹_›|exact nt ‹_› ‹_›))|assumption)
     refine avle_eq ?_; rw [AV.bool.injEq]; simp at *; simp [sameP, *]
   ·(apply Sr.go;·constructor<;>first|(apply Lk.go;constructor<;>first|exact ss|(change _=_;first|(simp only[go_sem,Nat.reduceBEq,Nat.reduceAdd,Nat.reduceLeDiff,reduceIte]<;>rfl)|rfl)|exact Nat.le_of_ble_eq_true rfl|decide|(repeat' first|(apply Lk.go;constructor)|assumption|exact nb ‹_› ‹_›|exact nt ‹_› ‹_›))|assumption)
    refine avle_eq ?_; rw [AV.bool.injEq]; simp at *; simp [sameP, *]
  ·(apply Sr.go;·constructor<;>first|(apply Lk.go;constructor<;>first|exact ss|(change _=_;first|(simp only[go_sem,Nat.reduceBEq,Nat.reduceAdd,Nat.reduceLeDiff,reduceIte]<;>rfl)|rfl)|exact Nat.le_of_ble_eq_true rfl|decide|(repeat' first|(apply Lk.go;constructor)|assumption|exact nb ‹_› ‹_›|exact nt ‹_› ‹_›))|assumption)
   refine avle_eq ?_; rw [AV.bool.injEq]; simp at *; simp [sameP, *]
 all_goals ((apply Sr.go;·constructor<;>first|(apply Lk.go;constructor<;>first|exact ss|(change _=_;first|(simp only[go_sem,Nat.reduceBEq,Nat.reduceAdd,Nat.reduceLeDiff,reduceIte]<;>rfl)|rfl)|exact Nat.le_of_ble_eq_true rfl|decide|(repeat' first|(apply Lk.go;constructor)|assumption|exact nb ‹_› ‹_›|exact nt ‹_› ‹_›))|assumption))
 all_goals (refine avle_eq ?_; rw [AV.bool.injEq]; simp at *; simp [sameP, *])
end Go.Aw.T
namespace Go.Proofs
open Go.Shelf
def Tryz.laysM171_ren : Go.Shelf.Ren := ⟨fun | 171 => 46 | 243 => 89 | 246 => 117 | 283 => 133 | 284 => 134 | 285 => 135 | 286 => 136 | 129 => 147 | 317 => 146 | 318 => 148 | 319 => 149 | 320 => 150 | 337 => 157 | 338 => 158 | n => n, fun | 3 => 3 | 9 => 9 | 2 => 2 | 4 => 4 | 171 => 167 | 0 => 0 | 53 => 144 | 37 => 49 | 5 => 5 | 173 => 170 | 212 => 183 | 51 => 184 | 20 => 20 | 213 => 185 | 46 => 160 | 232 => 195 | 233 => 196 | n => n, fun | 17 => 3 | 18 => 4 | 19 => 5 | n => n⟩
theorem Tryz.laysM171 : Go.Proofs.LaysM.n171 Tryz.prog Tryz.laysM171_ren := {
 mixed := by kernel_rfl
 f129 := Tryz.func147.trans (congrArg some (by kernel_rfl))
 f171 := Tryz.func46.trans (congrArg some (by kernel_rfl))
 f243 := Tryz.func89.trans (congrArg some (by kernel_rfl))
 f246 := Tryz.func117.trans (congrArg some (by kernel_rfl))
 f283 := Tryz.func133.trans (congrArg some (by kernel_rfl))
 f284 := Tryz.func134.trans (congrArg some (by kernel_rfl))
 f285 := Tryz.func135.trans (congrArg some (by kernel_rfl))
 f286 := Tryz.func136.trans (congrArg some (by kernel_rfl))
 f317 := Tryz.func146.trans (congrArg some (by kernel_rfl))
 f318 := Tryz.func148.trans (congrArg some (by kernel_rfl))
 f319 := Tryz.func149.trans (congrArg some (by kernel_rfl))
 f320 := Tryz.func150.trans (congrArg some (by kernel_rfl))
 f337 := Tryz.func157.trans (congrArg some (by kernel_rfl))
 f338 := Tryz.func158.trans (congrArg some (by kernel_rfl))
 t0 := Tryz.underlying0
 a0 := Tryz.isAgg0
 z0 := Tryz.sizeOf0
 v0 := Tryz.zeroValue0
 t2 := Tryz.underlying2
 a2 := Tryz.isAgg2
 z2 := Tryz.sizeOf2
 v2 := Tryz.zeroValue2
 t3 := Tryz.underlying3
 a3 := Tryz.isAgg3
 z3 := Tryz.sizeOf3
 v3 := Tryz.zeroValue3
 t4 := Tryz.underlying4
 a4 := Tryz.isAgg4
 z4 := Tryz.sizeOf4
 v4 := Tryz.zeroValue4
 t5 := Tryz.underlying5
 a5 := Tryz.isAgg5
 z5 := Tryz.sizeOf5
 v5 := Tryz.zeroValue5
 t9 := Tryz.underlying9
 a9 := Tryz.isAgg9
 z9 := Tryz.sizeOf9
 v9 := Tryz.zeroValue9
 t20 := Tryz.underlying20
 a20 := Tryz.isAgg20
 z20 := Tryz.sizeOf20
 v20 := Tryz.zeroValue20
 t37 := Tryz.underlying49
 a37 := Tryz.isAgg49
 z37 := Tryz.sizeOf49
 v37 := Tryz.zeroValue49
 t46 := Tryz.underlying160
 a46 := Tryz.isAgg160
 z46 := Tryz.sizeOf160
 v46 := Tryz.zeroValue160
 t51 := Tryz.underlying184
 a51 := Tryz.isAgg184
 z51 := Tryz.sizeOf184
 v51 := Tryz.zeroValue184
 t53 := Tryz.underlying144
 a53 := Tryz.isAgg144
 z53 := Tryz.sizeOf144
 v53 := Tryz.zeroValue144
 t171 := Tryz.underlying167
 a171 := Tryz.isAgg167
 z171 := Tryz.sizeOf167
 v171 := Tryz.zeroValue167
 t173 := Tryz.underlying170
 a173 := Tryz.isAgg170
 z173 := Tryz.sizeOf170
 v173 := Tryz.zeroValue170
 t212 := Tryz.underlying183
 a212 := Tryz.isAgg183
 z212 := Tryz.sizeOf183
 v212 := Tryz.zeroValue183
 t213 := Tryz.underlying185
 a213 := Tryz.isAgg185
 z213 := Tryz.sizeOf185
 t232 := Tryz.underlying195
 a232 := Tryz.isAgg195
 z232 := Tryz.sizeOf195
 v232 := Tryz.zeroValue195
 t233 := Tryz.underlying196
 a233 := Tryz.isAgg196
 z233 := Tryz.sizeOf196
 v233 := Tryz.zeroValue196
 g17 := by kernel_rfl
 g18 := by kernel_rfl
 g19 := by kernel_rfl
 i0 := by kernel_rfl
 i2 := by kernel_rfl
 i3 := by kernel_rfl
 i4 := by kernel_rfl
 i5 := by kernel_rfl
 i9 := by kernel_rfl
 i20 := by kernel_rfl
 i37 := by kernel_rfl
 i46 := by kernel_rfl
 i51 := by kernel_rfl
 i53 := by kernel_rfl
 i171 := by kernel_rfl
 i173 := by kernel_rfl
 i212 := by kernel_rfl
 i232 := by kernel_rfl
 i233 := by kernel_rfl
 m17 := by kernel_rfl
 m18 := by kernel_rfl
 m19 := by kernel_rfl }
def Tryz.laysC172_ren : Go.Shelf.Ren := ⟨fun | 172 => 50 | 244 => 92 | 245 => 93 | 247 => 121 | 279 => 122 | 280 => 123 | 281 => 124 | 282 => 125 | 287 => 142 | 316 => 143 | 171 => 46 | 205 => 144 | 321 => 154 | 322 => 155 | 243 => 89 | 246 => 117 | 283 => 133 | 284 => 134 | 285 => 135 | 286 => 136 | 129 => 147 | 317 => 146 | 318 => 148 | 319 => 149 | 320 => 150 | 337 => 157 | 338 => 158 | n => n, fun | 9 => 9 | 3 => 3 | 75 => 97 | 76 => 98 | 4 => 4 | 5 => 5 | 167 => 154 | 37 => 49 | 0 => 0 | 85 => 155 | 2 => 2 | 168 => 157 | 53 => 144 | 175 => 175 | 46 => 160 | 210 => 179 | 127 => 148 | 145 => 192 | 143 => 190 | 21 => 21 | 171 => 167 | 173 => 170 | 212 => 183 | 51 => 184 | 20 => 20 | 213 => 185 | 232 => 195 | 233 => 196 | 80 => 133 | n => n, fun | 15 => 1 | 16 => 2 | 17 => 3 | 18 => 4 | 19 => 5 | n => n⟩
theorem Tryz.laysC172 : Go.Proofs.LaysC.n172 Tryz.prog Tryz.laysC172_ren := {
 mixed := by kernel_rfl
 f129 := Tryz.func147.trans (congrArg some (by kernel_rfl))
 f171 := Tryz.func46.trans (congrArg some (by kernel_rfl))
 f172 := Tryz.func50.trans (congrArg some (by kernel_rfl))
 f205 := Tryz.func144.trans (congrArg some (by kernel_rfl))
 f243 := Tryz.func89.trans (congrArg some (by kernel_rfl))
 f244 := Tryz.func92.trans (congrArg some (by kernel_rfl))
 f245 := Tryz.func93.trans (congrArg some (by kernel_rfl))
 f246 := Tryz.func117.trans (congrArg some (by kernel_rfl))
 f247 := Tryz.func121.trans (congrArg some (by kernel_rfl))
 f279 := Tryz.func122.trans (congrArg some (by kernel_rfl))
 f280 := Tryz.func123.trans (congrArg some (by kernel_rfl))
 f281 := Tryz.func124.trans (congrArg some (by kernel_rfl))
 f282 := Tryz.func125.trans (congrArg some (by kernel_rfl))
 f283 := Tryz.func133.trans (congrArg some (by kernel_rfl))
 f284 := Tryz.func134.trans (congrArg some (by kernel_rfl))
 f285 := Tryz.func135.trans (congrArg some (by kernel_rfl))
 f286 := Tryz.func136.trans (congrArg some (by kernel_rfl))
 f287 := Tryz.func142.trans (congrArg some (by kernel_rfl))
 f316 := Tryz.func143.trans (congrArg some (by kernel_rfl))
 f317 := Tryz.func146.trans (congrArg some (by kernel_rfl))
 f318 := Tryz.func148.trans (congrArg some (by kernel_rfl))
 f319 := Tryz.func149.trans (congrArg some (by kernel_rfl))
 f320 := Tryz.func150.trans (congrArg some (by kernel_rfl))
 f321 := Tryz.func154.trans (congrArg some (by kernel_rfl))
 f322 := Tryz.func155.trans (congrArg some (by kernel_rfl))
 f337 := Tryz.func157.trans (congrArg some (by kernel_rfl))
 f338 := Tryz.func158.trans (congrArg some (by kernel_rfl))
 t0 := Tryz.underlying0
 a0 := Tryz.isAgg0
 z0 := Tryz.sizeOf0
 v0 := Tryz.zeroValue0
 t2 := Tryz.underlying2
 a2 := Tryz.isAgg2
 z2 := Tryz.sizeOf2
 v2 := Tryz.zeroValue2
 t3 := Tryz.underlying3
 a3 := Tryz.isAgg3
 z3 := Tryz.sizeOf3
 v3 := Tryz.zeroValue3
 t4 := Tryz.underlying4
 a4 := Tryz.isAgg4
 z4 := Tryz.sizeOf4
 v4 := Tryz.zeroValue4
 t5 := Tryz.underlying5
 a5 := Tryz.isAgg5
 z5 := Tryz.sizeOf5
 v5 := Tryz.zeroValue5
 t9 := Tryz.underlying9
 a9 := Tryz.isAgg9
 z9 := Tryz.sizeOf9
 v9 := Tryz.zeroValue9
 t20 := Tryz.underlying20
 a20 := Tryz.isAgg20
 z20 := Tryz.sizeOf20
 v20 := Tryz.zeroValue20
 t21 := Tryz.underlying21
 a21 := Tryz.isAgg21
 z21 := Tryz.sizeOf21
 v21 := Tryz.zeroValue21
 t37 := Tryz.underlying49
 a37 := Tryz.isAgg49
 z37 := Tryz.sizeOf49
 v37 := Tryz.zeroValue49
 t46 := Tryz.underlying160
 a46 := Tryz.isAgg160
 z46 := Tryz.sizeOf160
 v46 := Tryz.zeroValue160
 t51 := Tryz.underlying184
 a51 := Tryz.isAgg184
 z51 := Tryz.sizeOf184
 v51 := Tryz.zeroValue184
 t53 := Tryz.underlying144
 a53 := Tryz.isAgg144
 z53 := Tryz.sizeOf144
 v53 := Tryz.zeroValue144
 t75 := Tryz.underlying97
 a75 := Tryz.isAgg97
 z75 := Tryz.sizeOf97
 v75 := Tryz.zeroValue97
 t76 := Tryz.underlying98
 a76 := Tryz.isAgg98
 z76 := Tryz.sizeOf98
 v76 := Tryz.zeroValue98
 t85 := Tryz.underlying155
 a85 := Tryz.isAgg155
 z85 := Tryz.sizeOf155
 v85 := Tryz.zeroValue155
 t127 := Tryz.underlying148
 a127 := Tryz.isAgg148
 z127 := Tryz.sizeOf148
 v127 := Tryz.zeroValue148
 t143 := Tryz.underlying190
 a143 := Tryz.isAgg190
 z143 := Tryz.sizeOf190
 v143 := Tryz.zeroValue190
 t145 := Tryz.underlying192
 a145 := Tryz.isAgg192
 z145 := Tryz.sizeOf192
 v145 := Tryz.zeroValue192
 t167 := Tryz.underlying154
 a167 := Tryz.isAgg154
 z167 := Tryz.sizeOf154
 v167 := Tryz.zeroValue154
 t168 := Tryz.underlying157
 a168 := Tryz.isAgg157
 z168 := Tryz.sizeOf157
 v168 := Tryz.zeroValue157
 t171 := Tryz.underlying167
 a171 := Tryz.isAgg167
 z171 := Tryz.sizeOf167
 v171 := Tryz.zeroValue167
 t173 := Tryz.underlying170
 a173 := Tryz.isAgg170
 z173 := Tryz.sizeOf170
 v173 := Tryz.zeroValue170
 t175 := Tryz.underlying175
 a175 := Tryz.isAgg175
 z175 := Tryz.sizeOf175
 v175 := Tryz.zeroValue175
 t210 := Tryz.underlying179
 a210 := Tryz.isAgg179
 z210 := Tryz.sizeOf179
 v210 := Tryz.zeroValue179
 t212 := Tryz.underlying183
 a212 := Tryz.isAgg183
 z212 := Tryz.sizeOf183
 v212 := Tryz.zeroValue183
 t213 := Tryz.underlying185
 a213 := Tryz.isAgg185
 z213 := Tryz.sizeOf185
 t232 := Tryz.underlying195
 a232 := Tryz.isAgg195
 z232 := Tryz.sizeOf195
 v232 := Tryz.zeroValue195
 t233 := Tryz.underlying196
 a233 := Tryz.isAgg196
 z233 := Tryz.sizeOf196
 v233 := Tryz.zeroValue196
 g15 := by kernel_rfl
 g16 := by kernel_rfl
 g17 := by kernel_rfl
 g18 := by kernel_rfl
 g19 := by kernel_rfl
 t80 := Tryz.underlying133
 a80 := Tryz.isAgg133
 z80 := Tryz.sizeOf133
 v80 := Tryz.zeroValue133
 i0 := by kernel_rfl
 i2 := by kernel_rfl
 i3 := by kernel_rfl
 i4 := by kernel_rfl
 i5 := by kernel_rfl
 i9 := by kernel_rfl
 i20 := by kernel_rfl
 i21 := by kernel_rfl
 i37 := by kernel_rfl
 i46 := by kernel_rfl
 i51 := by kernel_rfl
 i53 := by kernel_rfl
 i75 := by kernel_rfl
 i76 := by kernel_rfl
 i80 := by kernel_rfl
 i85 := by kernel_rfl
 i127 := by kernel_rfl
 i143 := by kernel_rfl
 i145 := by kernel_rfl
 i167 := by kernel_rfl
 i168 := by kernel_rfl
 i171 := by kernel_rfl
 i173 := by kernel_rfl
 i175 := by kernel_rfl
 i210 := by kernel_rfl
 i212 := by kernel_rfl
 i232 := by kernel_rfl
 i233 := by kernel_rfl
 m15 := by kernel_rfl
 m16 := by kernel_rfl
 m17 := by kernel_rfl
 m18 := by kernel_rfl
 m19 := by kernel_rfl
 c0 := by kernel_rfl
 c2 := by kernel_rfl
 c3 := by kernel_rfl
 c4 := by kernel_rfl
 c5 := by kernel_rfl
 c9 := by kernel_rfl
 c20 := by kernel_rfl
 c21 := by kernel_rfl
 c37 := by kernel_rfl
 c46 := by kernel_rfl
 c51 := by kernel_rfl
 c53 := by kernel_rfl
 c75 := by kernel_rfl
 c76 := by kernel_rfl
 c80 := by kernel_rfl
 c85 := by kernel_rfl
 c127 := by kernel_rfl
 c143 := by kernel_rfl
 c145 := by kernel_rfl
 c167 := by kernel_rfl
 c168 := by kernel_rfl
 c171 := by kernel_rfl
 c173 := by kernel_rfl
 c175 := by kernel_rfl
 c210 := by kernel_rfl
 c212 := by kernel_rfl
 c213 := by kernel_rfl
 c232 := by kernel_rfl
 c233 := by kernel_rfl }
def Tryz.lays217_ren : Go.Shelf.Ren := ⟨fun | 217 => 137 | 266 => 151 | n => n, fun | 9 => 9 | 5 => 5 | 3 => 3 | n => n, fun | n => n⟩
theorem Tryz.lays217 : Go.Proofs.Lays.n217 Tryz.prog Tryz.lays217_ren := {
 mixed := by kernel_rfl
 f217 := Tryz.func137.trans (congrArg some (by kernel_rfl))
 f266 := Tryz.func151.trans (congrArg some (by kernel_rfl))
 t3 := Tryz.underlying3
 a3 := Tryz.isAgg3
 z3 := Tryz.sizeOf3
 v3 := Tryz.zeroValue3
 t5 := Tryz.underlying5
 a5 := Tryz.isAgg5
 z5 := Tryz.sizeOf5
 v5 := Tryz.zeroValue5
 t9 := Tryz.underlying9
 a9 := Tryz.isAgg9
 z9 := Tryz.sizeOf9
 v9 := Tryz.zeroValue9 }
def Tryz.ren : Go.Shelf.Ren := ⟨fun | 169 => 88 | 167 => 87 | 240 => 116 | 276 => 132 | n => n, fun | 70 => 129 | 9 => 9 | 0 => 0 | 72 => 131 | 37 => 49 | 127 => 148 | 3 => 3 | 5 => 5 | 4 => 4 | 75 => 97 | 164 => 165 | 80 => 133 | 20 => 20 | n => n, fun | n => n⟩
theorem Tryz.lays167b : Go.Proofs.Lays.n167 Tryz.prog Tryz.ren := {
 mixed := by kernel_rfl
 f167 := Tryz.func87.trans (congrArg some (by kernel_rfl))
 f240 := Tryz.func116.trans (congrArg some (by kernel_rfl))
 f276 := Tryz.func132.trans (congrArg some (by kernel_rfl))
 t0 := Tryz.underlying0
 a0 := Tryz.isAgg0
 z0 := Tryz.sizeOf0
 v0 := Tryz.zeroValue0
 t4 := Tryz.underlying4
 a4 := Tryz.isAgg4
 z4 := Tryz.sizeOf4
 v4 := Tryz.zeroValue4
 t5 := Tryz.underlying5
 a5 := Tryz.isAgg5
 z5 := Tryz.sizeOf5
 v5 := Tryz.zeroValue5
 t9 := Tryz.underlying9
 a9 := Tryz.isAgg9
 z9 := Tryz.sizeOf9
 v9 := Tryz.zeroValue9
 t20 := Tryz.underlying20
 a20 := Tryz.isAgg20
 z20 := Tryz.sizeOf20
 v20 := Tryz.zeroValue20
 t37 := Tryz.underlying49
 a37 := Tryz.isAgg49
 z37 := Tryz.sizeOf49
 v37 := Tryz.zeroValue49
 t70 := Tryz.underlying129
 a70 := Tryz.isAgg129
 z70 := Tryz.sizeOf129
 v70 := Tryz.zeroValue129
 t72 := Tryz.underlying131
 a72 := Tryz.isAgg131
 z72 := Tryz.sizeOf131
 v72 := Tryz.zeroValue131
 t75 := Tryz.underlying97
 a75 := Tryz.isAgg97
 z75 := Tryz.sizeOf97
 v75 := Tryz.zeroValue97
 t164 := Tryz.underlying165
 a164 := Tryz.isAgg165
 z164 := Tryz.sizeOf165
 v164 := Tryz.zeroValue165 }
theorem Tryz.lays169b : Go.Proofs.Lays.n169 Tryz.prog Tryz.ren := {
 mixed := by kernel_rfl
 f169 := Tryz.func88.trans (congrArg some (by kernel_rfl))
 t0 := Tryz.underlying0
 a0 := Tryz.isAgg0
 z0 := Tryz.sizeOf0
 v0 := Tryz.zeroValue0
 t3 := Tryz.underlying3
 a3 := Tryz.isAgg3
 z3 := Tryz.sizeOf3
 v3 := Tryz.zeroValue3
 t9 := Tryz.underlying9
 a9 := Tryz.isAgg9
 z9 := Tryz.sizeOf9
 v9 := Tryz.zeroValue9
 t37 := Tryz.underlying49
 a37 := Tryz.isAgg49
 z37 := Tryz.sizeOf49
 v37 := Tryz.zeroValue49
 t70 := Tryz.underlying129
 a70 := Tryz.isAgg129
 z70 := Tryz.sizeOf129
 v70 := Tryz.zeroValue129
 t72 := Tryz.underlying131
 a72 := Tryz.isAgg131
 z72 := Tryz.sizeOf131
 v72 := Tryz.zeroValue131
 t127 := Tryz.underlying148
 a127 := Tryz.isAgg148
 z127 := Tryz.sizeOf148
 v127 := Tryz.zeroValue148 }
theorem Tryz.extra : Builder.Extra Tryz.prog Tryz.ren := {
 sizeBuilder := by kernel_rfl
 liesBuilder := by kernel_rfl
 t5 := Tryz.underlying5
 a5 := Tryz.isAgg5
 z5 := Tryz.sizeOf5
 v5 := Tryz.zeroValue5
 infoByte := by kernel_rfl
 cellsByte := by kernel_rfl
 sizeByte := by kernel_rfl
 neB5 := by decide }
open Go.RowKit
theorem Tryz.WriteByte (B b : Nat) (bs : List Value) (c : Int) (w : World) (h : Lib.IsBuilderF 131 5 B b bs w) (hlen : bs.length + 1 ≤ 140737488355328) (hBw : B ≤ w.heap.size) :
  Calls Tryz.prog 87 #[.pointer (some ⟨b, 0, none⟩), .int .u8 c] w fun e w' => e = .returned .nilIface ∧ (Lib.BuilderAtF 131 5 B b (.pointer (some ⟨b, 0, none⟩)) (bs ++ [.int .u8 c]) w' ∧ Below B w w' ∧ Lib.OthersKept 5 (some b) w w') :=
 Any.Builder_WriteByte_k Tryz.lays167b Tryz.extra B b bs c w h hlen hBw
theorem Tryz.String (B b : Nat) (l : List UInt8) (w : World) (h : Lib.IsBuilderF 131 5 B b (Lib.byteCells l) w) (hBw : B ≤ w.heap.size) :
  Calls Tryz.prog 88 #[.pointer (some ⟨b, 0, none⟩)] w fun e w' => e = .returned (.string ⟨l.toArray⟩) ∧ (Lib.IsBuilderF 131 5 B b (Lib.byteCells l) w' ∧ Below B w w' ∧ Lib.OthersKept 5 (some b) w w') :=
 Any.Builder_String_any_k Tryz.lays169b Tryz.extra B b l w h hBw
theorem Tryz.strconv_Itoa (n : Int) (h0 : -9223372036854775808 ≤ n) (h1 : n ≤ 9223372036854775807) (w : World) (htab : Lib.TabIs Tryz.prog w "internal/strconv.uint64pow10" .u64 Lib.pow10Tab) :
  Calls Tryz.prog 46 #[.int .i64 n] w fun e w' => e = .returned (.string ⟨(Lib.itoa n).toArray⟩) ∧ ∃ k os, w' = Go.Sort.grow (w.drewN k) os := Any.strconv_Itoa Tryz.laysM171 n h0 h1 w htab
theorem Tryz.strconv_Atoi_ok (s : ByteArray) (hmax : s.size ≤ 9223372036854775806) (v : Int) (h : Lib.atoiAll s.data.toList = .ok v) (w : World) :
  Calls Tryz.prog 50 #[.string s] w fun e w' => e = .returned (.tuple #[.int .i64 v, .nilIface]) ∧ (w' = w ∨ ∃ t, w' = Lib.bytesWorld w 5 t) := Any.strconv_Atoi_ok Tryz.laysC172 s hmax v h w
theorem Tryz.IndexByte (s : ByteArray) (c : Int) (w : World) : Calls Tryz.prog 137 #[.string s, .int .u8 c] w fun e w' => e = .returned (.int .i64 (Lib.indexByte s.data.toList c.toNat.toUInt8)) ∧ w' = w := Any.stringslite_IndexByte Tryz.lays217 s c w
end Go.Proofs
