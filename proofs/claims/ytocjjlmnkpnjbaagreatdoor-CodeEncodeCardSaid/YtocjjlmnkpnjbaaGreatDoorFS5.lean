/- Part of a proof; own work. -/
import Derived.Below
import Derived.Lib.OthersKept
import Derived.Deep.LoopGhost
import Derived.Laws.RangeAny
import Derived.Test.YtocjjlmnkpnjbaaGreatDoorFS4
namespace Go.Aw.T
open Go Go.Aw Go.Proofs Go.RowKit
set_option maxRecDepth 100000
attribute [local irreducible] Go.Aw.DM Go.Aw.AHeap.setB Go.Aw.AHeap.setT
attribute [local go_sem] peval EOpd.ev Env.get binInt binStr binBool buildParts AV.cells AV.okc setRange minmaxAV AV.one AV.ofCells eqCells eqCell bslRows cond_true cond_false beq_self_eq_true Bool.not_true Bool.not_false beq_true beq_false eq_self if_true Option.some.injEq List.length_cons List.length_nil List.take_succ_cons List.take_zero List.drop_succ_cons List.drop_zero List.set_cons_succ List.set_cons_zero List.nil_append List.cons_append List.append_nil and_self Option.map_some List.map_cons List.map_nil Bool.false_eq_true if_false Nat.zero_add Nat.add_zero true_and and_true Bool.and_true Bool.true_and List.getElem?_cons_zero List.getElem?_cons_succ Nat.zero_le Nat.le_refl
set_option linter.unusedSimpArgs false
set_option linter.unusedVariables false
theorem drop_of {α : Type} {l : List α} {i : Nat} {v : α} (h : l[i]? = some v) : l.drop i = v :: l.drop (i + 1) := by
 obtain ⟨h3, e⟩ := List.getElem?_eq_some_iff.1 h
 rw [List.drop_eq_getElem_cons h3, e]
theorem some_of {α : Type} {l : List α} {i : Nat} (h : i < l.length) : ∃ v, l[i]? = some v := ⟨_, List.getElem?_eq_getElem h⟩
theorem AM.ghostE {P : Program} {rs : List ERes} {R : Out → AHeap → Prop} {k : List Item} {env : Env} {H : AHeap} (j Te size : Nat) (h0 : size ≠ 0) (hj : env.get j = .nilS)
  (h : ∀ t, H.tok t = none → AM P rs R k ((j, .ms t 0) :: env) (H.setT t (.mu Te size 0 []))) : AM P rs R k env H := by
 refine AM.conv (fun env' H' => ∃ t, H.tok t = none ∧ env' = (j, .ms t 0) :: env ∧ H' = H.setT t (.mu Te size 0 [])) ?_ ?_
 ·intro m hH rh
  subst hH
  obtain ⟨r1, e1, v1⟩ := new_ms_nil rh (T := Te) h0
  refine ⟨(j, .ms m.T 0) :: env, _, _, _, ⟨m.T, tok_new rh, rfl, rfl⟩, r1, e1, fun i v hv => ?_⟩
  by_cases hi : i = j
  ·subst hi
   rw [hj] at hv
   simp only [Rv] at hv
   subst hv
   have : Env.get ((i, AV.ms m.T 0) :: env) i = .ms m.T 0 := by simp [Env.get]
   rw [this]
   exact v1
  ·have : Env.get ((j, AV.ms m.T 0) :: env) i = Env.get env i := by
    have e : (j == i) = false := by simp only [beq_eq_false_iff_ne]; exact fun e => hi e.symm
    simp only [Env.get, e, cond_false]
   rw [this]
   exact Rv.ev e1 _ _ hv
 ·rintro env' H' ⟨t, h1, rfl, rfl⟩
  exact h t h1
theorem AM.ghostO {P : Program} {rs : List ERes} {R : Out → AHeap → Prop} {k : List Item} {env : Env} {H : AHeap} (j Te size : Nat) (h0 : size ≠ 0) (hj : env.get j = .nilS)
  (h : ∀ t, H.tok t = none → AM P rs R k ((j, .own t size []) :: env) (H.setT t (.frz Te size 0))) : AM P rs R k env H := by
 refine AM.conv (fun env' H' => ∃ t, H.tok t = none ∧ env' = (j, .own t size []) :: env ∧ H' = H.setT t (.frz Te size 0)) ?_ ?_
 ·intro m hH rh
  subst hH
  obtain ⟨r1, e1, v1⟩ := new_tok_nil rh (T := Te) h0
  refine ⟨(j, .own m.T size []) :: env, _, _, _, ⟨m.T, tok_new rh, rfl, rfl⟩, r1, e1, fun i v hv => ?_⟩
  by_cases hi : i = j
  ·subst hi
   rw [hj] at hv
   simp only [Rv] at hv
   subst hv
   have : Env.get ((i, AV.own m.T size []) :: env) i = .own m.T size [] := by simp [Env.get]
   rw [this]
   exact v1
  ·have : Env.get ((j, AV.own m.T size []) :: env) i = Env.get env i := by
    have e : (j == i) = false := by simp only [beq_eq_false_iff_ne]; exact fun e => hi e.symm
    simp only [Env.get, e, cond_false]
   rw [this]
   exact Rv.ev e1 _ _ hv
 ·rintro env' H' ⟨t, h1, rfl, rfl⟩
  exact h t h1
theorem DM.apO {P : Program} {T size bytes t d : Nat} {x y : EOpd} {env : Env} {H : AHeap} {rows nw : List (List AV)} {l : List EI} {K : Env → AHeap → Prop} {Rp : AV → AHeap → Prop} (hx : x.ev env = .own t size rows) (ht : H.tok t = some (.frz T size rows.length)) (hy : rowsOf size (y.ev env) = some nw) (hb : (rows.length + nw.length) * bytes ≤ 140737488355328) (hm : rows.length + nw.length ≤ maxLen) (h : DM P l ((d, .own t size (rows ++ nw)) :: env) (H.setT t (.frz T size (rows.length + nw.length))) K Rp) : DM P (⟨some d, none, .append T size bytes x y⟩ :: l) env H K Rp := by
 simp only [DM, wanted]
 exact IStep.append hx ht hy hb hm h
theorem mo : Tryz.prog.follows .mixedOrders = true := by kernel_rfl
structure Val where
 k : Int
 n : Int
 s : List UInt8
abbrev Val.row (v : Val) : List AV := [.int .i64 v.k, .int .i64 v.n, .str v.s]
abbrev Val.av (v : Val) : AV := .agg [.int .i64 v.k, .int .i64 v.n, .str v.s]
def digit (c : UInt8) : Bool := decide (48 ≤ c.toNat) && decide (c.toNat ≤ 57)
def letter (c : UInt8) : Bool := (decide (97 ≤ c.toNat) && decide (c.toNat ≤ 122)) || (decide (65 ≤ c.toNat) && decide (c.toNat ≤ 90))
def inner (c : UInt8) : Bool := letter c || digit c || decide (c.toNat = 95)
def isName (s : List UInt8) : Bool := match s with | [] => false | c :: _ => letter c && s.all inner && decide (s.length ≤ 16)
theorem p109 (c : UInt8) : Pure Tryz.prog 109 [.int .u8 c.toNat] (.bool (digit c)) := by
 refine pure_intro mo Tryz.func109 c109 fun H => ?_
 unfold e109 r109
 simp only [initEnv, initFrom]
 repeat' first|refine Sp.g ?_|(intro b hb;repeat first|(refine fe hb ?_;intro _ _ hb)|(refine fT hb ?_;intro hb))|refine rt ?_|refine gA rfl ?_|refine gB rfl ?_|apply cT rfl|apply cF rfl|(apply DM.gbT;rfl)|(apply DM.gbF;rfl)|intro h
 all_goals (refine Sr.g ?_)
 all_goals (refine avle_eq ?_; rw [AV.bool.injEq, Bool.eq_iff_iff]; simp [digit] at *; try omega)
theorem p75 (c : UInt8) : Pure Tryz.prog 75 [.int .u8 c.toNat] (.bool (letter c)) := by
 refine pure_intro mo Tryz.func75 c75 fun H => ?_
 unfold e75 r75
 simp only [initEnv, initFrom]
 repeat' first|refine Sp.g ?_|(intro b hb;repeat first|(refine fe hb ?_;intro _ _ hb)|(refine fT hb ?_;intro hb))|refine rt ?_|refine gA rfl ?_|refine gB rfl ?_|apply cT rfl|apply cF rfl|(apply DM.gbT;rfl)|(apply DM.gbF;rfl)|intro h
 all_goals (refine Sr.g ?_)
 all_goals (refine avle_eq ?_; rw [AV.bool.injEq, Bool.eq_iff_iff]; simp [letter] at *; try omega)
theorem p76 (c : UInt8) : Pure Tryz.prog 76 [.int .u8 c.toNat] (.bool (inner c)) := by
 refine pure_intro mo Tryz.func76 c76 fun H => ?_
 unfold e76 r76
 simp only [initEnv, initFrom]
 repeat' first|refine Sp.g ?_|(intro b hb;repeat first|(refine fe hb ?_;intro _ _ hb)|(refine fT hb ?_;intro hb))|refine rt ?_|refine gA rfl ?_|refine gB rfl ?_|apply cT rfl|apply cF rfl|(apply DM.gbT;rfl)|(apply DM.gbF;rfl)|intro h
 (apply DM.pcs (p75 _); (· simp only [go_sem, Nat.reduceBEq, Nat.reduceAdd] <;> rfl); (· exact AVLes.refl _))
 repeat' first|refine Sp.g ?_|(intro b hb;repeat first|(refine fe hb ?_;intro _ _ hb)|(refine fT hb ?_;intro hb))|refine rt ?_|refine gA rfl ?_|refine gB rfl ?_|apply cT rfl|apply cF rfl|(apply DM.gbT;rfl)|(apply DM.gbF;rfl)|intro h
 (apply DM.pcs (p109 _); (· simp only [go_sem, Nat.reduceBEq, Nat.reduceAdd] <;> rfl); (· exact AVLes.refl _))
 repeat' first|refine Sp.g ?_|(intro b hb;repeat first|(refine fe hb ?_;intro _ _ hb)|(refine fT hb ?_;intro hb))|refine rt ?_|refine gA rfl ?_|refine gB rfl ?_|apply cT rfl|apply cF rfl|(apply DM.gbT;rfl)|(apply DM.gbF;rfl)|intro h
 all_goals (refine Sr.g ?_)
 all_goals (refine avle_eq ?_; rw [AV.bool.injEq, Bool.eq_iff_iff]; simp [inner] at *; first | omega | (simp [*]; done) | (simp [*]; omega))
theorem isName_of {s : List UInt8} {c : UInt8} (h : s[0]? = some c) : isName s = (letter c && s.all inner && decide (s.length ≤ 16)) := by
 cases s with
 | nil => simp at h
 | cons d l => simp at h; subst h; rfl
theorem p29 (s : List UInt8) (hs : s.length ≤ maxLen) : Pure Tryz.prog 29 [.str s] (.bool (isName s)) := by
 refine pure_intro mo Tryz.func29 c29 fun H => ?_
 unfold e29 r29
 simp only [initEnv, initFrom]
 repeat' first|refine Sp.g ?_|(intro b hb;repeat first|(refine fe hb ?_;intro _ _ hb)|(refine fT hb ?_;intro hb))|refine rt ?_|refine gA rfl ?_|refine gB rfl ?_|apply cT rfl|apply cF rfl|(apply DM.gbT;rfl)|(apply DM.gbF;rfl)|intro h
 ·obtain ⟨c, hc⟩ : ∃ c, s[0]? = some c := by cases s with | nil => simp at * | cons c l => exact ⟨c, rfl⟩
  have hn := isName_of hc
  (apply DM.idxSs s .i64 0 c (by decide) hc; (· rfl); (· rfl))
  repeat' first|refine Sp.g ?_|(intro b hb;repeat first|(refine fe hb ?_;intro _ _ hb)|(refine fT hb ?_;intro hb))|refine rt ?_|refine gA rfl ?_|refine gB rfl ?_|apply cT rfl|apply cF rfl|(apply DM.gbT;rfl)|(apply DM.gbF;rfl)|intro h
  (apply DM.pcs (p75 _); (· simp only [go_sem, Nat.reduceBEq, Nat.reduceAdd] <;> rfl); (· exact AVLes.refl _))
  repeat' first|refine Sp.g ?_|(intro b hb;repeat first|(refine fe hb ?_;intro _ _ hb)|(refine fT hb ?_;intro hb))|refine rt ?_|refine gA rfl ?_|refine gB rfl ?_|apply cT rfl|apply cF rfl|(apply DM.gbT;rfl)|(apply DM.gbF;rfl)|intro h
  ·(apply AM.cond; (· rfl))
   ·intro h
    repeat' first|refine Sp.g ?_|(intro b hb;repeat first|(refine fe hb ?_;intro _ _ hb)|(refine fT hb ?_;intro hb))|refine rt ?_|refine gA rfl ?_|refine gB rfl ?_|apply cT rfl|apply cF rfl|(apply DM.gbT;rfl)|(apply DM.gbF;rfl)|intro h
    refine Sr.g ?_
    refine avle_eq ?_
    rw [hn]; simp at h; simp [h]
   ·intro h
    repeat' first|refine Sp.g ?_|(intro b hb;repeat first|(refine fe hb ?_;intro _ _ hb)|(refine fT hb ?_;intro hb))|refine rt ?_|refine gA rfl ?_|refine gB rfl ?_|apply cT rfl|apply cF rfl|(apply DM.gbT;rfl)|(apply DM.gbF;rfl)|intro h
    refine AM.loopX (X := Nat) 0 (fun i => [(0, .str s), (18, .int .i64 s.length), (19, .int .i64 i)]) (fun i H' => H' = H ∧ i ≤ s.length ∧ isName s = (s.drop i).all inner) (fun i => s.length - i) ⟨rfl, by omega, ?_⟩ ?_ ?_
    ·rename_i h2
     simp at h h2
     rw [hn, h]; simp; intro _; omega
    ·(repeat first | exact envle_nil _ | (refine envle_cons ?_ ?_; · (simp only [go_sem, Nat.reduceBEq, Nat.reduceAdd]; exact AVLe.refl _)))
    ·intro i H' ⟨e, hi, he⟩
     subst e
     repeat' first|refine Sp.g ?_|(intro b hb;repeat first|(refine fe hb ?_;intro _ _ hb)|(refine fT hb ?_;intro hb))|refine rt ?_|refine gA rfl ?_|refine gB rfl ?_|apply cT rfl|apply cF rfl|(apply DM.gbT;rfl)|(apply DM.gbF;rfl)|intro h
     (apply AM.cond; (· rfl))
     ·intro h3
      simp at h3
      obtain ⟨c, hc⟩ : ∃ c, s[i]? = some c := ⟨_, List.getElem?_eq_getElem h3⟩
      have hd : s.drop i = c :: s.drop (i + 1) := by rw [List.drop_eq_getElem_cons h3]; congr 1; rw [List.getElem?_eq_getElem h3] at hc; simpa using hc
      repeat' first|refine Sp.g ?_|(intro b hb;repeat first|(refine fe hb ?_;intro _ _ hb)|(refine fT hb ?_;intro hb))|refine rt ?_|refine gA rfl ?_|refine gB rfl ?_|apply cT rfl|apply cF rfl|(apply DM.gbT;rfl)|(apply DM.gbF;rfl)|intro h
      (apply DM.idxSs s .i64 i c (by omega) (by simpa using hc); (· rfl); (· rfl))
      repeat' first|refine Sp.g ?_|(intro b hb;repeat first|(refine fe hb ?_;intro _ _ hb)|(refine fT hb ?_;intro hb))|refine rt ?_|refine gA rfl ?_|refine gB rfl ?_|apply cT rfl|apply cF rfl|(apply DM.gbT;rfl)|(apply DM.gbF;rfl)|intro h
      (apply DM.pcs (p76 _); (· simp only [go_sem, Nat.reduceBEq, Nat.reduceAdd] <;> rfl); (· exact AVLes.refl _))
      repeat' first|refine Sp.g ?_|(intro b hb;repeat first|(refine fe hb ?_;intro _ _ hb)|(refine fT hb ?_;intro hb))|refine rt ?_|refine gA rfl ?_|refine gB rfl ?_|apply cT rfl|apply cF rfl|(apply DM.gbT;rfl)|(apply DM.gbF;rfl)|intro h
      (apply AM.cond; (· rfl))
      ·intro h4
       repeat' first|refine Sp.g ?_|(intro b hb;repeat first|(refine fe hb ?_;intro _ _ hb)|(refine fT hb ?_;intro hb))|refine rt ?_|refine gA rfl ?_|refine gB rfl ?_|apply cT rfl|apply cF rfl|(apply DM.gbT;rfl)|(apply DM.gbF;rfl)|intro h
       refine Sr.g ?_
       refine avle_eq ?_
       simp at h4
       rw [he, hd]; simp [h4]
      ·intro h4
       repeat' first|refine Sp.g ?_|(intro b hb;repeat first|(refine fe hb ?_;intro _ _ hb)|(refine fT hb ?_;intro hb))|refine rt ?_|refine gA rfl ?_|refine gB rfl ?_|apply cT rfl|apply cF rfl|(apply DM.gbT;rfl)|(apply DM.gbF;rfl)|intro h
       refine AM.roundX (i + 1) ⟨rfl, by omega, ?_⟩ ?_ ?_
       ·simp at h4
        rw [he, hd]; simp [h4]
       ·(repeat first | exact envle_nil _ | (refine envle_cons ?_ ?_; · (simp only [go_sem, Nat.reduceBEq, Nat.reduceAdd]; exact AVLe.refl _)))
        refine envle_cons ?_ (envle_nil _)
        simp only [Env.get, Nat.reduceBEq, cond_true, cond_false, beq_self_eq_true]
        refine avle_int ?_
        rw [wrap64 (by omega) (by unfold maxLen at hs; omega)]; omega
       ·show s.length - (i + 1) < s.length - i
        omega
     ·intro h3
      repeat' first|refine Sp.g ?_|(intro b hb;repeat first|(refine fe hb ?_;intro _ _ hb)|(refine fT hb ?_;intro hb))|refine rt ?_|refine gA rfl ?_|refine gB rfl ?_|apply cT rfl|apply cF rfl|(apply DM.gbT;rfl)|(apply DM.gbF;rfl)|intro h
      refine Sr.g ?_
      refine avle_eq ?_
      simp at h3
      rw [he, List.drop_eq_nil_of_le (by omega)]; rfl
 ·refine Sr.g ?_
  refine avle_eq ?_
  simp at h
  cases s with
  | nil => rfl
  | cons c l =>
   simp only [isName]
   have : decide ((c :: l).length ≤ 16) = false := by simp at h ⊢; omega
   rw [this]; simp
 ·refine Sr.g ?_
  refine avle_eq ?_
  simp at h
  subst h; rfl
theorem GlobW.below {w w' : World} (h : GlobW w) {n : Nat} (hn : w.heap.size ≤ n) (hb : Below n w w') : GlobW w' := fun p hp => by
 obtain ⟨ob, h1, h2⟩ := h p hp
 exact ⟨ob, (hb.block p.1 (Nat.lt_of_lt_of_le (Array.getElem?_eq_some_iff.1 h1).1 hn)).trans h1, h2⟩
theorem calls_plain {P : Program} {f : FuncId} {args : List AV} {r : AV} (h : Pure P f args r) (w : World) (vs : List Value) (ha : ∀ m, RvL m args vs) (hG : GlobW w) :
  Calls P f ⟨vs⟩ w fun e w' => (∃ v, e = .returned v ∧ ∃ m : Mem, Rv m r v) ∧ Below w.heap.size w w' := by
 have := h AHeap.none ⟨w, AHeap.none, fun _ => .nilFunc, 0⟩ vs rfl ⟨fun b T cs hb => by simp [AHeap.none] at hb, fun t i hi => by simp [AHeap.none] at hi, hG, fun p hp => ⟨rfl, fun t i hi => by simp [AHeap.none] at hi⟩⟩ (ha _)
 refine this.mono fun e w' ⟨o, H', L', T', g1, g2, g3, g4, g5⟩ => ?_
 subst g4
 simp only [RvOut] at g3
 obtain ⟨v, e1, e2⟩ := g3
 exact ⟨⟨v, e1, _, e2⟩, ⟨g2.os, g2.tape, g2.output, g2.size, fun b hb => (g2.block b hb rfl (fun t i hi => by simp [AHeap.none] at hi)).1⟩⟩
theorem pure_of_plain {P : Program} {f : FuncId} {args : List AV} {r : AV} (h : ∀ (m : Mem) (vs : List Value), GlobW m.w → RvL m args vs → Calls P f ⟨vs⟩ m.w fun e w' => ∃ v, e = .returned v ∧ (∀ m', Rv m' r v) ∧ Below m.w.heap.size m.w w') : Pure P f args r := by
 intro H m vs hH rh hv
 subst hH
 refine (h m vs rh.glob hv).mono fun e w' ⟨v, e1, e2, hb⟩ => ?_
 exact ⟨.ret r, m.H, m.L, m.T, RH.hid rh hb.os hb.tape hb.output hb.size hb.block, Ev.hid hb.os hb.tape hb.output hb.size hb.block, ⟨v, e1, e2 _⟩, rfl, rfl⟩
def bad (n : Nat) : Bool := decide ((n : Int) < 32) || decide ((126 : Int) < n)
theorem p131 (n : Nat) : Pure Tryz.prog 131 [.int .i32 (n : Int)] (.bool (bad n)) := by
 refine pure_intro mo Tryz.func131 c131 fun H => ?_
 unfold e131 r131
 simp only [initEnv, initFrom]
 repeat' first|refine Sp.g ?_|(intro b hb;repeat first|(refine fe hb ?_;intro _ _ hb)|(refine fT hb ?_;intro hb))|refine rt ?_|refine gA rfl ?_|refine gB rfl ?_|apply cT rfl|apply cF rfl|(apply DM.gbT;rfl)|(apply DM.gbF;rfl)|intro h
 all_goals (refine Sr.g ?_)
 all_goals (refine avle_eq ?_; rw [AV.bool.injEq, Bool.eq_iff_iff]; simp [bad] at *; try omega)
def idxFrom (s : ByteArray) : Nat → Nat → Int
 | 0, _ => -1
 | f + 1, pos => if pos < s.size then (if bad (Utf8.decode s pos).1 then (pos : Int) else idxFrom s f (pos + (Utf8.decode s pos).2)) else -1
theorem idxFrom_end (s : ByteArray) (f pos : Nat) (h : ¬ pos < s.size) : idxFrom s f pos = -1 := by cases f <;> simp [idxFrom, h]
theorem width_pos' (s : ByteArray) (pos : Nat) (h : pos < s.size) : 1 ≤ (Utf8.decode s pos).2 := by
 by_cases ha : (s[pos]'h).toNat < 128
 ·rw [decode_ascii s pos h ha]; exact Nat.le_refl _
 ·exact (decode_high s pos h (by omega)).2
open Go.Lib in
set_option maxHeartbeats 2000000 in
theorem w156 (s : ByteArray) (w : World) (hG : GlobW w) : Calls Tryz.prog 156 #[.string s, .func (.func 131) #[] #[], .bool true] w fun e w' => e = .returned (.int .i64 (idxFrom s s.size 0)) ∧ Below w.heap.size w w' := by
 have hp : ∀ (W : World) (r : Nat), GlobW W → Calls Tryz.prog 131 #[.int .i32 (r : Int)] W fun e w' => e = .returned (.bool (bad r)) ∧ Below W.heap.size W w' := by
  intro W r hGW
  refine (calls_plain (hG := hGW) (p131 r) W [.int .i32 (r : Int)] (fun m => by simp only [RvL, Rv]; exact ⟨_, _, rfl, rfl, rfl⟩)).mono ?_
  rintro e w' ⟨⟨v, rfl, m, hv⟩, hb⟩
  simp only [Rv] at hv
  subst hv
  exact ⟨rfl, hb⟩
 go_enter Tryz.func156, Tryz.ntmps156
 go_wp2
 go_loopg [] s.size (fun gf wx => ∃ pos : Nat, wx.heap[w.heap.size]? = some (.stringIter s pos) ∧ Below w.heap.size w wx ∧ idxFrom s gf pos = idxFrom s s.size 0 ∧ s.size ≤ pos + gf)
 case atStart => exact ⟨0, World.iter_heap w s 0, (Below.refl _ w).alloc (Nat.le_refl _) _, rfl, by omega⟩
 case round =>
  obtain ⟨pos, hit, hbw, hleft, hfu⟩ := hrel
  by_cases hps : pos < s.size
  ·obtain ⟨g', rfl⟩ : ∃ g', gk = g' + 1 := ⟨gk - 1, by omega⟩
   have hnx : ∀ ty, (Instr.next (.pointer (some ⟨w.heap.size, 0, none⟩)) true ty).run Tryz.prog wr = _ := fun ty => Lib.run_next_any_at wr w.heap.size s pos ty hit hps
   have hwd := width_pos' s pos hps
   obtain ⟨R, hR⟩ : ∃ R, (Utf8.decode s pos).1 = R := ⟨_, rfl⟩
   obtain ⟨K, hK⟩ : ∃ K, (Utf8.decode s pos).2 = K := ⟨_, rfl⟩
   simp only [idxFrom, hps, if_true, hR, hK] at hleft
   rw [hR, hK] at hnx
   rw [hK] at hwd
   have hit2 := Lib.iterAt_heap wr w.heap.size s pos (pos + K) hit
   have hbw2 := Lib.below_iterAt hbw (k := w.heap.size) (Nat.le_refl _) s (pos + K)
   obtain ⟨W, hWd⟩ : ∃ W, wr.iterAt w.heap.size s (pos + K) = W := ⟨_, rfl⟩
   rw [hWd] at hnx hit2 hbw2
   have cS := hp W R (GlobW.below hG (Nat.le_refl _) hbw2)
   clear hp
   have hlt : w.heap.size < W.heap.size := (Array.getElem?_eq_some_iff.1 hit2).1
   cases hsp : bad R <;> rw [hsp] at cS <;> simp only [hsp, if_true, Bool.false_eq_true, if_false] at hleft
   ·go_wp2_with (refine cS.mono ?_; rintro e W' ⟨rfl, q⟩)
    go_roundg g'
    case measure => omega
    case rel => exact ⟨pos + K, (q.block _ hlt).trans hit2, hbw2.trans (q.mono (by omega)), hleft, by omega⟩
   ·go_wp2_with (refine cS.mono ?_; rintro e W' ⟨rfl, q⟩)
    go_ret
    exact ⟨by rw [← hleft] <;> rfl, hbw2.trans (q.mono (by omega))⟩
  ·have hnx : ∀ ty, (Instr.next (.pointer (some ⟨w.heap.size, 0, none⟩)) true ty).run Tryz.prog wr = _ := fun ty => Lib.run_next_end_at wr w.heap.size s pos ty hit hps
   rw [idxFrom_end s gk pos hps] at hleft
   go_wp2
   go_ret
   exact ⟨by rw [← hleft] <;> rfl, hbw⟩
def okc (b : UInt8) : Bool := decide (32 ≤ b.toNat) && decide (b.toNat ≤ 126)
theorem idx_ok (bs : ByteArray) : ∀ (f pos : Nat), bs.size ≤ pos + f → decide (0 ≤ idxFrom bs f pos) = !((bs.data.toList.drop pos).all okc)
 | 0, pos, h => by
  have : bs.data.toList.drop pos = [] := List.drop_eq_nil_of_le (by rw [Array.length_toList]; exact (by omega : bs.size ≤ pos))
  simp [idxFrom, this]
 | f + 1, pos, h => by
  by_cases hp : pos < bs.size
  ·have hd : bs.data.toList.drop pos = bs[pos] :: bs.data.toList.drop (pos + 1) := by
    rw [List.drop_eq_getElem_cons (by rw [Array.length_toList]; exact hp)]
    rfl
   simp only [idxFrom, hp, if_true, hd, List.all_cons]
   by_cases ha : (bs[pos]'hp).toNat < 128
   ·rw [decode_ascii bs pos hp ha]
    have ih := idx_ok bs f (pos + 1) (by omega)
    by_cases hb : okc bs[pos] = true
    ·have : bad (bs[pos]).toNat = false := by simp [okc] at hb; simp [bad]; omega
     simp only [this, hb, Bool.true_and, Bool.false_eq_true, if_false]
     exact ih
    ·have : bad (bs[pos]).toNat = true := by simp [okc] at hb; simp [bad]; omega
     have hb' : okc bs[pos] = false := by simpa using hb
     simp [this, hb']
   ·have hh := (decode_high bs pos hp (by omega)).1
    have : bad (Utf8.decode bs pos).1 = true := by simp [bad]; omega
    have hb' : okc bs[pos] = false := by simp [okc]; omega
    simp [this, hb']
  ·have : bs.data.toList.drop pos = [] := List.drop_eq_nil_of_le (by rw [Array.length_toList]; exact (by omega : bs.size ≤ pos))
   simp [idxFrom, hp, this]
def idxBad (s : List UInt8) : Int := idxFrom ⟨⟨s⟩⟩ s.length 0
theorem idxBad_ok (s : List UInt8) : decide (0 ≤ idxBad s) = !(s.all okc) := by
 have := idx_ok ⟨⟨s⟩⟩ s.length 0 (by show s.length ≤ 0 + s.length; omega)
 exact this
theorem p156 (s : List UInt8) : Pure Tryz.prog 156 [.str s, .fn 131 [], .bool true] (.int .i64 (idxBad s)) := by
 refine pure_of_plain fun m vs hG hv => ?_
 simp only [RvL, Rv] at hv
 obtain ⟨_, _, rfl, ⟨rfl, _⟩, _, _, rfl, ⟨l, rfl, rfl⟩, _, _, rfl, rfl, rfl⟩ := hv
 have e : fnV 131 [] = .func (.func 131) #[] #[] := fnV_lt (by decide) []
 rw [e]
 refine (w156 ⟨⟨s⟩⟩ m.w hG).mono ?_
 rintro e w' ⟨rfl, hb⟩
 exact ⟨_, rfl, fun m' => by simp only [Rv]; rfl, hb⟩
theorem p145 (s : List UInt8) : Pure Tryz.prog 145 [.str s, .fn 131 []] (.int .i64 (idxBad s)) := by
 refine pure_intro mo Tryz.func145 c145 fun H => ?_
 unfold e145 r145
 simp only [initEnv, initFrom]
 repeat' first|refine Sp.g ?_|(intro b hb;repeat first|(refine fe hb ?_;intro _ _ hb)|(refine fT hb ?_;intro hb))|refine rt ?_|refine gA rfl ?_|refine gB rfl ?_|apply cT rfl|apply cF rfl|(apply DM.gbT;rfl)|(apply DM.gbF;rfl)|intro h
 (apply DM.pcs (p156 _); (· simp only [go_sem, Nat.reduceBEq, Nat.reduceAdd] <;> rfl); (· exact AVLes.refl _))
 repeat' first|refine Sp.g ?_|(intro b hb;repeat first|(refine fe hb ?_;intro _ _ hb)|(refine fT hb ?_;intro hb))|refine rt ?_|refine gA rfl ?_|refine gB rfl ?_|apply cT rfl|apply cF rfl|(apply DM.gbT;rfl)|(apply DM.gbF;rfl)|intro h
 refine Sr.g ?_
 exact AVLe.refl _
theorem p130 (s : List UInt8) : Pure Tryz.prog 130 [.str s, .fn 131 []] (.bool (!(s.all okc))) := by
 refine pure_intro mo Tryz.func130 c130 fun H => ?_
 unfold e130 r130
 simp only [initEnv, initFrom]
 repeat' first|refine Sp.g ?_|(intro b hb;repeat first|(refine fe hb ?_;intro _ _ hb)|(refine fT hb ?_;intro hb))|refine rt ?_|refine gA rfl ?_|refine gB rfl ?_|apply cT rfl|apply cF rfl|(apply DM.gbT;rfl)|(apply DM.gbF;rfl)|intro h
 (apply DM.pcs (p145 _); (· simp only [go_sem, Nat.reduceBEq, Nat.reduceAdd] <;> rfl); (· exact AVLes.refl _))
 repeat' first|refine Sp.g ?_|(intro b hb;repeat first|(refine fe hb ?_;intro _ _ hb)|(refine fT hb ?_;intro hb))|refine rt ?_|refine gA rfl ?_|refine gB rfl ?_|apply cT rfl|apply cF rfl|(apply DM.gbT;rfl)|(apply DM.gbF;rfl)|intro h
 refine Sr.g ?_
 rw [idxBad_ok]
 exact AVLe.refl _
def printable (s : List UInt8) : Bool := s.all okc
theorem p112 (s : List UInt8) : Pure Tryz.prog 112 [.str s] (.bool (printable s)) := by
 refine pure_intro mo Tryz.func112 c112 fun H => ?_
 unfold e112 r112
 simp only [initEnv, initFrom]
 repeat' first|refine Sp.g ?_|(intro b hb;repeat first|(refine fe hb ?_;intro _ _ hb)|(refine fT hb ?_;intro hb))|refine rt ?_|refine gA rfl ?_|refine gB rfl ?_|apply cT rfl|apply cF rfl|(apply DM.gbT;rfl)|(apply DM.gbF;rfl)|intro h
 (apply DM.pcs (p130 _); (· simp only [go_sem, Nat.reduceBEq, Nat.reduceAdd] <;> rfl); (· exact AVLes.refl _))
 repeat' first|refine Sp.g ?_|(intro b hb;repeat first|(refine fe hb ?_;intro _ _ hb)|(refine fT hb ?_;intro hb))|refine rt ?_|refine gA rfl ?_|refine gB rfl ?_|apply cT rfl|apply cF rfl|(apply DM.gbT;rfl)|(apply DM.gbF;rfl)|intro h
 refine Sr.g ?_
 rw [Bool.not_not]
 exact AVLe.refl _
def validV (v : Val) : Bool := (decide (v.k = 1) && decide (-1000 ≤ v.n) && decide (v.n ≤ 1000) && decide (v.s = [])) || (decide (v.k = 2) && decide (v.n = 0) && decide (v.s.length ≤ 40) && printable v.s)
theorem p83 (v : Val) : Pure Tryz.prog 83 [v.av] (.bool (validV v)) := by
 refine pure_intro mo Tryz.func83 c83 fun H => ?_
 unfold e83 r83
 simp only [initEnv, initFrom]
 repeat' first|refine Sp.g ?_|(intro b hb;repeat first|(refine fe hb ?_;intro _ _ hb)|(refine fT hb ?_;intro hb))|refine rt ?_|refine gA rfl ?_|refine gB rfl ?_|apply cT rfl|apply cF rfl|(apply DM.gbT;rfl)|(apply DM.gbF;rfl)|intro h
 (apply AM.cond; (· rfl))
 ·intro h1
  repeat' first|refine Sp.g ?_|(intro b hb;repeat first|(refine fe hb ?_;intro _ _ hb)|(refine fT hb ?_;intro hb))|refine rt ?_|refine gA rfl ?_|refine gB rfl ?_|apply cT rfl|apply cF rfl|(apply DM.gbT;rfl)|(apply DM.gbF;rfl)|intro h
  all_goals (refine Sr.g ?_)
  all_goals (refine avle_eq ?_; rw [AV.bool.injEq]; simp [validV] at *; try (simp [*]; done))
  all_goals (simp [*]; try omega)
 ·intro h1
  repeat' first|refine Sp.g ?_|(intro b hb;repeat first|(refine fe hb ?_;intro _ _ hb)|(refine fT hb ?_;intro hb))|refine rt ?_|refine gA rfl ?_|refine gB rfl ?_|apply cT rfl|apply cF rfl|(apply DM.gbT;rfl)|(apply DM.gbF;rfl)|intro h
  (apply AM.cond; (· rfl))
  ·intro h2
   repeat' first|refine Sp.g ?_|(intro b hb;repeat first|(refine fe hb ?_;intro _ _ hb)|(refine fT hb ?_;intro hb))|refine rt ?_|refine gA rfl ?_|refine gB rfl ?_|apply cT rfl|apply cF rfl|(apply DM.gbT;rfl)|(apply DM.gbF;rfl)|intro h
   ·(apply DM.pcs (p112 _); (· simp only [go_sem, Nat.reduceBEq, Nat.reduceAdd] <;> rfl); (· exact AVLes.refl _))
    repeat' first|refine Sp.g ?_|(intro b hb;repeat first|(refine fe hb ?_;intro _ _ hb)|(refine fT hb ?_;intro hb))|refine rt ?_|refine gA rfl ?_|refine gB rfl ?_|apply cT rfl|apply cF rfl|(apply DM.gbT;rfl)|(apply DM.gbF;rfl)|intro h
    refine Sr.g ?_
    refine avle_eq ?_; rw [AV.bool.injEq]; simp [validV] at *; simp [*]
    omega
   all_goals (refine Sr.g ?_)
   all_goals (refine avle_eq ?_; rw [AV.bool.injEq]; simp [validV] at *; try (simp [*]; done))
   all_goals (simp [*]; try omega)
  ·intro h2
   repeat' first|refine Sp.g ?_|(intro b hb;repeat first|(refine fe hb ?_;intro _ _ hb)|(refine fT hb ?_;intro hb))|refine rt ?_|refine gA rfl ?_|refine gB rfl ?_|apply cT rfl|apply cF rfl|(apply DM.gbT;rfl)|(apply DM.gbF;rfl)|intro h
   refine Sr.g ?_
   refine avle_eq ?_; rw [AV.bool.injEq]; simp [validV] at *; simp [*]
def numberV (v : Val) : Int := if v.k = 1 then v.n else if v.k = 2 then v.s.length else 0
theorem p110 (v : Val) : Pure Tryz.prog 110 [v.av] (.int .i64 (numberV v)) := by
 refine pure_intro mo Tryz.func110 c110 fun H => ?_
 unfold e110 r110
 simp only [initEnv, initFrom]
 repeat' first|refine Sp.g ?_|(intro b hb;repeat first|(refine fe hb ?_;intro _ _ hb)|(refine fT hb ?_;intro hb))|refine rt ?_|refine gA rfl ?_|refine gB rfl ?_|apply cT rfl|apply cF rfl|(apply DM.gbT;rfl)|(apply DM.gbF;rfl)|intro h
 (apply AM.cond; (· rfl))
 ·intro h1
  repeat' first|refine Sp.g ?_|(intro b hb;repeat first|(refine fe hb ?_;intro _ _ hb)|(refine fT hb ?_;intro hb))|refine rt ?_|refine gA rfl ?_|refine gB rfl ?_|apply cT rfl|apply cF rfl|(apply DM.gbT;rfl)|(apply DM.gbF;rfl)|intro h
  refine Sr.g ?_
  refine avle_int ?_; simp [numberV] at *; simp [*]
 ·intro h1
  repeat' first|refine Sp.g ?_|(intro b hb;repeat first|(refine fe hb ?_;intro _ _ hb)|(refine fT hb ?_;intro hb))|refine rt ?_|refine gA rfl ?_|refine gB rfl ?_|apply cT rfl|apply cF rfl|(apply DM.gbT;rfl)|(apply DM.gbF;rfl)|intro h
  (apply AM.cond; (· rfl))
  ·intro h2
   repeat' first|refine Sp.g ?_|(intro b hb;repeat first|(refine fe hb ?_;intro _ _ hb)|(refine fT hb ?_;intro hb))|refine rt ?_|refine gA rfl ?_|refine gB rfl ?_|apply cT rfl|apply cF rfl|(apply DM.gbT;rfl)|(apply DM.gbF;rfl)|intro h
   refine Sr.g ?_
   refine avle_int ?_; simp [numberV] at *; simp [*]
  ·intro h2
   repeat' first|refine Sp.g ?_|(intro b hb;repeat first|(refine fe hb ?_;intro _ _ hb)|(refine fT hb ?_;intro hb))|refine rt ?_|refine gA rfl ?_|refine gB rfl ?_|apply cT rfl|apply cF rfl|(apply DM.gbT;rfl)|(apply DM.gbF;rfl)|intro h
   refine Sr.g ?_
   refine avle_int ?_; simp [numberV] at *; simp [*]
structure Sort_ where
 k : Int
 lo : Int
 hi : Int
abbrev Sort_.row (v : Sort_) : List AV := [.int .i64 v.k, .int .i64 v.lo, .int .i64 v.hi]
abbrev Sort_.av (v : Sort_) : AV := .agg [.int .i64 v.k, .int .i64 v.lo, .int .i64 v.hi]
def validS (s : Sort_) : Bool := (decide (s.k = 1) && decide (-1000 ≤ s.lo) && decide (s.lo ≤ s.hi) && decide (s.hi ≤ 1000)) || (decide (s.k = 2) && decide (0 ≤ s.lo) && decide (s.lo ≤ s.hi) && decide (s.hi ≤ 40))
theorem p111 (s : Sort_) : Pure Tryz.prog 111 [s.av] (.bool (validS s)) := by
 refine pure_intro mo Tryz.func111 c111 fun H => ?_
 unfold e111 r111
 simp only [initEnv, initFrom]
 repeat' first|refine Sp.g ?_|(intro b hb;repeat first|(refine fe hb ?_;intro _ _ hb)|(refine fT hb ?_;intro hb))|refine rt ?_|refine gA rfl ?_|refine gB rfl ?_|apply cT rfl|apply cF rfl|(apply DM.gbT;rfl)|(apply DM.gbF;rfl)|intro h
 (apply AM.cond; (· rfl))
 ·intro h1
  repeat' first|refine Sp.g ?_|(intro b hb;repeat first|(refine fe hb ?_;intro _ _ hb)|(refine fT hb ?_;intro hb))|refine rt ?_|refine gA rfl ?_|refine gB rfl ?_|apply cT rfl|apply cF rfl|(apply DM.gbT;rfl)|(apply DM.gbF;rfl)|intro h
  all_goals (refine Sr.g ?_)
  all_goals (refine avle_eq ?_; rw [AV.bool.injEq]; simp [validS] at *; try (simp [*]; done))
  all_goals (simp [*]; try omega)
 ·intro h1
  repeat' first|refine Sp.g ?_|(intro b hb;repeat first|(refine fe hb ?_;intro _ _ hb)|(refine fT hb ?_;intro hb))|refine rt ?_|refine gA rfl ?_|refine gB rfl ?_|apply cT rfl|apply cF rfl|(apply DM.gbT;rfl)|(apply DM.gbF;rfl)|intro h
  (apply AM.cond; (· rfl))
  ·intro h2
   repeat' first|refine Sp.g ?_|(intro b hb;repeat first|(refine fe hb ?_;intro _ _ hb)|(refine fT hb ?_;intro hb))|refine rt ?_|refine gA rfl ?_|refine gB rfl ?_|apply cT rfl|apply cF rfl|(apply DM.gbT;rfl)|(apply DM.gbF;rfl)|intro h
   all_goals (refine Sr.g ?_)
   all_goals (refine avle_eq ?_; rw [AV.bool.injEq]; simp [validS] at *; try (simp [*]; done))
   all_goals (simp [*]; try omega)
  ·intro h2
   repeat' first|refine Sp.g ?_|(intro b hb;repeat first|(refine fe hb ?_;intro _ _ hb)|(refine fT hb ?_;intro hb))|refine rt ?_|refine gA rfl ?_|refine gB rfl ?_|apply cT rfl|apply cF rfl|(apply DM.gbT;rfl)|(apply DM.gbF;rfl)|intro h
   refine Sr.g ?_
   refine avle_eq ?_; rw [AV.bool.injEq]; simp [validS] at *; simp [*]
def fitsV (s : Sort_) (v : Val) : Bool := validS s && validV v && decide (s.k = v.k) && decide (s.lo ≤ numberV v) && decide (numberV v ≤ s.hi)
theorem p79 (s : Sort_) (v : Val) : Pure Tryz.prog 79 [s.av, v.av] (.bool (fitsV s v)) := by
 refine pure_intro mo Tryz.func79 c79 fun H => ?_
 unfold e79 r79
 simp only [initEnv, initFrom]
 repeat' first|refine Sp.g ?_|(intro b hb;repeat first|(refine fe hb ?_;intro _ _ hb)|(refine fT hb ?_;intro hb))|refine rt ?_|refine gA rfl ?_|refine gB rfl ?_|apply cT rfl|apply cF rfl|(apply DM.gbT;rfl)|(apply DM.gbF;rfl)|intro h
 (apply DM.pcs (p110 v); (· simp only [go_sem, Nat.reduceBEq, Nat.reduceAdd] <;> rfl); (· exact AVLes.refl _))
 repeat' first|refine Sp.g ?_|(intro b hb;repeat first|(refine fe hb ?_;intro _ _ hb)|(refine fT hb ?_;intro hb))|refine rt ?_|refine gA rfl ?_|refine gB rfl ?_|apply cT rfl|apply cF rfl|(apply DM.gbT;rfl)|(apply DM.gbF;rfl)|intro h
 (apply DM.pcs (p111 s); (· simp only [go_sem, Nat.reduceBEq, Nat.reduceAdd] <;> rfl); (· exact AVLes.refl _))
 repeat' first|refine Sp.g ?_|(intro b hb;repeat first|(refine fe hb ?_;intro _ _ hb)|(refine fT hb ?_;intro hb))|refine rt ?_|refine gA rfl ?_|refine gB rfl ?_|apply cT rfl|apply cF rfl|(apply DM.gbT;rfl)|(apply DM.gbF;rfl)|intro h
 ·(apply DM.pcs (p83 v); (· simp only [go_sem, Nat.reduceBEq, Nat.reduceAdd] <;> rfl); (· exact AVLes.refl _))
  repeat' first|refine Sp.g ?_|(intro b hb;repeat first|(refine fe hb ?_;intro _ _ hb)|(refine fT hb ?_;intro hb))|refine rt ?_|refine gA rfl ?_|refine gB rfl ?_|apply cT rfl|apply cF rfl|(apply DM.gbT;rfl)|(apply DM.gbF;rfl)|intro h
  all_goals (refine Sr.g ?_)
  all_goals (refine avle_eq ?_; rw [AV.bool.injEq]; simp [fitsV] at *; simp [*]; try omega)
 ·refine Sr.g ?_
  refine avle_eq ?_; rw [AV.bool.injEq]; simp [fitsV] at *; simp [*]
theorem p67' (s : List UInt8) : Pure Tryz.prog 29 [.str s] (.bool (isName s)) :=
 pure_assume (G := s.length ≤ maxLen) (fun m vs h => by simp only [RvL, Rv] at h; obtain ⟨_, _, _, ⟨_, h⟩, _⟩ := h; exact h) (p29 s)
def inB (n lo hi : Int) : Bool := decide (lo ≤ n) && decide (n ≤ hi)
theorem p30 (n lo hi : Int) : Pure Tryz.prog 30 [.int .i64 n, .int .i64 lo, .int .i64 hi] (.bool (inB n lo hi)) := by
 refine pure_intro mo Tryz.func30 c30 fun H => ?_
 unfold e30 r30
 simp only [initEnv, initFrom]
 repeat' first|refine Sp.g ?_|(intro b hb;repeat first|(refine fe hb ?_;intro _ _ hb)|(refine fT hb ?_;intro hb))|refine rt ?_|refine gA rfl ?_|refine gB rfl ?_|apply cT rfl|apply cF rfl|(apply DM.gbT;rfl)|(apply DM.gbF;rfl)|intro h
 all_goals (refine Sr.g ?_)
 all_goals (refine avle_eq ?_; rw [AV.bool.injEq, Bool.eq_iff_iff]; simp [inB] at *; try omega)
def numd (op : Int) : Int × Int × Bool :=
 if op = 1 then (-1000, 1000, true) else if op = 3 ∨ op = 5 then (0, 11, true) else if op = 4 then (0, 3, true) else if op = 19 ∨ op = 20 ∨ op = 22 then (0, 999, true) else if op = 21 then (1, 50, true) else (0, 0, false)
theorem p45 (op : Int) : Pure Tryz.prog 45 [.int .i64 op] (.tup [.int .i64 (numd op).1, .int .i64 (numd op).2.1, .bool (numd op).2.2]) := by
 have key : ∀ {a b : Int} {c : Bool}, numd op = (a, b, c) → AVLe (.tup [.int .i64 a, .int .i64 b, .bool c]) (.tup [.int .i64 (numd op).1, .int .i64 (numd op).2.1, .bool (numd op).2.2]) := by
  intro a b c h
  rw [h]
  exact AVLe.refl _
 refine pure_intro mo Tryz.func45 c45 fun H => ?_
 unfold e45 r45
 simp only [initEnv, initFrom]
 repeat' first|refine Sp.g ?_|(intro b hb;repeat first|(refine fe hb ?_;intro _ _ hb)|(refine fT hb ?_;intro hb))|refine rt ?_|refine gA rfl ?_|refine gB rfl ?_|apply cT rfl|apply cF rfl|(apply DM.gbT;rfl)|(apply DM.gbF;rfl)|(apply AM.condS;rfl)|intro h
 all_goals (refine Sr.g ?_)
 all_goals (refine key ?_; clear key; simp at *; simp [numd, *])
structure Ins_ where
 op : Int
 n : Int
 s : List UInt8
abbrev Ins_.row (v : Ins_) : List AV := [.int .i64 v.op, .int .i64 v.n, .str v.s]
abbrev Ins_.av (v : Ins_) : AV := .agg [.int .i64 v.op, .int .i64 v.n, .str v.s]
def formed (x : Ins_) : Bool :=
 if x.op = 2 then decide (x.n = 0) && validV ⟨2, 0, x.s⟩
 else if (numd x.op).2.2 then inB x.n (numd x.op).1 (numd x.op).2.1 && decide (x.s = []) else inB x.op 1 24 && decide (x.n = 0) && decide (x.s = [])
theorem p33 (x : Ins_) : Pure Tryz.prog 33 [x.av] (.bool (formed x)) := by
 refine pure_intro mo Tryz.func33 c33 fun H => ?_
 unfold e33 r33
 simp only [initEnv, initFrom]
 repeat' first|refine Sp.g ?_|(intro b hb;repeat first|(refine fe hb ?_;intro _ _ hb)|(refine fT hb ?_;intro hb))|refine rt ?_|refine gA rfl ?_|refine gB rfl ?_|apply cT rfl|apply cF rfl|(apply DM.gbT;rfl)|(apply DM.gbF;rfl)|(apply AM.condS;rfl)|intro h
 ·(apply DM.pcs (p83 ⟨2, 0, x.s⟩); (· simp only [go_sem, Nat.reduceBEq, Nat.reduceAdd] <;> rfl); (· exact AVLes.refl _))
  repeat' first|refine Sp.g ?_|(intro b hb;repeat first|(refine fe hb ?_;intro _ _ hb)|(refine fT hb ?_;intro hb))|refine rt ?_|refine gA rfl ?_|refine gB rfl ?_|apply cT rfl|apply cF rfl|(apply DM.gbT;rfl)|(apply DM.gbF;rfl)|(apply AM.condS;rfl)|intro h
  refine Sr.g ?_
  refine avle_eq ?_; rw [AV.bool.injEq]; simp at *; simp [formed, *]
 ·refine Sr.g ?_
  refine avle_eq ?_; rw [AV.bool.injEq]; simp at *; simp [formed, *]
 ·(apply DM.pcs (p45 _); (· simp only [go_sem, Nat.reduceBEq, Nat.reduceAdd] <;> rfl); (· exact AVLes.refl _))
  repeat' first|refine Sp.g ?_|(intro b hb;repeat first|(refine fe hb ?_;intro _ _ hb)|(refine fT hb ?_;intro hb))|refine rt ?_|refine gA rfl ?_|refine gB rfl ?_|apply cT rfl|apply cF rfl|(apply DM.gbT;rfl)|(apply DM.gbF;rfl)|(apply AM.condS;rfl)|intro h
  ·(apply DM.pcs (p30 _ _ _); (· simp only [go_sem, Nat.reduceBEq, Nat.reduceAdd] <;> rfl); (· exact AVLes.refl _))
   repeat' first|refine Sp.g ?_|(intro b hb;repeat first|(refine fe hb ?_;intro _ _ hb)|(refine fT hb ?_;intro hb))|refine rt ?_|refine gA rfl ?_|refine gB rfl ?_|apply cT rfl|apply cF rfl|(apply DM.gbT;rfl)|(apply DM.gbF;rfl)|(apply AM.condS;rfl)|intro h
   all_goals (refine Sr.g ?_)
   all_goals (refine avle_eq ?_; rw [AV.bool.injEq]; simp at *; simp [formed, *])
  ·(apply DM.pcs (p30 _ _ _); (· simp only [go_sem, Nat.reduceBEq, Nat.reduceAdd] <;> rfl); (· exact AVLes.refl _))
   repeat' first|refine Sp.g ?_|(intro b hb;repeat first|(refine fe hb ?_;intro _ _ hb)|(refine fT hb ?_;intro hb))|refine rt ?_|refine gA rfl ?_|refine gB rfl ?_|apply cT rfl|apply cF rfl|(apply DM.gbT;rfl)|(apply DM.gbF;rfl)|(apply AM.condS;rfl)|intro h
   all_goals (refine Sr.g ?_)
   all_goals (refine avle_eq ?_; rw [AV.bool.injEq]; simp at *; simp [formed, *])
structure Var_ where
 name : List UInt8
 sort : Sort_
 init : Val
abbrev Var_.row (v : Var_) : List AV := [.str v.name, .int .i64 v.sort.k, .int .i64 v.sort.lo, .int .i64 v.sort.hi, .int .i64 v.init.k, .int .i64 v.init.n, .str v.init.s]
abbrev Var_.av (v : Var_) : AV := .agg [.str v.name, .int .i64 v.sort.k, .int .i64 v.sort.lo, .int .i64 v.sort.hi, .int .i64 v.init.k, .int .i64 v.init.n, .str v.init.s]
structure Hd where
 peer : Int
 label : Int
 entry : Int
abbrev Hd.row (v : Hd) : List AV := [.int .i64 v.peer, .int .i64 v.label, .int .i64 v.entry]
abbrev Hd.av (v : Hd) : AV := .agg [.int .i64 v.peer, .int .i64 v.label, .int .i64 v.entry]
structure Of_ where
 peer : Int
 label : Int
 cond : Int
 args : Int
abbrev Of_.row (v : Of_) : List AV := [.int .i64 v.peer, .int .i64 v.label, .int .i64 v.cond, .int .i64 v.args]
structure Prog where
 name : List UInt8
 role : Int
 vars : List Var_
 hs : List Hd
 os : List Of_
 code : List Ins_
abbrev Prog.cells (p : Prog) : List AV := [.str p.name, .int .i64 p.role, .vs 7 (p.vars.map Var_.row), .vs 3 (p.hs.map Hd.row), .vs 4 (p.os.map Of_.row), .vs 3 (p.code.map Ins_.row)]
abbrev Prog.av (p : Prog) : AV := .agg [.str p.name, .int .i64 p.role, .vs 7 (p.vars.map Var_.row), .vs 3 (p.hs.map Hd.row), .vs 4 (p.os.map Of_.row), .vs 3 (p.code.map Ins_.row)]
structure Prog.Ok (p : Prog) : Prop where
 vars : p.vars.length ≤ maxLen
 hs : p.hs.length ≤ maxLen
 os : p.os.length ≤ maxLen
 code : p.code.length ≤ maxLen
theorem vs_len {m : Mem} {size : Nat} {rows : List (List AV)} {v : Value} (h : Rv m (.vs size rows) v) : rows.length ≤ maxLen := by
 simp only [Rv] at h
 obtain ⟨_, _, _, _, rfl, ⟨h1, h2⟩, _⟩ := h
 omega
theorem Prog.ok {m : Mem} {p : Prog} {v : Value} (h : Rv m p.av v) : p.Ok := by
 simp only [Rv] at h
 obtain ⟨l, _, h⟩ := h
 simp only [RvL] at h
 obtain ⟨_, _, _, _, _, _, _, _, _, _, _, h1, _, _, _, h2, _, _, _, h3, _, _, _, h4, _⟩ := h
 have := vs_len h1; have := vs_len h2; have := vs_len h3; have := vs_len h4
 simp only [List.length_map] at *
 constructor <;> assumption
theorem ok_args {f : FuncId} {p : Prog} {rest : List AV} {r : AV} (h : p.Ok → Pure Tryz.prog f (p.av :: rest) r) : Pure Tryz.prog f (p.av :: rest) r :=
 pure_assume (G := p.Ok) (fun m vs h => by simp only [RvL] at h; obtain ⟨_, _, _, h, _⟩ := h; exact Prog.ok h) h
def Prog.target (p : Prog) (n : Int) : Bool := inB n 0 (p.code.length - 1)
def Prog.party (p : Prog) (peer label : Int) : Bool := inB peer 0 5 && decide (peer ≠ p.role) && inB label 0 39
theorem p34 (p : Prog) (n : Int) : Pure Tryz.prog 34 [p.av, .int .i64 n] (.bool (p.target n)) := by
 refine ok_args fun ok => ?_
 refine pure_intro mo Tryz.func34 c34 fun H => ?_
 unfold e34 r34
 simp only [initEnv, initFrom]
 repeat' first|refine Sp.g ?_|(intro b hb;repeat first|(refine fe hb ?_;intro _ _ hb)|(refine fT hb ?_;intro hb))|refine rt ?_|refine gA rfl ?_|refine gB rfl ?_|apply cT rfl|apply cF rfl|(apply DM.gbT;rfl)|(apply DM.gbF;rfl)|intro h
 (apply DM.pcs (p30 _ _ _); (· simp only [go_sem, Nat.reduceBEq, Nat.reduceAdd] <;> rfl); (· exact AVLes.refl _))
 repeat' first|refine Sp.g ?_|(intro b hb;repeat first|(refine fe hb ?_;intro _ _ hb)|(refine fT hb ?_;intro hb))|refine rt ?_|refine gA rfl ?_|refine gB rfl ?_|apply cT rfl|apply cF rfl|(apply DM.gbT;rfl)|(apply DM.gbF;rfl)|intro h
 refine Sr.g ?_
 refine avle_eq ?_
 have := ok.code
 rw [Prog.target, List.length_map, wrap64 (by omega) (by unfold maxLen at this; omega)]
theorem p81 (p : Prog) (peer label : Int) : Pure Tryz.prog 81 [p.av, .int .i64 peer, .int .i64 label] (.bool (p.party peer label)) := by
 refine pure_intro mo Tryz.func81 c81 fun H => ?_
 unfold e81 r81
 simp only [initEnv, initFrom]
 repeat' first|refine Sp.g ?_|(intro b hb;repeat first|(refine fe hb ?_;intro _ _ hb)|(refine fT hb ?_;intro hb))|refine rt ?_|refine gA rfl ?_|refine gB rfl ?_|apply cT rfl|apply cF rfl|(apply DM.gbT;rfl)|(apply DM.gbF;rfl)|intro h
 (apply DM.pcs (p30 _ _ _); (· simp only [go_sem, Nat.reduceBEq, Nat.reduceAdd] <;> rfl); (· exact AVLes.refl _))
 repeat' first|refine Sp.g ?_|(intro b hb;repeat first|(refine fe hb ?_;intro _ _ hb)|(refine fT hb ?_;intro hb))|refine rt ?_|refine gA rfl ?_|refine gB rfl ?_|apply cT rfl|apply cF rfl|(apply DM.gbT;rfl)|(apply DM.gbF;rfl)|intro h
 ·(apply DM.pcs (p30 _ _ _); (· simp only [go_sem, Nat.reduceBEq, Nat.reduceAdd] <;> rfl); (· exact AVLes.refl _))
  repeat' first|refine Sp.g ?_|(intro b hb;repeat first|(refine fe hb ?_;intro _ _ hb)|(refine fT hb ?_;intro hb))|refine rt ?_|refine gA rfl ?_|refine gB rfl ?_|apply cT rfl|apply cF rfl|(apply DM.gbT;rfl)|(apply DM.gbF;rfl)|intro h
  all_goals (refine Sr.g ?_)
  all_goals (refine avle_eq ?_; rw [AV.bool.injEq]; simp at *; simp [Prog.party, *])
 all_goals (refine Sr.g ?_)
 all_goals (refine avle_eq ?_; rw [AV.bool.injEq]; simp at *; simp [Prog.party, *])
theorem row_get {α β : Type} (f : α → β) {l : List α} {i : Nat} {v : α} (h : l[i]? = some v) : (l.map f)[((i : Int)).toNat]? = some (f v) := by simp [h]
def idxP {α : Type} (q : α → Bool) : List α → Int → Int
 | [], _ => -1
 | a :: l, i => if q a then i else idxP q l (i + 1)
theorem p78 (H : AHeap) (f : FuncId) (cap : List AV) (vals : List Var_) (q : Var_ → Bool) (hf : callable Tryz.prog f = true) (hq : ∀ v ∈ vals, PureAt Tryz.prog f (v.av :: cap) H (.bool (q v))) : PureAt Tryz.prog 78 [.vs 7 (vals.map Var_.row), .fn f cap] H (.int .i64 (idxP q vals 0)) := by
 refine pureAt_assume (G := vals.length ≤ maxLen) (fun m vs h => by simp only [RvL] at h; obtain ⟨_, _, _, h, _⟩ := h; simpa using vs_len h) fun hlen => ?_
 refine pureAt_intro mo Tryz.func78 c78 ?_
 unfold e78 r78
 simp only [initEnv, initFrom]
 repeat' first|refine Sp.g ?_|(intro b hb;repeat first|(refine fe hb ?_;intro _ _ hb)|(refine fT hb ?_;intro hb))|refine rt ?_|refine gA rfl ?_|refine gB rfl ?_|apply cT rfl|apply cF rfl|(apply DM.gbT;rfl)|(apply DM.gbF;rfl)|intro h
 refine AM.loopX (X := Nat) 0 (fun i => [(0, .vs 7 (vals.map Var_.row)), (1, .fn f cap), (7, .int .i64 vals.length), (8, .int .i64 i)]) (fun i H' => H' = H ∧ i ≤ vals.length ∧ idxP q vals 0 = idxP q (vals.drop i) i) (fun i => vals.length - i) ⟨rfl, by omega, by simp⟩ ?_ ?_
 ·(repeat first | exact envle_nil _ | (refine envle_cons ?_ ?_; · (simp only [go_sem, Nat.reduceBEq, Nat.reduceAdd]; exact AVLe.refl _)))
  refine envle_cons ?_ (envle_cons ?_ (envle_nil _))
  ·simp only [Env.get, Nat.reduceBEq, cond_true, cond_false, beq_self_eq_true]
   exact avle_int (by simp)
  ·simp only [Env.get, Nat.reduceBEq, cond_true, cond_false, beq_self_eq_true]
   exact AVLe.refl _
 ·intro i H' ⟨e, hi, he⟩
  subst e
  repeat' first|refine Sp.g ?_|(intro b hb;repeat first|(refine fe hb ?_;intro _ _ hb)|(refine fT hb ?_;intro hb))|refine rt ?_|refine gA rfl ?_|refine gB rfl ?_|apply cT rfl|apply cF rfl|(apply DM.gbT;rfl)|(apply DM.gbF;rfl)|intro h
  (apply AM.cond; (· rfl))
  ·intro h3
   simp at h3
   obtain ⟨v, hv⟩ : ∃ v, vals[i]? = some v := ⟨_, List.getElem?_eq_getElem h3⟩
   have hd : vals.drop i = v :: vals.drop (i + 1) := by rw [List.drop_eq_getElem_cons h3]; congr 1; rw [List.getElem?_eq_getElem h3] at hv; simpa using hv
   rw [hd] at he
   simp only [idxP] at he
   repeat' first|refine Sp.g ?_|(intro b hb;repeat first|(refine fe hb ?_;intro _ _ hb)|(refine fT hb ?_;intro hb))|refine rt ?_|refine gA rfl ?_|refine gB rfl ?_|apply cT rfl|apply cF rfl|(apply DM.gbT;rfl)|(apply DM.gbF;rfl)|intro h
   (apply DM.ixV (row := v.row) (z := (i : Int)) (by omega) (row_get Var_.row hv); (· rfl); (· rfl))
   repeat' first|refine Sp.g ?_|(intro b hb;repeat first|(refine fe hb ?_;intro _ _ hb)|(refine fT hb ?_;intro hb))|refine rt ?_|refine gA rfl ?_|refine gB rfl ?_|apply cT rfl|apply cF rfl|(apply DM.gbT;rfl)|(apply DM.gbF;rfl)|intro h
   (apply DM.pvat (hq v (List.mem_of_getElem? hv)) (hf); (· rfl); (· simp only [go_sem, Nat.reduceBEq, Nat.reduceAdd] <;> rfl); (· exact AVLes.refl _))
   repeat' first|refine Sp.g ?_|(intro b hb;repeat first|(refine fe hb ?_;intro _ _ hb)|(refine fT hb ?_;intro hb))|refine rt ?_|refine gA rfl ?_|refine gB rfl ?_|apply cT rfl|apply cF rfl|(apply DM.gbT;rfl)|(apply DM.gbF;rfl)|intro h
   (apply AM.cond; (· rfl))
   ·intro h4
    repeat' first|refine Sp.g ?_|(intro b hb;repeat first|(refine fe hb ?_;intro _ _ hb)|(refine fT hb ?_;intro hb))|refine rt ?_|refine gA rfl ?_|refine gB rfl ?_|apply cT rfl|apply cF rfl|(apply DM.gbT;rfl)|(apply DM.gbF;rfl)|intro h
    refine Sr.g ?_
    rw [h4] at he
    refine avle_int ?_
    rw [he]; simp
   ·intro h4
    repeat' first|refine Sp.g ?_|(intro b hb;repeat first|(refine fe hb ?_;intro _ _ hb)|(refine fT hb ?_;intro hb))|refine rt ?_|refine gA rfl ?_|refine gB rfl ?_|apply cT rfl|apply cF rfl|(apply DM.gbT;rfl)|(apply DM.gbF;rfl)|intro h
    rw [h4] at he
    refine AM.roundX (i + 1) ⟨rfl, by omega, ?_⟩ ?_ ?_
    ·rw [he]; simp
    ·(repeat first | exact envle_nil _ | (refine envle_cons ?_ ?_; · (simp only [go_sem, Nat.reduceBEq, Nat.reduceAdd]; exact AVLe.refl _)))
     refine envle_cons ?_ ?_
     ·simp only [go_sem, Nat.reduceBEq, Nat.reduceAdd]
      refine avle_int ?_
      rw [inc64 h3 hlen]
     exact envle_nil _
    ·show vals.length - (i + 1) < vals.length - i
     omega
  ·intro h3
   repeat' first|refine Sp.g ?_|(intro b hb;repeat first|(refine fe hb ?_;intro _ _ hb)|(refine fT hb ?_;intro hb))|refine rt ?_|refine gA rfl ?_|refine gB rfl ?_|apply cT rfl|apply cF rfl|(apply DM.gbT;rfl)|(apply DM.gbF;rfl)|intro h
   refine Sr.g ?_
   simp at h3
   refine avle_int ?_
   rw [he, List.drop_eq_nil_of_le (by omega)]; rfl
theorem p82 (H : AHeap) (f : FuncId) (cap : List AV) (vals : List Hd) (q : Hd → Bool) (hf : callable Tryz.prog f = true) (hq : ∀ v ∈ vals, PureAt Tryz.prog f (v.av :: cap) H (.bool (q v))) : PureAt Tryz.prog 82 [.vs 3 (vals.map Hd.row), .fn f cap] H (.int .i64 (idxP q vals 0)) := by
 refine pureAt_assume (G := vals.length ≤ maxLen) (fun m vs h => by simp only [RvL] at h; obtain ⟨_, _, _, h, _⟩ := h; simpa using vs_len h) fun hlen => ?_
 refine pureAt_intro mo Tryz.func82 c82 ?_
 unfold e82 r82
 simp only [initEnv, initFrom]
 repeat' first|refine Sp.g ?_|(intro b hb;repeat first|(refine fe hb ?_;intro _ _ hb)|(refine fT hb ?_;intro hb))|refine rt ?_|refine gA rfl ?_|refine gB rfl ?_|apply cT rfl|apply cF rfl|(apply DM.gbT;rfl)|(apply DM.gbF;rfl)|intro h
 refine AM.loopX (X := Nat) 0 (fun i => [(0, .vs 3 (vals.map Hd.row)), (1, .fn f cap), (7, .int .i64 vals.length), (8, .int .i64 i)]) (fun i H' => H' = H ∧ i ≤ vals.length ∧ idxP q vals 0 = idxP q (vals.drop i) i) (fun i => vals.length - i) ⟨rfl, by omega, by simp⟩ ?_ ?_
 ·(repeat first | exact envle_nil _ | (refine envle_cons ?_ ?_; · (simp only [go_sem, Nat.reduceBEq, Nat.reduceAdd]; exact AVLe.refl _)))
  refine envle_cons ?_ (envle_cons ?_ (envle_nil _))
  ·simp only [Env.get, Nat.reduceBEq, cond_true, cond_false, beq_self_eq_true]
   exact avle_int (by simp)
  ·simp only [Env.get, Nat.reduceBEq, cond_true, cond_false, beq_self_eq_true]
   exact AVLe.refl _
 ·intro i H' ⟨e, hi, he⟩
  subst e
  repeat' first|refine Sp.g ?_|(intro b hb;repeat first|(refine fe hb ?_;intro _ _ hb)|(refine fT hb ?_;intro hb))|refine rt ?_|refine gA rfl ?_|refine gB rfl ?_|apply cT rfl|apply cF rfl|(apply DM.gbT;rfl)|(apply DM.gbF;rfl)|intro h
  (apply AM.cond; (· rfl))
  ·intro h3
   simp at h3
   obtain ⟨v, hv⟩ : ∃ v, vals[i]? = some v := ⟨_, List.getElem?_eq_getElem h3⟩
   have hd : vals.drop i = v :: vals.drop (i + 1) := by rw [List.drop_eq_getElem_cons h3]; congr 1; rw [List.getElem?_eq_getElem h3] at hv; simpa using hv
   rw [hd] at he
   simp only [idxP] at he
   repeat' first|refine Sp.g ?_|(intro b hb;repeat first|(refine fe hb ?_;intro _ _ hb)|(refine fT hb ?_;intro hb))|refine rt ?_|refine gA rfl ?_|refine gB rfl ?_|apply cT rfl|apply cF rfl|(apply DM.gbT;rfl)|(apply DM.gbF;rfl)|intro h
   (apply DM.ixV (row := v.row) (z := (i : Int)) (by omega) (row_get Hd.row hv); (· rfl); (· rfl))
   repeat' first|refine Sp.g ?_|(intro b hb;repeat first|(refine fe hb ?_;intro _ _ hb)|(refine fT hb ?_;intro hb))|refine rt ?_|refine gA rfl ?_|refine gB rfl ?_|apply cT rfl|apply cF rfl|(apply DM.gbT;rfl)|(apply DM.gbF;rfl)|intro h
   (apply DM.pvat (hq v (List.mem_of_getElem? hv)) (hf); (· rfl); (· simp only [go_sem, Nat.reduceBEq, Nat.reduceAdd] <;> rfl); (· exact AVLes.refl _))
   repeat' first|refine Sp.g ?_|(intro b hb;repeat first|(refine fe hb ?_;intro _ _ hb)|(refine fT hb ?_;intro hb))|refine rt ?_|refine gA rfl ?_|refine gB rfl ?_|apply cT rfl|apply cF rfl|(apply DM.gbT;rfl)|(apply DM.gbF;rfl)|intro h
   (apply AM.cond; (· rfl))
   ·intro h4
    repeat' first|refine Sp.g ?_|(intro b hb;repeat first|(refine fe hb ?_;intro _ _ hb)|(refine fT hb ?_;intro hb))|refine rt ?_|refine gA rfl ?_|refine gB rfl ?_|apply cT rfl|apply cF rfl|(apply DM.gbT;rfl)|(apply DM.gbF;rfl)|intro h
    refine Sr.g ?_
    rw [h4] at he
    refine avle_int ?_
    rw [he]; simp
   ·intro h4
    repeat' first|refine Sp.g ?_|(intro b hb;repeat first|(refine fe hb ?_;intro _ _ hb)|(refine fT hb ?_;intro hb))|refine rt ?_|refine gA rfl ?_|refine gB rfl ?_|apply cT rfl|apply cF rfl|(apply DM.gbT;rfl)|(apply DM.gbF;rfl)|intro h
    rw [h4] at he
    refine AM.roundX (i + 1) ⟨rfl, by omega, ?_⟩ ?_ ?_
    ·rw [he]; simp
    ·(repeat first | exact envle_nil _ | (refine envle_cons ?_ ?_; · (simp only [go_sem, Nat.reduceBEq, Nat.reduceAdd]; exact AVLe.refl _)))
     refine envle_cons ?_ ?_
     ·simp only [go_sem, Nat.reduceBEq, Nat.reduceAdd]
      refine avle_int ?_
      rw [inc64 h3 hlen]
     exact envle_nil _
    ·show vals.length - (i + 1) < vals.length - i
     omega
  ·intro h3
   repeat' first|refine Sp.g ?_|(intro b hb;repeat first|(refine fe hb ?_;intro _ _ hb)|(refine fT hb ?_;intro hb))|refine rt ?_|refine gA rfl ?_|refine gB rfl ?_|apply cT rfl|apply cF rfl|(apply DM.gbT;rfl)|(apply DM.gbF;rfl)|intro h
   refine Sr.g ?_
   simp at h3
   refine avle_int ?_
   rw [he, List.drop_eq_nil_of_le (by omega)]; rfl
theorem call77 : callable Tryz.prog 77 = true := by kernel_rfl
theorem call80 : callable Tryz.prog 80 = true := by kernel_rfl
theorem p77 (w v : Var_) (H : AHeap) (b : Nat) (hv : H.blk b = some (73, v.row)) : PureAt Tryz.prog 77 [w.av, .ptr b 0] H (.bool (decide (w.name = v.name))) := by
 refine pureAt_intro mo Tryz.func77 c77 ?_
 unfold e77 r77
 simp only [initEnv, initFrom]
 repeat' first|refine Sp.g ?_|(intro b hb;repeat first|(refine fe hb ?_;intro _ _ hb)|(refine fT hb ?_;intro hb))|refine rt ?_|refine gA rfl ?_|refine gB rfl ?_|apply cT rfl|apply cF rfl|(apply DM.gbT;rfl)|(apply DM.gbF;rfl)|intro h
 refine Sr.g ?_
 exact AVLe.refl _
theorem p80 (w v : Hd) (H : AHeap) (b : Nat) (hv : H.blk b = some (75, v.row)) : PureAt Tryz.prog 80 [w.av, .ptr b 0] H (.bool (decide (w.peer = v.peer) && decide (w.label = v.label))) := by
 refine pureAt_intro mo Tryz.func80 c80 ?_
 unfold e80 r80
 simp only [initEnv, initFrom]
 repeat' first|refine Sp.g ?_|(intro b hb;repeat first|(refine fe hb ?_;intro _ _ hb)|(refine fT hb ?_;intro hb))|refine rt ?_|refine gA rfl ?_|refine gB rfl ?_|apply cT rfl|apply cF rfl|(apply DM.gbT;rfl)|(apply DM.gbF;rfl)|intro h
 all_goals (refine Sr.g ?_)
 all_goals (refine avle_eq ?_; rw [AV.bool.injEq]; simp at *; simp [*])
def okVar (vs : List Var_) (i : Nat) : Bool := match vs[i]? with
 | none => false
 | some v => isName v.name && decide (idxP (fun w : Var_ => decide (w.name = v.name)) vs 0 = (i : Int)) && fitsV v.sort v.init
def allI (n : Nat) (q : Nat → Bool) : Bool := (List.range n).all q
theorem allI_true {n : Nat} {q : Nat → Bool} (h : ∀ j, j < n → q j = true) : allI n q = true := by
 simp only [allI, List.all_eq_true, List.mem_range]; exact h
theorem allI_false {n i : Nat} {q : Nat → Bool} (hi : i < n) (h : q i = false) : allI n q = false := by
 simp only [allI, List.all_eq_false, List.mem_range]
 exact ⟨i, hi, by simp [h]⟩
def varsOk (vs : List Var_) : Bool := allI vs.length (okVar vs) && decide (vs.length ≤ 12)
theorem p31 (p : Prog) : Pure Tryz.prog 31 [p.av] (.bool (varsOk p.vars)) := by
 refine ok_args fun ok => ?_
 refine pure_intro mo Tryz.func31 c31 fun H => ?_
 unfold e31 r31
 simp only [initEnv, initFrom]
 repeat' first|refine Sp.g ?_|(intro b hb;repeat first|(refine fe hb ?_;intro _ _ hb)|(refine fT hb ?_;intro hb))|refine rt ?_|refine gA rfl ?_|refine gB rfl ?_|apply cT rfl|apply cF rfl|(apply DM.gbT;rfl)|(apply DM.gbF;rfl)|intro h
 rename Nat => b1
 refine AM.loopX (X := Nat) 0 (fun i => [(1, .ptr b1 0), (7, .vs 7 (p.vars.map Var_.row)), (8, .int .i64 p.vars.length), (9, .int .i64 i)]) (fun i H' => H' = H.setB b1 36 p.cells ∧ i ≤ p.vars.length ∧ ∀ j, j < i → okVar p.vars j = true) (fun i => p.vars.length - i) ⟨rfl, by omega, fun j hj => by omega⟩ ?_ ?_
 ·(repeat first | exact envle_nil _ | (refine envle_cons ?_ ?_; · (simp only [go_sem, Nat.reduceBEq, Nat.reduceAdd]; exact AVLe.refl _)))
  refine envle_cons ?_ (envle_cons ?_ (envle_nil _))
  ·simp only [Env.get, Nat.reduceBEq, cond_true, cond_false, beq_self_eq_true]
   exact avle_int (by simp)
  ·simp only [Env.get, Nat.reduceBEq, cond_true, cond_false, beq_self_eq_true]
   exact AVLe.refl _
 ·intro i H' ⟨e, hi, he⟩
  subst e
  repeat' first|refine Sp.g ?_|(intro b hb;repeat first|(refine fe hb ?_;intro _ _ hb)|(refine fT hb ?_;intro hb))|refine rt ?_|refine gA rfl ?_|refine gB rfl ?_|apply cT rfl|apply cF rfl|(apply DM.gbT;rfl)|(apply DM.gbF;rfl)|intro h
  (apply AM.cond; (· rfl))
  ·intro h3
   simp at h3
   obtain ⟨v, hv⟩ : ∃ v, p.vars[i]? = some v := ⟨_, List.getElem?_eq_getElem h3⟩
   have hok : okVar p.vars i = (isName v.name && decide (idxP (fun w : Var_ => decide (w.name = v.name)) p.vars 0 = (i : Int)) && fitsV v.sort v.init) := by simp [okVar, hv]
   repeat' first|refine Sp.g ?_|(intro b hb;repeat first|(refine fe hb ?_;intro _ _ hb)|(refine fT hb ?_;intro hb))|refine rt ?_|refine gA rfl ?_|refine gB rfl ?_|apply cT rfl|apply cF rfl|(apply DM.gbT;rfl)|(apply DM.gbF;rfl)|intro h
   (apply DM.ixV (row := v.row) (z := (i : Int)) (by omega) (row_get Var_.row hv); (· rfl); (· rfl))
   repeat' first|refine Sp.g ?_|(intro b hb;repeat first|(refine fe hb ?_;intro _ _ hb)|(refine fT hb ?_;intro hb))|refine rt ?_|refine gA rfl ?_|refine gB rfl ?_|apply cT rfl|apply cF rfl|(apply DM.gbT;rfl)|(apply DM.gbF;rfl)|intro h
   (apply DM.pcs (p67' _); (· simp only [go_sem, Nat.reduceBEq, Nat.reduceAdd] <;> rfl); (· exact AVLes.refl _))
   repeat' first|refine Sp.g ?_|(intro b hb;repeat first|(refine fe hb ?_;intro _ _ hb)|(refine fT hb ?_;intro hb))|refine rt ?_|refine gA rfl ?_|refine gB rfl ?_|apply cT rfl|apply cF rfl|(apply DM.gbT;rfl)|(apply DM.gbF;rfl)|intro h
   ·(apply DM.pcat (p78 _ 77 _ p.vars (fun w => decide (w.name = v.name)) call77 (fun w _ => p77 w v _ _ g_same)); (· simp only [go_sem, Nat.reduceBEq, Nat.reduceAdd] <;> rfl); (· exact AVLes.refl _))
    repeat' first|refine Sp.g ?_|(intro b hb;repeat first|(refine fe hb ?_;intro _ _ hb)|(refine fT hb ?_;intro hb))|refine rt ?_|refine gA rfl ?_|refine gB rfl ?_|apply cT rfl|apply cF rfl|(apply DM.gbT;rfl)|(apply DM.gbF;rfl)|intro h
    ·(apply DM.pcs (p79 v.sort v.init); (· simp only [go_sem, Nat.reduceBEq, Nat.reduceAdd] <;> rfl); (· exact AVLes.refl _))
     repeat' first|refine Sp.g ?_|(intro b hb;repeat first|(refine fe hb ?_;intro _ _ hb)|(refine fT hb ?_;intro hb))|refine rt ?_|refine gA rfl ?_|refine gB rfl ?_|apply cT rfl|apply cF rfl|(apply DM.gbT;rfl)|(apply DM.gbF;rfl)|intro h
     (apply AM.cond; (· rfl))
     ·intro h4
      repeat' first|refine Sp.g ?_|(intro b hb;repeat first|(refine fe hb ?_;intro _ _ hb)|(refine fT hb ?_;intro hb))|refine rt ?_|refine gA rfl ?_|refine gB rfl ?_|apply cT rfl|apply cF rfl|(apply DM.gbT;rfl)|(apply DM.gbF;rfl)|intro h
      refine Sr.g ?_
      refine avle_eq ?_; rw [AV.bool.injEq]
      refine (Bool.and_eq_false_iff.2 (.inl (allI_false h3 ?_))).symm
      rw [hok]; simp at *; simp [*]
     ·intro h4
      repeat' first|refine Sp.g ?_|(intro b hb;repeat first|(refine fe hb ?_;intro _ _ hb)|(refine fT hb ?_;intro hb))|refine rt ?_|refine gA rfl ?_|refine gB rfl ?_|apply cT rfl|apply cF rfl|(apply DM.gbT;rfl)|(apply DM.gbF;rfl)|intro h
      refine AM.forget (H.setB b1 36 p.cells) ?_ ?_
      ·(repeat' first|assumption|(apply Lk.go;constructor))
      refine AM.roundX (i + 1) ⟨rfl, by omega, fun j hj => ?_⟩ ?_ ?_
      ·by_cases e : j = i
       ·subst e; rw [hok]; simp at *; simp [*]
       ·exact he j (by omega)
      ·(repeat first | exact envle_nil _ | (refine envle_cons ?_ ?_; · (simp only [go_sem, Nat.reduceBEq, Nat.reduceAdd]; exact AVLe.refl _)))
       refine envle_cons ?_ ?_
       ·simp only [go_sem, Nat.reduceBEq, Nat.reduceAdd]
        refine avle_int ?_
        rw [inc64 h3 ok.vars]
       exact envle_nil _
      ·show p.vars.length - (i + 1) < p.vars.length - i
       omega
    ·refine Sr.g ?_
     refine avle_eq ?_; rw [AV.bool.injEq]
     refine (Bool.and_eq_false_iff.2 (.inl (allI_false h3 ?_))).symm
     rw [hok]; simp at *; simp [*]
   ·refine Sr.g ?_
    refine avle_eq ?_; rw [AV.bool.injEq]
    refine (Bool.and_eq_false_iff.2 (.inl (allI_false h3 ?_))).symm
    rw [hok]; simp at *; simp [*]
  ·intro h3
   repeat' first|refine Sp.g ?_|(intro b hb;repeat first|(refine fe hb ?_;intro _ _ hb)|(refine fT hb ?_;intro hb))|refine rt ?_|refine gA rfl ?_|refine gB rfl ?_|apply cT rfl|apply cF rfl|(apply DM.gbT;rfl)|(apply DM.gbF;rfl)|intro h
   refine Sr.g ?_
   refine avle_eq ?_; rw [AV.bool.injEq]
   simp at h3
   rw [varsOk, allI_true fun j hj => he j (by omega), Bool.true_and, Bool.eq_iff_iff]
   simp
   omega
def okHd (p : Prog) (i : Nat) : Bool := match p.hs[i]? with
  | none => false
  | some v => p.party v.peer v.label && p.target v.entry && decide (idxP (fun w : Hd => decide (w.peer = v.peer) && decide (w.label = v.label)) p.hs 0 = (i : Int))
def okOf (p : Prog) (i : Nat) : Bool := match p.os[i]? with
  | none => false
  | some v => p.party v.peer v.label && p.target v.args && (decide (v.cond = -1) || p.target v.cond)
def partsOk (p : Prog) : Bool := allI p.hs.length (okHd p) && allI p.os.length (okOf p) && decide (p.hs.length ≤ 40) && decide (p.os.length ≤ 40)
theorem p32 (p : Prog) : Pure Tryz.prog 32 [p.av] (.bool (partsOk p)) := by
  refine ok_args fun ok => ?_
  refine pure_intro mo Tryz.func32 c32 fun H => ?_
  unfold e32 r32
  simp only [initEnv, initFrom]
  repeat' first|refine Sp.g ?_|(intro b hb;repeat first|(refine fe hb ?_;intro _ _ hb)|(refine fT hb ?_;intro hb))|refine rt ?_|refine gA rfl ?_|refine gB rfl ?_|apply cT rfl|apply cF rfl|(apply DM.gbT;rfl)|(apply DM.gbF;rfl)|intro h
  rename Nat => b1
  refine AM.loopX (X := Nat) 0 (fun i => [(1, .ptr b1 0), (9, .vs 3 (p.hs.map Hd.row)), (10, .int .i64 p.hs.length), (11, .int .i64 i)]) (fun i H' => H' = H.setB b1 36 p.cells ∧ i ≤ p.hs.length ∧ ∀ j, j < i → okHd p j = true) (fun i => p.hs.length - i) ⟨rfl, by omega, fun j hj => by omega⟩ ?_ ?_
  · (repeat first | exact envle_nil _ | (refine envle_cons ?_ ?_; · (simp only [go_sem, Nat.reduceBEq, Nat.reduceAdd]; exact AVLe.refl _)))
    refine envle_cons ?_ (envle_cons ?_ (envle_nil _))
    · simp only [Env.get, Nat.reduceBEq, cond_true, cond_false, beq_self_eq_true]
      exact avle_int (by simp)
    · simp only [Env.get, Nat.reduceBEq, cond_true, cond_false, beq_self_eq_true]
      exact AVLe.refl _
  · intro i H' ⟨e, hi, he⟩
    subst e
    repeat' first|refine Sp.g ?_|(intro b hb;repeat first|(refine fe hb ?_;intro _ _ hb)|(refine fT hb ?_;intro hb))|refine rt ?_|refine gA rfl ?_|refine gB rfl ?_|apply cT rfl|apply cF rfl|(apply DM.gbT;rfl)|(apply DM.gbF;rfl)|intro h
    (apply AM.cond; (· rfl))
    · intro h3
      simp at h3
      obtain ⟨v, hv⟩ : ∃ v, p.hs[i]? = some v := ⟨_, List.getElem?_eq_getElem h3⟩
      have hok : okHd p i = (p.party v.peer v.label && p.target v.entry && decide (idxP (fun w : Hd => decide (w.peer = v.peer) && decide (w.label = v.label)) p.hs 0 = (i : Int))) := by simp [okHd, hv]
      repeat' first|refine Sp.g ?_|(intro b hb;repeat first|(refine fe hb ?_;intro _ _ hb)|(refine fT hb ?_;intro hb))|refine rt ?_|refine gA rfl ?_|refine gB rfl ?_|apply cT rfl|apply cF rfl|(apply DM.gbT;rfl)|(apply DM.gbF;rfl)|intro h
      (apply DM.ixV (row := v.row) (z := (i : Int)) (by omega) (row_get Hd.row hv); (· rfl); (· rfl))
      repeat' first|refine Sp.g ?_|(intro b hb;repeat first|(refine fe hb ?_;intro _ _ hb)|(refine fT hb ?_;intro hb))|refine rt ?_|refine gA rfl ?_|refine gB rfl ?_|apply cT rfl|apply cF rfl|(apply DM.gbT;rfl)|(apply DM.gbF;rfl)|intro h
      (apply DM.pcs (p81 p _ _); (· simp only [go_sem, Nat.reduceBEq, Nat.reduceAdd] <;> rfl); (· exact AVLes.refl _))
      repeat' first|refine Sp.g ?_|(intro b hb;repeat first|(refine fe hb ?_;intro _ _ hb)|(refine fT hb ?_;intro hb))|refine rt ?_|refine gA rfl ?_|refine gB rfl ?_|apply cT rfl|apply cF rfl|(apply DM.gbT;rfl)|(apply DM.gbF;rfl)|intro h
      · (apply DM.pcs (p34 p _); (· simp only [go_sem, Nat.reduceBEq, Nat.reduceAdd] <;> rfl); (· exact AVLes.refl _))
        repeat' first|refine Sp.g ?_|(intro b hb;repeat first|(refine fe hb ?_;intro _ _ hb)|(refine fT hb ?_;intro hb))|refine rt ?_|refine gA rfl ?_|refine gB rfl ?_|apply cT rfl|apply cF rfl|(apply DM.gbT;rfl)|(apply DM.gbF;rfl)|intro h
        · (apply DM.pcat (p82 _ 80 _ p.hs (fun w => decide (w.peer = v.peer) && decide (w.label = v.label)) call80 (fun w _ => p80 w v _ _ g_same)); (· simp only [go_sem, Nat.reduceBEq, Nat.reduceAdd] <;> rfl); (· exact AVLes.refl _))
          repeat' first|refine Sp.g ?_|(intro b hb;repeat first|(refine fe hb ?_;intro _ _ hb)|(refine fT hb ?_;intro hb))|refine rt ?_|refine gA rfl ?_|refine gB rfl ?_|apply cT rfl|apply cF rfl|(apply DM.gbT;rfl)|(apply DM.gbF;rfl)|intro h
          (apply AM.cond; (· rfl))
          · intro h4
            repeat' first|refine Sp.g ?_|(intro b hb;repeat first|(refine fe hb ?_;intro _ _ hb)|(refine fT hb ?_;intro hb))|refine rt ?_|refine gA rfl ?_|refine gB rfl ?_|apply cT rfl|apply cF rfl|(apply DM.gbT;rfl)|(apply DM.gbF;rfl)|intro h
            refine Sr.g ?_
            refine avle_eq ?_; rw [AV.bool.injEq]
            simp only [partsOk]
            rw [allI_false h3]
            · simp
            · rw [hok]; simp at *; simp [*]
          · intro h4
            repeat' first|refine Sp.g ?_|(intro b hb;repeat first|(refine fe hb ?_;intro _ _ hb)|(refine fT hb ?_;intro hb))|refine rt ?_|refine gA rfl ?_|refine gB rfl ?_|apply cT rfl|apply cF rfl|(apply DM.gbT;rfl)|(apply DM.gbF;rfl)|intro h
            refine AM.forget (H.setB b1 36 p.cells) ?_ ?_
            · (repeat' first|assumption|(apply Lk.go;constructor))
            refine AM.roundX (i + 1) ⟨rfl, by omega, fun j hj => ?_⟩ ?_ ?_
            · by_cases e : j = i
              · subst e; rw [hok]; simp at *; simp [*]
              · exact he j (by omega)
            · (repeat first | exact envle_nil _ | (refine envle_cons ?_ ?_; · (simp only [go_sem, Nat.reduceBEq, Nat.reduceAdd]; exact AVLe.refl _)))
              refine envle_cons ?_ ?_
              · simp only [go_sem, Nat.reduceBEq, Nat.reduceAdd]
                refine avle_int ?_
                rw [inc64 h3 ok.hs]
              exact envle_nil _
            · show p.hs.length - (i + 1) < p.hs.length - i
              omega
        · refine Sr.g ?_
          refine avle_eq ?_; rw [AV.bool.injEq]
          simp only [partsOk]
          rw [allI_false h3]
          · simp
          · rw [hok]; simp at *; simp [*]
      · refine Sr.g ?_
        refine avle_eq ?_; rw [AV.bool.injEq]
        simp only [partsOk]
        rw [allI_false h3]
        · simp
        · rw [hok]; simp at *; simp [*]
    · intro h3
      simp at h3
      have hall : allI p.hs.length (okHd p) = true := allI_true fun j hj => he j (by omega)
      repeat' first|refine Sp.g ?_|(intro b hb;repeat first|(refine fe hb ?_;intro _ _ hb)|(refine fT hb ?_;intro hb))|refine rt ?_|refine gA rfl ?_|refine gB rfl ?_|apply cT rfl|apply cF rfl|(apply DM.gbT;rfl)|(apply DM.gbF;rfl)|intro h
      refine AM.loopX (X := Nat) 0 (fun i => [(1, .ptr b1 0), (41, .vs 4 (p.os.map Of_.row)), (42, .int .i64 p.os.length), (43, .int .i64 i)]) (fun i H' => H' = H.setB b1 36 p.cells ∧ i ≤ p.os.length ∧ ∀ j, j < i → okOf p j = true) (fun i => p.os.length - i) ⟨rfl, by omega, fun j hj => by omega⟩ ?_ ?_
      · (repeat first | exact envle_nil _ | (refine envle_cons ?_ ?_; · (simp only [go_sem, Nat.reduceBEq, Nat.reduceAdd]; exact AVLe.refl _)))
        refine envle_cons ?_ (envle_cons ?_ (envle_nil _))
        · simp only [Env.get, Nat.reduceBEq, cond_true, cond_false, beq_self_eq_true]
          exact avle_int (by simp)
        · simp only [Env.get, Nat.reduceBEq, cond_true, cond_false, beq_self_eq_true]
          exact AVLe.refl _
      · clear he hi h3
        intro i H' ⟨e, hi, he⟩
        subst e
        repeat' first|refine Sp.g ?_|(intro b hb;repeat first|(refine fe hb ?_;intro _ _ hb)|(refine fT hb ?_;intro hb))|refine rt ?_|refine gA rfl ?_|refine gB rfl ?_|apply cT rfl|apply cF rfl|(apply DM.gbT;rfl)|(apply DM.gbF;rfl)|intro h
        (apply AM.cond; (· rfl))
        · intro h3
          simp at h3
          obtain ⟨v, hv⟩ : ∃ v, p.os[i]? = some v := ⟨_, List.getElem?_eq_getElem h3⟩
          have hok : okOf p i = (p.party v.peer v.label && p.target v.args && (decide (v.cond = -1) || p.target v.cond)) := by simp [okOf, hv]
          have fin : okOf p i = false → partsOk p = false := fun h => by simp only [partsOk]; rw [allI_false h3 h]; simp
          repeat' first|refine Sp.g ?_|(intro b hb;repeat first|(refine fe hb ?_;intro _ _ hb)|(refine fT hb ?_;intro hb))|refine rt ?_|refine gA rfl ?_|refine gB rfl ?_|apply cT rfl|apply cF rfl|(apply DM.gbT;rfl)|(apply DM.gbF;rfl)|intro h
          (apply DM.ixV (row := v.row) (z := (i : Int)) (by omega) (row_get Of_.row hv); (· rfl); (· rfl))
          repeat' first|refine Sp.g ?_|(intro b hb;repeat first|(refine fe hb ?_;intro _ _ hb)|(refine fT hb ?_;intro hb))|refine rt ?_|refine gA rfl ?_|refine gB rfl ?_|apply cT rfl|apply cF rfl|(apply DM.gbT;rfl)|(apply DM.gbF;rfl)|intro h
          (apply DM.pcs (p81 p _ _); (· simp only [go_sem, Nat.reduceBEq, Nat.reduceAdd] <;> rfl); (· exact AVLes.refl _))
          repeat' first|refine Sp.g ?_|(intro b hb;repeat first|(refine fe hb ?_;intro _ _ hb)|(refine fT hb ?_;intro hb))|refine rt ?_|refine gA rfl ?_|refine gB rfl ?_|apply cT rfl|apply cF rfl|(apply DM.gbT;rfl)|(apply DM.gbF;rfl)|intro h
          · (apply DM.pcs (p34 p _); (· simp only [go_sem, Nat.reduceBEq, Nat.reduceAdd] <;> rfl); (· exact AVLes.refl _))
            repeat' first|refine Sp.g ?_|(intro b hb;repeat first|(refine fe hb ?_;intro _ _ hb)|(refine fT hb ?_;intro hb))|refine rt ?_|refine gA rfl ?_|refine gB rfl ?_|apply cT rfl|apply cF rfl|(apply DM.gbT;rfl)|(apply DM.gbF;rfl)|intro h
            · (apply DM.pcs (p34 p _); (· simp only [go_sem, Nat.reduceBEq, Nat.reduceAdd] <;> rfl); (· exact AVLes.refl _))
              repeat' first|refine Sp.g ?_|(intro b hb;repeat first|(refine fe hb ?_;intro _ _ hb)|(refine fT hb ?_;intro hb))|refine rt ?_|refine gA rfl ?_|refine gB rfl ?_|apply cT rfl|apply cF rfl|(apply DM.gbT;rfl)|(apply DM.gbF;rfl)|intro h
              (apply AM.cond; (· rfl))
              · intro h4
                repeat' first|refine Sp.g ?_|(intro b hb;repeat first|(refine fe hb ?_;intro _ _ hb)|(refine fT hb ?_;intro hb))|refine rt ?_|refine gA rfl ?_|refine gB rfl ?_|apply cT rfl|apply cF rfl|(apply DM.gbT;rfl)|(apply DM.gbF;rfl)|intro h
                refine Sr.g ?_
                refine avle_eq ?_; rw [AV.bool.injEq, fin]
                rw [hok]; simp at *; simp [*]
              · intro h4
                repeat' first|refine Sp.g ?_|(intro b hb;repeat first|(refine fe hb ?_;intro _ _ hb)|(refine fT hb ?_;intro hb))|refine rt ?_|refine gA rfl ?_|refine gB rfl ?_|apply cT rfl|apply cF rfl|(apply DM.gbT;rfl)|(apply DM.gbF;rfl)|intro h
                refine AM.forget (H.setB b1 36 p.cells) ?_ ?_
                · (repeat' first|assumption|(apply Lk.go;constructor))
                refine AM.roundX (i + 1) ⟨rfl, by omega, fun j hj => ?_⟩ ?_ ?_
                · by_cases e : j = i
                  · subst e; rw [hok]; simp at *; simp [*]
                  · exact he j (by omega)
                · (repeat first | exact envle_nil _ | (refine envle_cons ?_ ?_; · (simp only [go_sem, Nat.reduceBEq, Nat.reduceAdd]; exact AVLe.refl _)))
                  refine envle_cons ?_ ?_
                  · simp only [go_sem, Nat.reduceBEq, Nat.reduceAdd]
                    refine avle_int ?_
                    rw [inc64 h3 ok.os]
                  exact envle_nil _
                · show p.os.length - (i + 1) < p.os.length - i
                  omega
            · refine AM.forget (H.setB b1 36 p.cells) ?_ ?_
              · (repeat' first|assumption|(apply Lk.go;constructor))
              refine AM.roundX (i + 1) ⟨rfl, by omega, fun j hj => ?_⟩ ?_ ?_
              · by_cases e : j = i
                · subst e; rw [hok]; simp at *; simp [*]
                · exact he j (by omega)
              · (repeat first | exact envle_nil _ | (refine envle_cons ?_ ?_; · (simp only [go_sem, Nat.reduceBEq, Nat.reduceAdd]; exact AVLe.refl _)))
                refine envle_cons ?_ ?_
                · simp only [go_sem, Nat.reduceBEq, Nat.reduceAdd]
                  refine avle_int ?_
                  rw [inc64 h3 ok.os]
                exact envle_nil _
              · show p.os.length - (i + 1) < p.os.length - i
                omega
            · refine Sr.g ?_
              refine avle_eq ?_; rw [AV.bool.injEq, fin]
              rw [hok]; simp at *; simp [*]
          · refine Sr.g ?_
            refine avle_eq ?_; rw [AV.bool.injEq, fin]
            rw [hok]; simp at *; simp [*]
        · intro h3
          simp at h3
          have hall2 : allI p.os.length (okOf p) = true := allI_true fun j hj => he j (by omega)
          repeat' first|refine Sp.g ?_|(intro b hb;repeat first|(refine fe hb ?_;intro _ _ hb)|(refine fT hb ?_;intro hb))|refine rt ?_|refine gA rfl ?_|refine gB rfl ?_|apply cT rfl|apply cF rfl|(apply DM.gbT;rfl)|(apply DM.gbF;rfl)|intro h
          all_goals (refine Sr.g ?_)
          all_goals (refine avle_eq ?_; rw [AV.bool.injEq, partsOk, hall, hall2, Bool.true_and, Bool.true_and, Bool.eq_iff_iff]; simp at *; omega)
def okIns (p : Prog) (x : Ins_) : Bool := formed x && (if x.op = 3 ∨ x.op = 5 then decide (x.n < p.vars.length) else if x.op = 19 ∨ x.op = 20 ∨ x.op = 22 then p.target x.n else true)
def okIx (p : Prog) (i : Nat) : Bool := match p.code[i]? with
  | none => false
  | some x => okIns p x
def validP (p : Prog) : Bool := isName p.name && inB p.role 0 5 && inB p.code.length 1 1000 && varsOk p.vars && partsOk p && allI p.code.length (okIx p)
theorem p11 (p : Prog) : Pure Tryz.prog 11 [p.av] (.bool (validP p)) := by
  refine ok_args fun ok => ?_
  refine pure_intro mo Tryz.func11 c11 fun H => ?_
  unfold e11 r11
  simp only [initEnv, initFrom]
  repeat' first|refine Sp.g ?_|(intro b hb;repeat first|(refine fe hb ?_;intro _ _ hb)|(refine fT hb ?_;intro hb))|refine rt ?_|refine gA rfl ?_|refine gB rfl ?_|apply cT rfl|apply cF rfl|(apply DM.gbT;rfl)|(apply DM.gbF;rfl)|intro h
  (apply DM.pcs (p67' _); (· simp only [go_sem, Nat.reduceBEq, Nat.reduceAdd] <;> rfl); (· exact AVLes.refl _))
  repeat' first|refine Sp.g ?_|(intro b hb;repeat first|(refine fe hb ?_;intro _ _ hb)|(refine fT hb ?_;intro hb))|refine rt ?_|refine gA rfl ?_|refine gB rfl ?_|apply cT rfl|apply cF rfl|(apply DM.gbT;rfl)|(apply DM.gbF;rfl)|intro h
  · (apply DM.pcs (p30 _ _ _); (· simp only [go_sem, Nat.reduceBEq, Nat.reduceAdd] <;> rfl); (· exact AVLes.refl _))
    repeat' first|refine Sp.g ?_|(intro b hb;repeat first|(refine fe hb ?_;intro _ _ hb)|(refine fT hb ?_;intro hb))|refine rt ?_|refine gA rfl ?_|refine gB rfl ?_|apply cT rfl|apply cF rfl|(apply DM.gbT;rfl)|(apply DM.gbF;rfl)|intro h
    · (apply DM.pcs (p30 _ _ _); (· simp only [go_sem, Nat.reduceBEq, Nat.reduceAdd] <;> rfl); (· exact AVLes.refl _))
      repeat' first|refine Sp.g ?_|(intro b hb;repeat first|(refine fe hb ?_;intro _ _ hb)|(refine fT hb ?_;intro hb))|refine rt ?_|refine gA rfl ?_|refine gB rfl ?_|apply cT rfl|apply cF rfl|(apply DM.gbT;rfl)|(apply DM.gbF;rfl)|intro h
      · (apply DM.pcs (p31 p); (· simp only [go_sem, Nat.reduceBEq, Nat.reduceAdd] <;> rfl); (· exact AVLes.refl _))
        repeat' first|refine Sp.g ?_|(intro b hb;repeat first|(refine fe hb ?_;intro _ _ hb)|(refine fT hb ?_;intro hb))|refine rt ?_|refine gA rfl ?_|refine gB rfl ?_|apply cT rfl|apply cF rfl|(apply DM.gbT;rfl)|(apply DM.gbF;rfl)|intro h
        · (apply DM.pcs (p32 p); (· simp only [go_sem, Nat.reduceBEq, Nat.reduceAdd] <;> rfl); (· exact AVLes.refl _))
          repeat' first|refine Sp.g ?_|(intro b hb;repeat first|(refine fe hb ?_;intro _ _ hb)|(refine fT hb ?_;intro hb))|refine rt ?_|refine gA rfl ?_|refine gB rfl ?_|apply cT rfl|apply cF rfl|(apply DM.gbT;rfl)|(apply DM.gbF;rfl)|intro h
          · (apply AM.cond; (· rfl))
            · intro h
              repeat' first|refine Sp.g ?_|(intro b hb;repeat first|(refine fe hb ?_;intro _ _ hb)|(refine fT hb ?_;intro hb))|refine rt ?_|refine gA rfl ?_|refine gB rfl ?_|apply cT rfl|apply cF rfl|(apply DM.gbT;rfl)|(apply DM.gbF;rfl)|intro h
              refine Sr.g ?_
              refine avle_eq ?_; rw [AV.bool.injEq]; simp at *; simp [validP, *]
            · intro h
              have hpre : (isName p.name && inB p.role 0 5 && inB p.code.length 1 1000 && varsOk p.vars && partsOk p) = true := by simp at *; simp [*]
              rename Nat => b1
              repeat' first|refine Sp.g ?_|(intro b hb;repeat first|(refine fe hb ?_;intro _ _ hb)|(refine fT hb ?_;intro hb))|refine rt ?_|refine gA rfl ?_|refine gB rfl ?_|apply cT rfl|apply cF rfl|(apply DM.gbT;rfl)|(apply DM.gbF;rfl)|intro h
              refine AM.loopX (X := Nat) 0 (fun i => [(1, .ptr b1 0), (33, .vs 3 (p.code.map Ins_.row)), (34, .int .i64 p.code.length), (35, .int .i64 i)]) (fun i H' => H' = H.setB b1 36 p.cells ∧ i ≤ p.code.length ∧ ∀ j, j < i → okIx p j = true) (fun i => p.code.length - i) ⟨rfl, by omega, fun j hj => by omega⟩ ?_ ?_
              · (repeat first | exact envle_nil _ | (refine envle_cons ?_ ?_; · (simp only [go_sem, Nat.reduceBEq, Nat.reduceAdd]; exact AVLe.refl _)))
                refine envle_cons ?_ (envle_cons ?_ (envle_nil _))
                · simp only [Env.get, Nat.reduceBEq, cond_true, cond_false, beq_self_eq_true]
                  exact avle_int (by simp)
                · simp only [Env.get, Nat.reduceBEq, cond_true, cond_false, beq_self_eq_true]
                  exact AVLe.refl _
              · intro i H' ⟨e, hi, he⟩
                subst e
                repeat' first|refine Sp.g ?_|(intro b hb;repeat first|(refine fe hb ?_;intro _ _ hb)|(refine fT hb ?_;intro hb))|refine rt ?_|refine gA rfl ?_|refine gB rfl ?_|apply cT rfl|apply cF rfl|(apply DM.gbT;rfl)|(apply DM.gbF;rfl)|intro h
                (apply AM.cond; (· rfl))
                · intro h3
                  simp at h3
                  obtain ⟨x, hx⟩ : ∃ v, p.code[i]? = some v := ⟨_, List.getElem?_eq_getElem h3⟩
                  have hok : okIx p i = okIns p x := by simp [okIx, hx]
                  have fin : okIx p i = false → validP p = false := fun h => by simp only [validP]; rw [allI_false h3 h]; simp
                  repeat' first|refine Sp.g ?_|(intro b hb;repeat first|(refine fe hb ?_;intro _ _ hb)|(refine fT hb ?_;intro hb))|refine rt ?_|refine gA rfl ?_|refine gB rfl ?_|apply cT rfl|apply cF rfl|(apply DM.gbT;rfl)|(apply DM.gbF;rfl)|intro h
                  (apply DM.ixV (row := x.row) (z := (i : Int)) (by omega) (row_get Ins_.row hx); (· rfl); (· rfl))
                  repeat' first|refine Sp.g ?_|(intro b hb;repeat first|(refine fe hb ?_;intro _ _ hb)|(refine fT hb ?_;intro hb))|refine rt ?_|refine gA rfl ?_|refine gB rfl ?_|apply cT rfl|apply cF rfl|(apply DM.gbT;rfl)|(apply DM.gbF;rfl)|intro h
                  (apply DM.pcs (p33 x); (· simp only [go_sem, Nat.reduceBEq, Nat.reduceAdd] <;> rfl); (· exact AVLes.refl _))
                  repeat' first|refine Sp.g ?_|(intro b hb;repeat first|(refine fe hb ?_;intro _ _ hb)|(refine fT hb ?_;intro hb))|refine rt ?_|refine gA rfl ?_|refine gB rfl ?_|apply cT rfl|apply cF rfl|(apply DM.gbT;rfl)|(apply DM.gbF;rfl)|(apply AM.condS;rfl)|intro h
                  all_goals try (apply DM.pcs (p34 p _); (· (simp only [List.map_cons, List.map_nil, EOpd.ev, Env.get, Nat.reduceBEq, cond_true, cond_false, beq_self_eq_true] <;> rfl)); (· exact AVLes.refl _))
                  all_goals (repeat' first|refine Sp.g ?_|(intro b hb;repeat first|(refine fe hb ?_;intro _ _ hb)|(refine fT hb ?_;intro hb))|refine rt ?_|refine gA rfl ?_|refine gB rfl ?_|apply cT rfl|apply cF rfl|(apply DM.gbT;rfl)|(apply DM.gbF;rfl)|(apply AM.condS;rfl)|intro h)
                  all_goals first
                    | (skip
                       refine Sr.g ?_
                       refine avle_eq ?_
                       rw [AV.bool.injEq, fin]
                       rw [hok]
                       simp at *
                       simp [okIns, *]
                       done)
                    | (skip
                       refine Sr.g ?_
                       refine avle_eq ?_
                       rw [AV.bool.injEq, fin]
                       rw [hok]
                       simp at *
                       simp [okIns, *]
                       omega)
                    | (skip
                       refine AM.forget (H.setB b1 36 p.cells) ?_ ?_
                       · (repeat' first|assumption|(apply Lk.go;constructor))
                       refine AM.roundX (i + 1) ⟨rfl, by omega, fun j hj => ?_⟩ ?_ ?_
                       · by_cases e : j = i
                         · subst e
                           rw [hok]
                           simp at *
                           simp [okIns, *]
                           try omega
                         · exact he j (by omega)
                       · (repeat first | exact envle_nil _ | (refine envle_cons ?_ ?_; · (simp only [go_sem, Nat.reduceBEq, Nat.reduceAdd]; exact AVLe.refl _)))
                         refine envle_cons ?_ ?_
                         · simp only [go_sem, Nat.reduceBEq, Nat.reduceAdd]
                           refine avle_int ?_
                           rw [inc64 h3 ok.code]
                         exact envle_nil _
                       · show p.code.length - (i + 1) < p.code.length - i
                         omega)
                · intro h3
                  simp at h3
                  repeat' first|refine Sp.g ?_|(intro b hb;repeat first|(refine fe hb ?_;intro _ _ hb)|(refine fT hb ?_;intro hb))|refine rt ?_|refine gA rfl ?_|refine gB rfl ?_|apply cT rfl|apply cF rfl|(apply DM.gbT;rfl)|(apply DM.gbF;rfl)|intro h
                  refine Sr.g ?_
                  refine avle_eq ?_; rw [AV.bool.injEq, validP, hpre, Bool.true_and, allI_true fun j hj => he j (by omega)]
        · refine Sr.g ?_
          refine avle_eq ?_; rw [AV.bool.injEq]; simp at *; simp [validP, *]
      · refine Sr.g ?_
        refine avle_eq ?_; rw [AV.bool.injEq]; simp at *; simp [validP, *]
    · refine Sr.g ?_
      refine avle_eq ?_; rw [AV.bool.injEq]; simp at *; simp [validP, *]
  · refine Sr.g ?_
    refine avle_eq ?_; rw [AV.bool.injEq]; simp at *; simp [validP, *]
theorem p55 (s : List UInt8) : Pure Tryz.prog 55 [.str s] (.agg [.int .i64 2, .int .i64 0, .str s]) := by
 refine pure_intro mo Tryz.func55 c55 fun H => ?_
 unfold e55 r55
 simp only [initEnv, initFrom]
 repeat' first|refine Sp.g ?_|(intro b hb;repeat first|(refine fe hb ?_;intro _ _ hb)|(refine fT hb ?_;intro hb))|refine rt ?_|refine gA rfl ?_|refine gB rfl ?_|apply cT rfl|apply cF rfl|(apply DM.gbT;rfl)|(apply DM.gbF;rfl)|intro h
 refine Sr.g ?_
 exact AVLe.refl _
theorem p95 (s : List UInt8) : Pure Tryz.prog 95 [.str s] (.bool (printable s)) := by
 refine pure_assume (G := s.length ≤ maxLen) (fun m vs h => by simp only [RvL, Rv] at h; obtain ⟨_, _, _, ⟨_, h⟩, _⟩ := h; exact h) fun hs => ?_
 refine pure_intro mo Tryz.func95 c95 fun H => ?_
 unfold e95 r95
 simp only [initEnv, initFrom]
 repeat' first|refine Sp.g ?_|(intro b hb;repeat first|(refine fe hb ?_;intro _ _ hb)|(refine fT hb ?_;intro hb))|refine rt ?_|refine gA rfl ?_|refine gB rfl ?_|apply cT rfl|apply cF rfl|(apply DM.gbT;rfl)|(apply DM.gbF;rfl)|intro h
 refine AM.loopX (X := Nat) 0 (fun i => [(0, .str s), (3, .int .i64 i)]) (fun i H' => H' = H ∧ i ≤ s.length ∧ printable s = (s.drop i).all okc) (fun i => s.length - i) ⟨rfl, by omega, rfl⟩ ?_ ?_
 ·(repeat first | exact envle_nil _ | (refine envle_cons ?_ ?_; · (simp only [go_sem, Nat.reduceBEq, Nat.reduceAdd]; exact AVLe.refl _)))
 ·intro i H' ⟨e, hi, he⟩
  subst e
  repeat' first|refine Sp.g ?_|(intro b hb;repeat first|(refine fe hb ?_;intro _ _ hb)|(refine fT hb ?_;intro hb))|refine rt ?_|refine gA rfl ?_|refine gB rfl ?_|apply cT rfl|apply cF rfl|(apply DM.gbT;rfl)|(apply DM.gbF;rfl)|intro h
  (apply AM.cond; (· rfl))
  ·intro h3
   simp at h3
   obtain ⟨c, hc⟩ := some_of h3
   rw [drop_of hc] at he
   simp only [List.all_cons] at he
   repeat' first|refine Sp.g ?_|(intro b hb;repeat first|(refine fe hb ?_;intro _ _ hb)|(refine fT hb ?_;intro hb))|refine rt ?_|refine gA rfl ?_|refine gB rfl ?_|apply cT rfl|apply cF rfl|(apply DM.gbT;rfl)|(apply DM.gbF;rfl)|intro h
   (apply DM.idxSs s .i64 i c (by omega) (by simpa using hc); (· rfl); (· rfl))
   repeat' first|refine Sp.g ?_|(intro b hb;repeat first|(refine fe hb ?_;intro _ _ hb)|(refine fT hb ?_;intro hb))|refine rt ?_|refine gA rfl ?_|refine gB rfl ?_|apply cT rfl|apply cF rfl|(apply DM.gbT;rfl)|(apply DM.gbF;rfl)|intro h
   ·(apply DM.idxSs s .i64 i c (by omega) (by simpa using hc); (· rfl); (· rfl))
    repeat' first|refine Sp.g ?_|(intro b hb;repeat first|(refine fe hb ?_;intro _ _ hb)|(refine fT hb ?_;intro hb))|refine rt ?_|refine gA rfl ?_|refine gB rfl ?_|apply cT rfl|apply cF rfl|(apply DM.gbT;rfl)|(apply DM.gbF;rfl)|intro h
    (apply AM.cond; (· rfl))
    ·intro h4
     have hk : okc c = false := by simp at *; simp [okc]; omega
     repeat' first|refine Sp.g ?_|(intro b hb;repeat first|(refine fe hb ?_;intro _ _ hb)|(refine fT hb ?_;intro hb))|refine rt ?_|refine gA rfl ?_|refine gB rfl ?_|apply cT rfl|apply cF rfl|(apply DM.gbT;rfl)|(apply DM.gbF;rfl)|intro h
     refine Sr.g ?_
     refine avle_eq ?_
     rw [he, hk]; rfl
    ·intro h4
     have hk : okc c = true := by simp at *; simp [okc]; omega
     repeat' first|refine Sp.g ?_|(intro b hb;repeat first|(refine fe hb ?_;intro _ _ hb)|(refine fT hb ?_;intro hb))|refine rt ?_|refine gA rfl ?_|refine gB rfl ?_|apply cT rfl|apply cF rfl|(apply DM.gbT;rfl)|(apply DM.gbF;rfl)|intro h
     rw [hk, Bool.true_and] at he
     refine AM.roundX (i + 1) ⟨rfl, by omega, he⟩ ?_ ?_
     ·(repeat first | exact envle_nil _ | (refine envle_cons ?_ ?_; · (simp only [go_sem, Nat.reduceBEq, Nat.reduceAdd]; exact AVLe.refl _)))
      refine envle_cons ?_ ?_
      ·simp only [go_sem, Nat.reduceBEq, Nat.reduceAdd]
       refine avle_int ?_
       rw [inc64 h3 hs]
      exact envle_nil _
     ·show s.length - (i + 1) < s.length - i
      omega
   ·have hk : okc c = false := by simp at *; simp [okc]; omega
    refine Sr.g ?_
    refine avle_eq ?_
    rw [he, hk]; rfl
  ·intro h3
   repeat' first|refine Sp.g ?_|(intro b hb;repeat first|(refine fe hb ?_;intro _ _ hb)|(refine fT hb ?_;intro hb))|refine rt ?_|refine gA rfl ?_|refine gB rfl ?_|apply cT rfl|apply cF rfl|(apply DM.gbT;rfl)|(apply DM.gbF;rfl)|intro h
   refine Sr.g ?_
   refine avle_eq ?_
   simp at h3
   rw [he, List.drop_eq_nil_of_le (by omega)]; rfl
theorem p56 (v : Val) : Pure Tryz.prog 56 [v.av] (.bool (validV v)) := by
 refine pure_intro mo Tryz.func56 c56 fun H => ?_
 unfold e56 r56
 simp only [initEnv, initFrom]
 repeat' first|refine Sp.g ?_|(intro b hb;repeat first|(refine fe hb ?_;intro _ _ hb)|(refine fT hb ?_;intro hb))|refine rt ?_|refine gA rfl ?_|refine gB rfl ?_|apply cT rfl|apply cF rfl|(apply DM.gbT;rfl)|(apply DM.gbF;rfl)|intro h
 (apply AM.cond; (· rfl))
 ·intro h1
  repeat' first|refine Sp.g ?_|(intro b hb;repeat first|(refine fe hb ?_;intro _ _ hb)|(refine fT hb ?_;intro hb))|refine rt ?_|refine gA rfl ?_|refine gB rfl ?_|apply cT rfl|apply cF rfl|(apply DM.gbT;rfl)|(apply DM.gbF;rfl)|intro h
  all_goals (refine Sr.g ?_)
  all_goals (refine avle_eq ?_; rw [AV.bool.injEq]; simp [validV] at *; try (simp [*]; done))
  all_goals (simp [*]; try omega)
 ·intro h1
  repeat' first|refine Sp.g ?_|(intro b hb;repeat first|(refine fe hb ?_;intro _ _ hb)|(refine fT hb ?_;intro hb))|refine rt ?_|refine gA rfl ?_|refine gB rfl ?_|apply cT rfl|apply cF rfl|(apply DM.gbT;rfl)|(apply DM.gbF;rfl)|intro h
  (apply AM.cond; (· rfl))
  ·intro h2
   repeat' first|refine Sp.g ?_|(intro b hb;repeat first|(refine fe hb ?_;intro _ _ hb)|(refine fT hb ?_;intro hb))|refine rt ?_|refine gA rfl ?_|refine gB rfl ?_|apply cT rfl|apply cF rfl|(apply DM.gbT;rfl)|(apply DM.gbF;rfl)|intro h
   ·(apply DM.pcs (p95 _); (· simp only [go_sem, Nat.reduceBEq, Nat.reduceAdd] <;> rfl); (· exact AVLes.refl _))
    repeat' first|refine Sp.g ?_|(intro b hb;repeat first|(refine fe hb ?_;intro _ _ hb)|(refine fT hb ?_;intro hb))|refine rt ?_|refine gA rfl ?_|refine gB rfl ?_|apply cT rfl|apply cF rfl|(apply DM.gbT;rfl)|(apply DM.gbF;rfl)|intro h
    refine Sr.g ?_
    refine avle_eq ?_; rw [AV.bool.injEq]; simp [validV] at *; simp [*]
    omega
   all_goals (refine Sr.g ?_)
   all_goals (refine avle_eq ?_; rw [AV.bool.injEq]; simp [validV] at *; try (simp [*]; done))
   all_goals (simp [*]; try omega)
  ·intro h2
   repeat' first|refine Sp.g ?_|(intro b hb;repeat first|(refine fe hb ?_;intro _ _ hb)|(refine fT hb ?_;intro hb))|refine rt ?_|refine gA rfl ?_|refine gB rfl ?_|apply cT rfl|apply cF rfl|(apply DM.gbT;rfl)|(apply DM.gbF;rfl)|intro h
   refine Sr.g ?_
   refine avle_eq ?_; rw [AV.bool.injEq]; simp [validV] at *; simp [*]
theorem p115 (v : Val) : Pure Tryz.prog 115 [v.av] (.int .i64 (numberV v)) := by
 refine pure_intro mo Tryz.func115 c115 fun H => ?_
 unfold e115 r115
 simp only [initEnv, initFrom]
 repeat' first|refine Sp.g ?_|(intro b hb;repeat first|(refine fe hb ?_;intro _ _ hb)|(refine fT hb ?_;intro hb))|refine rt ?_|refine gA rfl ?_|refine gB rfl ?_|apply cT rfl|apply cF rfl|(apply DM.gbT;rfl)|(apply DM.gbF;rfl)|intro h
 (apply AM.cond; (· rfl))
 ·intro h1
  repeat' first|refine Sp.g ?_|(intro b hb;repeat first|(refine fe hb ?_;intro _ _ hb)|(refine fT hb ?_;intro hb))|refine rt ?_|refine gA rfl ?_|refine gB rfl ?_|apply cT rfl|apply cF rfl|(apply DM.gbT;rfl)|(apply DM.gbF;rfl)|intro h
  refine Sr.g ?_
  refine avle_int ?_; simp [numberV] at *; simp [*]
 ·intro h1
  repeat' first|refine Sp.g ?_|(intro b hb;repeat first|(refine fe hb ?_;intro _ _ hb)|(refine fT hb ?_;intro hb))|refine rt ?_|refine gA rfl ?_|refine gB rfl ?_|apply cT rfl|apply cF rfl|(apply DM.gbT;rfl)|(apply DM.gbF;rfl)|intro h
  (apply AM.cond; (· rfl))
  ·intro h2
   repeat' first|refine Sp.g ?_|(intro b hb;repeat first|(refine fe hb ?_;intro _ _ hb)|(refine fT hb ?_;intro hb))|refine rt ?_|refine gA rfl ?_|refine gB rfl ?_|apply cT rfl|apply cF rfl|(apply DM.gbT;rfl)|(apply DM.gbF;rfl)|intro h
   refine Sr.g ?_
   refine avle_int ?_; simp [numberV] at *; simp [*]
  ·intro h2
   repeat' first|refine Sp.g ?_|(intro b hb;repeat first|(refine fe hb ?_;intro _ _ hb)|(refine fT hb ?_;intro hb))|refine rt ?_|refine gA rfl ?_|refine gB rfl ?_|apply cT rfl|apply cF rfl|(apply DM.gbT;rfl)|(apply DM.gbF;rfl)|intro h
   refine Sr.g ?_
   refine avle_int ?_; simp [numberV] at *; simp [*]
theorem p114 (s : Sort_) : Pure Tryz.prog 114 [s.av] (.bool (validS s)) := by
 refine pure_intro mo Tryz.func114 c114 fun H => ?_
 unfold e114 r114
 simp only [initEnv, initFrom]
 repeat' first|refine Sp.g ?_|(intro b hb;repeat first|(refine fe hb ?_;intro _ _ hb)|(refine fT hb ?_;intro hb))|refine rt ?_|refine gA rfl ?_|refine gB rfl ?_|apply cT rfl|apply cF rfl|(apply DM.gbT;rfl)|(apply DM.gbF;rfl)|intro h
 (apply AM.cond; (· rfl))
 ·intro h1
  repeat' first|refine Sp.g ?_|(intro b hb;repeat first|(refine fe hb ?_;intro _ _ hb)|(refine fT hb ?_;intro hb))|refine rt ?_|refine gA rfl ?_|refine gB rfl ?_|apply cT rfl|apply cF rfl|(apply DM.gbT;rfl)|(apply DM.gbF;rfl)|intro h
  all_goals (refine Sr.g ?_)
  all_goals (refine avle_eq ?_; rw [AV.bool.injEq]; simp [validS] at *; try (simp [*]; done))
  all_goals (simp [*]; try omega)
 ·intro h1
  repeat' first|refine Sp.g ?_|(intro b hb;repeat first|(refine fe hb ?_;intro _ _ hb)|(refine fT hb ?_;intro hb))|refine rt ?_|refine gA rfl ?_|refine gB rfl ?_|apply cT rfl|apply cF rfl|(apply DM.gbT;rfl)|(apply DM.gbF;rfl)|intro h
  (apply AM.cond; (· rfl))
  ·intro h2
   repeat' first|refine Sp.g ?_|(intro b hb;repeat first|(refine fe hb ?_;intro _ _ hb)|(refine fT hb ?_;intro hb))|refine rt ?_|refine gA rfl ?_|refine gB rfl ?_|apply cT rfl|apply cF rfl|(apply DM.gbT;rfl)|(apply DM.gbF;rfl)|intro h
   all_goals (refine Sr.g ?_)
   all_goals (refine avle_eq ?_; rw [AV.bool.injEq]; simp [validS] at *; try (simp [*]; done))
   all_goals (simp [*]; try omega)
  ·intro h2
   repeat' first|refine Sp.g ?_|(intro b hb;repeat first|(refine fe hb ?_;intro _ _ hb)|(refine fT hb ?_;intro hb))|refine rt ?_|refine gA rfl ?_|refine gB rfl ?_|apply cT rfl|apply cF rfl|(apply DM.gbT;rfl)|(apply DM.gbF;rfl)|intro h
   refine Sr.g ?_
   refine avle_eq ?_; rw [AV.bool.injEq]; simp [validS] at *; simp [*]
theorem p86 (s : Sort_) (v : Val) : Pure Tryz.prog 86 [s.av, v.av] (.bool (fitsV s v)) := by
 refine pure_intro mo Tryz.func86 c86 fun H => ?_
 unfold e86 r86
 simp only [initEnv, initFrom]
 repeat' first|refine Sp.g ?_|(intro b hb;repeat first|(refine fe hb ?_;intro _ _ hb)|(refine fT hb ?_;intro hb))|refine gA rfl ?_|refine gB rfl ?_|apply cT rfl|apply cF rfl|(apply DM.gbT;rfl)|(apply DM.gbF;rfl)|intro h
 (refine AM.reg [.bool (validS s), .bool (validV v), .int .i64 (numberV v), .int .i64 (numberV v)] ?_; simp only [annotate, AV.rows])
 repeat' first|refine Sp.g ?_|(intro b hb;repeat first|(refine fe hb ?_;intro _ _ hb)|(refine fT hb ?_;intro hb))|refine rt ?_|refine gA rfl ?_|refine gB rfl ?_|apply cT rfl|apply cF rfl|(apply DM.gbT;rfl)|(apply DM.gbF;rfl)|intro h
 (apply DM.pcRs (p114 s); (· simp only [go_sem, Nat.reduceBEq, Nat.reduceAdd] <;> rfl); (· exact AVLes.refl _))
 repeat' first|refine Sp.g ?_|(intro b hb;repeat first|(refine fe hb ?_;intro _ _ hb)|(refine fT hb ?_;intro hb))|refine rt ?_|refine gA rfl ?_|refine gB rfl ?_|apply cT rfl|apply cF rfl|(apply DM.gbT;rfl)|(apply DM.gbF;rfl)|intro h
 ·(apply DM.pcRs (p56 v); (· simp only [go_sem, Nat.reduceBEq, Nat.reduceAdd] <;> rfl); (· exact AVLes.refl _))
  repeat' first|refine Sp.g ?_|(intro b hb;repeat first|(refine fe hb ?_;intro _ _ hb)|(refine fT hb ?_;intro hb))|refine rt ?_|refine gA rfl ?_|refine gB rfl ?_|apply cT rfl|apply cF rfl|(apply DM.gbT;rfl)|(apply DM.gbF;rfl)|intro h
  ·(apply DM.pcRs (p115 v); (· simp only [go_sem, Nat.reduceBEq, Nat.reduceAdd] <;> rfl); (· exact AVLes.refl _))
   repeat' first|refine Sp.g ?_|(intro b hb;repeat first|(refine fe hb ?_;intro _ _ hb)|(refine fT hb ?_;intro hb))|refine rt ?_|refine gA rfl ?_|refine gB rfl ?_|apply cT rfl|apply cF rfl|(apply DM.gbT;rfl)|(apply DM.gbF;rfl)|intro h
   ·(apply DM.pcRs (p115 v); (· simp only [go_sem, Nat.reduceBEq, Nat.reduceAdd] <;> rfl); (· exact AVLes.refl _))
    repeat' first|refine Sp.g ?_|(intro b hb;repeat first|(refine fe hb ?_;intro _ _ hb)|(refine fT hb ?_;intro hb))|refine rt ?_|refine gA rfl ?_|refine gB rfl ?_|apply cT rfl|apply cF rfl|(apply DM.gbT;rfl)|(apply DM.gbF;rfl)|intro h
    refine Sr.g ?_
    refine avle_eq ?_; rw [AV.bool.injEq]; simp [fitsV] at *; simp [*]; try omega
   all_goals (refine Sr.g ?_)
   all_goals (refine avle_eq ?_; rw [AV.bool.injEq]; simp [fitsV] at *; simp [*]; try omega)
  all_goals (refine Sr.g ?_)
  all_goals (refine avle_eq ?_; rw [AV.bool.injEq]; simp [fitsV] at *; simp [*]; try omega)
 all_goals (refine Sr.g ?_)
 all_goals (refine avle_eq ?_; rw [AV.bool.injEq]; simp [fitsV] at *; simp [*]; try omega)
theorem p113 (c : UInt8) : Pure Tryz.prog 113 [.int .u8 c.toNat] (.bool (digit c)) := by
  refine pure_intro mo Tryz.func113 c113 fun H => ?_
  unfold e113 r113
  simp only [initEnv, initFrom]
  repeat' first|refine Sp.g ?_|(intro b hb;repeat first|(refine fe hb ?_;intro _ _ hb)|(refine fT hb ?_;intro hb))|refine rt ?_|refine gA rfl ?_|refine gB rfl ?_|apply cT rfl|apply cF rfl|(apply DM.gbT;rfl)|(apply DM.gbF;rfl)|intro h
  all_goals (refine Sr.g ?_)
  all_goals (refine avle_eq ?_; rw [AV.bool.injEq, Bool.eq_iff_iff]; simp [digit] at *; try omega)
theorem p84 (c : UInt8) : Pure Tryz.prog 84 [.int .u8 c.toNat] (.bool (letter c)) := by
  refine pure_intro mo Tryz.func84 c84 fun H => ?_
  unfold e84 r84
  simp only [initEnv, initFrom]
  repeat' first|refine Sp.g ?_|(intro b hb;repeat first|(refine fe hb ?_;intro _ _ hb)|(refine fT hb ?_;intro hb))|refine rt ?_|refine gA rfl ?_|refine gB rfl ?_|apply cT rfl|apply cF rfl|(apply DM.gbT;rfl)|(apply DM.gbF;rfl)|intro h
  all_goals (refine Sr.g ?_)
  all_goals (refine avle_eq ?_; rw [AV.bool.injEq, Bool.eq_iff_iff]; simp [letter] at *; try omega)
theorem p85 (c : UInt8) : Pure Tryz.prog 85 [.int .u8 c.toNat] (.bool (inner c)) := by
  refine pure_intro mo Tryz.func85 c85 fun H => ?_
  unfold e85 r85
  simp only [initEnv, initFrom]
  repeat' first|refine Sp.g ?_|(intro b hb;repeat first|(refine fe hb ?_;intro _ _ hb)|(refine fT hb ?_;intro hb))|refine rt ?_|refine gA rfl ?_|refine gB rfl ?_|apply cT rfl|apply cF rfl|(apply DM.gbT;rfl)|(apply DM.gbF;rfl)|intro h
  (apply DM.pcs (p84 _); (· simp only [go_sem, Nat.reduceBEq, Nat.reduceAdd] <;> rfl); (· exact AVLes.refl _))
  repeat' first|refine Sp.g ?_|(intro b hb;repeat first|(refine fe hb ?_;intro _ _ hb)|(refine fT hb ?_;intro hb))|refine rt ?_|refine gA rfl ?_|refine gB rfl ?_|apply cT rfl|apply cF rfl|(apply DM.gbT;rfl)|(apply DM.gbF;rfl)|intro h
  · skip
    (apply DM.pcs (p113 _); (· simp only [go_sem, Nat.reduceBEq, Nat.reduceAdd] <;> rfl); (· exact AVLes.refl _))
    repeat' first|refine Sp.g ?_|(intro b hb;repeat first|(refine fe hb ?_;intro _ _ hb)|(refine fT hb ?_;intro hb))|refine rt ?_|refine gA rfl ?_|refine gB rfl ?_|apply cT rfl|apply cF rfl|(apply DM.gbT;rfl)|(apply DM.gbF;rfl)|intro h
    all_goals (refine Sr.g ?_)
    all_goals (refine avle_eq ?_; rw [AV.bool.injEq, Bool.eq_iff_iff]; simp [inner] at *; first | omega | (simp [*]; done) | (simp [*]; omega))
  all_goals (refine Sr.g ?_)
  all_goals (refine avle_eq ?_; rw [AV.bool.injEq, Bool.eq_iff_iff]; simp [inner] at *; first | omega | (simp [*]; done) | (simp [*]; omega))
theorem p35h (s : List UInt8) (hs : s.length ≤ maxLen) : Pure Tryz.prog 35 [.str s] (.bool (isName s)) := by
  cases s with
  | nil =>
    refine pure_intro mo Tryz.func35 c35 fun H => ?_
    unfold e35 r35
    simp only [initEnv, initFrom]
    repeat' first|refine Sp.g ?_|(intro b hb;repeat first|(refine fe hb ?_;intro _ _ hb)|(refine fT hb ?_;intro hb))|refine rt ?_|refine gA rfl ?_|refine gB rfl ?_|apply cT rfl|apply cF rfl|(apply DM.gbT;rfl)|(apply DM.gbF;rfl)|intro h
    refine Sr.g ?_
    exact AVLe.refl _
  | cons c l =>
    have hn : isName (c :: l) = (letter c && (c :: l).all inner && decide ((c :: l).length ≤ 16)) := rfl
    obtain ⟨s, hS⟩ : ∃ s, c :: l = s := ⟨_, rfl⟩
    have h0 : s[0]? = some c := by rw [← hS]; rfl
    have hne : ¬ (s = []) := by rw [← hS]; simp
    rw [hS] at hs hn ⊢
    clear hS
    refine pure_intro mo Tryz.func35 c35 fun H => ?_
    unfold e35 r35
    simp only [initEnv, initFrom]
    repeat' first|refine Sp.g ?_|(intro b hb;repeat first|(refine fe hb ?_;intro _ _ hb)|(refine fT hb ?_;intro hb))|refine rt ?_|refine gA rfl ?_|refine gB rfl ?_|apply cT rfl|apply cF rfl|(apply DM.gbT;rfl)|(apply DM.gbF;rfl)|intro h
    · skip
      (apply DM.idxSs s .i64 0 c (by decide) h0; (· rfl); (· rfl))
      repeat' first|refine Sp.g ?_|(intro b hb;repeat first|(refine fe hb ?_;intro _ _ hb)|(refine fT hb ?_;intro hb))|refine rt ?_|refine gA rfl ?_|refine gB rfl ?_|apply cT rfl|apply cF rfl|(apply DM.gbT;rfl)|(apply DM.gbF;rfl)|intro h
      (apply DM.pcs (p84 _); (· simp only [go_sem, Nat.reduceBEq, Nat.reduceAdd] <;> rfl); (· exact AVLes.refl _))
      repeat' first|refine Sp.g ?_|(intro b hb;repeat first|(refine fe hb ?_;intro _ _ hb)|(refine fT hb ?_;intro hb))|refine rt ?_|refine gA rfl ?_|refine gB rfl ?_|apply cT rfl|apply cF rfl|(apply DM.gbT;rfl)|(apply DM.gbF;rfl)|intro h
      · skip
        (apply AM.cond; (· rfl))
        · intro h1
          repeat' first|refine Sp.g ?_|(intro b hb;repeat first|(refine fe hb ?_;intro _ _ hb)|(refine fT hb ?_;intro hb))|refine rt ?_|refine gA rfl ?_|refine gB rfl ?_|apply cT rfl|apply cF rfl|(apply DM.gbT;rfl)|(apply DM.gbF;rfl)|intro h
          refine Sr.g ?_
          refine avle_eq ?_; rw [AV.bool.injEq, hn]
          simp at h1
          have : decide (s.length ≤ 16) = false := by simp; omega
          rw [this, Bool.and_false]
        · intro h1
          repeat' first|refine Sp.g ?_|(intro b hb;repeat first|(refine fe hb ?_;intro _ _ hb)|(refine fT hb ?_;intro hb))|refine rt ?_|refine gA rfl ?_|refine gB rfl ?_|apply cT rfl|apply cF rfl|(apply DM.gbT;rfl)|(apply DM.gbF;rfl)|intro h
          refine AM.loopX (X := Nat) 0 (fun i => [(0, .str s), (3, .int .i64 i)]) (fun i H' => H' = H ∧ i ≤ s.length ∧ isName s = (s.drop i).all inner) (fun i => s.length - i) ⟨rfl, by omega, ?_⟩ ?_ ?_
          · simp at h h1
            rw [hn, h]
            simp
            intro _; omega
          · (repeat first | exact envle_nil _ | (refine envle_cons ?_ ?_; · (simp only [go_sem, Nat.reduceBEq, Nat.reduceAdd]; exact AVLe.refl _)))
          · intro i H' ⟨e, hi, he⟩
            subst e
            repeat' first|refine Sp.g ?_|(intro b hb;repeat first|(refine fe hb ?_;intro _ _ hb)|(refine fT hb ?_;intro hb))|refine rt ?_|refine gA rfl ?_|refine gB rfl ?_|apply cT rfl|apply cF rfl|(apply DM.gbT;rfl)|(apply DM.gbF;rfl)|intro h
            (apply AM.cond; (· rfl))
            · intro h3
              simp at h3
              obtain ⟨c, hc⟩ := some_of h3
              have hd := drop_of hc
              repeat' first|refine Sp.g ?_|(intro b hb;repeat first|(refine fe hb ?_;intro _ _ hb)|(refine fT hb ?_;intro hb))|refine rt ?_|refine gA rfl ?_|refine gB rfl ?_|apply cT rfl|apply cF rfl|(apply DM.gbT;rfl)|(apply DM.gbF;rfl)|intro h
              (apply DM.idxSs s .i64 i c (by omega) (by simpa using hc); (· rfl); (· rfl))
              repeat' first|refine Sp.g ?_|(intro b hb;repeat first|(refine fe hb ?_;intro _ _ hb)|(refine fT hb ?_;intro hb))|refine rt ?_|refine gA rfl ?_|refine gB rfl ?_|apply cT rfl|apply cF rfl|(apply DM.gbT;rfl)|(apply DM.gbF;rfl)|intro h
              (apply DM.pcs (p85 _); (· simp only [go_sem, Nat.reduceBEq, Nat.reduceAdd] <;> rfl); (· exact AVLes.refl _))
              repeat' first|refine Sp.g ?_|(intro b hb;repeat first|(refine fe hb ?_;intro _ _ hb)|(refine fT hb ?_;intro hb))|refine rt ?_|refine gA rfl ?_|refine gB rfl ?_|apply cT rfl|apply cF rfl|(apply DM.gbT;rfl)|(apply DM.gbF;rfl)|intro h
              (apply AM.cond; (· rfl))
              · intro h4
                repeat' first|refine Sp.g ?_|(intro b hb;repeat first|(refine fe hb ?_;intro _ _ hb)|(refine fT hb ?_;intro hb))|refine rt ?_|refine gA rfl ?_|refine gB rfl ?_|apply cT rfl|apply cF rfl|(apply DM.gbT;rfl)|(apply DM.gbF;rfl)|intro h
                refine Sr.g ?_
                refine avle_eq ?_
                simp at h4
                rw [he, hd]; simp [h4]
              · intro h4
                repeat' first|refine Sp.g ?_|(intro b hb;repeat first|(refine fe hb ?_;intro _ _ hb)|(refine fT hb ?_;intro hb))|refine rt ?_|refine gA rfl ?_|refine gB rfl ?_|apply cT rfl|apply cF rfl|(apply DM.gbT;rfl)|(apply DM.gbF;rfl)|intro h
                refine AM.roundX (i + 1) ⟨rfl, by omega, ?_⟩ ?_ ?_
                · simp at h4
                  rw [he, hd]; simp [h4]
                · (repeat first | exact envle_nil _ | (refine envle_cons ?_ ?_; · (simp only [go_sem, Nat.reduceBEq, Nat.reduceAdd]; exact AVLe.refl _)))
                  refine envle_cons ?_ ?_
                  · simp only [go_sem, Nat.reduceBEq, Nat.reduceAdd]
                    refine avle_int ?_
                    rw [inc64 h3 hs]
                  exact envle_nil _
                · show s.length - (i + 1) < s.length - i
                  omega
            · intro h3
              repeat' first|refine Sp.g ?_|(intro b hb;repeat first|(refine fe hb ?_;intro _ _ hb)|(refine fT hb ?_;intro hb))|refine rt ?_|refine gA rfl ?_|refine gB rfl ?_|apply cT rfl|apply cF rfl|(apply DM.gbT;rfl)|(apply DM.gbF;rfl)|intro h
              refine Sr.g ?_
              refine avle_eq ?_
              simp at h3
              rw [he, List.drop_eq_nil_of_le (by omega)]; rfl
      · refine Sr.g ?_
        simp at h
        refine avle_eq ?_; rw [AV.bool.injEq, hn, h]; simp
    · exact absurd (by simpa using h) hne
theorem p35 (s : List UInt8) : Pure Tryz.prog 35 [.str s] (.bool (isName s)) :=
  pure_assume (G := s.length ≤ maxLen) (fun m vs h => by simp only [RvL, Rv] at h; obtain ⟨_, _, _, ⟨_, h⟩, _⟩ := h; exact h) (p35h s)
theorem p52 (op : Int) : Pure Tryz.prog 52 [.int .i64 op] (.tup [.int .i64 (numd op).1, .int .i64 (numd op).2.1]) := by
  have key : ∀ {a b : Int} {c : Bool}, numd op = (a, b, c) → AVLe (.tup [.int .i64 a, .int .i64 b]) (.tup [.int .i64 (numd op).1, .int .i64 (numd op).2.1]) := by
    intro a b c h
    rw [h]
    exact AVLe.refl _
  refine pure_intro mo Tryz.func52 c52 fun H => ?_
  unfold e52 r52
  simp only [initEnv, initFrom]
  repeat' first|refine Sp.g ?_|(intro b hb;repeat first|(refine fe hb ?_;intro _ _ hb)|(refine fT hb ?_;intro hb))|refine rt ?_|refine gA rfl ?_|refine gB rfl ?_|apply cT rfl|apply cF rfl|(apply DM.gbT;rfl)|(apply DM.gbF;rfl)|(apply AM.condS;rfl)|intro h
  all_goals (refine Sr.g ?_)
  all_goals first | (refine key (c := true) ?_; clear key; simp at *; simp [numd, *]; done) | (refine key (c := false) ?_; clear key; simp at *; simp [numd, *]; done)
theorem p38 (op : Int) : Pure Tryz.prog 38 [.int .i64 op] (.bool (decide (op = 19) || decide (op = 20) || decide (op = 22))) := by
  refine pure_intro mo Tryz.func38 c38 fun H => ?_
  unfold e38 r38
  simp only [initEnv, initFrom]
  repeat' first|refine Sp.g ?_|(intro b hb;repeat first|(refine fe hb ?_;intro _ _ hb)|(refine fT hb ?_;intro hb))|refine rt ?_|refine gA rfl ?_|refine gB rfl ?_|apply cT rfl|apply cF rfl|(apply DM.gbT;rfl)|(apply DM.gbF;rfl)|intro h
  all_goals (refine Sr.g ?_)
  all_goals (refine avle_eq ?_; rw [AV.bool.injEq, Bool.eq_iff_iff]; simp at *; try omega)
theorem p37 (peer label role : Int) : Pure Tryz.prog 37 [.int .i64 peer, .int .i64 label, .int .i64 role] (.bool (inB peer 0 5 && decide (peer ≠ role) && inB label 0 39)) := by
  refine pure_intro mo Tryz.func37 c37 fun H => ?_
  unfold e37 r37
  simp only [initEnv, initFrom]
  repeat' first|refine Sp.g ?_|(intro b hb;repeat first|(refine fe hb ?_;intro _ _ hb)|(refine fT hb ?_;intro hb))|refine rt ?_|refine gA rfl ?_|refine gB rfl ?_|apply cT rfl|apply cF rfl|(apply DM.gbT;rfl)|(apply DM.gbF;rfl)|intro h
  all_goals (refine Sr.g ?_)
  all_goals (refine avle_eq ?_; rw [AV.bool.injEq, Bool.eq_iff_iff]; simp [inB] at *; try omega)
theorem formed_eq (x : Ins_) : formed x = (inB x.op 1 24 && inB x.n (numd x.op).1 (numd x.op).2.1 && if x.op = 2 then validV ⟨2, 0, x.s⟩ else decide (x.s = [])) := by
  obtain ⟨op, n, s⟩ := x
  simp only [formed, numd, inB]
  by_cases h2 : op = 2
  · subst h2
    simp
    rw [Bool.eq_iff_iff]
    simp
    intro _
    omega
  · rw [if_neg h2, if_neg h2]
    split
    · rename_i h; subst h; simp
    · split
      · rename_i h; rcases h with h | h <;> subst h <;> simp
      · split
        · rename_i h; subst h; simp
        · split
          · rename_i h; rcases h with h | h | h <;> subst h <;> simp
          · split
            · rename_i h; subst h; simp
            · rw [Bool.eq_iff_iff]
              simp
              intro _ _ _
              omega
theorem p19 (x : Ins_) : Pure Tryz.prog 19 [x.av] (.bool (formed x)) := by
  have key : ∀ {b : Bool}, (inB x.op 1 24 && inB x.n (numd x.op).1 (numd x.op).2.1 && if x.op = 2 then validV ⟨2, 0, x.s⟩ else decide (x.s = [])) = b → AVLe (.bool b) (.bool (formed x)) := by
    intro b h
    rw [formed_eq, h]
    exact AVLe.refl _
  refine pure_intro mo Tryz.func19 c19 fun H => ?_
  unfold e19 r19
  simp only [initEnv, initFrom]
  repeat' first|refine Sp.g ?_|(intro b hb;repeat first|(refine fe hb ?_;intro _ _ hb)|(refine fT hb ?_;intro hb))|refine rt ?_|refine gA rfl ?_|refine gB rfl ?_|apply cT rfl|apply cF rfl|(apply DM.gbT;rfl)|(apply DM.gbF;rfl)|(apply AM.condS;rfl)|intro h
  all_goals try (
    skip
    (apply DM.pcs (p52 x.op); (· simp only [go_sem, Nat.reduceBEq, Nat.reduceAdd] <;> rfl); (· exact AVLes.refl _))
    repeat' first|refine Sp.g ?_|(intro b hb;repeat first|(refine fe hb ?_;intro _ _ hb)|(refine fT hb ?_;intro hb))|refine rt ?_|refine gA rfl ?_|refine gB rfl ?_|apply cT rfl|apply cF rfl|(apply DM.gbT;rfl)|(apply DM.gbF;rfl)|(apply AM.condS;rfl)|intro h
    )
  all_goals try (
    skip
    (apply DM.pcs (p55 x.s); (· simp only [go_sem, Nat.reduceBEq, Nat.reduceAdd] <;> rfl); (· exact AVLes.refl _))
    repeat' first|refine Sp.g ?_|(intro b hb;repeat first|(refine fe hb ?_;intro _ _ hb)|(refine fT hb ?_;intro hb))|refine rt ?_|refine gA rfl ?_|refine gB rfl ?_|apply cT rfl|apply cF rfl|(apply DM.gbT;rfl)|(apply DM.gbF;rfl)|intro h
    (apply DM.pcs (p56 ⟨2, 0, x.s⟩); (· simp only [go_sem, Nat.reduceBEq, Nat.reduceAdd] <;> rfl); (· exact AVLes.refl _))
    repeat' first|refine Sp.g ?_|(intro b hb;repeat first|(refine fe hb ?_;intro _ _ hb)|(refine fT hb ?_;intro hb))|refine rt ?_|refine gA rfl ?_|refine gB rfl ?_|apply cT rfl|apply cF rfl|(apply DM.gbT;rfl)|(apply DM.gbF;rfl)|intro h
    )
  all_goals (refine Sr.g ?_)
  all_goals (refine key ?_; clear key; simp only [decide_eq_true_eq, decide_eq_false_iff_not] at *)
  all_goals first
    | (have e1 : inB x.op 1 24 = false := by simp only [inB, Bool.and_eq_false_iff, decide_eq_false_iff_not]; omega
       rw [e1, Bool.false_and, Bool.false_and]
       done)
    | (have e2 : inB x.n (numd x.op).1 (numd x.op).2.1 = false := by simp only [inB, Bool.and_eq_false_iff, decide_eq_false_iff_not]; omega
       rw [e2, Bool.and_false, Bool.false_and]
       done)
    | (have e1 : inB x.op 1 24 = true := by simp only [inB, Bool.and_eq_true, decide_eq_true_eq]; omega
       have e2 : inB x.n (numd x.op).1 (numd x.op).2.1 = true := by simp only [inB, Bool.and_eq_true, decide_eq_true_eq]; omega
       rw [e1, e2, Bool.true_and, Bool.true_and]
       simp [*]
       done)
theorem idx_ge {α : Type} (q : α → Bool) : ∀ (l : List α) (i : Int), 0 ≤ i → idxP q l i = -1 ∨ i ≤ idxP q l i
 | [], i, _ => .inl rfl
 | a :: l, i, h => by
  simp only [idxP]
  split
  ·right; omega
  ·rcases idx_ge q l (i + 1) (by omega) with h | h
   ·exact .inl h
   ·right; omega
theorem idx_at {α : Type} {q : α → Bool} : ∀ {l : List α} {i : Nat} {v : α} (s : Int), 0 ≤ s → l[i]? = some v → q v = true → (∀ j w, j < i → l[j]? = some w → q w = false) → idxP q l s = s + i
 | [], i, v, s, _, h, _, _ => by simp at h
 | a :: l, 0, v, s, _, h, hq, _ => by
  simp at h
  subst h
  simp [idxP, hq]
 | a :: l, i + 1, v, s, hs, h, hq, hn => by
  simp only [idxP]
  rw [hn 0 a (by omega) rfl]
  simp only [Bool.false_eq_true, if_false]
  rw [idx_at (s + 1) (by omega) (by simpa using h) hq (fun j w hj hw => hn (j + 1) w (by omega) (by simpa using hw))]
  omega
theorem idx_lt {α : Type} {q : α → Bool} : ∀ {l : List α} {j : Nat} {w : α} (s : Int), 0 ≤ s → l[j]? = some w → q w = true → idxP q l s ≤ s + j
 | [], j, w, s, _, h, _ => by simp at h
 | a :: l, 0, w, s, _, h, hq => by
  simp at h
  subst h
  simp [idxP, hq]
 | a :: l, j + 1, w, s, hs, h, hq => by
  simp only [idxP]
  split
  ·omega
  ·have := idx_lt (s + 1) (by omega) (l := l) (j := j) (by simpa using h) hq
   omega
theorem p36 (vs : List Var_) : Pure Tryz.prog 36 [.vs 7 (vs.map Var_.row)] (.bool (varsOk vs)) := by
 refine pure_assume (G := vs.length ≤ maxLen) (fun m vs h => by simp only [RvL] at h; obtain ⟨_, _, _, h, _⟩ := h; simpa using vs_len h) fun hlen => ?_
 have bad : ∀ {i : Nat}, i < vs.length → okVar vs i = false → AVLe (.bool false) (.bool (varsOk vs)) := by
  intro i hi h
  refine avle_eq ?_
  rw [AV.bool.injEq, varsOk, allI_false hi h, Bool.false_and]
 refine pure_intro mo Tryz.func36 c36 fun H => ?_
 unfold e36 r36
 simp only [initEnv, initFrom]
 repeat' first|refine Sp.g ?_|(intro b hb;repeat first|(refine fe hb ?_;intro _ _ hb)|(refine fT hb ?_;intro hb))|refine rt ?_|refine gA rfl ?_|refine gB rfl ?_|apply cT rfl|apply cF rfl|(apply DM.gbT;rfl)|(apply DM.gbF;rfl)|intro h
 refine AM.loopX (X := Nat) 0 (fun i => [(0, .vs 7 (vs.map Var_.row)), (3, .int .i64 i)]) (fun i H' => H' = H ∧ i ≤ vs.length ∧ ∀ j, j < i → okVar vs j = true) (fun i => vs.length - i) ⟨rfl, by omega, fun j hj => by omega⟩ ?_ ?_
 ·(repeat first | exact envle_nil _ | (refine envle_cons ?_ ?_; · (simp only [go_sem, Nat.reduceBEq, Nat.reduceAdd]; exact AVLe.refl _)))
 ·intro i H' ⟨e, hi, he⟩
  subst e
  repeat' first|refine Sp.g ?_|(intro b hb;repeat first|(refine fe hb ?_;intro _ _ hb)|(refine fT hb ?_;intro hb))|refine gA rfl ?_|refine gB rfl ?_|apply cT rfl|apply cF rfl|(apply DM.gbT;rfl)|(apply DM.gbF;rfl)|intro h
  (apply AM.cond; (· rfl))
  ·intro h3
   simp at h3
   obtain ⟨v, hv⟩ := some_of h3
   have hok : okVar vs i = (isName v.name && decide (idxP (fun w : Var_ => decide (w.name = v.name)) vs 0 = (i : Int)) && fitsV v.sort v.init) := by simp [okVar, hv]
   repeat' first|refine Sp.g ?_|(intro b hb;repeat first|(refine fe hb ?_;intro _ _ hb)|(refine fT hb ?_;intro hb))|refine gA rfl ?_|refine gB rfl ?_|apply cT rfl|apply cF rfl|(apply DM.gbT;rfl)|(apply DM.gbF;rfl)|intro h
   (refine AM.reg [.bool (isName v.name), .bool (fitsV v.sort v.init)] ?_; simp only [annotate, AV.rows])
   repeat' first|refine Sp.g ?_|(intro b hb;repeat first|(refine fe hb ?_;intro _ _ hb)|(refine fT hb ?_;intro hb))|refine rt ?_|refine gA rfl ?_|refine gB rfl ?_|apply cT rfl|apply cF rfl|(apply DM.gbT;rfl)|(apply DM.gbF;rfl)|intro h
   (apply DM.ixV (row := v.row) (z := (i : Int)) (by omega) (row_get Var_.row hv); (· rfl); (· rfl))
   repeat' first|refine Sp.g ?_|(intro b hb;repeat first|(refine fe hb ?_;intro _ _ hb)|(refine fT hb ?_;intro hb))|refine rt ?_|refine gA rfl ?_|refine gB rfl ?_|apply cT rfl|apply cF rfl|(apply DM.gbT;rfl)|(apply DM.gbF;rfl)|intro h
   (apply DM.pcRs (p35 v.name); (· simp only [go_sem, Nat.reduceBEq, Nat.reduceAdd] <;> rfl); (· exact AVLes.refl _))
   repeat' first|refine Sp.g ?_|(intro b hb;repeat first|(refine fe hb ?_;intro _ _ hb)|(refine fT hb ?_;intro hb))|refine rt ?_|refine gA rfl ?_|refine gB rfl ?_|apply cT rfl|apply cF rfl|(apply DM.gbT;rfl)|(apply DM.gbF;rfl)|intro h
   ·skip
    (apply DM.ixV (row := v.row) (z := (i : Int)) (by omega) (row_get Var_.row hv); (· rfl); (· rfl))
    repeat' first|refine Sp.g ?_|(intro b hb;repeat first|(refine fe hb ?_;intro _ _ hb)|(refine fT hb ?_;intro hb))|refine rt ?_|refine gA rfl ?_|refine gB rfl ?_|apply cT rfl|apply cF rfl|(apply DM.gbT;rfl)|(apply DM.gbF;rfl)|intro h
    (apply DM.ixV (row := v.row) (z := (i : Int)) (by omega) (row_get Var_.row hv); (· rfl); (· rfl))
    repeat' first|refine Sp.g ?_|(intro b hb;repeat first|(refine fe hb ?_;intro _ _ hb)|(refine fT hb ?_;intro hb))|refine rt ?_|refine gA rfl ?_|refine gB rfl ?_|apply cT rfl|apply cF rfl|(apply DM.gbT;rfl)|(apply DM.gbF;rfl)|intro h
    (apply DM.pcRs (p86 v.sort v.init); (· simp only [go_sem, Nat.reduceBEq, Nat.reduceAdd] <;> rfl); (· exact AVLes.refl _))
    repeat' first|refine Sp.g ?_|(intro b hb;repeat first|(refine fe hb ?_;intro _ _ hb)|(refine fT hb ?_;intro hb))|refine rt ?_|refine gA rfl ?_|refine gB rfl ?_|apply cT rfl|apply cF rfl|(apply DM.gbT;rfl)|(apply DM.gbF;rfl)|intro h
    (apply AM.cond; (· rfl))
    ·intro h4
     repeat' first|refine Sp.g ?_|(intro b hb;repeat first|(refine fe hb ?_;intro _ _ hb)|(refine fT hb ?_;intro hb))|refine rt ?_|refine gA rfl ?_|refine gB rfl ?_|apply cT rfl|apply cF rfl|(apply DM.gbT;rfl)|(apply DM.gbF;rfl)|intro h
     refine Sr.g ?_
     exact bad h3 (by rw [hok]; simp at h4; rw [h4, Bool.and_false])
    ·intro h4
     simp at h h4
     repeat' first|refine Sp.g ?_|(intro b hb;repeat first|(refine fe hb ?_;intro _ _ hb)|(refine fT hb ?_;intro hb))|refine rt ?_|refine gA rfl ?_|refine gB rfl ?_|apply cT rfl|apply cF rfl|(apply DM.gbT;rfl)|(apply DM.gbF;rfl)|intro h
     refine AM.loopX (X := Nat) 0 (fun k => [(0, .vs 7 (vs.map Var_.row)), (3, .int .i64 i), (4, .int .i64 k)]) (fun k H2 => H2 = H' ∧ k ≤ i ∧ ∀ j w, j < k → vs[j]? = some w → decide (w.name = v.name) = false) (fun k => i - k) ⟨rfl, by omega, fun j w hj => by omega⟩ ?_ ?_
     ·(repeat first | exact envle_nil _ | (refine envle_cons ?_ ?_; · (simp only [go_sem, Nat.reduceBEq, Nat.reduceAdd]; exact AVLe.refl _)))
     ·intro k H2 ⟨e, hk, hn⟩
      subst e
      repeat' first|refine Sp.g ?_|(intro b hb;repeat first|(refine fe hb ?_;intro _ _ hb)|(refine fT hb ?_;intro hb))|refine gA rfl ?_|refine gB rfl ?_|apply cT rfl|apply cF rfl|(apply DM.gbT;rfl)|(apply DM.gbF;rfl)|intro h
      (apply AM.cond; (· rfl))
      ·intro h5
       simp at h5
       obtain ⟨w, hw⟩ := some_of (show k < vs.length by omega)
       repeat' first|refine Sp.g ?_|(intro b hb;repeat first|(refine fe hb ?_;intro _ _ hb)|(refine fT hb ?_;intro hb))|refine rt ?_|refine gA rfl ?_|refine gB rfl ?_|apply cT rfl|apply cF rfl|(apply DM.gbT;rfl)|(apply DM.gbF;rfl)|intro h
       (apply DM.ixV (row := w.row) (z := (k : Int)) (by omega) (row_get Var_.row hw); (· rfl); (· rfl))
       repeat' first|refine Sp.g ?_|(intro b hb;repeat first|(refine fe hb ?_;intro _ _ hb)|(refine fT hb ?_;intro hb))|refine rt ?_|refine gA rfl ?_|refine gB rfl ?_|apply cT rfl|apply cF rfl|(apply DM.gbT;rfl)|(apply DM.gbF;rfl)|intro h
       (apply DM.ixV (row := v.row) (z := (i : Int)) (by omega) (row_get Var_.row hv); (· rfl); (· rfl))
       repeat' first|refine Sp.g ?_|(intro b hb;repeat first|(refine fe hb ?_;intro _ _ hb)|(refine fT hb ?_;intro hb))|refine rt ?_|refine gA rfl ?_|refine gB rfl ?_|apply cT rfl|apply cF rfl|(apply DM.gbT;rfl)|(apply DM.gbF;rfl)|intro h
       (apply AM.cond; (· rfl))
       ·intro h6
        repeat' first|refine Sp.g ?_|(intro b hb;repeat first|(refine fe hb ?_;intro _ _ hb)|(refine fT hb ?_;intro hb))|refine rt ?_|refine gA rfl ?_|refine gB rfl ?_|apply cT rfl|apply cF rfl|(apply DM.gbT;rfl)|(apply DM.gbF;rfl)|intro h
        refine Sr.g ?_
        refine bad h3 ?_
        have := idx_lt (q := fun w : Var_ => decide (w.name = v.name)) 0 (by omega) hw h6
        rw [hok, decide_eq_false (by omega), Bool.and_false, Bool.false_and]
       ·intro h6
        repeat' first|refine Sp.g ?_|(intro b hb;repeat first|(refine fe hb ?_;intro _ _ hb)|(refine fT hb ?_;intro hb))|refine rt ?_|refine gA rfl ?_|refine gB rfl ?_|apply cT rfl|apply cF rfl|(apply DM.gbT;rfl)|(apply DM.gbF;rfl)|intro h
        refine AM.roundX (k + 1) ⟨rfl, by omega, fun j u hj hu => ?_⟩ ?_ ?_
        ·by_cases e : j = k
         ·subst e
          rw [hw] at hu
          cases hu
          exact h6
         ·exact hn j u (by omega) hu
        ·(repeat first | exact envle_nil _ | (refine envle_cons ?_ ?_; · (simp only [go_sem, Nat.reduceBEq, Nat.reduceAdd]; exact AVLe.refl _)))
         refine envle_cons ?_ ?_
         ·simp only [go_sem, Nat.reduceBEq, Nat.reduceAdd]
          refine avle_int ?_
          rw [inc64 h5 (by omega)]
         exact envle_nil _
        ·show i - (k + 1) < i - k
         omega
      ·intro h5
       simp at h5
       have : k = i := by omega
       subst this
       repeat' first|refine Sp.g ?_|(intro b hb;repeat first|(refine fe hb ?_;intro _ _ hb)|(refine fT hb ?_;intro hb))|refine rt ?_|refine gA rfl ?_|refine gB rfl ?_|apply cT rfl|apply cF rfl|(apply DM.gbT;rfl)|(apply DM.gbF;rfl)|intro h
       have hidx := idx_at (q := fun w : Var_ => decide (w.name = v.name)) 0 (by omega) hv (by simp) hn
       refine AM.roundX (k + 1) ⟨rfl, by omega, fun j hj => ?_⟩ ?_ ?_
       ·by_cases e : j = k
        ·subst e
         rw [hok, h, h4, decide_eq_true (by omega)]
         rfl
        ·exact he j (by omega)
       ·(repeat first | exact envle_nil _ | (refine envle_cons ?_ ?_; · (simp only [go_sem, Nat.reduceBEq, Nat.reduceAdd]; exact AVLe.refl _)))
        refine envle_cons ?_ ?_
        ·simp only [go_sem, Nat.reduceBEq, Nat.reduceAdd]
         refine avle_int ?_
         rw [inc64 h3 hlen]
        exact envle_nil _
       ·show vs.length - (k + 1) < vs.length - k
        omega
   ·refine Sr.g ?_
    exact bad h3 (by rw [hok]; simp at h; rw [h, Bool.false_and, Bool.false_and])
  ·intro h3
   simp at h3
   repeat' first|refine Sp.g ?_|(intro b hb;repeat first|(refine fe hb ?_;intro _ _ hb)|(refine fT hb ?_;intro hb))|refine rt ?_|refine gA rfl ?_|refine gB rfl ?_|apply cT rfl|apply cF rfl|(apply DM.gbT;rfl)|(apply DM.gbF;rfl)|intro h
   refine Sr.g ?_
   refine avle_eq ?_
   rw [AV.bool.injEq, varsOk, allI_true fun j hj => he j (by omega), Bool.true_and, Bool.eq_iff_iff]
   simp
   omega
end Go.Aw.T
namespace Go.Aw.T
open Go Go.Aw Go.Proofs Go.RowKit
set_option maxRecDepth 100000
attribute [local irreducible] Go.Aw.DM Go.Aw.AHeap.setB Go.Aw.AHeap.setT
attribute [local go_sem] peval EOpd.ev Env.get binInt binStr binBool buildParts AV.cells AV.okc setRange minmaxAV AV.one AV.ofCells eqCells eqCell bslRows cond_true cond_false beq_self_eq_true Bool.not_true Bool.not_false beq_true beq_false eq_self if_true Option.some.injEq List.length_cons List.length_nil List.take_succ_cons List.take_zero List.drop_succ_cons List.drop_zero List.set_cons_succ List.set_cons_zero List.nil_append List.cons_append List.append_nil and_self Option.map_some List.map_cons List.map_nil Bool.false_eq_true if_false Nat.zero_add Nat.add_zero true_and and_true Bool.and_true Bool.true_and List.getElem?_cons_zero List.getElem?_cons_succ Nat.zero_le Nat.le_refl
set_option linter.unusedSimpArgs false
set_option linter.unusedVariables false
set_option maxHeartbeats 4000000 in
theorem p13 (p : Prog) : Pure Tryz.prog 13 [p.av] (.bool (validP p)) := by
  refine ok_args fun ok => ?_
  have bad : validP p = false → AVLe (.bool false) (.bool (validP p)) := by
    intro h
    rw [h]
    exact AVLe.refl _
  refine pure_intro mo Tryz.func13 c13 fun H => ?_
  unfold e13 r13
  simp only [initEnv, initFrom]
  repeat' first|refine Sp.g ?_|(intro b hb;repeat first|(refine fe hb ?_;intro _ _ hb)|(refine fT hb ?_;intro hb))|refine rt ?_|refine gA rfl ?_|refine gB rfl ?_|apply cT rfl|apply cF rfl|(apply DM.gbT;rfl)|(apply DM.gbF;rfl)|intro h
  rename Nat => b1
  (apply DM.pcs (p35 p.name); (· simp only [go_sem, Nat.reduceBEq, Nat.reduceAdd] <;> rfl); (· exact AVLes.refl _))
  repeat' first|refine Sp.g ?_|(intro b hb;repeat first|(refine fe hb ?_;intro _ _ hb)|(refine fT hb ?_;intro hb))|refine rt ?_|refine gA rfl ?_|refine gB rfl ?_|apply cT rfl|apply cF rfl|(apply DM.gbT;rfl)|(apply DM.gbF;rfl)|intro h
  all_goals try (
    skip
    (apply DM.pcs (p36 p.vars); (· simp only [go_sem, Nat.reduceBEq, Nat.reduceAdd] <;> rfl); (· exact AVLes.refl _))
    repeat' first|refine Sp.g ?_|(intro b hb;repeat first|(refine fe hb ?_;intro _ _ hb)|(refine fT hb ?_;intro hb))|refine rt ?_|refine gA rfl ?_|refine gB rfl ?_|apply cT rfl|apply cF rfl|(apply DM.gbT;rfl)|(apply DM.gbF;rfl)|(apply AM.condS;rfl)|intro h
    )
  all_goals try (
    skip
    refine Sr.g ?_
    refine bad (Bool.eq_false_iff.2 fun hv => ?_)
    simp only [validP, partsOk, inB, Bool.and_eq_true, decide_eq_true_eq] at hv
    simp at *
    first | omega | (simp_all; done)
    )
  rename_i g1 g2 g3 g4 g5 g6 g7
  have g8 := h
  clear h
  have hn1 : isName p.name = true := by simpa using g1
  have hv1 : varsOk p.vars = true := by simpa using g4
  simp only [List.length_map, decide_eq_false_iff_not] at g2 g3 g5 g6 g7 g8
  have hr1 : inB p.role 0 5 = true := by simp only [inB, Bool.and_eq_true, decide_eq_true_eq]; omega
  have hc1 : inB p.code.length 1 1000 = true := by simp only [inB, Bool.and_eq_true, decide_eq_true_eq]; omega
  have hh1 : decide (p.hs.length ≤ 40) = true := decide_eq_true (by omega)
  have ho1 : decide (p.os.length ≤ 40) = true := decide_eq_true (by omega)
  have hval : validP p = (allI p.hs.length (okHd p) && allI p.os.length (okOf p) && allI p.code.length (okIx p)) := by
    rw [validP, partsOk, hn1, hv1, hr1, hc1, hh1, ho1]
    simp
  clear g1 g4 bad
  have badH : ∀ {i}, i < p.hs.length → okHd p i = false → AVLe (.bool false) (.bool (validP p)) := by
    intro i hi h
    refine avle_eq ?_
    rw [AV.bool.injEq, hval, allI_false hi h, Bool.false_and, Bool.false_and]
  have badO : ∀ {i}, i < p.os.length → okOf p i = false → AVLe (.bool false) (.bool (validP p)) := by
    intro i hi h
    refine avle_eq ?_
    rw [AV.bool.injEq, hval, allI_false hi h, Bool.and_false, Bool.false_and]
  have badI : ∀ {i}, i < p.code.length → okIx p i = false → AVLe (.bool false) (.bool (validP p)) := by
    intro i hi h
    refine avle_eq ?_
    rw [AV.bool.injEq, hval, allI_false hi h, Bool.and_false]
  refine AM.loopX (X := Nat) 0 (fun i => [(1, .ptr b1 0), (3, .int .i64 p.code.length), (4, .int .i64 i)]) (fun i H' => H' = H.setB b1 27 p.cells ∧ i ≤ p.hs.length ∧ ∀ j, j < i → okHd p j = true) (fun i => p.hs.length - i) ⟨rfl, by omega, fun j hj => by omega⟩ ?_ ?_
  · (repeat first | exact envle_nil _ | (refine envle_cons ?_ ?_; · (simp only [go_sem, Nat.reduceBEq, Nat.reduceAdd]; exact AVLe.refl _)))
    refine envle_cons ?_ ?_
    · simp only [Env.get, Nat.reduceBEq, cond_true, cond_false, beq_self_eq_true]
      exact avle_int (by simp)
    (repeat first | exact envle_nil _ | (refine envle_cons ?_ ?_; · (simp only [go_sem, Nat.reduceBEq, Nat.reduceAdd]; exact AVLe.refl _)))
  · intro i H' ⟨e, hi, he⟩
    subst e
    repeat' first|refine Sp.g ?_|(intro b hb;repeat first|(refine fe hb ?_;intro _ _ hb)|(refine fT hb ?_;intro hb))|refine rt ?_|refine gA rfl ?_|refine gB rfl ?_|apply cT rfl|apply cF rfl|(apply DM.gbT;rfl)|(apply DM.gbF;rfl)|intro h
    (apply AM.cond; (· rfl))
    · intro h3
      simp at h3
      obtain ⟨v, hv⟩ := some_of h3
      have hok : okHd p i = (p.party v.peer v.label && p.target v.entry && decide (idxP (fun w : Hd => decide (w.peer = v.peer) && decide (w.label = v.label)) p.hs 0 = (i : Int))) := by simp [okHd, hv]
      repeat' first|refine Sp.g ?_|(intro b hb;repeat first|(refine fe hb ?_;intro _ _ hb)|(refine fT hb ?_;intro hb))|refine rt ?_|refine gA rfl ?_|refine gB rfl ?_|apply cT rfl|apply cF rfl|(apply DM.gbT;rfl)|(apply DM.gbF;rfl)|intro h
      (apply DM.ixV (row := v.row) (z := (i : Int)) (by omega) (row_get Hd.row hv); (· rfl); (· rfl))
      repeat' first|refine Sp.g ?_|(intro b hb;repeat first|(refine fe hb ?_;intro _ _ hb)|(refine fT hb ?_;intro hb))|refine rt ?_|refine gA rfl ?_|refine gB rfl ?_|apply cT rfl|apply cF rfl|(apply DM.gbT;rfl)|(apply DM.gbF;rfl)|intro h
      (apply DM.pcs (p37 v.peer v.label p.role); (· simp only [go_sem, Nat.reduceBEq, Nat.reduceAdd] <;> rfl); (· exact AVLes.refl _))
      repeat' first|refine Sp.g ?_|(intro b hb;repeat first|(refine fe hb ?_;intro _ _ hb)|(refine fT hb ?_;intro hb))|refine rt ?_|refine gA rfl ?_|refine gB rfl ?_|apply cT rfl|apply cF rfl|(apply DM.gbT;rfl)|(apply DM.gbF;rfl)|(apply AM.condS;rfl)|intro h
      all_goals try (
        skip
        refine Sr.g ?_
        refine badH h3 ?_
        rw [hok, Bool.eq_false_iff]
        intro hq
        simp only [Prog.party, Prog.target, inB, Bool.and_eq_true, decide_eq_true_eq] at hq
        first | (simp only [decide_eq_true_eq] at h; omega) | (simp only [inB, Bool.not_eq_true', Bool.and_eq_false_iff, decide_eq_false_iff_not] at h; omega)
        )
      rename_i f1 f2
      have hpt : p.party v.peer v.label = true := by simpa [Prog.party] using f1
      have htg : p.target v.entry = true := by
        simp only [decide_eq_false_iff_not] at f2 h
        simp only [Prog.target, inB, Bool.and_eq_true, decide_eq_true_eq]
        omega
      clear f1 f2 h
      refine AM.loopX (X := Nat) 0 (fun k => [(1, .ptr b1 0), (3, .int .i64 p.code.length), (4, .int .i64 i), (5, .ptr b 0), (6, .int .i64 k)]) (fun k H' => H' = (H.setB b1 27 p.cells).setB b 76 v.row ∧ k ≤ i ∧ ∀ j w, j < k → p.hs[j]? = some w → (decide (w.peer = v.peer) && decide (w.label = v.label)) = false) (fun k => i - k) ⟨rfl, by omega, fun j w hj => by omega⟩ ?_ ?_
      · (repeat first | exact envle_nil _ | (refine envle_cons ?_ ?_; · (simp only [go_sem, Nat.reduceBEq, Nat.reduceAdd]; exact AVLe.refl _)))
      · intro k H' ⟨e, hk, hn⟩
        subst e
        repeat' first|refine Sp.g ?_|(intro b hb;repeat first|(refine fe hb ?_;intro _ _ hb)|(refine fT hb ?_;intro hb))|refine rt ?_|refine gA rfl ?_|refine gB rfl ?_|apply cT rfl|apply cF rfl|(apply DM.gbT;rfl)|(apply DM.gbF;rfl)|intro h
        (apply AM.cond; (· rfl))
        · intro h5
          simp at h5
          obtain ⟨w, hw⟩ := some_of (show k < p.hs.length by omega)
          repeat' first|refine Sp.g ?_|(intro b hb;repeat first|(refine fe hb ?_;intro _ _ hb)|(refine fT hb ?_;intro hb))|refine rt ?_|refine gA rfl ?_|refine gB rfl ?_|apply cT rfl|apply cF rfl|(apply DM.gbT;rfl)|(apply DM.gbF;rfl)|intro h
          (apply DM.ixV (row := w.row) (z := (k : Int)) (by omega) (row_get Hd.row hw); (· rfl); (· rfl))
          repeat' first|refine Sp.g ?_|(intro b hb;repeat first|(refine fe hb ?_;intro _ _ hb)|(refine fT hb ?_;intro hb))|refine rt ?_|refine gA rfl ?_|refine gB rfl ?_|apply cT rfl|apply cF rfl|(apply DM.gbT;rfl)|(apply DM.gbF;rfl)|intro h
          · skip
            (apply DM.ixV (row := w.row) (z := (k : Int)) (by omega) (row_get Hd.row hw); (· rfl); (· rfl))
            repeat' first|refine Sp.g ?_|(intro b hb;repeat first|(refine fe hb ?_;intro _ _ hb)|(refine fT hb ?_;intro hb))|refine rt ?_|refine gA rfl ?_|refine gB rfl ?_|apply cT rfl|apply cF rfl|(apply DM.gbT;rfl)|(apply DM.gbF;rfl)|intro h
            (apply AM.cond; (· rfl))
            · intro h6
              repeat' first|refine Sp.g ?_|(intro b hb;repeat first|(refine fe hb ?_;intro _ _ hb)|(refine fT hb ?_;intro hb))|refine rt ?_|refine gA rfl ?_|refine gB rfl ?_|apply cT rfl|apply cF rfl|(apply DM.gbT;rfl)|(apply DM.gbF;rfl)|intro h
              refine Sr.g ?_
              refine badH h3 ?_
              have := idx_lt (q := fun w : Hd => decide (w.peer = v.peer) && decide (w.label = v.label)) 0 (by omega) hw (by simp only [h, h6]; rfl)
              rw [hok, decide_eq_false (by omega), Bool.and_false]
            · intro h6
              repeat' first|refine Sp.g ?_|(intro b hb;repeat first|(refine fe hb ?_;intro _ _ hb)|(refine fT hb ?_;intro hb))|refine rt ?_|refine gA rfl ?_|refine gB rfl ?_|apply cT rfl|apply cF rfl|(apply DM.gbT;rfl)|(apply DM.gbF;rfl)|intro h
              refine AM.roundX (k + 1) ⟨rfl, by omega, fun j u hj hu => ?_⟩ ?_ ?_
              · by_cases e : j = k
                · subst e
                  rw [hw] at hu
                  cases hu
                  rw [h6, Bool.and_false]
                · exact hn j u (by omega) hu
              · (repeat first | exact envle_nil _ | (refine envle_cons ?_ ?_; · (simp only [go_sem, Nat.reduceBEq, Nat.reduceAdd]; exact AVLe.refl _)))
                refine envle_cons ?_ ?_
                · simp only [go_sem, Nat.reduceBEq, Nat.reduceAdd]
                  refine avle_int ?_
                  rw [inc64 h5 (by have := ok.hs; omega)]
                exact envle_nil _
              · show i - (k + 1) < i - k
                omega
          · refine AM.roundX (k + 1) ⟨rfl, by omega, fun j u hj hu => ?_⟩ ?_ ?_
            · by_cases e : j = k
              · subst e
                rw [hw] at hu
                cases hu
                rw [h, Bool.false_and]
              · exact hn j u (by omega) hu
            · (repeat first | exact envle_nil _ | (refine envle_cons ?_ ?_; · (simp only [go_sem, Nat.reduceBEq, Nat.reduceAdd]; exact AVLe.refl _)))
              refine envle_cons ?_ ?_
              · simp only [go_sem, Nat.reduceBEq, Nat.reduceAdd]
                refine avle_int ?_
                rw [inc64 h5 (by have := ok.hs; omega)]
              exact envle_nil _
            · show i - (k + 1) < i - k
              omega
        · intro h5
          simp at h5
          have : k = i := by omega
          subst this
          have hidx := idx_at (q := fun w : Hd => decide (w.peer = v.peer) && decide (w.label = v.label)) 0 (by omega) hv (by simp) hn
          repeat' first|refine Sp.g ?_|(intro b hb;repeat first|(refine fe hb ?_;intro _ _ hb)|(refine fT hb ?_;intro hb))|refine rt ?_|refine gA rfl ?_|refine gB rfl ?_|apply cT rfl|apply cF rfl|(apply DM.gbT;rfl)|(apply DM.gbF;rfl)|intro h
          refine AM.forget (H.setB b1 27 p.cells) ?_ ?_
          · (repeat' first|assumption|(apply Lk.go;constructor))
          refine AM.roundX (k + 1) ⟨rfl, by omega, fun j hj => ?_⟩ ?_ ?_
          · by_cases e : j = k
            · subst e
              rw [hok, hpt, htg, decide_eq_true (by omega)]
              rfl
            · exact he j (by omega)
          · (repeat first | exact envle_nil _ | (refine envle_cons ?_ ?_; · (simp only [go_sem, Nat.reduceBEq, Nat.reduceAdd]; exact AVLe.refl _)))
            refine envle_cons ?_ ?_
            · simp only [go_sem, Nat.reduceBEq, Nat.reduceAdd]
              refine avle_int ?_
              rw [inc64 h3 ok.hs]
            exact envle_nil _
          · show p.hs.length - (k + 1) < p.hs.length - k
            omega
    · intro h3
      simp at h3
      have hall : allI p.hs.length (okHd p) = true := allI_true fun j hj => he j (by omega)
      rw [hall, Bool.true_and] at hval
      repeat' first|refine Sp.g ?_|(intro b hb;repeat first|(refine fe hb ?_;intro _ _ hb)|(refine fT hb ?_;intro hb))|refine rt ?_|refine gA rfl ?_|refine gB rfl ?_|apply cT rfl|apply cF rfl|(apply DM.gbT;rfl)|(apply DM.gbF;rfl)|intro h
      refine AM.loopX (X := Nat) 0 (fun i => [(1, .ptr b1 0), (3, .int .i64 p.code.length), (7, .int .i64 i)]) (fun i H' => H' = H.setB b1 27 p.cells ∧ i ≤ p.os.length ∧ ∀ j, j < i → okOf p j = true) (fun i => p.os.length - i) ⟨rfl, by omega, fun j hj => by omega⟩ ?_ ?_
      · (repeat first | exact envle_nil _ | (refine envle_cons ?_ ?_; · (simp only [go_sem, Nat.reduceBEq, Nat.reduceAdd]; exact AVLe.refl _)))
      · intro i H' ⟨e, hi, he⟩
        subst e
        repeat' first|refine Sp.g ?_|(intro b hb;repeat first|(refine fe hb ?_;intro _ _ hb)|(refine fT hb ?_;intro hb))|refine rt ?_|refine gA rfl ?_|refine gB rfl ?_|apply cT rfl|apply cF rfl|(apply DM.gbT;rfl)|(apply DM.gbF;rfl)|intro h
        (apply AM.cond; (· rfl))
        · intro h3
          simp at h3
          obtain ⟨v, hv⟩ := some_of h3
          have hok : okOf p i = (p.party v.peer v.label && p.target v.args && (decide (v.cond = -1) || p.target v.cond)) := by simp [okOf, hv]
          repeat' first|refine Sp.g ?_|(intro b hb;repeat first|(refine fe hb ?_;intro _ _ hb)|(refine fT hb ?_;intro hb))|refine rt ?_|refine gA rfl ?_|refine gB rfl ?_|apply cT rfl|apply cF rfl|(apply DM.gbT;rfl)|(apply DM.gbF;rfl)|intro h
          (apply DM.ixV (row := v.row) (z := (i : Int)) (by omega) (row_get Of_.row hv); (· rfl); (· rfl))
          repeat' first|refine Sp.g ?_|(intro b hb;repeat first|(refine fe hb ?_;intro _ _ hb)|(refine fT hb ?_;intro hb))|refine rt ?_|refine gA rfl ?_|refine gB rfl ?_|apply cT rfl|apply cF rfl|(apply DM.gbT;rfl)|(apply DM.gbF;rfl)|intro h
          (apply DM.pcs (p37 v.peer v.label p.role); (· simp only [go_sem, Nat.reduceBEq, Nat.reduceAdd] <;> rfl); (· exact AVLes.refl _))
          repeat' first|refine Sp.g ?_|(intro b hb;repeat first|(refine fe hb ?_;intro _ _ hb)|(refine fT hb ?_;intro hb))|refine rt ?_|refine gA rfl ?_|refine gB rfl ?_|apply cT rfl|apply cF rfl|(apply DM.gbT;rfl)|(apply DM.gbF;rfl)|(apply AM.condS;rfl)|intro h
          all_goals try (
            skip
            refine Sr.g ?_
            refine badO h3 ?_
            rw [hok, Bool.eq_false_iff]
            intro hq
            simp only [Prog.party, Prog.target, inB, Bool.and_eq_true, Bool.or_eq_true, decide_eq_true_eq] at hq
            first | (simp only [decide_eq_true_eq] at h; omega) | (simp only [inB, Bool.not_eq_true', Bool.and_eq_false_iff, decide_eq_false_iff_not] at h; omega)
            )
          rename_i f1 f2 f3 f4
          have hokt : okOf p i = true := by
            have hpt : p.party v.peer v.label = true := by simpa [Prog.party] using f1
            simp only [decide_eq_false_iff_not] at f2 f3 f4 h
            have htg : p.target v.args = true := by
              simp only [Prog.target, inB, Bool.and_eq_true, decide_eq_true_eq]
              omega
            rw [hok, hpt, htg]
            simp only [Bool.true_and, Bool.or_eq_true, Prog.target, inB, Bool.and_eq_true, decide_eq_true_eq]
            omega
          refine AM.forget (H.setB b1 27 p.cells) ?_ ?_
          · (repeat' first|assumption|(apply Lk.go;constructor))
          refine AM.roundX (i + 1) ⟨rfl, by omega, fun j hj => ?_⟩ ?_ ?_
          · by_cases e : j = i
            · subst e
              exact hokt
            · exact he j (by omega)
          · (repeat first | exact envle_nil _ | (refine envle_cons ?_ ?_; · (simp only [go_sem, Nat.reduceBEq, Nat.reduceAdd]; exact AVLe.refl _)))
            refine envle_cons ?_ ?_
            · simp only [go_sem, Nat.reduceBEq, Nat.reduceAdd]
              refine avle_int ?_
              rw [inc64 h3 ok.os]
            exact envle_nil _
          · show p.os.length - (i + 1) < p.os.length - i
            omega
        · intro h3
          simp at h3
          have hall2 : allI p.os.length (okOf p) = true := allI_true fun j hj => he j (by omega)
          rw [hall2, Bool.true_and] at hval
          repeat' first|refine Sp.g ?_|(intro b hb;repeat first|(refine fe hb ?_;intro _ _ hb)|(refine fT hb ?_;intro hb))|refine rt ?_|refine gA rfl ?_|refine gB rfl ?_|apply cT rfl|apply cF rfl|(apply DM.gbT;rfl)|(apply DM.gbF;rfl)|intro h
          refine AM.loopX (X := Nat) 0 (fun i => [(1, .ptr b1 0), (3, .int .i64 p.code.length), (9, .int .i64 i)]) (fun i H' => H' = H.setB b1 27 p.cells ∧ i ≤ p.code.length ∧ ∀ j, j < i → okIx p j = true) (fun i => p.code.length - i) ⟨rfl, by omega, fun j hj => by omega⟩ ?_ ?_
          · (repeat first | exact envle_nil _ | (refine envle_cons ?_ ?_; · (simp only [go_sem, Nat.reduceBEq, Nat.reduceAdd]; exact AVLe.refl _)))
          · intro i H' ⟨e, hi, he⟩
            subst e
            repeat' first|refine Sp.g ?_|(intro b hb;repeat first|(refine fe hb ?_;intro _ _ hb)|(refine fT hb ?_;intro hb))|refine rt ?_|refine gA rfl ?_|refine gB rfl ?_|apply cT rfl|apply cF rfl|(apply DM.gbT;rfl)|(apply DM.gbF;rfl)|intro h
            (apply AM.cond; (· rfl))
            · intro h3
              simp at h3
              obtain ⟨x, hx⟩ := some_of h3
              have hok : okIx p i = okIns p x := by simp [okIx, hx]
              repeat' first|refine Sp.g ?_|(intro b hb;repeat first|(refine fe hb ?_;intro _ _ hb)|(refine fT hb ?_;intro hb))|refine rt ?_|refine gA rfl ?_|refine gB rfl ?_|apply cT rfl|apply cF rfl|(apply DM.gbT;rfl)|(apply DM.gbF;rfl)|intro h
              (apply DM.ixV (row := x.row) (z := (i : Int)) (by omega) (row_get Ins_.row hx); (· rfl); (· rfl))
              repeat' first|refine Sp.g ?_|(intro b hb;repeat first|(refine fe hb ?_;intro _ _ hb)|(refine fT hb ?_;intro hb))|refine rt ?_|refine gA rfl ?_|refine gB rfl ?_|apply cT rfl|apply cF rfl|(apply DM.gbT;rfl)|(apply DM.gbF;rfl)|intro h
              (apply DM.pcs (p19 x); (· simp only [go_sem, Nat.reduceBEq, Nat.reduceAdd] <;> rfl); (· exact AVLes.refl _))
              repeat' first|refine Sp.g ?_|(intro b hb;repeat first|(refine fe hb ?_;intro _ _ hb)|(refine fT hb ?_;intro hb))|refine rt ?_|refine gA rfl ?_|refine gB rfl ?_|apply cT rfl|apply cF rfl|(apply DM.gbT;rfl)|(apply DM.gbF;rfl)|(apply AM.condS;rfl)|intro h
              · skip
                have fm : formed x = true := by simpa using h
                clear h
                have hlow : x.op = 19 ∨ x.op = 20 ∨ x.op = 22 → 0 ≤ x.n := by
                  intro ho
                  have fe := formed_eq x
                  rw [fm] at fe
                  have fe2 := fe.symm
                  simp only [Bool.and_eq_true] at fe2
                  have f3 := fe2.1.2
                  rw [show numd x.op = (0, 999, true) by rcases ho with h | h | h <;> rw [h] <;> rfl] at f3
                  simp only [inB, Bool.and_eq_true, decide_eq_true_eq] at f3
                  exact f3.1
                have hI : okIns p x = decide ((x.op = 3 ∨ x.op = 5 → x.n < p.vars.length) ∧ (x.op = 19 ∨ x.op = 20 ∨ x.op = 22 → x.n < p.code.length)) := by
                  rw [okIns, fm, Bool.true_and]
                  split
                  · rename_i ho
                    rw [decide_eq_decide]
                    constructor
                    · intro h; exact ⟨fun _ => h, fun h2 => by omega⟩
                    · intro h; exact h.1 ho
                  · rename_i ho
                    split
                    · rename_i ho2
                      rw [Bool.eq_iff_iff, decide_eq_true_eq]
                      simp only [Prog.target, inB, Bool.and_eq_true, decide_eq_true_eq]
                      have := hlow ho2
                      constructor
                      · intro h; exact ⟨fun h2 => absurd h2 ho, fun _ => by omega⟩
                      · intro h; have := h.2 ho2; omega
                    · rename_i ho2
                      rw [decide_eq_true]
                      exact ⟨fun h2 => absurd h2 ho, fun h2 => absurd h2 ho2⟩
                have okRound : okIns p x = true → ∀ j, j < i + 1 → okIx p j = true := by
                  intro h j hj
                  by_cases e : j = i
                  · subst e
                    rw [hok, h]
                  · exact he j (by omega)
                clear hlow fm hval hall hall2
                (apply DM.pcs (p38 x.op); (· simp only [go_sem, Nat.reduceBEq, Nat.reduceAdd] <;> rfl); (· exact AVLes.refl _))
                repeat' first|refine Sp.g ?_|(intro b hb;repeat first|(refine fe hb ?_;intro _ _ hb)|(refine fT hb ?_;intro hb))|refine rt ?_|refine gA rfl ?_|refine gB rfl ?_|apply cT rfl|apply cF rfl|(apply DM.gbT;rfl)|(apply DM.gbF;rfl)|(apply AM.condS;rfl)|intro h
                all_goals first
                  | (skip
                     refine Sr.g ?_
                     refine badI h3 ?_
                     rw [hok, hI, decide_eq_false_iff_not]
                     clear he okRound badI badO badH hok hI
                     simp at *
                     omega)
                  | (refine AM.forget (H.setB b1 27 p.cells) ?_ ?_
                     · (repeat' first|assumption|(apply Lk.go;constructor))
                     refine AM.roundX (i + 1) ⟨rfl, by omega, ?_⟩ ?_ ?_
                     · refine okRound ?_
                       rw [hI, decide_eq_true_eq]
                       clear he okRound badI badO badH hok hI
                       simp at *
                       omega
                     · (repeat first | exact envle_nil _ | (refine envle_cons ?_ ?_; · (simp only [go_sem, Nat.reduceBEq, Nat.reduceAdd]; exact AVLe.refl _)))
                       refine envle_cons ?_ ?_
                       · simp only [go_sem, Nat.reduceBEq, Nat.reduceAdd]
                         refine avle_int ?_
                         rw [inc64 h3 ok.code]
                       exact envle_nil _
                     · show p.code.length - (i + 1) < p.code.length - i
                       omega)
              · refine Sr.g ?_
                exact badI h3 (by rw [hok, okIns]; simp at h; rw [h, Bool.false_and])
            · intro h3
              simp at h3
              rw [allI_true fun j hj => he j (by omega)] at hval
              repeat' first|refine Sp.g ?_|(intro b hb;repeat first|(refine fe hb ?_;intro _ _ hb)|(refine fT hb ?_;intro hb))|refine rt ?_|refine gA rfl ?_|refine gB rfl ?_|apply cT rfl|apply cF rfl|(apply DM.gbT;rfl)|(apply DM.gbF;rfl)|intro h
              refine Sr.g ?_
              rw [hval]
              exact AVLe.refl _
end Go.Aw.T
namespace Go.Aw.T
open Go Go.Aw Go.Proofs Go.RowKit
set_option maxRecDepth 100000
attribute [local irreducible] Go.Aw.DM Go.Aw.AHeap.setB Go.Aw.AHeap.setT
attribute [local go_sem] peval EOpd.ev Env.get binInt binStr binBool buildParts AV.cells AV.okc setRange minmaxAV AV.one AV.ofCells eqCells eqCell bslRows cond_true cond_false beq_self_eq_true Bool.not_true Bool.not_false beq_true beq_false eq_self if_true Option.some.injEq List.length_cons List.length_nil List.take_succ_cons List.take_zero List.drop_succ_cons List.drop_zero List.set_cons_succ List.set_cons_zero List.nil_append List.cons_append List.append_nil and_self Option.map_some List.map_cons List.map_nil Bool.false_eq_true if_false Nat.zero_add Nat.add_zero true_and and_true Bool.and_true Bool.true_and List.getElem?_cons_zero List.getElem?_cons_succ Nat.zero_le Nat.le_refl
set_option linter.unusedSimpArgs false
set_option linter.unusedVariables false
def fewP (p : Prog) : Bool := p.code.all (fun x => decide (x.s.length ≤ 100)) && p.vars.all (fun v => decide (v.name.length ≤ 100) && decide (v.init.s.length ≤ 100)) && decide (p.name.length ≤ 100) && decide (p.vars.length ≤ 20) && decide (p.hs.length ≤ 60) && decide (p.os.length ≤ 60) && decide (p.code.length ≤ 300)
theorem p10 (p : Prog) : Pure Tryz.prog 10 [p.av] (.bool (fewP p)) := by
 refine ok_args fun ok => ?_
 refine pure_intro mo Tryz.func10 c10 fun H => ?_
 unfold e10 r10
 simp only [initEnv, initFrom]
 repeat' first|refine Sp.g ?_|(intro b hb;repeat first|(refine fe hb ?_;intro _ _ hb)|(refine fT hb ?_;intro hb))|refine rt ?_|refine gA rfl ?_|refine gB rfl ?_|apply cT rfl|apply cF rfl|(apply DM.gbT;rfl)|(apply DM.gbF;rfl)|intro h
 rename Nat => b1
 refine AM.loopX (X := Nat) 0 (fun i => [(1, .ptr b1 0), (3, .int .i64 (i : Int))]) (fun i H' => H' = H.setB b1 27 p.cells ∧ i ≤ p.code.length ∧ p.code.all (fun x => decide (x.s.length ≤ 100)) = (p.code.drop i).all (fun x => decide (x.s.length ≤ 100))) (fun i => p.code.length - i) ⟨rfl, by omega, by simp⟩ ?_ ?_
 ·(repeat first | exact envle_nil _ | (refine envle_cons ?_ ?_; · (simp only [go_sem, Nat.reduceBEq, Nat.reduceAdd]; exact AVLe.refl _)))
 rintro i H' ⟨rfl, hi, he⟩
 repeat' first|refine Sp.g ?_|(intro b hb;repeat first|(refine fe hb ?_;intro _ _ hb)|(refine fT hb ?_;intro hb))|refine rt ?_|refine gA rfl ?_|refine gB rfl ?_|apply cT rfl|apply cF rfl|(apply DM.gbT;rfl)|(apply DM.gbF;rfl)|intro h
 (apply AM.cond; (· rfl))
 ·intro h3
  simp at h3
  obtain ⟨v, hv⟩ := some_of h3
  rw [drop_of hv] at he
  simp only [List.all_cons] at he
  repeat' first|refine Sp.g ?_|(intro b hb;repeat first|(refine fe hb ?_;intro _ _ hb)|(refine fT hb ?_;intro hb))|refine rt ?_|refine gA rfl ?_|refine gB rfl ?_|apply cT rfl|apply cF rfl|(apply DM.gbT;rfl)|(apply DM.gbF;rfl)|intro h
  (apply DM.ixV (row := v.row) (z := (i : Int)) (by omega) (row_get Ins_.row hv); (· rfl); (· rfl))
  repeat' first|refine Sp.g ?_|(intro b hb;repeat first|(refine fe hb ?_;intro _ _ hb)|(refine fT hb ?_;intro hb))|refine rt ?_|refine gA rfl ?_|refine gB rfl ?_|apply cT rfl|apply cF rfl|(apply DM.gbT;rfl)|(apply DM.gbF;rfl)|intro h
  (apply AM.cond; (· rfl))
  ·intro h4
   simp at h4
   repeat' first|refine Sp.g ?_|(intro b hb;repeat first|(refine fe hb ?_;intro _ _ hb)|(refine fT hb ?_;intro hb))|refine rt ?_|refine gA rfl ?_|refine gB rfl ?_|apply cT rfl|apply cF rfl|(apply DM.gbT;rfl)|(apply DM.gbF;rfl)|intro h
   refine Sr.g ?_
   refine avle_eq ?_; rw [AV.bool.injEq, fewP, he]
   rw [show decide (v.s.length ≤ 100) = false by simp; omega]; simp
  ·intro h4
   simp at h4
   rw [show decide (v.s.length ≤ 100) = true by simp; omega, Bool.true_and] at he
   repeat' first|refine Sp.g ?_|(intro b hb;repeat first|(refine fe hb ?_;intro _ _ hb)|(refine fT hb ?_;intro hb))|refine rt ?_|refine gA rfl ?_|refine gB rfl ?_|apply cT rfl|apply cF rfl|(apply DM.gbT;rfl)|(apply DM.gbF;rfl)|intro h
   refine AM.roundX (i + 1) ⟨rfl, by omega, he⟩ ?_ (show p.code.length - (i + 1) < p.code.length - i by omega)
   (repeat first | exact envle_nil _ | (refine envle_cons ?_ ?_; · (simp only [go_sem, Nat.reduceBEq, Nat.reduceAdd]; exact AVLe.refl _)))
   refine envle_cons ?_ ?_
   ·simp only [go_sem, Nat.reduceBEq, Nat.reduceAdd]
    refine avle_int ?_
    rw [inc64 h3 ok.code]
   exact envle_nil _
 ·intro h3
  simp at h3
  rw [List.drop_eq_nil_of_le (by omega)] at he
  have hc : p.code.all (fun x => decide (x.s.length ≤ 100)) = true := he
  clear he hi h3
  repeat' first|refine Sp.g ?_|(intro b hb;repeat first|(refine fe hb ?_;intro _ _ hb)|(refine fT hb ?_;intro hb))|refine rt ?_|refine gA rfl ?_|refine gB rfl ?_|apply cT rfl|apply cF rfl|(apply DM.gbT;rfl)|(apply DM.gbF;rfl)|intro h
  refine AM.loopX (X := Nat) 0 (fun i => [(1, .ptr b1 0), (4, .int .i64 (i : Int))]) (fun i H' => H' = H.setB b1 27 p.cells ∧ i ≤ p.vars.length ∧ p.vars.all (fun v => decide (v.name.length ≤ 100) && decide (v.init.s.length ≤ 100)) = (p.vars.drop i).all (fun v => decide (v.name.length ≤ 100) && decide (v.init.s.length ≤ 100))) (fun i => p.vars.length - i) ⟨rfl, by omega, by simp⟩ ?_ ?_
  ·(repeat first | exact envle_nil _ | (refine envle_cons ?_ ?_; · (simp only [go_sem, Nat.reduceBEq, Nat.reduceAdd]; exact AVLe.refl _)))
  rintro i H' ⟨rfl, hi, he⟩
  repeat' first|refine Sp.g ?_|(intro b hb;repeat first|(refine fe hb ?_;intro _ _ hb)|(refine fT hb ?_;intro hb))|refine rt ?_|refine gA rfl ?_|refine gB rfl ?_|apply cT rfl|apply cF rfl|(apply DM.gbT;rfl)|(apply DM.gbF;rfl)|intro h
  (apply AM.cond; (· rfl))
  ·intro h3
   simp at h3
   obtain ⟨v, hv⟩ := some_of h3
   rw [drop_of hv] at he
   simp only [List.all_cons] at he
   repeat' first|refine Sp.g ?_|(intro b hb;repeat first|(refine fe hb ?_;intro _ _ hb)|(refine fT hb ?_;intro hb))|refine rt ?_|refine gA rfl ?_|refine gB rfl ?_|apply cT rfl|apply cF rfl|(apply DM.gbT;rfl)|(apply DM.gbF;rfl)|intro h
   (apply DM.ixV (row := v.row) (z := (i : Int)) (by omega) (row_get Var_.row hv); (· rfl); (· rfl))
   repeat' first|refine Sp.g ?_|(intro b hb;repeat first|(refine fe hb ?_;intro _ _ hb)|(refine fT hb ?_;intro hb))|refine rt ?_|refine gA rfl ?_|refine gB rfl ?_|apply cT rfl|apply cF rfl|(apply DM.gbT;rfl)|(apply DM.gbF;rfl)|intro h
   ·(apply DM.ixV (row := v.row) (z := (i : Int)) (by omega) (row_get Var_.row hv); (· rfl); (· rfl))
    repeat' first|refine Sp.g ?_|(intro b hb;repeat first|(refine fe hb ?_;intro _ _ hb)|(refine fT hb ?_;intro hb))|refine rt ?_|refine gA rfl ?_|refine gB rfl ?_|apply cT rfl|apply cF rfl|(apply DM.gbT;rfl)|(apply DM.gbF;rfl)|intro h
    (apply AM.cond; (· rfl))
    ·intro h4
     repeat' first|refine Sp.g ?_|(intro b hb;repeat first|(refine fe hb ?_;intro _ _ hb)|(refine fT hb ?_;intro hb))|refine rt ?_|refine gA rfl ?_|refine gB rfl ?_|apply cT rfl|apply cF rfl|(apply DM.gbT;rfl)|(apply DM.gbF;rfl)|intro h
     refine Sr.g ?_
     refine avle_eq ?_; rw [AV.bool.injEq, fewP, he]
     simp at h h4
     rw [show decide (v.init.s.length ≤ 100) = false by simp; omega]; simp
    ·intro h4
     simp at h h4
     rw [show decide (v.init.s.length ≤ 100) = true by simp; omega, show decide (v.name.length ≤ 100) = true by simp; omega, Bool.true_and, Bool.true_and] at he
     repeat' first|refine Sp.g ?_|(intro b hb;repeat first|(refine fe hb ?_;intro _ _ hb)|(refine fT hb ?_;intro hb))|refine rt ?_|refine gA rfl ?_|refine gB rfl ?_|apply cT rfl|apply cF rfl|(apply DM.gbT;rfl)|(apply DM.gbF;rfl)|intro h
     refine AM.roundX (i + 1) ⟨rfl, by omega, he⟩ ?_ (show p.vars.length - (i + 1) < p.vars.length - i by omega)
     (repeat first | exact envle_nil _ | (refine envle_cons ?_ ?_; · (simp only [go_sem, Nat.reduceBEq, Nat.reduceAdd]; exact AVLe.refl _)))
     refine envle_cons ?_ ?_
     ·simp only [go_sem, Nat.reduceBEq, Nat.reduceAdd]
      refine avle_int ?_
      rw [inc64 h3 ok.vars]
     exact envle_nil _
   ·refine Sr.g ?_
    refine avle_eq ?_; rw [AV.bool.injEq, fewP, he]
    simp at h
    rw [show decide (v.name.length ≤ 100) = false by simp; omega]; simp
  ·intro h3
   simp at h3
   rw [List.drop_eq_nil_of_le (by omega)] at he
   have hv : p.vars.all (fun v => decide (v.name.length ≤ 100) && decide (v.init.s.length ≤ 100)) = true := he
   repeat' first|refine Sp.g ?_|(intro b hb;repeat first|(refine fe hb ?_;intro _ _ hb)|(refine fT hb ?_;intro hb))|refine rt ?_|refine gA rfl ?_|refine gB rfl ?_|apply cT rfl|apply cF rfl|(apply DM.gbT;rfl)|(apply DM.gbF;rfl)|intro h
   all_goals (refine Sr.g ?_)
   all_goals (refine avle_eq ?_; rw [AV.bool.injEq, fewP, hc, hv, Bool.eq_iff_iff]; simp at *; omega)
structure Dst (ta tb tc td : Nat) : Prop where
  ba : tb ≠ ta
  ca : tc ≠ ta
  cb : tc ≠ tb
  da : td ≠ ta
  db : td ≠ tb
  dc : td ≠ tc
section
variable {G : AHeap} {b ta tb tc td : Nat} {nm : List UInt8} {rl : Int} {A B C D : List (List AV)} {va vb vc vd : Nat}
end
def eqF {α β : Type} (q : α → β → Bool) : List α → List β → Bool
 | [], [] => true
 | a :: l, b :: r => q a b && eqF q l r
 | _, _ => false
theorem eqF_iff {α : Type} {q : α → α → Bool} (hq : ∀ a b, q a b = true ↔ a = b) : ∀ (l r : List α), eqF q l r = true ↔ l = r
 | [], [] => by simp [eqF]
 | [], _ :: _ => by simp [eqF]
 | _ :: _, [] => by simp [eqF]
 | a :: l, b :: r => by simp only [eqF, Bool.and_eq_true, hq, eqF_iff hq l r, List.cons.injEq]
def Var_.eqb (v x : Var_) : Bool := decide (v.name = x.name) && (decide (v.sort.k = x.sort.k) && (decide (v.sort.lo = x.sort.lo) && (decide (v.sort.hi = x.sort.hi) && (decide (v.init.k = x.init.k) && (decide (v.init.n = x.init.n) && (decide (v.init.s = x.init.s)))))))
theorem Var_.eqb_iff (v x : Var_) : v.eqb x = true ↔ v = x := by
 obtain ⟨a, ⟨b, c, d⟩, ⟨e, f, g⟩⟩ := v
 obtain ⟨a1, ⟨b1, c1, d1⟩, ⟨e1, f1, g1⟩⟩ := x
 simp [Var_.eqb, and_assoc]
def Hd.eqb (v x : Hd) : Bool := decide (v.peer = x.peer) && (decide (v.label = x.label) && (decide (v.entry = x.entry)))
theorem Hd.eqb_iff (v x : Hd) : v.eqb x = true ↔ v = x := by
 cases v; cases x
 simp [Hd.eqb]
def Of_.eqb (v x : Of_) : Bool := decide (v.peer = x.peer) && (decide (v.label = x.label) && (decide (v.cond = x.cond) && (decide (v.args = x.args))))
theorem Of_.eqb_iff (v x : Of_) : v.eqb x = true ↔ v = x := by
 cases v; cases x
 simp [Of_.eqb]
def Ins_.eqb (v x : Ins_) : Bool := decide (v.op = x.op) && (decide (v.n = x.n) && (decide (v.s = x.s)))
theorem Ins_.eqb_iff (v x : Ins_) : v.eqb x = true ↔ v = x := by
 cases v; cases x
 simp [Ins_.eqb]
def sameP (p q : Prog) : Bool := decide (p.name = q.name) && decide (p.role = q.role) && eqF Var_.eqb p.vars q.vars && eqF Hd.eqb p.hs q.hs && eqF Of_.eqb p.os q.os && eqF Ins_.eqb p.code q.code
theorem sameP_iff (p q : Prog) : sameP p q = true ↔ p = q := by
 cases p; cases q
 simp [sameP, eqF_iff Var_.eqb_iff, eqF_iff Hd.eqb_iff, eqF_iff Of_.eqb_iff, eqF_iff Ins_.eqb_iff, and_assoc]
theorem p15 (p q : Prog) : Pure Tryz.prog 15 [p.av, q.av] (.bool (sameP p q)) := by
 refine ok_args fun ok => ?_
 refine pure_intro mo Tryz.func15 c15 fun H => ?_
 unfold e15 r15
 simp only [initEnv, initFrom]
 repeat' first|refine Sp.g ?_|(intro b hb;repeat first|(refine fe hb ?_;intro _ _ hb)|(refine fT hb ?_;intro hb))|refine rt ?_|refine gA rfl ?_|refine gB rfl ?_|apply cT rfl|apply cF rfl|(apply DM.gbT;rfl)|(apply DM.gbF;rfl)|intro h
 ·rename_i b1 _ _ _ _ g1 g2 g3 g4
  have g5 := h
  (apply AM.cond; (· rfl))
  ·intro g6
   repeat' first|refine Sp.g ?_|(intro b hb;repeat first|(refine fe hb ?_;intro _ _ hb)|(refine fT hb ?_;intro hb))|refine rt ?_|refine gA rfl ?_|refine gB rfl ?_|apply cT rfl|apply cF rfl|(apply DM.gbT;rfl)|(apply DM.gbF;rfl)|intro h
   refine Sr.g ?_
   refine avle_eq ?_; rw [AV.bool.injEq]; symm; rw [← Bool.not_eq_true, sameP_iff]; rintro rfl; simp at g6
  ·intro g6
   have hn : p.name = q.name := by simpa using g1
   have hr : p.role = q.role := by simpa using g2
   have l1 : p.vars.length = q.vars.length := by simp at g3; omega
   have l2 : p.hs.length = q.hs.length := by simp at g4; omega
   have l3 : p.os.length = q.os.length := by simp at g5; omega
   have l4 : p.code.length = q.code.length := by simp at g6; omega
   have hsame : sameP p q = (eqF Var_.eqb p.vars q.vars && eqF Hd.eqb p.hs q.hs && eqF Of_.eqb p.os q.os && eqF Ins_.eqb p.code q.code) := by simp [sameP, hn, hr]
   repeat' first|refine Sp.g ?_|(intro b hb;repeat first|(refine fe hb ?_;intro _ _ hb)|(refine fT hb ?_;intro hb))|refine rt ?_|refine gA rfl ?_|refine gB rfl ?_|apply cT rfl|apply cF rfl|(apply DM.gbT;rfl)|(apply DM.gbF;rfl)|intro h
   refine AM.loopX (X := Nat) 0 (fun i => [(2, .ptr b1 0), (3, .ptr b 0), (5, .int .i64 i)]) (fun i H' => H' = (H.setB b1 27 p.cells).setB b 27 q.cells ∧ i ≤ p.vars.length ∧ eqF Var_.eqb p.vars q.vars = eqF Var_.eqb (p.vars.drop i) (q.vars.drop i)) (fun i => p.vars.length - i) ⟨rfl, by omega, by simp⟩ ?_ ?_
   ·(repeat first | exact envle_nil _ | (refine envle_cons ?_ ?_; · (simp only [go_sem, Nat.reduceBEq, Nat.reduceAdd]; exact AVLe.refl _)))
   rintro i H' ⟨rfl, hi, he⟩
   repeat' first|refine Sp.g ?_|(intro b hb;repeat first|(refine fe hb ?_;intro _ _ hb)|(refine fT hb ?_;intro hb))|refine rt ?_|refine gA rfl ?_|refine gB rfl ?_|apply cT rfl|apply cF rfl|(apply DM.gbT;rfl)|(apply DM.gbF;rfl)|intro h
   (apply AM.cond; (· rfl))
   ·intro h3
    simp at h3
    obtain ⟨v, hv⟩ := some_of h3
    obtain ⟨x, hx⟩ := some_of (l1 ▸ h3 : i < q.vars.length)
    rw [drop_of hv, drop_of hx] at he
    simp only [eqF] at he
    repeat' first|refine Sp.g ?_|(intro b hb;repeat first|(refine fe hb ?_;intro _ _ hb)|(refine fT hb ?_;intro hb))|refine rt ?_|refine gA rfl ?_|refine gB rfl ?_|apply cT rfl|apply cF rfl|(apply DM.gbT;rfl)|(apply DM.gbF;rfl)|intro h
    (apply DM.ixV (row := v.row) (z := (i : Int)) (by omega) (row_get Var_.row hv); (· rfl); (· rfl))
    repeat' first|refine Sp.g ?_|(intro b hb;repeat first|(refine fe hb ?_;intro _ _ hb)|(refine fT hb ?_;intro hb))|refine rt ?_|refine gA rfl ?_|refine gB rfl ?_|apply cT rfl|apply cF rfl|(apply DM.gbT;rfl)|(apply DM.gbF;rfl)|intro h
    (apply DM.ixV (row := x.row) (z := (i : Int)) (by omega) (row_get Var_.row hx); (· rfl); (· rfl))
    repeat' first|refine Sp.g ?_|(intro b hb;repeat first|(refine fe hb ?_;intro _ _ hb)|(refine fT hb ?_;intro hb))|refine rt ?_|refine gA rfl ?_|refine gB rfl ?_|apply cT rfl|apply cF rfl|(apply DM.gbT;rfl)|(apply DM.gbF;rfl)|intro h
    apply AM.cond (t := !(v.eqb x))
    ·rfl
    ·intro h4
     have h4' : v.eqb x = false := by simpa using h4
     repeat' first|refine Sp.g ?_|(intro b hb;repeat first|(refine fe hb ?_;intro _ _ hb)|(refine fT hb ?_;intro hb))|refine rt ?_|refine gA rfl ?_|refine gB rfl ?_|apply cT rfl|apply cF rfl|(apply DM.gbT;rfl)|(apply DM.gbF;rfl)|intro h
     refine Sr.g ?_
     refine avle_eq ?_; rw [AV.bool.injEq, hsame, he, h4']; simp
    ·intro h4
     have h4' : v.eqb x = true := by simpa using h4
     repeat' first|refine Sp.g ?_|(intro b hb;repeat first|(refine fe hb ?_;intro _ _ hb)|(refine fT hb ?_;intro hb))|refine rt ?_|refine gA rfl ?_|refine gB rfl ?_|apply cT rfl|apply cF rfl|(apply DM.gbT;rfl)|(apply DM.gbF;rfl)|intro h
     rw [h4', Bool.true_and] at he
     refine AM.roundX (i + 1) ⟨rfl, by omega, he⟩ ?_ (show p.vars.length - (i + 1) < p.vars.length - i by omega)
     (repeat first | exact envle_nil _ | (refine envle_cons ?_ ?_; · (simp only [go_sem, Nat.reduceBEq, Nat.reduceAdd]; exact AVLe.refl _)))
     refine envle_cons ?_ ?_
     ·simp only [go_sem, Nat.reduceBEq, Nat.reduceAdd]
      refine avle_int ?_
      rw [inc64 h3 ok.vars]
     exact envle_nil _
   ·intro h3
    simp at h3
    rw [List.drop_eq_nil_of_le (by omega), List.drop_eq_nil_of_le (by omega)] at he
    have z1 : eqF Var_.eqb p.vars q.vars = true := he
    rw [z1] at hsame
    clear he h3 hi
    repeat' first|refine Sp.g ?_|(intro b hb;repeat first|(refine fe hb ?_;intro _ _ hb)|(refine fT hb ?_;intro hb))|refine rt ?_|refine gA rfl ?_|refine gB rfl ?_|apply cT rfl|apply cF rfl|(apply DM.gbT;rfl)|(apply DM.gbF;rfl)|intro h
    refine AM.loopX (X := Nat) 0 (fun i => [(2, .ptr b1 0), (3, .ptr b 0), (6, .int .i64 i)]) (fun i H' => H' = (H.setB b1 27 p.cells).setB b 27 q.cells ∧ i ≤ p.hs.length ∧ eqF Hd.eqb p.hs q.hs = eqF Hd.eqb (p.hs.drop i) (q.hs.drop i)) (fun i => p.hs.length - i) ⟨rfl, by omega, by simp⟩ ?_ ?_
    ·(repeat first | exact envle_nil _ | (refine envle_cons ?_ ?_; · (simp only [go_sem, Nat.reduceBEq, Nat.reduceAdd]; exact AVLe.refl _)))
    rintro i H' ⟨rfl, hi, he⟩
    repeat' first|refine Sp.g ?_|(intro b hb;repeat first|(refine fe hb ?_;intro _ _ hb)|(refine fT hb ?_;intro hb))|refine rt ?_|refine gA rfl ?_|refine gB rfl ?_|apply cT rfl|apply cF rfl|(apply DM.gbT;rfl)|(apply DM.gbF;rfl)|intro h
    (apply AM.cond; (· rfl))
    ·intro h3
     simp at h3
     obtain ⟨v, hv⟩ := some_of h3
     obtain ⟨x, hx⟩ := some_of (l2 ▸ h3 : i < q.hs.length)
     rw [drop_of hv, drop_of hx] at he
     simp only [eqF] at he
     repeat' first|refine Sp.g ?_|(intro b hb;repeat first|(refine fe hb ?_;intro _ _ hb)|(refine fT hb ?_;intro hb))|refine rt ?_|refine gA rfl ?_|refine gB rfl ?_|apply cT rfl|apply cF rfl|(apply DM.gbT;rfl)|(apply DM.gbF;rfl)|intro h
     (apply DM.ixV (row := v.row) (z := (i : Int)) (by omega) (row_get Hd.row hv); (· rfl); (· rfl))
     repeat' first|refine Sp.g ?_|(intro b hb;repeat first|(refine fe hb ?_;intro _ _ hb)|(refine fT hb ?_;intro hb))|refine rt ?_|refine gA rfl ?_|refine gB rfl ?_|apply cT rfl|apply cF rfl|(apply DM.gbT;rfl)|(apply DM.gbF;rfl)|intro h
     (apply DM.ixV (row := x.row) (z := (i : Int)) (by omega) (row_get Hd.row hx); (· rfl); (· rfl))
     repeat' first|refine Sp.g ?_|(intro b hb;repeat first|(refine fe hb ?_;intro _ _ hb)|(refine fT hb ?_;intro hb))|refine rt ?_|refine gA rfl ?_|refine gB rfl ?_|apply cT rfl|apply cF rfl|(apply DM.gbT;rfl)|(apply DM.gbF;rfl)|intro h
     apply AM.cond (t := !(v.eqb x))
     ·rfl
     ·intro h4
      have h4' : v.eqb x = false := by simpa using h4
      repeat' first|refine Sp.g ?_|(intro b hb;repeat first|(refine fe hb ?_;intro _ _ hb)|(refine fT hb ?_;intro hb))|refine rt ?_|refine gA rfl ?_|refine gB rfl ?_|apply cT rfl|apply cF rfl|(apply DM.gbT;rfl)|(apply DM.gbF;rfl)|intro h
      refine Sr.g ?_
      refine avle_eq ?_; rw [AV.bool.injEq, hsame, he, h4']; simp
     ·intro h4
      have h4' : v.eqb x = true := by simpa using h4
      repeat' first|refine Sp.g ?_|(intro b hb;repeat first|(refine fe hb ?_;intro _ _ hb)|(refine fT hb ?_;intro hb))|refine rt ?_|refine gA rfl ?_|refine gB rfl ?_|apply cT rfl|apply cF rfl|(apply DM.gbT;rfl)|(apply DM.gbF;rfl)|intro h
      rw [h4', Bool.true_and] at he
      refine AM.roundX (i + 1) ⟨rfl, by omega, he⟩ ?_ (show p.hs.length - (i + 1) < p.hs.length - i by omega)
      (repeat first | exact envle_nil _ | (refine envle_cons ?_ ?_; · (simp only [go_sem, Nat.reduceBEq, Nat.reduceAdd]; exact AVLe.refl _)))
      refine envle_cons ?_ ?_
      ·simp only [go_sem, Nat.reduceBEq, Nat.reduceAdd]
       refine avle_int ?_
       rw [inc64 h3 ok.hs]
      exact envle_nil _
    ·intro h3
     simp at h3
     rw [List.drop_eq_nil_of_le (by omega), List.drop_eq_nil_of_le (by omega)] at he
     have z2 : eqF Hd.eqb p.hs q.hs = true := he
     rw [z2] at hsame
     clear he h3 hi
     repeat' first|refine Sp.g ?_|(intro b hb;repeat first|(refine fe hb ?_;intro _ _ hb)|(refine fT hb ?_;intro hb))|refine rt ?_|refine gA rfl ?_|refine gB rfl ?_|apply cT rfl|apply cF rfl|(apply DM.gbT;rfl)|(apply DM.gbF;rfl)|intro h
     refine AM.loopX (X := Nat) 0 (fun i => [(2, .ptr b1 0), (3, .ptr b 0), (7, .int .i64 i)]) (fun i H' => H' = (H.setB b1 27 p.cells).setB b 27 q.cells ∧ i ≤ p.os.length ∧ eqF Of_.eqb p.os q.os = eqF Of_.eqb (p.os.drop i) (q.os.drop i)) (fun i => p.os.length - i) ⟨rfl, by omega, by simp⟩ ?_ ?_
     ·(repeat first | exact envle_nil _ | (refine envle_cons ?_ ?_; · (simp only [go_sem, Nat.reduceBEq, Nat.reduceAdd]; exact AVLe.refl _)))
     rintro i H' ⟨rfl, hi, he⟩
     repeat' first|refine Sp.g ?_|(intro b hb;repeat first|(refine fe hb ?_;intro _ _ hb)|(refine fT hb ?_;intro hb))|refine rt ?_|refine gA rfl ?_|refine gB rfl ?_|apply cT rfl|apply cF rfl|(apply DM.gbT;rfl)|(apply DM.gbF;rfl)|intro h
     (apply AM.cond; (· rfl))
     ·intro h3
      simp at h3
      obtain ⟨v, hv⟩ := some_of h3
      obtain ⟨x, hx⟩ := some_of (l3 ▸ h3 : i < q.os.length)
      rw [drop_of hv, drop_of hx] at he
      simp only [eqF] at he
      repeat' first|refine Sp.g ?_|(intro b hb;repeat first|(refine fe hb ?_;intro _ _ hb)|(refine fT hb ?_;intro hb))|refine rt ?_|refine gA rfl ?_|refine gB rfl ?_|apply cT rfl|apply cF rfl|(apply DM.gbT;rfl)|(apply DM.gbF;rfl)|intro h
      (apply DM.ixV (row := v.row) (z := (i : Int)) (by omega) (row_get Of_.row hv); (· rfl); (· rfl))
      repeat' first|refine Sp.g ?_|(intro b hb;repeat first|(refine fe hb ?_;intro _ _ hb)|(refine fT hb ?_;intro hb))|refine rt ?_|refine gA rfl ?_|refine gB rfl ?_|apply cT rfl|apply cF rfl|(apply DM.gbT;rfl)|(apply DM.gbF;rfl)|intro h
      (apply DM.ixV (row := x.row) (z := (i : Int)) (by omega) (row_get Of_.row hx); (· rfl); (· rfl))
      repeat' first|refine Sp.g ?_|(intro b hb;repeat first|(refine fe hb ?_;intro _ _ hb)|(refine fT hb ?_;intro hb))|refine rt ?_|refine gA rfl ?_|refine gB rfl ?_|apply cT rfl|apply cF rfl|(apply DM.gbT;rfl)|(apply DM.gbF;rfl)|intro h
      apply AM.cond (t := !(v.eqb x))
      ·rfl
      ·intro h4
       have h4' : v.eqb x = false := by simpa using h4
       repeat' first|refine Sp.g ?_|(intro b hb;repeat first|(refine fe hb ?_;intro _ _ hb)|(refine fT hb ?_;intro hb))|refine rt ?_|refine gA rfl ?_|refine gB rfl ?_|apply cT rfl|apply cF rfl|(apply DM.gbT;rfl)|(apply DM.gbF;rfl)|intro h
       refine Sr.g ?_
       refine avle_eq ?_; rw [AV.bool.injEq, hsame, he, h4']; simp
      ·intro h4
       have h4' : v.eqb x = true := by simpa using h4
       repeat' first|refine Sp.g ?_|(intro b hb;repeat first|(refine fe hb ?_;intro _ _ hb)|(refine fT hb ?_;intro hb))|refine rt ?_|refine gA rfl ?_|refine gB rfl ?_|apply cT rfl|apply cF rfl|(apply DM.gbT;rfl)|(apply DM.gbF;rfl)|intro h
       rw [h4', Bool.true_and] at he
       refine AM.roundX (i + 1) ⟨rfl, by omega, he⟩ ?_ (show p.os.length - (i + 1) < p.os.length - i by omega)
       (repeat first | exact envle_nil _ | (refine envle_cons ?_ ?_; · (simp only [go_sem, Nat.reduceBEq, Nat.reduceAdd]; exact AVLe.refl _)))
       refine envle_cons ?_ ?_
       ·simp only [go_sem, Nat.reduceBEq, Nat.reduceAdd]
        refine avle_int ?_
        rw [inc64 h3 ok.os]
       exact envle_nil _
     ·intro h3
      simp at h3
      rw [List.drop_eq_nil_of_le (by omega), List.drop_eq_nil_of_le (by omega)] at he
      have z3 : eqF Of_.eqb p.os q.os = true := he
      rw [z3] at hsame
      clear he h3 hi
      repeat' first|refine Sp.g ?_|(intro b hb;repeat first|(refine fe hb ?_;intro _ _ hb)|(refine fT hb ?_;intro hb))|refine rt ?_|refine gA rfl ?_|refine gB rfl ?_|apply cT rfl|apply cF rfl|(apply DM.gbT;rfl)|(apply DM.gbF;rfl)|intro h
      refine AM.loopX (X := Nat) 0 (fun i => [(2, .ptr b1 0), (3, .ptr b 0), (8, .int .i64 i)]) (fun i H' => H' = (H.setB b1 27 p.cells).setB b 27 q.cells ∧ i ≤ p.code.length ∧ eqF Ins_.eqb p.code q.code = eqF Ins_.eqb (p.code.drop i) (q.code.drop i)) (fun i => p.code.length - i) ⟨rfl, by omega, by simp⟩ ?_ ?_
      ·(repeat first | exact envle_nil _ | (refine envle_cons ?_ ?_; · (simp only [go_sem, Nat.reduceBEq, Nat.reduceAdd]; exact AVLe.refl _)))
      rintro i H' ⟨rfl, hi, he⟩
      repeat' first|refine Sp.g ?_|(intro b hb;repeat first|(refine fe hb ?_;intro _ _ hb)|(refine fT hb ?_;intro hb))|refine rt ?_|refine gA rfl ?_|refine gB rfl ?_|apply cT rfl|apply cF rfl|(apply DM.gbT;rfl)|(apply DM.gbF;rfl)|intro h
      (apply AM.cond; (· rfl))
      ·intro h3
       simp at h3
       obtain ⟨v, hv⟩ := some_of h3
       obtain ⟨x, hx⟩ := some_of (l4 ▸ h3 : i < q.code.length)
       rw [drop_of hv, drop_of hx] at he
       simp only [eqF] at he
       repeat' first|refine Sp.g ?_|(intro b hb;repeat first|(refine fe hb ?_;intro _ _ hb)|(refine fT hb ?_;intro hb))|refine rt ?_|refine gA rfl ?_|refine gB rfl ?_|apply cT rfl|apply cF rfl|(apply DM.gbT;rfl)|(apply DM.gbF;rfl)|intro h
       (apply DM.ixV (row := v.row) (z := (i : Int)) (by omega) (row_get Ins_.row hv); (· rfl); (· rfl))
       repeat' first|refine Sp.g ?_|(intro b hb;repeat first|(refine fe hb ?_;intro _ _ hb)|(refine fT hb ?_;intro hb))|refine rt ?_|refine gA rfl ?_|refine gB rfl ?_|apply cT rfl|apply cF rfl|(apply DM.gbT;rfl)|(apply DM.gbF;rfl)|intro h
       (apply DM.ixV (row := x.row) (z := (i : Int)) (by omega) (row_get Ins_.row hx); (· rfl); (· rfl))
       repeat' first|refine Sp.g ?_|(intro b hb;repeat first|(refine fe hb ?_;intro _ _ hb)|(refine fT hb ?_;intro hb))|refine rt ?_|refine gA rfl ?_|refine gB rfl ?_|apply cT rfl|apply cF rfl|(apply DM.gbT;rfl)|(apply DM.gbF;rfl)|intro h
       apply AM.cond (t := !(v.eqb x))
       ·rfl
       ·intro h4
        have h4' : v.eqb x = false := by simpa using h4
        repeat' first|refine Sp.g ?_|(intro b hb;repeat first|(refine fe hb ?_;intro _ _ hb)|(refine fT hb ?_;intro hb))|refine rt ?_|refine gA rfl ?_|refine gB rfl ?_|apply cT rfl|apply cF rfl|(apply DM.gbT;rfl)|(apply DM.gbF;rfl)|intro h
        refine Sr.g ?_
        refine avle_eq ?_; rw [AV.bool.injEq, hsame, he, h4']; simp
       ·intro h4
        have h4' : v.eqb x = true := by simpa using h4
        repeat' first|refine Sp.g ?_|(intro b hb;repeat first|(refine fe hb ?_;intro _ _ hb)|(refine fT hb ?_;intro hb))|refine rt ?_|refine gA rfl ?_|refine gB rfl ?_|apply cT rfl|apply cF rfl|(apply DM.gbT;rfl)|(apply DM.gbF;rfl)|intro h
        rw [h4', Bool.true_and] at he
        refine AM.roundX (i + 1) ⟨rfl, by omega, he⟩ ?_ (show p.code.length - (i + 1) < p.code.length - i by omega)
        (repeat first | exact envle_nil _ | (refine envle_cons ?_ ?_; · (simp only [go_sem, Nat.reduceBEq, Nat.reduceAdd]; exact AVLe.refl _)))
        refine envle_cons ?_ ?_
        ·simp only [go_sem, Nat.reduceBEq, Nat.reduceAdd]
         refine avle_int ?_
         rw [inc64 h3 ok.code]
        exact envle_nil _
      ·intro h3
       simp at h3
       rw [List.drop_eq_nil_of_le (by omega), List.drop_eq_nil_of_le (by omega)] at he
       have z4 : eqF Ins_.eqb p.code q.code = true := he
       rw [z4] at hsame
       clear he h3 hi
       repeat' first|refine Sp.g ?_|(intro b hb;repeat first|(refine fe hb ?_;intro _ _ hb)|(refine fT hb ?_;intro hb))|refine rt ?_|refine gA rfl ?_|refine gB rfl ?_|apply cT rfl|apply cF rfl|(apply DM.gbT;rfl)|(apply DM.gbF;rfl)|intro h
       refine Sr.g ?_
       refine avle_eq ?_; rw [AV.bool.injEq, hsame]; rfl
 all_goals (refine Sr.g ?_)
 all_goals (refine avle_eq ?_; rw [AV.bool.injEq]; symm; rw [← Bool.not_eq_true, sameP_iff]; rintro rfl; simp at *)
theorem own_of {f : FuncId} {fn : Func} {args : List AV} {e : EC} {rs : List ERes} {H H' : AHeap} {r : AV} (hm : Tryz.prog.follows .mixedOrders = true) (hf : Tryz.prog.funcs[f]? = some fn) (hc : chkF Tryz.prog fn args.length e rs = true)
  (h : AM Tryz.prog rs (fun o H2 => ∃ a, o = .ret a ∧ AVLe a r ∧ HSub H' H2) [.c e] (initEnv args) H) : ACalls Tryz.prog f args H (Ret fun a H2 => a = r ∧ H2 = H') :=
 (acalls_of hm hf hc h).mono fun o H2 ⟨a, e, ha, hs⟩ => ⟨.ret r, H', by subst e; exact ha, hs, r, rfl, rfl, rfl⟩
def zig (n : Int) : Nat := if 0 ≤ n then 2 * n.toNat else 2 * (-n).toNat - 1
def enc (n : Int) : List Nat := if zig n < 128 then [zig n] else [zig n % 128 + 128, zig n / 128]
def encT (s : List UInt8) : List Nat := enc s.length ++ s.map (·.toNat)
def brow (b : Nat) : List AV := [.int .u8 (b : Int)]
def zigC (n : Int) : Int := IntKind.u64.wrap (BitVec.ofInt 64 (IntKind.u64.wrap (IntKind.u64.wrap n * 2 ^ 1)) ^^^ BitVec.ofInt 64 (IntKind.u64.wrap (n.fdiv (2 ^ 63)))).toNat
theorem zigN : ∀ i : Fin 2001, zigC ((i.val : Int) - 1000) = (zig ((i.val : Int) - 1000) : Int) := by decide +kernel
theorem zigC_eq {n : Int} (h0 : -1000 ≤ n) (h1 : n ≤ 1000) : zigC n = (zig n : Int) := by
 have := zigN ⟨(n + 1000).toNat, by omega⟩
 have e : (((n + 1000).toNat : Nat) : Int) - 1000 = n := by omega
 simpa only [e] using this
theorem zig_le {n : Int} (h0 : -1000 ≤ n) (h1 : n ≤ 1000) : zig n ≤ 2000 := by unfold zig; split <;> omega
theorem lowN : ∀ i : Fin 2048, IntKind.u8.wrap (BitVec.ofInt 8 (IntKind.u8.wrap (i.val : Int)) ||| BitVec.ofInt 8 128).toNat = ((i.val % 128 + 128 : Nat) : Int) := by decide +kernel
theorem low_eq {u : Nat} (h : u < 2048) : IntKind.u8.wrap (BitVec.ofInt IntKind.u8.bits (IntKind.u8.wrap (u : Int)) ||| BitVec.ofInt IntKind.u8.bits 128).toNat = ((u % 128 + 128 : Nat) : Int) := lowN ⟨u, h⟩
theorem w8 {u : Nat} (h : u < 128) : IntKind.u8.wrap (u : Int) = (u : Int) := by
 have : ∀ i : Fin 128, IntKind.u8.wrap (i.val : Int) = (i.val : Int) := by decide +kernel
 exact this ⟨u, h⟩
theorem shN {u : Nat} : Int.fdiv (u : Int) (2 ^ 7) = ((u / 128 : Nat) : Int) := by
 rw [Int.fdiv_eq_ediv_of_nonneg _ (by decide)]
 norm_cast
def E96 (t : Nat) (rows : List (List AV)) (u : Nat) : Nat → Env
 | 0 => [(0, .own t 1 rows), (5, .int .u64 (u : Int)), (4, .nilS)]
 | _ => [(0, .own t 1 (rows ++ [brow (u % 128 + 128)])), (5, .int .u64 ((u / 128 : Nat) : Int)), (4, .nilS)]
def G96 (H : AHeap) (t : Nat) (rows : List (List AV)) : Nat → AHeap
 | 0 => H
 | _ => H.setT t (.frz 5 1 (rows.length + 1))
theorem p96 (t : Nat) (rows : List (List AV)) (n : Int) (H : AHeap) (ht : H.tok t = some (.frz 5 1 rows.length)) (hr : rows.length ≤ 1000000) (h0 : -1000 ≤ n) (h1 : n ≤ 1000) :
  ACalls Tryz.prog 96 [.own t 1 rows, .int .i64 n] H (Ret fun a H2 => a = .own t 1 (rows ++ (enc n).map brow) ∧ H2 = H.setT t (.frz 5 1 (rows ++ (enc n).map brow).length)) := by
 refine own_of mo Tryz.func96 c96 ?_
 unfold e96 r96
 simp only [initEnv, initFrom]
 have hz := zigC_eq h0 h1
 have hu := zig_le h0 h1
 generalize hzu : zig n = u at hz hu
 have he : enc n = if u < 128 then [u] else [u % 128 + 128, u / 128] := by unfold enc; rw [hzu]
 rw [he]
 repeat' first|refine Sp.g ?_|(intro b hb;repeat first|(refine fe hb ?_;intro _ _ hb)|(refine fT hb ?_;intro hb))|refine rt ?_|refine gA rfl ?_|refine gB rfl ?_|apply cT rfl|apply cF rfl|(apply DM.gbT;rfl)|(apply DM.gbF;rfl)|intro h
 refine AM.loopX (X := Nat) 0 (E96 t rows u) (fun k H' => H' = G96 H t rows k ∧ (k = 0 ∨ k = 1 ∧ 128 ≤ u)) (fun k => 1 - k) ⟨rfl, .inl rfl⟩ ?_ ?_
 ·unfold E96
  refine envle_cons ?_ (envle_cons ?_ (envle_cons ?_ (envle_nil _)))
  ·exact AVLe.refl _
  ·simp only [Env.get, Nat.reduceBEq, cond_true, cond_false, beq_self_eq_true]
   exact avle_int hz
  ·exact AVLe.refl _
 rintro k H' ⟨rfl, rfl | ⟨rfl, hk⟩⟩
 ·simp only [E96, G96]
  repeat' first|refine Sp.g ?_|(intro b hb;repeat first|(refine fe hb ?_;intro _ _ hb)|(refine fT hb ?_;intro hb))|refine rt ?_|refine gA rfl ?_|refine gB rfl ?_|apply cT rfl|apply cF rfl|(apply DM.gbT;rfl)|(apply DM.gbF;rfl)|intro h
  (apply AM.cond; (· rfl))
  ·intro h
   have hk : 128 ≤ u := by simp at h; omega
   repeat' first|refine Sp.g ?_|(intro b hb;repeat first|(refine fe hb ?_;intro _ _ hb)|(refine fT hb ?_;intro hb))|refine rt ?_|refine gA rfl ?_|refine gB rfl ?_|apply cT rfl|apply cF rfl|(apply DM.gbT;rfl)|(apply DM.gbF;rfl)|intro h
   have hlow := low_eq (u := u) (by omega)
   (apply DM.apO (t := t); (· rfl); (· exact ht); (· rfl); (· simp only [List.length_cons, List.length_nil]; omega); (· simp only [List.length_cons, List.length_nil]; unfold maxLen; omega))
   repeat' first|refine Sp.g ?_|(intro b hb;repeat first|(refine fe hb ?_;intro _ _ hb)|(refine fT hb ?_;intro hb))|refine rt ?_|refine gA rfl ?_|refine gB rfl ?_|apply cT rfl|apply cF rfl|(apply DM.gbT;rfl)|(apply DM.gbF;rfl)|intro h
   rw [show (u : Int).fdiv (2 ^ min (Int.toNat 7) 64) = ((u / 128 : Nat) : Int) from shN]
   repeat' first|refine Sp.g ?_|(intro b hb;repeat first|(refine fe hb ?_;intro _ _ hb)|(refine fT hb ?_;intro hb))|refine rt ?_|refine gA rfl ?_|refine gB rfl ?_|apply cT rfl|apply cF rfl|(apply DM.gbT;rfl)|(apply DM.gbF;rfl)|intro h
   refine AM.roundX 1 ⟨rfl, .inr ⟨rfl, hk⟩⟩ ?_ (by decide)
   unfold E96
   refine envle_cons ?_ (envle_cons ?_ (envle_cons ?_ (envle_nil _)))
   ·simp only [Env.get, Nat.reduceBEq, cond_true, cond_false, beq_self_eq_true]
    exact avle_eq (congrArg (fun z => AV.own t 1 (rows ++ [[AV.int .u8 z]])) hlow)
   ·exact AVLe.refl _
   ·exact AVLe.refl _
  ·intro h
   have hk : u < 128 := by simp at h; omega
   rw [if_pos hk]
   repeat' first|refine Sp.g ?_|(intro b hb;repeat first|(refine fe hb ?_;intro _ _ hb)|(refine fT hb ?_;intro hb))|refine rt ?_|refine gA rfl ?_|refine gB rfl ?_|apply cT rfl|apply cF rfl|(apply DM.gbT;rfl)|(apply DM.gbF;rfl)|intro h
   rw [w8 hk]
   (apply DM.apO (t := t); (· rfl); (· exact ht); (· rfl); (· simp only [List.length_cons, List.length_nil]; omega); (· simp only [List.length_cons, List.length_nil]; unfold maxLen; omega))
   repeat' first|refine Sp.g ?_|(intro b hb;repeat first|(refine fe hb ?_;intro _ _ hb)|(refine fT hb ?_;intro hb))|refine rt ?_|refine gA rfl ?_|refine gB rfl ?_|apply cT rfl|apply cF rfl|(apply DM.gbT;rfl)|(apply DM.gbF;rfl)|intro h
   refine AM.eqH (show _ = H.setT t (.frz 5 1 (rows ++ List.map brow [u]).length) by simp) ?_
   refine Sr.g ?_
   exact AVLe.refl _
 ·simp only [E96, G96]
  repeat' first|refine Sp.g ?_|(intro b hb;repeat first|(refine fe hb ?_;intro _ _ hb)|(refine fT hb ?_;intro hb))|refine rt ?_|refine gA rfl ?_|refine gB rfl ?_|apply cT rfl|apply cF rfl|(apply DM.gbT;rfl)|(apply DM.gbF;rfl)|intro h
  (apply AM.cond; (· rfl))
  ·intro h
   exfalso
   have : 128 ≤ u / 128 := by simp at h; omega
   omega
  ·intro _
   rw [if_neg (show ¬ u < 128 by omega)]
   repeat' first|refine Sp.g ?_|(intro b hb;repeat first|(refine fe hb ?_;intro _ _ hb)|(refine fT hb ?_;intro hb))|refine rt ?_|refine gA rfl ?_|refine gB rfl ?_|apply cT rfl|apply cF rfl|(apply DM.gbT;rfl)|(apply DM.gbF;rfl)|intro h
   rw [w8 (show u / 128 < 128 by omega)]
   (apply DM.apO (t := t); (· rfl); (· simp only [List.length_append, List.length_cons, List.length_nil, Nat.zero_add]; exact t_same); (· rfl); (· simp only [List.length_append, List.length_cons, List.length_nil]; omega); (· simp only [List.length_append, List.length_cons, List.length_nil]; unfold maxLen; omega))
   repeat' first|refine Sp.g ?_|(intro b hb;repeat first|(refine fe hb ?_;intro _ _ hb)|(refine fT hb ?_;intro hb))|refine rt ?_|refine gA rfl ?_|refine gB rfl ?_|apply cT rfl|apply cF rfl|(apply DM.gbT;rfl)|(apply DM.gbF;rfl)|intro h
   refine AM.eqH (show _ = H.setT t (.frz 5 1 (rows ++ List.map brow [u % 128 + 128, u / 128]).length) by rw [setT_setT]; simp) ?_
   refine Sr.g ?_
   rw [List.append_assoc]
   exact AVLe.refl _
def irow1 (n : Int) : List AV := [.int .i64 n]
theorem enc_len (n : Int) : (enc n).length ≤ 2 := by unfold enc; split <;> simp
theorem encs_len (ns : List Int) : (ns.flatMap enc).length ≤ 2 * ns.length := by
 induction ns with
 | nil => simp
 | cons n l ih =>
  have := enc_len n
  simp only [List.flatMap_cons, List.length_append, List.length_cons]
  omega
theorem setT_id {H : AHeap} {t : Nat} {o : Own} (h : H.tok t = some o) : H = H.setT t o := by
 cases H with
 | mk b k =>
  simp only [AHeap.setT, AHeap.mk.injEq, true_and]
  funext x
  by_cases e : x = t
  ·subst e; simp only [if_true]; exact h
  ·simp [e]
def RO (H : AHeap) (t : Nat) (rows : List (List AV)) : AV → AHeap → Prop := fun a H2 => a = .own t 1 rows ∧ H2 = H.setT t (.frz 5 1 rows.length)
theorem p57 (t : Nat) (rows : List (List AV)) (ns : List Int) (H : AHeap) (ht : H.tok t = some (.frz 5 1 rows.length)) (hr : rows.length + 2 * ns.length ≤ 1000000) (hn : ∀ n ∈ ns, -1000 ≤ n ∧ n ≤ 1000) :
  ACalls Tryz.prog 57 [.own t 1 rows, .vs 1 (ns.map irow1)] H (Ret (RO H t (rows ++ (ns.flatMap enc).map brow))) := by
 refine own_of mo Tryz.func57 c57 ?_
 unfold e57 r57
 simp only [initEnv, initFrom]
 have hnl : ns.length ≤ maxLen := by unfold maxLen; omega
 repeat' first|refine Sp.g ?_|(intro b hb;repeat first|(refine fe hb ?_;intro _ _ hb)|(refine fT hb ?_;intro hb))|refine rt ?_|refine gA rfl ?_|refine gB rfl ?_|apply cT rfl|apply cF rfl|(apply DM.gbT;rfl)|(apply DM.gbF;rfl)|intro h
 refine AM.loopX (X := Nat) 0 (fun i => [(0, .own t 1 (rows ++ ((ns.take i).flatMap enc).map brow)), (7, .vs 1 (ns.map irow1)), (8, .int .i64 ns.length), (9, .int .i64 i), (4, .nilS)]) (fun i H' => H' = H.setT t (.frz 5 1 (rows ++ ((ns.take i).flatMap enc).map brow).length) ∧ i ≤ ns.length) (fun i => ns.length - i) ⟨?_, by omega⟩ ?_ ?_
 ·refine (setT_id ht).trans ?_
  simp
 ·refine envle_cons ?_ (envle_cons ?_ (envle_cons ?_ (envle_cons ?_ (envle_cons ?_ (envle_nil _)))))
  ·simp only [Env.get, Nat.reduceBEq, cond_true, cond_false, beq_self_eq_true]
   exact avle_eq (by simp)
  ·exact AVLe.refl _
  ·simp only [Env.get, Nat.reduceBEq, cond_true, cond_false, beq_self_eq_true]
   exact avle_int (by simp)
  ·exact AVLe.refl _
  ·exact AVLe.refl _
 rintro i H' ⟨rfl, hi⟩
 repeat' first|refine Sp.g ?_|(intro b hb;repeat first|(refine fe hb ?_;intro _ _ hb)|(refine fT hb ?_;intro hb))|refine rt ?_|refine gA rfl ?_|refine gB rfl ?_|apply cT rfl|apply cF rfl|(apply DM.gbT;rfl)|(apply DM.gbF;rfl)|intro h
 (apply AM.cond; (· rfl))
 ·intro h3
  simp at h3
  obtain ⟨v, hvx⟩ := some_of h3
  have hmem := hn v (List.mem_of_getElem? hvx)
  have hlen : (rows ++ ((ns.take i).flatMap enc).map brow).length ≤ 1000000 := by
   have := encs_len (ns.take i)
   simp only [List.length_append, List.length_map, List.length_take] at *
   omega
  repeat' first|refine Sp.g ?_|(intro b hb;repeat first|(refine fe hb ?_;intro _ _ hb)|(refine fT hb ?_;intro hb))|refine rt ?_|refine gA rfl ?_|refine gB rfl ?_|apply cT rfl|apply cF rfl|(apply DM.gbT;rfl)|(apply DM.gbF;rfl)|intro h
  (apply DM.ixV (row := irow1 v) (z := (i : Int)) (by omega) (row_get irow1 hvx); (· rfl); (· rfl))
  repeat' first|refine Sp.g ?_|(intro b hb;repeat first|(refine fe hb ?_;intro _ _ hb)|(refine fT hb ?_;intro hb))|refine rt ?_|refine gA rfl ?_|refine gB rfl ?_|apply cT rfl|apply cF rfl|(apply DM.gbT;rfl)|(apply DM.gbF;rfl)|intro h
  (apply DM.cal (p96 t (rows ++ ((ns.take i).flatMap enc).map brow) v (H.setT t (.frz 5 1 (rows ++ ((ns.take i).flatMap enc).map brow).length)) t_same hlen hmem.1 hmem.2); (· simp only [go_sem, Nat.reduceBEq, Nat.reduceAdd] <;> rfl); (· exact AVLes.refl _))
  rintro r H1 ⟨rfl, rfl⟩
  rw [setT_setT]
  repeat' first|refine Sp.g ?_|(intro b hb;repeat first|(refine fe hb ?_;intro _ _ hb)|(refine fT hb ?_;intro hb))|refine rt ?_|refine gA rfl ?_|refine gB rfl ?_|apply cT rfl|apply cF rfl|(apply DM.gbT;rfl)|(apply DM.gbF;rfl)|intro h
  have e1 : (rows ++ ((ns.take i).flatMap enc).map brow) ++ (enc v).map brow = rows ++ ((ns.take (i + 1)).flatMap enc).map brow := by
   rw [List.take_add_one, hvx]; simp
  rw [e1]
  refine AM.roundX (i + 1) ⟨rfl, by omega⟩ ?_ (show ns.length - (i + 1) < ns.length - i by omega)
  (repeat first | exact envle_nil _ | (refine envle_cons ?_ ?_; · (simp only [go_sem, Nat.reduceBEq, Nat.reduceAdd]; exact AVLe.refl _)))
  refine envle_cons ?_ ?_
  ·simp only [go_sem, Nat.reduceBEq, Nat.reduceAdd]
   refine avle_int ?_
   rw [inc64 h3 hnl]
  exact envle_cons (AVLe.refl _) (envle_nil _)
 intro h3
 simp at h3
 rw [show i = ns.length by omega, List.take_length]
 repeat' first|refine Sp.g ?_|(intro b hb;repeat first|(refine fe hb ?_;intro _ _ hb)|(refine fT hb ?_;intro hb))|refine rt ?_|refine gA rfl ?_|refine gB rfl ?_|apply cT rfl|apply cF rfl|(apply DM.gbT;rfl)|(apply DM.gbF;rfl)|intro h
 refine Sr.g ?_
 exact AVLe.refl _
theorem p58 (t : Nat) (rows : List (List AV)) (s : List UInt8) (H : AHeap) (ht : H.tok t = some (.frz 5 1 rows.length)) (hr : rows.length ≤ 900000) (hs : s.length ≤ 1000) :
  ACalls Tryz.prog 58 [.own t 1 rows, .str s] H (Ret (RO H t (rows ++ (encT s).map brow))) := by
 refine own_of mo Tryz.func58 c58 ?_
 unfold e58 r58
 simp only [initEnv, initFrom]
 have hel := enc_len s.length
 repeat' first|refine Sp.g ?_|(intro b hb;repeat first|(refine fe hb ?_;intro _ _ hb)|(refine fT hb ?_;intro hb))|refine rt ?_|refine gA rfl ?_|refine gB rfl ?_|apply cT rfl|apply cF rfl|(apply DM.gbT;rfl)|(apply DM.gbF;rfl)|intro h
 (apply DM.cal (p96 t rows s.length H ht (by omega) (by omega) (by omega)); (· simp only [go_sem, Nat.reduceBEq, Nat.reduceAdd] <;> rfl); (· exact AVLes.refl _))
 rintro r H1 ⟨rfl, rfl⟩
 repeat' first|refine Sp.g ?_|(intro b hb;repeat first|(refine fe hb ?_;intro _ _ hb)|(refine fT hb ?_;intro hb))|refine rt ?_|refine gA rfl ?_|refine gB rfl ?_|apply cT rfl|apply cF rfl|(apply DM.gbT;rfl)|(apply DM.gbF;rfl)|intro h
 (apply DM.apO (t := t); (· rfl); (· exact t_same); (· rfl); (· simp only [List.length_append, List.length_map]; omega); (· simp only [List.length_append, List.length_map]; unfold maxLen; omega))
 repeat' first|refine Sp.g ?_|(intro b hb;repeat first|(refine fe hb ?_;intro _ _ hb)|(refine fT hb ?_;intro hb))|refine rt ?_|refine gA rfl ?_|refine gB rfl ?_|apply cT rfl|apply cF rfl|(apply DM.gbT;rfl)|(apply DM.gbF;rfl)|intro h
 rw [setT_setT]
 have e1 : (rows ++ (enc (s.length : Int)).map brow) ++ s.map (fun c => [AV.int .u8 c.toNat]) = rows ++ (encT s).map brow := by
  simp only [encT, List.map_append, List.map_map, List.append_assoc]
  rfl
 refine AM.eqH (show _ = H.setT t (.frz 5 1 (rows ++ (encT s).map brow).length) by rw [← e1]; simp [Nat.add_assoc]) ?_
 refine Sr.g ?_
 rw [← e1]
 exact AVLe.refl _
theorem p58n (s : List UInt8) (H : AHeap) (hs : s.length ≤ 1000) :
  ACalls Tryz.prog 58 [.nilS, .str s] H (Ret fun a H2 => ∃ t, H.tok t = none ∧ RO H t ((encT s).map brow) a H2) := by
 refine ACalls.mono (acalls_of (args := [.nilS, .str s]) (H := H) (R := fun o H2 => ∃ t, H.tok t = none ∧ ∃ a, o = .ret a ∧ AVLe a (.own t 1 ((encT s).map brow)) ∧ HSub (H.setT t (.frz 5 1 ((encT s).map brow).length)) H2) mo Tryz.func58 c58 ?_) fun o H2 ⟨t, h0, a, e, ha, hs⟩ => ⟨.ret (.own t 1 ((encT s).map brow)), H.setT t (.frz 5 1 ((encT s).map brow).length), by subst e; exact ha, hs, _, rfl, t, h0, rfl, rfl⟩
 unfold e58 r58
 simp only [initEnv, initFrom]
 have hel := enc_len s.length
 refine AM.ghostO 0 5 1 (by decide) rfl fun t h0 => ?_
 repeat' first|refine Sp.g ?_|(intro b hb;repeat first|(refine fe hb ?_;intro _ _ hb)|(refine fT hb ?_;intro hb))|refine rt ?_|refine gA rfl ?_|refine gB rfl ?_|apply cT rfl|apply cF rfl|(apply DM.gbT;rfl)|(apply DM.gbF;rfl)|intro h
 (apply DM.cal (p96 t [] s.length (H.setT t (.frz 5 1 0)) t_same (by simp) (by omega) (by omega)); (· simp only [go_sem, Nat.reduceBEq, Nat.reduceAdd] <;> rfl); (· exact AVLes.refl _))
 rintro r H1 ⟨rfl, rfl⟩
 repeat' first|refine Sp.g ?_|(intro b hb;repeat first|(refine fe hb ?_;intro _ _ hb)|(refine fT hb ?_;intro hb))|refine rt ?_|refine gA rfl ?_|refine gB rfl ?_|apply cT rfl|apply cF rfl|(apply DM.gbT;rfl)|(apply DM.gbF;rfl)|intro h
 (apply DM.apO (t := t); (· rfl); (· exact t_same); (· rfl); (· simp only [List.length_append, List.length_map, List.length_nil]; omega); (· simp only [List.length_append, List.length_map, List.length_nil]; unfold maxLen; omega))
 repeat' first|refine Sp.g ?_|(intro b hb;repeat first|(refine fe hb ?_;intro _ _ hb)|(refine fT hb ?_;intro hb))|refine rt ?_|refine gA rfl ?_|refine gB rfl ?_|apply cT rfl|apply cF rfl|(apply DM.gbT;rfl)|(apply DM.gbF;rfl)|intro h
 rw [setT_setT, setT_setT]
 have e1 : ([] ++ (enc (s.length : Int)).map brow) ++ s.map (fun c => [AV.int .u8 c.toNat]) = (encT s).map brow := by
  simp only [encT, List.map_append, List.map_map, List.nil_append]
  rfl
 refine AM.eqH (show _ = H.setT t (.frz 5 1 ((encT s).map brow).length) by rw [← e1]; simp) ?_
 (apply AM.ret; (· apply Lk.go;constructor<;>first|exact ss|(change _=_;first|(simp only[go_sem,Nat.reduceBEq,Nat.reduceAdd,Nat.reduceLeDiff,reduceIte]<;>rfl)|rfl)|exact Nat.le_of_ble_eq_true rfl|decide|(repeat' first|(apply Lk.go;constructor)|assumption|exact nb ‹_› ‹_›|exact nt ‹_› ‹_›)))
 refine ⟨t, h0, _, rfl, ?_, HSub.refl _⟩
 rw [← e1]
 exact AVLe.refl _
theorem numd_range (op : Int) : -1000 ≤ (numd op).1 ∧ (numd op).2.1 ≤ 1000 := by
 unfold numd
 repeat' split
 all_goals simp
structure VP (p : Prog) : Prop where
 name : p.name.length ≤ 16
 role : 0 ≤ p.role ∧ p.role ≤ 5
 code0 : 1 ≤ p.code.length ∧ p.code.length ≤ 1000
 nv : p.vars.length ≤ 12
 nh : p.hs.length ≤ 40
 no : p.os.length ≤ 40
 vars : ∀ v ∈ p.vars, v.name.length ≤ 16 ∧ fitsV v.sort v.init = true ∧ -1000 ≤ v.sort.lo ∧ v.sort.lo ≤ 1000 ∧ -1000 ≤ v.sort.hi ∧ v.sort.hi ≤ 1000 ∧ (v.sort.k = 1 ∨ v.sort.k = 2) ∧ validV v.init = true
 hs : ∀ v ∈ p.hs, (0 ≤ v.peer ∧ v.peer ≤ 5) ∧ (0 ≤ v.label ∧ v.label ≤ 39) ∧ (0 ≤ v.entry ∧ v.entry ≤ 999)
 os : ∀ v ∈ p.os, (0 ≤ v.peer ∧ v.peer ≤ 5) ∧ (0 ≤ v.label ∧ v.label ≤ 39) ∧ (-1 ≤ v.cond ∧ v.cond ≤ 999) ∧ (0 ≤ v.args ∧ v.args ≤ 999)
 code : ∀ x ∈ p.code, formed x = true
theorem allI_get {n : Nat} {q : Nat → Bool} (h : allI n q = true) {j : Nat} (hj : j < n) : q j = true := by
 simp only [allI, List.all_eq_true, List.mem_range] at h
 exact h j hj
theorem isName_len {s : List UInt8} (h : isName s = true) : s.length ≤ 16 := by
 cases s with
 | nil => simp
 | cons c l => simp only [isName, Bool.and_eq_true, decide_eq_true_eq] at h; exact h.2
theorem VP.of {p : Prog} (h : validP p = true) : VP p := by
 simp only [validP, Bool.and_eq_true] at h
 obtain ⟨⟨⟨⟨⟨h1, h2⟩, h3⟩, h4⟩, h5⟩, h6⟩ := h
 simp only [varsOk, Bool.and_eq_true, decide_eq_true_eq] at h4
 simp only [partsOk, Bool.and_eq_true, decide_eq_true_eq] at h5
 obtain ⟨⟨⟨h51, h52⟩, h53⟩, h54⟩ := h5
 have hc : 1 ≤ p.code.length ∧ p.code.length ≤ 1000 := by simp [inB] at h3; omega
 refine ⟨isName_len h1, by simpa [inB] using h2, hc, h4.2, h53, h54, fun v hv => ?_, fun v hv => ?_, fun v hv => ?_, fun x hx => ?_⟩
 ·obtain ⟨j, hj⟩ := List.getElem?_of_mem hv
  have := allI_get h4.1 (List.getElem?_eq_some_iff.1 hj).1
  simp only [okVar, hj, Bool.and_eq_true] at this
  refine ⟨isName_len this.1.1, this.2, ?_⟩
  have hf := this.2
  simp only [fitsV, Bool.and_eq_true] at hf
  have hs := hf.1.1.1.1
  have hval := hf.1.1.1.2
  simp [validS] at hs
  refine ⟨?_, ?_, ?_, ?_, ?_, hval⟩ <;> omega
 ·obtain ⟨j, hj⟩ := List.getElem?_of_mem hv
  have := allI_get h51 (List.getElem?_eq_some_iff.1 hj).1
  simp only [okHd, hj, Bool.and_eq_true, Prog.party, Prog.target, inB, decide_eq_true_eq] at this
  omega
 ·obtain ⟨j, hj⟩ := List.getElem?_of_mem hv
  have := allI_get h52 (List.getElem?_eq_some_iff.1 hj).1
  simp only [okOf, hj, Bool.and_eq_true, Bool.or_eq_true, Prog.party, Prog.target, inB, decide_eq_true_eq] at this
  omega
 ·obtain ⟨j, hj⟩ := List.getElem?_of_mem hx
  have := allI_get h6 (List.getElem?_eq_some_iff.1 hj).1
  simp only [okIx, hj, okIns, Bool.and_eq_true] at this
  exact this.1
theorem hsub_own {G : AHeap} {t b : Nat} {o o' : Own} {T : TypeId} {c : List AV} (hb : G.blk b = none) : HSub (G.setT t o') (((G.setT t o).setB b T c).setT t o') :=
 ⟨fun x y h => by
  simp only [AHeap.setB, AHeap.setT] at h ⊢
  rw [if_neg (by rintro rfl; rw [hb] at h; cases h)]
  exact h, fun x y h => by
  simp only [AHeap.setB, AHeap.setT] at h ⊢
  by_cases e : x = t
  ·rw [if_pos e] at h ⊢; exact h
  ·rw [if_neg e] at h ⊢; rw [if_neg e]; exact h⟩
theorem hsub_own' {G : AHeap} {t b n m : Nat} {Te : TypeId} {o : Own} {T : TypeId} {c : List AV} (hb : G.blk b = none) (e : n = m) : HSub (G.setT t (.frz Te 1 n)) (((G.setT t o).setB b T c).setT t (.frz Te 1 m)) := by
 subst e
 exact hsub_own hb
section
variable {P : Program} {d me b o : Nat} {l : List EI} {env : Env} {H : AHeap} {K : Env → AHeap → Prop} {Rp : AV → AHeap → Prop} {x : EOpd} {cs : List AV} {T : TypeId} {r : AV}
theorem DM.ldD1 (hm : env.get me = .ptr b 0) (hx : x.ev env = .ptr b o) (hb : H.blk b = some (T, cs)) (hg : cs[o]? = some r) (h : DM P l ((d, r) :: env) H K Rp) : DM P (⟨some d, none, .loadD me false 1 x⟩ :: l) env H K Rp := by
 refine DM.de (.det r) rfl (.pure ?_) fun _ _ => h
 have hl : o + 1 ≤ cs.length := (List.getElem?_eq_some_iff.1 hg).1
 simp only [peval, hm, hx, if_true, hb]
 rw [if_pos hl]
 have : (cs.drop o).take 1 = [r] := by
  rw [List.take_one, List.head?_drop, hg]; rfl
 rw [this]; rfl
theorem DM.ldDA {n : Nat} (hm : env.get me = .ptr b 0) (hx : x.ev env = .ptr b o) (hb : H.blk b = some (T, cs)) (hl : o + n ≤ cs.length) (h : DM P l ((d, .agg ((cs.drop o).take n)) :: env) H K Rp) : DM P (⟨some d, none, .loadD me true n x⟩ :: l) env H K Rp := by
 refine DM.de (.det _) rfl (.pure ?_) fun _ _ => h
 simp only [peval, hm, hx, if_true, hb]
 rw [if_pos hl]
 rfl
end
def encV (v : Val) : List Nat := enc v.k ++ (if v.k = 1 then enc v.n else if v.k = 2 then encT v.s else [])
theorem encT_len (s : List UInt8) : (encT s).length ≤ 2 + s.length := by
 have := enc_len s.length
 simp only [encT, List.length_append, List.length_map]
 omega
theorem encV_len (v : Val) : (encV v).length ≤ 4 + v.s.length := by
 have h1 := enc_len v.k
 have h2 := enc_len v.n
 have h3 := encT_len v.s
 unfold encV
 rw [List.length_append]
 split
 ·omega
 ·split
  ·omega
  ·simp; omega
theorem hsub_own2 {G : AHeap} {t b n m : Nat} {Te : TypeId} {T : TypeId} {c : List AV} (hb : G.blk b = none) (e : n = m) : HSub (G.setT t (.frz Te 1 n)) ((G.setB b T c).setT t (.frz Te 1 m)) := by
 subst e
 refine ⟨fun x y h => ?_, fun x y h => ?_⟩
 ·simp only [AHeap.setB, AHeap.setT] at h ⊢
  rw [if_neg (by rintro rfl; rw [hb] at h; cases h)]
  exact h
 ·simp only [AHeap.setB, AHeap.setT] at h ⊢
  exact h
theorem fin_setT {H : AHeap} {t : Nat} {o : Own} (h : HFin H) : HFin (H.setT t o) := by
 obtain ⟨N, hN⟩ := h
 refine ⟨max N (t + 1), fun n hn => ⟨setT_blk.trans (hN n (by omega)).1, ?_⟩⟩
 rw [setT_ne (by omega)]
 exact (hN n (by omega)).2
theorem p59 (t : Nat) (rows : List (List AV)) (v : Val) (H : AHeap) (ht : H.tok t = some (.frz 5 1 rows.length)) (hr : rows.length ≤ 800000) (hk : -1000 ≤ v.k ∧ v.k ≤ 1000) (hn : -1000 ≤ v.n ∧ v.n ≤ 1000) (hs : v.s.length ≤ 1000) :
  ACalls Tryz.prog 59 [.own t 1 rows, v.av] H (Ret (RO H t (rows ++ (encV v).map brow))) := by
 refine own_of mo Tryz.func59 c59 ?_
 unfold e59 r59
 simp only [initEnv, initFrom]
 have hel := enc_len v.k
 have eV : rows ++ (encV v).map brow = (rows ++ (enc v.k).map brow) ++ (if v.k = 1 then enc v.n else if v.k = 2 then encT v.s else []).map brow := by unfold encV; rw [List.map_append, List.append_assoc]
 rw [eV]
 have hl1 : (rows ++ (enc v.k).map brow).length ≤ 800002 := by simp only [List.length_append, List.length_map]; omega
 generalize hA : rows ++ (enc v.k).map brow = A at hl1
 repeat' first|refine Sp.g ?_|(intro b hb;repeat first|(refine fe hb ?_;intro _ _ hb)|(refine fT hb ?_;intro hb))|refine rt ?_|refine gA rfl ?_|refine gB rfl ?_|apply cT rfl|apply cF rfl|(apply DM.gbT;rfl)|(apply DM.gbF;rfl)|intro h
 rename Nat => b1
 have hb1 : H.blk b1 = none := by assumption
 repeat' first|refine Sp.g ?_|(intro b hb;repeat first|(refine fe hb ?_;intro _ _ hb)|(refine fT hb ?_;intro hb))|refine rt ?_|refine gA rfl ?_|refine gB rfl ?_|apply cT rfl|apply cF rfl|(apply DM.gbT;rfl)|(apply DM.gbF;rfl)|intro h
 (apply DM.cal (p96 t rows v.k _ (t_B ht) (by omega) hk.1 hk.2); (· simp only [go_sem, Nat.reduceBEq, Nat.reduceAdd] <;> rfl); (· exact AVLes.refl _))
 rintro r H1 ⟨rfl, rfl⟩
 simp only [put_some]
 rw [hA]
 repeat' first|refine Sp.g ?_|(intro b hb;repeat first|(refine fe hb ?_;intro _ _ hb)|(refine fT hb ?_;intro hb))|refine rt ?_|refine gA rfl ?_|refine gB rfl ?_|apply cT rfl|apply cF rfl|(apply DM.gbT;rfl)|(apply DM.gbF;rfl)|intro h
 (apply AM.cond; (· rfl))
 ·intro h1
  simp at h1
  rw [if_pos h1]
  repeat' first|refine Sp.g ?_|(intro b hb;repeat first|(refine fe hb ?_;intro _ _ hb)|(refine fT hb ?_;intro hb))|refine rt ?_|refine gA rfl ?_|refine gB rfl ?_|apply cT rfl|apply cF rfl|(apply DM.gbT;rfl)|(apply DM.gbF;rfl)|intro h
  (apply DM.cal (p96 t A v.n _ t_same (by omega) hn.1 hn.2); (· simp only [go_sem, Nat.reduceBEq, Nat.reduceAdd] <;> rfl); (· exact AVLes.refl _))
  rintro r H1 ⟨rfl, rfl⟩
  rw [setT_setT]
  repeat' first|refine Sp.g ?_|(intro b hb;repeat first|(refine fe hb ?_;intro _ _ hb)|(refine fT hb ?_;intro hb))|refine rt ?_|refine gA rfl ?_|refine gB rfl ?_|apply cT rfl|apply cF rfl|(apply DM.gbT;rfl)|(apply DM.gbF;rfl)|intro h
  refine AM.forget _ (hsub_own2 hb1 rfl) ?_
  refine Sr.g ?_
  exact AVLe.refl _
 ·intro h1
  simp at h1
  rw [if_neg h1]
  repeat' first|refine Sp.g ?_|(intro b hb;repeat first|(refine fe hb ?_;intro _ _ hb)|(refine fT hb ?_;intro hb))|refine rt ?_|refine gA rfl ?_|refine gB rfl ?_|apply cT rfl|apply cF rfl|(apply DM.gbT;rfl)|(apply DM.gbF;rfl)|intro h
  (apply AM.cond; (· rfl))
  ·intro h2
   simp at h2
   rw [if_pos h2]
   repeat' first|refine Sp.g ?_|(intro b hb;repeat first|(refine fe hb ?_;intro _ _ hb)|(refine fT hb ?_;intro hb))|refine rt ?_|refine gA rfl ?_|refine gB rfl ?_|apply cT rfl|apply cF rfl|(apply DM.gbT;rfl)|(apply DM.gbF;rfl)|intro h
   (apply DM.cal (p58 t A v.s _ t_same (by omega) hs); (· simp only [go_sem, Nat.reduceBEq, Nat.reduceAdd] <;> rfl); (· exact AVLes.refl _))
   rintro r H1 ⟨rfl, rfl⟩
   rw [setT_setT]
   repeat' first|refine Sp.g ?_|(intro b hb;repeat first|(refine fe hb ?_;intro _ _ hb)|(refine fT hb ?_;intro hb))|refine rt ?_|refine gA rfl ?_|refine gB rfl ?_|apply cT rfl|apply cF rfl|(apply DM.gbT;rfl)|(apply DM.gbF;rfl)|intro h
   refine AM.forget _ (hsub_own2 hb1 rfl) ?_
   refine Sr.g ?_
   exact AVLe.refl _
  ·intro h2
   simp at h2
   rw [if_neg h2]
   repeat' first|refine Sp.g ?_|(intro b hb;repeat first|(refine fe hb ?_;intro _ _ hb)|(refine fT hb ?_;intro hb))|refine rt ?_|refine gA rfl ?_|refine gB rfl ?_|apply cT rfl|apply cF rfl|(apply DM.gbT;rfl)|(apply DM.gbF;rfl)|intro h
   refine AM.forget _ (hsub_own2 hb1 rfl) ?_
   refine AM.eqH (show _ = H.setT t (.frz 5 1 (A ++ List.map brow []).length) by simp) ?_
   refine Sr.g ?_
   refine avle_eq ?_
   simp
def encVar (v : Var_) : List Nat := encT v.name ++ [v.sort.k, v.sort.lo, v.sort.hi].flatMap enc ++ encV v.init
def encH (v : Hd) : List Nat := [v.peer, v.label, v.entry].flatMap enc
def encO (v : Of_) : List Nat := [v.peer, v.label, v.cond, v.args].flatMap enc
def encI (x : Ins_) : List Nat := [x.op, x.n].flatMap enc ++ encT x.s
def encHd (p : Prog) : List Nat := encT p.name ++ [p.role, (p.vars.length : Int)].flatMap enc
def encP (p : Prog) : List Nat := encHd p ++ p.vars.flatMap encVar ++ [(p.hs.length : Int)].flatMap enc ++ p.hs.flatMap encH ++ [(p.os.length : Int)].flatMap enc ++ p.os.flatMap encO ++ [(p.code.length : Int)].flatMap enc ++ p.code.flatMap encI
theorem flat_len {α : Type} {f : α → List Nat} {k : Nat} {l : List α} (h : ∀ v ∈ l, (f v).length ≤ k) : (l.flatMap f).length ≤ k * l.length := by
 induction l with
 | nil => simp
 | cons a l ih =>
  have h1 := h a (List.mem_cons_self ..)
  have h2 := ih fun v hv => h v (List.mem_cons_of_mem _ hv)
  rw [List.flatMap_cons, List.length_append, List.length_cons, Nat.mul_add]
  omega
theorem formed_facts {x : Ins_} (h : formed x = true) : (-1000 ≤ x.op ∧ x.op ≤ 1000) ∧ (-1000 ≤ x.n ∧ x.n ≤ 1000) ∧ x.s.length ≤ 40 := by
 have hr := numd_range x.op
 rw [formed_eq] at h
 simp only [Bool.and_eq_true, inB, decide_eq_true_eq] at h
 refine ⟨by omega, by omega, ?_⟩
 have h2 := h.2
 by_cases e : x.op = 2
 ·rw [if_pos e] at h2
  simp [validV] at h2
  omega
 ·rw [if_neg e] at h2
  simp at h2
  rw [h2]; simp
theorem val_facts {v : Val} (h : validV v = true) : (-1000 ≤ v.k ∧ v.k ≤ 1000) ∧ (-1000 ≤ v.n ∧ v.n ≤ 1000) ∧ v.s.length ≤ 40 := by
 simp [validV] at h
 rcases h with h | h
 ·obtain ⟨h, e⟩ := h
  rw [e]
  simp
  omega
 ·omega
theorem VP.lens {p : Prog} (vp : VP p) (i : Nat) : (encHd p).length ≤ 22 ∧ ((p.vars.take i).flatMap encVar).length ≤ 1000 ∧ ((p.hs.take i).flatMap encH).length ≤ 240 ∧ ((p.os.take i).flatMap encO).length ≤ 320 ∧ ((p.code.take i).flatMap encI).length ≤ 50000 := by
 have h0 := vp.name; have h1 := vp.nv; have h2 := vp.nh; have h3 := vp.no; have h4 := vp.code0
 refine ⟨?_, ?_, ?_, ?_, ?_⟩
 ·have a := encT_len p.name
  have b := encs_len [p.role, (p.vars.length : Int)]
  simp only [encHd, List.length_append, List.length_cons, List.length_nil] at *
  omega
 ·have a := flat_len (f := encVar) (k := 80) (l := p.vars.take i) fun v hv => by
   have hv' := vp.vars v (List.mem_of_mem_take hv)
   have a := encT_len v.name
   have b := encs_len [v.sort.k, v.sort.lo, v.sort.hi]
   have c := encV_len v.init
   have d := val_facts hv'.2.2.2.2.2.2.2
   simp only [encVar, List.length_append, List.length_cons, List.length_nil] at *
   omega
  rw [List.length_take] at a
  omega
 ·have a := flat_len (f := encH) (k := 6) (l := p.hs.take i) fun v hv => by
   have b := encs_len [v.peer, v.label, v.entry]
   simp only [encH, List.length_cons, List.length_nil] at *
   omega
  rw [List.length_take] at a
  omega
 ·have a := flat_len (f := encO) (k := 8) (l := p.os.take i) fun v hv => by
   have b := encs_len [v.peer, v.label, v.cond, v.args]
   simp only [encO, List.length_cons, List.length_nil] at *
   omega
  rw [List.length_take] at a
  omega
 ·have a := flat_len (f := encI) (k := 50) (l := p.code.take i) fun v hv => by
   have b := encs_len [v.op, v.n]
   have c := encT_len v.s
   have d := formed_facts (vp.code v (List.mem_of_mem_take hv))
   simp only [encI, List.length_append, List.length_cons, List.length_nil] at *
   omega
  rw [List.length_take] at a
  omega
def encQ (p : Prog) : List Nat := if validP p then encP p else []
set_option maxHeartbeats 4000000 in
theorem p20 (p : Prog) : Pure Tryz.prog 20 [p.av] (.vs 1 ((encQ p).map brow)) := by
 refine ok_args fun ok => ?_
 refine pure_intro mo Tryz.func20 c20 fun H => ?_
 unfold e20 r20
 simp only [initEnv, initFrom]
 repeat' first|refine Sp.g ?_|(intro b hb;repeat first|(refine fe hb ?_;intro _ _ hb)|(refine fT hb ?_;intro hb))|refine rt ?_|refine gA rfl ?_|refine gB rfl ?_|apply cT rfl|apply cF rfl|(apply DM.gbT;rfl)|(apply DM.gbF;rfl)|intro h
 (apply DM.pcs (p11 p); (· simp only [go_sem, Nat.reduceBEq, Nat.reduceAdd] <;> rfl); (· exact AVLes.refl _))
 repeat' first|refine Sp.g ?_|(intro b hb;repeat first|(refine fe hb ?_;intro _ _ hb)|(refine fT hb ?_;intro hb))|refine rt ?_|refine gA rfl ?_|refine gB rfl ?_|apply cT rfl|apply cF rfl|(apply DM.gbT;rfl)|(apply DM.gbF;rfl)|intro h
 (apply AM.cond; (· rfl))
 ·intro hv
  have hv' : validP p = false := by simpa using hv
  repeat' first|refine Sp.g ?_|(intro b hb;repeat first|(refine fe hb ?_;intro _ _ hb)|(refine fT hb ?_;intro hb))|refine rt ?_|refine gA rfl ?_|refine gB rfl ?_|apply cT rfl|apply cF rfl|(apply DM.gbT;rfl)|(apply DM.gbF;rfl)|intro h
  refine Sr.g ?_
  unfold encQ
  rw [hv']
  exact AVLe.nil
 intro hv
 have hv' : validP p = true := by simpa using hv
 have vp := VP.of hv'
 have hq : encQ p = encP p := if_pos hv'
 rw [hq]
 clear hv hq
 rename Nat => b1
 have hb1 : H.blk b1 = none := by assumption
 have hnm := vp.name
 have hrole := vp.role
 have nv := vp.nv; have nh := vp.nh; have no := vp.no; have c0 := vp.code0
 repeat' first|refine Sp.g ?_|(intro b hb;repeat first|(refine fe hb ?_;intro _ _ hb)|(refine fT hb ?_;intro hb))|refine gA rfl ?_|refine gB rfl ?_|apply cT rfl|apply cF rfl|(apply DM.gbT;rfl)|(apply DM.gbF;rfl)|intro h
 (refine AM.reg [] ?_; simp only [annotate, AV.rows])
 repeat' first|refine Sp.g ?_|(intro b hb;repeat first|(refine fe hb ?_;intro _ _ hb)|(refine fT hb ?_;intro hb))|refine rt ?_|refine gA rfl ?_|refine gB rfl ?_|apply cT rfl|apply cF rfl|(apply DM.gbT;rfl)|(apply DM.gbF;rfl)|intro h|(apply DM.ldD1;(· rfl);(· rfl);(· repeat' first|(apply Lk.go;constructor)|assumption|exact nb ‹_› ‹_›|exact nt ‹_› ‹_›);(· rfl))|(apply DM.ldDA;(· rfl);(· rfl);(· repeat' first|(apply Lk.go;constructor)|assumption|exact nb ‹_› ‹_›|exact nt ‹_› ‹_›);(· exact Nat.le_of_ble_eq_true rfl))
 (apply DM.calD (p58n p.name _ (by omega)); (· intro s hs; simp only [List.mem_singleton] at hs; subst hs; exact ⟨_, rfl, fun r H' h => by (obtain ⟨t, _, _, h⟩ := h; rw [h]; exact setT_blk)⟩); (· rintro ⟨N, hN⟩; exact ⟨_, _, ⟨N, (hN N (Nat.le_refl _)).2, rfl, rfl⟩, fin_setT ⟨N, hN⟩⟩); (· simp only [go_sem, Nat.reduceBEq, Nat.reduceAdd] <;> rfl); (· exact AVLes.refl _))
 rintro r H1 ⟨tk, htk, rfl, rfl⟩
 simp only [put_some]
 have htk0 : H.tok tk = none := by rw [← htk]; exact (t_B rfl).symm
 repeat' first|refine Sp.g ?_|(intro b hb;repeat first|(refine fe hb ?_;intro _ _ hb)|(refine fT hb ?_;intro hb))|refine rt ?_|refine gA rfl ?_|refine gB rfl ?_|apply cT rfl|apply cF rfl|(apply DM.gbT;rfl)|(apply DM.gbF;rfl)|intro h|(apply DM.ldD1;(· rfl);(· rfl);(· repeat' first|(apply Lk.go;constructor)|assumption|exact nb ‹_› ‹_›|exact nt ‹_› ‹_›);(· rfl))|(apply DM.ldDA;(· rfl);(· rfl);(· repeat' first|(apply Lk.go;constructor)|assumption|exact nb ‹_› ‹_›|exact nt ‹_› ‹_›);(· exact Nat.le_of_ble_eq_true rfl))
 have hl0 := (vp.lens 0).1
 (apply DM.cal (p57 tk ((encT p.name).map brow) [p.role, ((p.vars.map Var_.row).length : Int)] _ t_same (by have := encT_len p.name; simp only [List.length_map, List.length_cons, List.length_nil]; omega) (by intro n hn; simp at hn; rcases hn with rfl | rfl <;> omega)); (· simp only [go_sem, Nat.reduceBEq, Nat.reduceAdd] <;> rfl); (· exact AVLes.refl _))
 rintro r H1 ⟨rfl, rfl⟩
 rw [setT_setT, show (p.vars.map Var_.row).length = p.vars.length from List.length_map .., show (encT p.name).map brow ++ ([p.role, (p.vars.length : Int)].flatMap enc).map brow = (encHd p).map brow from by rw [← List.map_append]; rfl]
 simp only [put_some]
 repeat' first|refine Sp.g ?_|(intro b hb;repeat first|(refine fe hb ?_;intro _ _ hb)|(refine fT hb ?_;intro hb))|refine rt ?_|refine gA rfl ?_|refine gB rfl ?_|apply cT rfl|apply cF rfl|(apply DM.gbT;rfl)|(apply DM.gbF;rfl)|intro h
 refine AM.loopX (X := Nat) 0 (fun i => [(1, .ptr b1 0), (26, .vs 7 (p.vars.map Var_.row)), (27, .int .i64 p.vars.length), (28, .int .i64 i), (3, .own tk 1 ((encHd p ++ (p.vars.take i).flatMap encVar).map brow))]) (fun i H' => H' = (H.setB b1 36 p.cells).setT tk (.frz 5 1 ((encHd p ++ (p.vars.take i).flatMap encVar).map brow).length) ∧ i ≤ p.vars.length) (fun i => p.vars.length - i) ?_ ?_ ?_
 ·refine ⟨?_, by omega⟩
  simp
 ·(repeat first | exact envle_nil _ | (refine envle_cons ?_ ?_; · (simp only [go_sem, Nat.reduceBEq, Nat.reduceAdd]; exact AVLe.refl _)))
  refine envle_cons ?_ (envle_cons ?_ (envle_cons ?_ (envle_nil _)))
  ·simp only [Env.get, Nat.reduceBEq, cond_true, cond_false, beq_self_eq_true]
   exact avle_int (by simp)
  ·simp only [Env.get, Nat.reduceBEq, cond_true, cond_false, beq_self_eq_true]
   exact AVLe.refl _
  ·simp only [Env.get, Nat.reduceBEq, cond_true, cond_false, beq_self_eq_true]
   refine avle_eq ?_
   simp
 rintro i H' ⟨rfl, hi⟩
 repeat' first|refine Sp.g ?_|(intro b hb;repeat first|(refine fe hb ?_;intro _ _ hb)|(refine fT hb ?_;intro hb))|refine rt ?_|refine gA rfl ?_|refine gB rfl ?_|apply cT rfl|apply cF rfl|(apply DM.gbT;rfl)|(apply DM.gbF;rfl)|intro h
 (apply AM.cond; (· rfl))
 ·intro h3
  simp at h3
  obtain ⟨v, hvx⟩ := some_of h3
  have hmem := List.mem_of_getElem? hvx
  have hlen : ((encHd p ++ (p.vars.take i).flatMap encVar).map brow).length ≤ 60000 := by have l1 := vp.lens i; have l2 := vp.lens 1000; have e1 := encs_len [(p.hs.length : Int)]; have e2 := encs_len [(p.os.length : Int)]; have e3 := encs_len [(p.code.length : Int)]; rw [List.take_of_length_le (show p.vars.length ≤ 1000 by omega), List.take_of_length_le (show p.hs.length ≤ 1000 by omega), List.take_of_length_le (show p.os.length ≤ 1000 by omega)] at l2; simp only [List.length_append, List.length_map, List.length_cons, List.length_nil] at *; omega
  generalize hC : (encHd p ++ (p.vars.take i).flatMap encVar).map brow = C at hlen
  have hD : ((encHd p ++ (p.vars.take (i + 1)).flatMap encVar).map brow) = C ++ (encVar v).map brow := by
   rw [← hC, ← List.map_append, List.append_assoc, List.take_add_one, hvx, List.flatMap_append]
   simp
  repeat' first|refine Sp.g ?_|(intro b hb;repeat first|(refine fe hb ?_;intro _ _ hb)|(refine fT hb ?_;intro hb))|refine rt ?_|refine gA rfl ?_|refine gB rfl ?_|apply cT rfl|apply cF rfl|(apply DM.gbT;rfl)|(apply DM.gbF;rfl)|intro h
  (apply DM.ixV (row := v.row) (z := (i : Int)) (by omega) (row_get Var_.row hvx); (· rfl); (· rfl))
  have hv1 := vp.vars v hmem
  have hv2 := val_facts hv1.2.2.2.2.2.2.2
  have la := encT_len v.name
  have lb := encs_len [v.sort.k, v.sort.lo, v.sort.hi]
  simp only [List.length_cons, List.length_nil] at lb
  repeat' first|refine Sp.g ?_|(intro b hb;repeat first|(refine fe hb ?_;intro _ _ hb)|(refine fT hb ?_;intro hb))|refine gA rfl ?_|refine gB rfl ?_|apply cT rfl|apply cF rfl|(apply DM.gbT;rfl)|(apply DM.gbF;rfl)|intro h
  (refine AM.reg [] ?_; simp only [annotate, AV.rows])
  repeat' first|refine Sp.g ?_|(intro b hb;repeat first|(refine fe hb ?_;intro _ _ hb)|(refine fT hb ?_;intro hb))|refine rt ?_|refine gA rfl ?_|refine gB rfl ?_|apply cT rfl|apply cF rfl|(apply DM.gbT;rfl)|(apply DM.gbF;rfl)|intro h|(apply DM.ldD1;(· rfl);(· rfl);(· repeat' first|(apply Lk.go;constructor)|assumption|exact nb ‹_› ‹_›|exact nt ‹_› ‹_›);(· rfl))|(apply DM.ldDA;(· rfl);(· rfl);(· repeat' first|(apply Lk.go;constructor)|assumption|exact nb ‹_› ‹_›|exact nt ‹_› ‹_›);(· exact Nat.le_of_ble_eq_true rfl))
  (apply DM.calD (p58 tk C v.name _ (t_B t_same) (by omega) (by omega)); (· intro s hs; simp only [List.mem_singleton] at hs; subst hs; exact ⟨_, rfl, fun r H' h => by rw [h.2]; exact setT_blk⟩); (· exact fun hF => ⟨_, _, ⟨rfl, rfl⟩, fin_setT hF⟩); (· simp only [go_sem, Nat.reduceBEq, Nat.reduceAdd] <;> rfl); (· exact AVLes.refl _))
  rintro r H1 ⟨rfl, rfl⟩
  simp only [put_some]
  repeat' first|refine Sp.g ?_|(intro b hb;repeat first|(refine fe hb ?_;intro _ _ hb)|(refine fT hb ?_;intro hb))|refine rt ?_|refine gA rfl ?_|refine gB rfl ?_|apply cT rfl|apply cF rfl|(apply DM.gbT;rfl)|(apply DM.gbF;rfl)|intro h|(apply DM.ldD1;(· rfl);(· rfl);(· repeat' first|(apply Lk.go;constructor)|assumption|exact nb ‹_› ‹_›|exact nt ‹_› ‹_›);(· rfl))|(apply DM.ldDA;(· rfl);(· rfl);(· repeat' first|(apply Lk.go;constructor)|assumption|exact nb ‹_› ‹_›|exact nt ‹_› ‹_›);(· exact Nat.le_of_ble_eq_true rfl))
  (apply DM.calD (p57 tk (C ++ (encT v.name).map brow) [v.sort.k, v.sort.lo, v.sort.hi] _ t_same (by simp only [List.length_append, List.length_map, List.length_cons, List.length_nil]; omega) (by intro n hn; simp at hn; rcases hn with rfl | rfl | rfl <;> omega)); (· intro s hs; simp only [List.mem_singleton] at hs; subst hs; exact ⟨_, rfl, fun r H' h => by rw [h.2]; exact setT_blk⟩); (· exact fun hF => ⟨_, _, ⟨rfl, rfl⟩, fin_setT hF⟩); (· simp only [go_sem, Nat.reduceBEq, Nat.reduceAdd] <;> rfl); (· exact AVLes.refl _))
  rintro r H1 ⟨rfl, rfl⟩
  simp only [put_some]
  rw [setT_setT]
  repeat' first|refine Sp.g ?_|(intro b hb;repeat first|(refine fe hb ?_;intro _ _ hb)|(refine fT hb ?_;intro hb))|refine rt ?_|refine gA rfl ?_|refine gB rfl ?_|apply cT rfl|apply cF rfl|(apply DM.gbT;rfl)|(apply DM.gbF;rfl)|intro h|(apply DM.ldD1;(· rfl);(· rfl);(· repeat' first|(apply Lk.go;constructor)|assumption|exact nb ‹_› ‹_›|exact nt ‹_› ‹_›);(· rfl))|(apply DM.ldDA;(· rfl);(· rfl);(· repeat' first|(apply Lk.go;constructor)|assumption|exact nb ‹_› ‹_›|exact nt ‹_› ‹_›);(· exact Nat.le_of_ble_eq_true rfl))
  (apply DM.cal (p59 tk ((C ++ (encT v.name).map brow) ++ ([v.sort.k, v.sort.lo, v.sort.hi].flatMap enc).map brow) v.init _ t_same (by simp only [List.length_append, List.length_map]; omega) hv2.1 hv2.2.1 (by omega)); (· simp only [go_sem, Nat.reduceBEq, Nat.reduceAdd] <;> rfl); (· exact AVLes.refl _))
  rintro r H1 ⟨rfl, rfl⟩
  rw [setT_setT, show (((C ++ (encT v.name).map brow) ++ ([v.sort.k, v.sort.lo, v.sort.hi].flatMap enc).map brow) ++ (encV v.init).map brow) = C ++ (encVar v).map brow from by unfold encVar; simp only [List.map_append, List.append_assoc]]
  simp only [put_some]
  repeat' first|refine Sp.g ?_|(intro b hb;repeat first|(refine fe hb ?_;intro _ _ hb)|(refine fT hb ?_;intro hb))|refine rt ?_|refine gA rfl ?_|refine gB rfl ?_|apply cT rfl|apply cF rfl|(apply DM.gbT;rfl)|(apply DM.gbF;rfl)|intro h
  refine AM.forget ((H.setB b1 36 p.cells).setT tk (.frz 5 1 (C ++ (encVar v).map brow).length)) (hsub_own' ?_ rfl) ?_
  ·exact g_ne (by assumption) (by assumption)
  refine AM.roundX (i + 1) ⟨by rw [hD], by omega⟩ ?_ (show p.vars.length - (i + 1) < p.vars.length - i by omega)
  rw [hD]
  (repeat first | exact envle_nil _ | (refine envle_cons ?_ ?_; · (simp only [go_sem, Nat.reduceBEq, Nat.reduceAdd]; exact AVLe.refl _)))
  refine envle_cons ?_ ?_
  ·simp only [go_sem, Nat.reduceBEq, Nat.reduceAdd]
   refine avle_int ?_
   rw [inc64 h3 ok.vars]
  exact envle_cons (AVLe.refl _) (envle_nil _)
 intro h3
 simp at h3
 rw [show i = p.vars.length by omega, List.take_length]
 clear h3 hi
 repeat' first|refine Sp.g ?_|(intro b hb;repeat first|(refine fe hb ?_;intro _ _ hb)|(refine fT hb ?_;intro hb))|refine rt ?_|refine gA rfl ?_|refine gB rfl ?_|apply cT rfl|apply cF rfl|(apply DM.gbT;rfl)|(apply DM.gbF;rfl)|intro h
 (apply DM.cal (p57 tk ((encHd p ++ p.vars.flatMap encVar).map brow) [((p.hs.map Hd.row).length : Int)] _ t_same (by have l1 := vp.lens 0; have l2 := vp.lens 1000; have e1 := encs_len [(p.hs.length : Int)]; have e2 := encs_len [(p.os.length : Int)]; have e3 := encs_len [(p.code.length : Int)]; rw [List.take_of_length_le (show p.vars.length ≤ 1000 by omega), List.take_of_length_le (show p.hs.length ≤ 1000 by omega), List.take_of_length_le (show p.os.length ≤ 1000 by omega)] at l2; simp only [List.length_append, List.length_map, List.length_cons, List.length_nil] at *; omega) (by intro n hn; simp at hn; subst hn; omega)); (· simp only [go_sem, Nat.reduceBEq, Nat.reduceAdd] <;> rfl); (· exact AVLes.refl _))
 rintro r H1 ⟨rfl, rfl⟩
 rw [setT_setT, show (p.hs.map Hd.row).length = p.hs.length from List.length_map .., ← List.map_append]
 simp only [put_some]
 repeat' first|refine Sp.g ?_|(intro b hb;repeat first|(refine fe hb ?_;intro _ _ hb)|(refine fT hb ?_;intro hb))|refine rt ?_|refine gA rfl ?_|refine gB rfl ?_|apply cT rfl|apply cF rfl|(apply DM.gbT;rfl)|(apply DM.gbF;rfl)|intro h
 refine AM.loopX (X := Nat) 0 (fun i => [(1, .ptr b1 0), (58, .vs 3 (p.hs.map Hd.row)), (59, .int .i64 p.hs.length), (60, .int .i64 i), (3, .own tk 1 ((encHd p ++ p.vars.flatMap encVar ++ [(p.hs.length : Int)].flatMap enc ++ (p.hs.take i).flatMap encH).map brow))]) (fun i H' => H' = (H.setB b1 36 p.cells).setT tk (.frz 5 1 ((encHd p ++ p.vars.flatMap encVar ++ [(p.hs.length : Int)].flatMap enc ++ (p.hs.take i).flatMap encH).map brow).length) ∧ i ≤ p.hs.length) (fun i => p.hs.length - i) ?_ ?_ ?_
 ·refine ⟨?_, by omega⟩
  simp
 ·(repeat first | exact envle_nil _ | (refine envle_cons ?_ ?_; · (simp only [go_sem, Nat.reduceBEq, Nat.reduceAdd]; exact AVLe.refl _)))
  refine envle_cons ?_ (envle_cons ?_ (envle_cons ?_ (envle_nil _)))
  ·simp only [Env.get, Nat.reduceBEq, cond_true, cond_false, beq_self_eq_true]
   exact avle_int (by simp)
  ·simp only [Env.get, Nat.reduceBEq, cond_true, cond_false, beq_self_eq_true]
   exact AVLe.refl _
  ·simp only [Env.get, Nat.reduceBEq, cond_true, cond_false, beq_self_eq_true]
   refine avle_eq ?_
   simp
 rintro i H' ⟨rfl, hi⟩
 repeat' first|refine Sp.g ?_|(intro b hb;repeat first|(refine fe hb ?_;intro _ _ hb)|(refine fT hb ?_;intro hb))|refine rt ?_|refine gA rfl ?_|refine gB rfl ?_|apply cT rfl|apply cF rfl|(apply DM.gbT;rfl)|(apply DM.gbF;rfl)|intro h
 (apply AM.cond; (· rfl))
 ·intro h3
  simp at h3
  obtain ⟨v, hvx⟩ := some_of h3
  have hmem := List.mem_of_getElem? hvx
  have hlen : ((encHd p ++ p.vars.flatMap encVar ++ [(p.hs.length : Int)].flatMap enc ++ (p.hs.take i).flatMap encH).map brow).length ≤ 60000 := by have l1 := vp.lens i; have l2 := vp.lens 1000; have e1 := encs_len [(p.hs.length : Int)]; have e2 := encs_len [(p.os.length : Int)]; have e3 := encs_len [(p.code.length : Int)]; rw [List.take_of_length_le (show p.vars.length ≤ 1000 by omega), List.take_of_length_le (show p.hs.length ≤ 1000 by omega), List.take_of_length_le (show p.os.length ≤ 1000 by omega)] at l2; simp only [List.length_append, List.length_map, List.length_cons, List.length_nil] at *; omega
  generalize hC : (encHd p ++ p.vars.flatMap encVar ++ [(p.hs.length : Int)].flatMap enc ++ (p.hs.take i).flatMap encH).map brow = C at hlen
  have hD : ((encHd p ++ p.vars.flatMap encVar ++ [(p.hs.length : Int)].flatMap enc ++ (p.hs.take (i + 1)).flatMap encH).map brow) = C ++ (encH v).map brow := by
   rw [← hC, ← List.map_append, List.append_assoc, List.take_add_one, hvx, List.flatMap_append]
   simp
  repeat' first|refine Sp.g ?_|(intro b hb;repeat first|(refine fe hb ?_;intro _ _ hb)|(refine fT hb ?_;intro hb))|refine rt ?_|refine gA rfl ?_|refine gB rfl ?_|apply cT rfl|apply cF rfl|(apply DM.gbT;rfl)|(apply DM.gbF;rfl)|intro h
  (apply DM.ixV (row := v.row) (z := (i : Int)) (by omega) (row_get Hd.row hvx); (· rfl); (· rfl))
  have hv1 := vp.hs v hmem
  repeat' first|refine Sp.g ?_|(intro b hb;repeat first|(refine fe hb ?_;intro _ _ hb)|(refine fT hb ?_;intro hb))|refine rt ?_|refine gA rfl ?_|refine gB rfl ?_|apply cT rfl|apply cF rfl|(apply DM.gbT;rfl)|(apply DM.gbF;rfl)|intro h
  (apply DM.cal (p57 tk C [v.peer, v.label, v.entry] _ (t_B t_same) (by simp only [List.length_cons, List.length_nil]; omega) (by intro n hn; simp at hn; rcases hn with rfl | rfl | rfl <;> omega)); (· simp only [go_sem, Nat.reduceBEq, Nat.reduceAdd] <;> rfl); (· exact AVLes.refl _))
  rintro r H1 ⟨rfl, rfl⟩
  rw [show C ++ ([v.peer, v.label, v.entry].flatMap enc).map brow = C ++ (encH v).map brow from rfl]
  simp only [put_some]
  repeat' first|refine Sp.g ?_|(intro b hb;repeat first|(refine fe hb ?_;intro _ _ hb)|(refine fT hb ?_;intro hb))|refine rt ?_|refine gA rfl ?_|refine gB rfl ?_|apply cT rfl|apply cF rfl|(apply DM.gbT;rfl)|(apply DM.gbF;rfl)|intro h
  refine AM.forget ((H.setB b1 36 p.cells).setT tk (.frz 5 1 (C ++ (encH v).map brow).length)) (hsub_own' ?_ rfl) ?_
  ·exact g_ne (by assumption) (by assumption)
  refine AM.roundX (i + 1) ⟨by rw [hD], by omega⟩ ?_ (show p.hs.length - (i + 1) < p.hs.length - i by omega)
  rw [hD]
  (repeat first | exact envle_nil _ | (refine envle_cons ?_ ?_; · (simp only [go_sem, Nat.reduceBEq, Nat.reduceAdd]; exact AVLe.refl _)))
  refine envle_cons ?_ ?_
  ·simp only [go_sem, Nat.reduceBEq, Nat.reduceAdd]
   refine avle_int ?_
   rw [inc64 h3 ok.hs]
  exact envle_cons (AVLe.refl _) (envle_nil _)
 intro h3
 simp at h3
 rw [show i = p.hs.length by omega, List.take_length]
 clear h3 hi
 repeat' first|refine Sp.g ?_|(intro b hb;repeat first|(refine fe hb ?_;intro _ _ hb)|(refine fT hb ?_;intro hb))|refine rt ?_|refine gA rfl ?_|refine gB rfl ?_|apply cT rfl|apply cF rfl|(apply DM.gbT;rfl)|(apply DM.gbF;rfl)|intro h
 (apply DM.cal (p57 tk ((encHd p ++ p.vars.flatMap encVar ++ [(p.hs.length : Int)].flatMap enc ++ p.hs.flatMap encH).map brow) [((p.os.map Of_.row).length : Int)] _ t_same (by have l1 := vp.lens 0; have l2 := vp.lens 1000; have e1 := encs_len [(p.hs.length : Int)]; have e2 := encs_len [(p.os.length : Int)]; have e3 := encs_len [(p.code.length : Int)]; rw [List.take_of_length_le (show p.vars.length ≤ 1000 by omega), List.take_of_length_le (show p.hs.length ≤ 1000 by omega), List.take_of_length_le (show p.os.length ≤ 1000 by omega)] at l2; simp only [List.length_append, List.length_map, List.length_cons, List.length_nil] at *; omega) (by intro n hn; simp at hn; subst hn; omega)); (· simp only [go_sem, Nat.reduceBEq, Nat.reduceAdd] <;> rfl); (· exact AVLes.refl _))
 rintro r H1 ⟨rfl, rfl⟩
 rw [setT_setT, show (p.os.map Of_.row).length = p.os.length from List.length_map .., ← List.map_append]
 simp only [put_some]
 repeat' first|refine Sp.g ?_|(intro b hb;repeat first|(refine fe hb ?_;intro _ _ hb)|(refine fT hb ?_;intro hb))|refine rt ?_|refine gA rfl ?_|refine gB rfl ?_|apply cT rfl|apply cF rfl|(apply DM.gbT;rfl)|(apply DM.gbF;rfl)|intro h
 refine AM.loopX (X := Nat) 0 (fun i => [(1, .ptr b1 0), (81, .vs 4 (p.os.map Of_.row)), (82, .int .i64 p.os.length), (83, .int .i64 i), (3, .own tk 1 ((encHd p ++ p.vars.flatMap encVar ++ [(p.hs.length : Int)].flatMap enc ++ p.hs.flatMap encH ++ [(p.os.length : Int)].flatMap enc ++ (p.os.take i).flatMap encO).map brow))]) (fun i H' => H' = (H.setB b1 36 p.cells).setT tk (.frz 5 1 ((encHd p ++ p.vars.flatMap encVar ++ [(p.hs.length : Int)].flatMap enc ++ p.hs.flatMap encH ++ [(p.os.length : Int)].flatMap enc ++ (p.os.take i).flatMap encO).map brow).length) ∧ i ≤ p.os.length) (fun i => p.os.length - i) ?_ ?_ ?_
 ·refine ⟨?_, by omega⟩
  simp
 ·(repeat first | exact envle_nil _ | (refine envle_cons ?_ ?_; · (simp only [go_sem, Nat.reduceBEq, Nat.reduceAdd]; exact AVLe.refl _)))
  refine envle_cons ?_ (envle_cons ?_ (envle_cons ?_ (envle_nil _)))
  ·simp only [Env.get, Nat.reduceBEq, cond_true, cond_false, beq_self_eq_true]
   exact avle_int (by simp)
  ·simp only [Env.get, Nat.reduceBEq, cond_true, cond_false, beq_self_eq_true]
   exact AVLe.refl _
  ·simp only [Env.get, Nat.reduceBEq, cond_true, cond_false, beq_self_eq_true]
   refine avle_eq ?_
   simp
 rintro i H' ⟨rfl, hi⟩
 repeat' first|refine Sp.g ?_|(intro b hb;repeat first|(refine fe hb ?_;intro _ _ hb)|(refine fT hb ?_;intro hb))|refine rt ?_|refine gA rfl ?_|refine gB rfl ?_|apply cT rfl|apply cF rfl|(apply DM.gbT;rfl)|(apply DM.gbF;rfl)|intro h
 (apply AM.cond; (· rfl))
 ·intro h3
  simp at h3
  obtain ⟨v, hvx⟩ := some_of h3
  have hmem := List.mem_of_getElem? hvx
  have hlen : ((encHd p ++ p.vars.flatMap encVar ++ [(p.hs.length : Int)].flatMap enc ++ p.hs.flatMap encH ++ [(p.os.length : Int)].flatMap enc ++ (p.os.take i).flatMap encO).map brow).length ≤ 60000 := by have l1 := vp.lens i; have l2 := vp.lens 1000; have e1 := encs_len [(p.hs.length : Int)]; have e2 := encs_len [(p.os.length : Int)]; have e3 := encs_len [(p.code.length : Int)]; rw [List.take_of_length_le (show p.vars.length ≤ 1000 by omega), List.take_of_length_le (show p.hs.length ≤ 1000 by omega), List.take_of_length_le (show p.os.length ≤ 1000 by omega)] at l2; simp only [List.length_append, List.length_map, List.length_cons, List.length_nil] at *; omega
  generalize hC : (encHd p ++ p.vars.flatMap encVar ++ [(p.hs.length : Int)].flatMap enc ++ p.hs.flatMap encH ++ [(p.os.length : Int)].flatMap enc ++ (p.os.take i).flatMap encO).map brow = C at hlen
  have hD : ((encHd p ++ p.vars.flatMap encVar ++ [(p.hs.length : Int)].flatMap enc ++ p.hs.flatMap encH ++ [(p.os.length : Int)].flatMap enc ++ (p.os.take (i + 1)).flatMap encO).map brow) = C ++ (encO v).map brow := by
   rw [← hC, ← List.map_append, List.append_assoc, List.take_add_one, hvx, List.flatMap_append]
   simp
  repeat' first|refine Sp.g ?_|(intro b hb;repeat first|(refine fe hb ?_;intro _ _ hb)|(refine fT hb ?_;intro hb))|refine rt ?_|refine gA rfl ?_|refine gB rfl ?_|apply cT rfl|apply cF rfl|(apply DM.gbT;rfl)|(apply DM.gbF;rfl)|intro h
  (apply DM.ixV (row := v.row) (z := (i : Int)) (by omega) (row_get Of_.row hvx); (· rfl); (· rfl))
  have hv1 := vp.os v hmem
  repeat' first|refine Sp.g ?_|(intro b hb;repeat first|(refine fe hb ?_;intro _ _ hb)|(refine fT hb ?_;intro hb))|refine rt ?_|refine gA rfl ?_|refine gB rfl ?_|apply cT rfl|apply cF rfl|(apply DM.gbT;rfl)|(apply DM.gbF;rfl)|intro h
  (apply DM.cal (p57 tk C [v.peer, v.label, v.cond, v.args] _ (t_B t_same) (by simp only [List.length_cons, List.length_nil]; omega) (by intro n hn; simp at hn; rcases hn with rfl | rfl | rfl | rfl <;> omega)); (· simp only [go_sem, Nat.reduceBEq, Nat.reduceAdd] <;> rfl); (· exact AVLes.refl _))
  rintro r H1 ⟨rfl, rfl⟩
  rw [show C ++ ([v.peer, v.label, v.cond, v.args].flatMap enc).map brow = C ++ (encO v).map brow from rfl]
  simp only [put_some]
  repeat' first|refine Sp.g ?_|(intro b hb;repeat first|(refine fe hb ?_;intro _ _ hb)|(refine fT hb ?_;intro hb))|refine rt ?_|refine gA rfl ?_|refine gB rfl ?_|apply cT rfl|apply cF rfl|(apply DM.gbT;rfl)|(apply DM.gbF;rfl)|intro h
  refine AM.forget ((H.setB b1 36 p.cells).setT tk (.frz 5 1 (C ++ (encO v).map brow).length)) (hsub_own' ?_ rfl) ?_
  ·exact g_ne (by assumption) (by assumption)
  refine AM.roundX (i + 1) ⟨by rw [hD], by omega⟩ ?_ (show p.os.length - (i + 1) < p.os.length - i by omega)
  rw [hD]
  (repeat first | exact envle_nil _ | (refine envle_cons ?_ ?_; · (simp only [go_sem, Nat.reduceBEq, Nat.reduceAdd]; exact AVLe.refl _)))
  refine envle_cons ?_ ?_
  ·simp only [go_sem, Nat.reduceBEq, Nat.reduceAdd]
   refine avle_int ?_
   rw [inc64 h3 ok.os]
  exact envle_cons (AVLe.refl _) (envle_nil _)
 intro h3
 simp at h3
 rw [show i = p.os.length by omega, List.take_length]
 clear h3 hi
 repeat' first|refine Sp.g ?_|(intro b hb;repeat first|(refine fe hb ?_;intro _ _ hb)|(refine fT hb ?_;intro hb))|refine rt ?_|refine gA rfl ?_|refine gB rfl ?_|apply cT rfl|apply cF rfl|(apply DM.gbT;rfl)|(apply DM.gbF;rfl)|intro h
 (apply DM.cal (p57 tk ((encHd p ++ p.vars.flatMap encVar ++ [(p.hs.length : Int)].flatMap enc ++ p.hs.flatMap encH ++ [(p.os.length : Int)].flatMap enc ++ p.os.flatMap encO).map brow) [((p.code.map Ins_.row).length : Int)] _ t_same (by have l1 := vp.lens 0; have l2 := vp.lens 1000; have e1 := encs_len [(p.hs.length : Int)]; have e2 := encs_len [(p.os.length : Int)]; have e3 := encs_len [(p.code.length : Int)]; rw [List.take_of_length_le (show p.vars.length ≤ 1000 by omega), List.take_of_length_le (show p.hs.length ≤ 1000 by omega), List.take_of_length_le (show p.os.length ≤ 1000 by omega)] at l2; simp only [List.length_append, List.length_map, List.length_cons, List.length_nil] at *; omega) (by intro n hn; simp at hn; subst hn; omega)); (· simp only [go_sem, Nat.reduceBEq, Nat.reduceAdd] <;> rfl); (· exact AVLes.refl _))
 rintro r H1 ⟨rfl, rfl⟩
 rw [setT_setT, show (p.code.map Ins_.row).length = p.code.length from List.length_map .., ← List.map_append]
 simp only [put_some]
 repeat' first|refine Sp.g ?_|(intro b hb;repeat first|(refine fe hb ?_;intro _ _ hb)|(refine fT hb ?_;intro hb))|refine rt ?_|refine gA rfl ?_|refine gB rfl ?_|apply cT rfl|apply cF rfl|(apply DM.gbT;rfl)|(apply DM.gbF;rfl)|intro h
 refine AM.loopX (X := Nat) 0 (fun i => [(1, .ptr b1 0), (106, .vs 3 (p.code.map Ins_.row)), (107, .int .i64 p.code.length), (108, .int .i64 i), (3, .own tk 1 ((encHd p ++ p.vars.flatMap encVar ++ [(p.hs.length : Int)].flatMap enc ++ p.hs.flatMap encH ++ [(p.os.length : Int)].flatMap enc ++ p.os.flatMap encO ++ [(p.code.length : Int)].flatMap enc ++ (p.code.take i).flatMap encI).map brow))]) (fun i H' => H' = (H.setB b1 36 p.cells).setT tk (.frz 5 1 ((encHd p ++ p.vars.flatMap encVar ++ [(p.hs.length : Int)].flatMap enc ++ p.hs.flatMap encH ++ [(p.os.length : Int)].flatMap enc ++ p.os.flatMap encO ++ [(p.code.length : Int)].flatMap enc ++ (p.code.take i).flatMap encI).map brow).length) ∧ i ≤ p.code.length) (fun i => p.code.length - i) ?_ ?_ ?_
 ·refine ⟨?_, by omega⟩
  simp
 ·(repeat first | exact envle_nil _ | (refine envle_cons ?_ ?_; · (simp only [go_sem, Nat.reduceBEq, Nat.reduceAdd]; exact AVLe.refl _)))
  refine envle_cons ?_ (envle_cons ?_ (envle_cons ?_ (envle_nil _)))
  ·simp only [Env.get, Nat.reduceBEq, cond_true, cond_false, beq_self_eq_true]
   exact avle_int (by simp)
  ·simp only [Env.get, Nat.reduceBEq, cond_true, cond_false, beq_self_eq_true]
   exact AVLe.refl _
  ·simp only [Env.get, Nat.reduceBEq, cond_true, cond_false, beq_self_eq_true]
   refine avle_eq ?_
   simp
 rintro i H' ⟨rfl, hi⟩
 repeat' first|refine Sp.g ?_|(intro b hb;repeat first|(refine fe hb ?_;intro _ _ hb)|(refine fT hb ?_;intro hb))|refine rt ?_|refine gA rfl ?_|refine gB rfl ?_|apply cT rfl|apply cF rfl|(apply DM.gbT;rfl)|(apply DM.gbF;rfl)|intro h
 (apply AM.cond; (· rfl))
 ·intro h3
  simp at h3
  obtain ⟨v, hvx⟩ := some_of h3
  have hmem := List.mem_of_getElem? hvx
  have hlen : ((encHd p ++ p.vars.flatMap encVar ++ [(p.hs.length : Int)].flatMap enc ++ p.hs.flatMap encH ++ [(p.os.length : Int)].flatMap enc ++ p.os.flatMap encO ++ [(p.code.length : Int)].flatMap enc ++ (p.code.take i).flatMap encI).map brow).length ≤ 60000 := by have l1 := vp.lens i; have l2 := vp.lens 1000; have e1 := encs_len [(p.hs.length : Int)]; have e2 := encs_len [(p.os.length : Int)]; have e3 := encs_len [(p.code.length : Int)]; rw [List.take_of_length_le (show p.vars.length ≤ 1000 by omega), List.take_of_length_le (show p.hs.length ≤ 1000 by omega), List.take_of_length_le (show p.os.length ≤ 1000 by omega)] at l2; simp only [List.length_append, List.length_map, List.length_cons, List.length_nil] at *; omega
  generalize hC : (encHd p ++ p.vars.flatMap encVar ++ [(p.hs.length : Int)].flatMap enc ++ p.hs.flatMap encH ++ [(p.os.length : Int)].flatMap enc ++ p.os.flatMap encO ++ [(p.code.length : Int)].flatMap enc ++ (p.code.take i).flatMap encI).map brow = C at hlen
  have hD : ((encHd p ++ p.vars.flatMap encVar ++ [(p.hs.length : Int)].flatMap enc ++ p.hs.flatMap encH ++ [(p.os.length : Int)].flatMap enc ++ p.os.flatMap encO ++ [(p.code.length : Int)].flatMap enc ++ (p.code.take (i + 1)).flatMap encI).map brow) = C ++ (encI v).map brow := by
   rw [← hC, ← List.map_append, List.append_assoc, List.take_add_one, hvx, List.flatMap_append]
   simp
  repeat' first|refine Sp.g ?_|(intro b hb;repeat first|(refine fe hb ?_;intro _ _ hb)|(refine fT hb ?_;intro hb))|refine rt ?_|refine gA rfl ?_|refine gB rfl ?_|apply cT rfl|apply cF rfl|(apply DM.gbT;rfl)|(apply DM.gbF;rfl)|intro h
  (apply DM.ixV (row := v.row) (z := (i : Int)) (by omega) (row_get Ins_.row hvx); (· rfl); (· rfl))
  have hv1 := formed_facts (vp.code v hmem)
  have lb := encs_len [v.op, v.n]
  simp only [List.length_cons, List.length_nil] at lb
  repeat' first|refine Sp.g ?_|(intro b hb;repeat first|(refine fe hb ?_;intro _ _ hb)|(refine fT hb ?_;intro hb))|refine gA rfl ?_|refine gB rfl ?_|apply cT rfl|apply cF rfl|(apply DM.gbT;rfl)|(apply DM.gbF;rfl)|intro h
  (refine AM.reg [] ?_; simp only [annotate, AV.rows])
  repeat' first|refine Sp.g ?_|(intro b hb;repeat first|(refine fe hb ?_;intro _ _ hb)|(refine fT hb ?_;intro hb))|refine rt ?_|refine gA rfl ?_|refine gB rfl ?_|apply cT rfl|apply cF rfl|(apply DM.gbT;rfl)|(apply DM.gbF;rfl)|intro h|(apply DM.ldD1;(· rfl);(· rfl);(· repeat' first|(apply Lk.go;constructor)|assumption|exact nb ‹_› ‹_›|exact nt ‹_› ‹_›);(· rfl))|(apply DM.ldDA;(· rfl);(· rfl);(· repeat' first|(apply Lk.go;constructor)|assumption|exact nb ‹_› ‹_›|exact nt ‹_› ‹_›);(· exact Nat.le_of_ble_eq_true rfl))
  (apply DM.calD (p57 tk C [v.op, v.n] _ (t_B t_same) (by simp only [List.length_cons, List.length_nil]; omega) (by intro n hn; simp at hn; rcases hn with rfl | rfl <;> omega)); (· intro s hs; simp only [List.mem_singleton] at hs; subst hs; exact ⟨_, rfl, fun r H' h => by rw [h.2]; exact setT_blk⟩); (· exact fun hF => ⟨_, _, ⟨rfl, rfl⟩, fin_setT hF⟩); (· simp only [go_sem, Nat.reduceBEq, Nat.reduceAdd] <;> rfl); (· exact AVLes.refl _))
  rintro r H1 ⟨rfl, rfl⟩
  simp only [put_some]
  repeat' first|refine Sp.g ?_|(intro b hb;repeat first|(refine fe hb ?_;intro _ _ hb)|(refine fT hb ?_;intro hb))|refine rt ?_|refine gA rfl ?_|refine gB rfl ?_|apply cT rfl|apply cF rfl|(apply DM.gbT;rfl)|(apply DM.gbF;rfl)|intro h|(apply DM.ldD1;(· rfl);(· rfl);(· repeat' first|(apply Lk.go;constructor)|assumption|exact nb ‹_› ‹_›|exact nt ‹_› ‹_›);(· rfl))|(apply DM.ldDA;(· rfl);(· rfl);(· repeat' first|(apply Lk.go;constructor)|assumption|exact nb ‹_› ‹_›|exact nt ‹_› ‹_›);(· exact Nat.le_of_ble_eq_true rfl))
  (apply DM.cal (p58 tk (C ++ ([v.op, v.n].flatMap enc).map brow) v.s _ t_same (by simp only [List.length_append, List.length_map]; omega) (by omega)); (· simp only [go_sem, Nat.reduceBEq, Nat.reduceAdd] <;> rfl); (· exact AVLes.refl _))
  rintro r H1 ⟨rfl, rfl⟩
  rw [setT_setT, show ((C ++ ([v.op, v.n].flatMap enc).map brow) ++ (encT v.s).map brow) = C ++ (encI v).map brow from by unfold encI; simp only [List.map_append, List.append_assoc]]
  simp only [put_some]
  repeat' first|refine Sp.g ?_|(intro b hb;repeat first|(refine fe hb ?_;intro _ _ hb)|(refine fT hb ?_;intro hb))|refine rt ?_|refine gA rfl ?_|refine gB rfl ?_|apply cT rfl|apply cF rfl|(apply DM.gbT;rfl)|(apply DM.gbF;rfl)|intro h
  refine AM.forget ((H.setB b1 36 p.cells).setT tk (.frz 5 1 (C ++ (encI v).map brow).length)) (hsub_own' ?_ rfl) ?_
  ·exact g_ne (by assumption) (by assumption)
  refine AM.roundX (i + 1) ⟨by rw [hD], by omega⟩ ?_ (show p.code.length - (i + 1) < p.code.length - i by omega)
  rw [hD]
  (repeat first | exact envle_nil _ | (refine envle_cons ?_ ?_; · (simp only [go_sem, Nat.reduceBEq, Nat.reduceAdd]; exact AVLe.refl _)))
  refine envle_cons ?_ ?_
  ·simp only [go_sem, Nat.reduceBEq, Nat.reduceAdd]
   refine avle_int ?_
   rw [inc64 h3 ok.code]
  exact envle_cons (AVLe.refl _) (envle_nil _)
 intro h3
 simp at h3
 rw [show i = p.code.length by omega, List.take_length]
 clear h3 hi
 repeat' first|refine Sp.g ?_|(intro b hb;repeat first|(refine fe hb ?_;intro _ _ hb)|(refine fT hb ?_;intro hb))|refine rt ?_|refine gA rfl ?_|refine gB rfl ?_|apply cT rfl|apply cF rfl|(apply DM.gbT;rfl)|(apply DM.gbF;rfl)|intro h
 refine Sr.g ?_
 exact AVLe.own
def NW (H : AHeap) (rows : List (List AV)) : AV → AHeap → Prop := fun a H2 => ∃ t, H.tok t = none ∧ RO H t rows a H2
theorem hsub_new {H : AHeap} {t : Nat} {o : Own} (h : H.tok t = none) : HSub H (H.setT t o) :=
 ⟨fun x y e => setT_blk.trans e, fun x y e => t_fresh h e⟩
theorem pure_of_new {f : FuncId} {args : List AV} {rows : List (List AV)} (h : ∀ H, ACalls Tryz.prog f args H (Ret (NW H rows))) : Pure Tryz.prog f args (.vs 1 rows) :=
 fun H => (h H).mono fun o H' ⟨a, e, t, ht, ha, hH⟩ => ⟨.ret (.vs 1 rows), H, by subst e; subst ha; exact AVLe.own, by subst hH; exact hsub_new ht, rfl, rfl⟩
def zigR (n : Int) : Int := if n < 0 then IntKind.u64.wrap (IntKind.u64.wrap (IntKind.u64.wrap (IntKind.i64.wrap (0 - IntKind.i64.wrap (n + 1))) * 2) + 1) else IntKind.u64.wrap (IntKind.u64.wrap n * 2)
theorem zigRN : ∀ i : Fin 2001, zigR ((i.val : Int) - 1000) = (zig ((i.val : Int) - 1000) : Int) := by decide +kernel
theorem zigR_eq {n : Int} (h0 : -1000 ≤ n) (h1 : n ≤ 1000) : zigR n = (zig n : Int) := by
 have := zigRN ⟨(n + 1000).toNat, by omega⟩
 have e : (((n + 1000).toNat : Nat) : Int) - 1000 = n := by omega
 simpa only [e] using this
theorem lowRN : ∀ i : Fin 2048, IntKind.u8.wrap (IntKind.u8.wrap ((i.val : Int).tmod 128) + 128) = ((i.val % 128 + 128 : Nat) : Int) := by decide +kernel
theorem lowR_eq {u : Nat} (h : u < 2048) : IntKind.u8.wrap (IntKind.u8.wrap ((u : Int).tmod 128) + 128) = ((u % 128 + 128 : Nat) : Int) := lowRN ⟨u, h⟩
theorem quoRN : ∀ i : Fin 2048, IntKind.u64.wrap ((i.val : Int).tdiv 128) = ((i.val / 128 : Nat) : Int) := by decide +kernel
theorem quoR_eq {u : Nat} (h : u < 2048) : IntKind.u64.wrap ((u : Int).tdiv 128) = ((u / 128 : Nat) : Int) := quoRN ⟨u, h⟩
def E106 (t : Nat) (u : Nat) : Nat → Env
 | 0 => [(4, .own t 1 []), (3, .int .u64 (u : Int))]
 | _ => [(4, .own t 1 [brow (u % 128 + 128)]), (3, .int .u64 ((u / 128 : Nat) : Int))]
def G106 (H : AHeap) (t : Nat) : Nat → AHeap
 | 0 => H.setT t (.frz 5 1 0)
 | _ => H.setT t (.frz 5 1 1)
theorem p106n (n : Int) (H : AHeap) (h0 : -1000 ≤ n) (h1 : n ≤ 1000) : ACalls Tryz.prog 106 [.int .i64 n] H (Ret (NW H ((enc n).map brow))) := by
 refine ACalls.mono (acalls_of (args := [.int .i64 n]) (H := H) (R := fun o H2 => ∃ t, H.tok t = none ∧ ∃ a, o = .ret a ∧ AVLe a (.own t 1 ((enc n).map brow)) ∧ HSub (H.setT t (.frz 5 1 ((enc n).map brow).length)) H2) mo Tryz.func106 c106 ?_) fun o H2 ⟨t, h0, a, e, ha, hs⟩ => ⟨.ret (.own t 1 ((enc n).map brow)), H.setT t (.frz 5 1 ((enc n).map brow).length), by subst e; exact ha, hs, _, rfl, t, h0, rfl, rfl⟩
 unfold e106 r106
 simp only [initEnv, initFrom]
 have hz := zigR_eq h0 h1
 have hu := zig_le h0 h1
 generalize hzu : zig n = u at hz hu
 have he : enc n = if u < 128 then [u] else [u % 128 + 128, u / 128] := by unfold enc; rw [hzu]
 rw [he]
 unfold zigR at hz
 repeat' first|refine Sp.g ?_|(intro b hb;repeat first|(refine fe hb ?_;intro _ _ hb)|(refine fT hb ?_;intro hb))|refine rt ?_|refine gA rfl ?_|refine gB rfl ?_|apply cT rfl|apply cF rfl|(apply DM.gbT;rfl)|(apply DM.gbF;rfl)|intro h
 (apply AM.cond; (· rfl))
 ·intro hn
  have hn' : n < 0 := by simpa using hn
  rw [if_pos hn'] at hz
  repeat' first|refine Sp.g ?_|(intro b hb;repeat first|(refine fe hb ?_;intro _ _ hb)|(refine fT hb ?_;intro hb))|refine rt ?_|refine gA rfl ?_|refine gB rfl ?_|apply cT rfl|apply cF rfl|(apply DM.gbT;rfl)|(apply DM.gbF;rfl)|intro h
  refine AM.ghostO 4 5 1 (by decide) rfl fun t h0 => ?_
  refine AM.loopX (X := Nat) 0 (E106 t u) (fun k H' => H' = G106 H t k ∧ (k = 0 ∨ k = 1 ∧ 128 ≤ u)) (fun k => 1 - k) ⟨rfl, .inl rfl⟩ ?_ ?_
  ·unfold E106
   refine envle_cons ?_ (envle_cons ?_ (envle_nil _))
   ·exact AVLe.refl _
   ·simp only [Env.get, Nat.reduceBEq, cond_true, cond_false, beq_self_eq_true]
    exact avle_int hz
  rintro k H' ⟨rfl, rfl | ⟨rfl, hk⟩⟩
  ·simp only [E106, G106]
   repeat' first|refine Sp.g ?_|(intro b hb;repeat first|(refine fe hb ?_;intro _ _ hb)|(refine fT hb ?_;intro hb))|refine rt ?_|refine gA rfl ?_|refine gB rfl ?_|apply cT rfl|apply cF rfl|(apply DM.gbT;rfl)|(apply DM.gbF;rfl)|intro h
   (apply AM.cond; (· rfl))
   ·intro h
    have hk : 128 ≤ u := by simp at h; omega
    have hlow := lowR_eq (u := u) (by omega)
    have hquo := quoR_eq (u := u) (by omega)
    repeat' first|refine Sp.g ?_|(intro b hb;repeat first|(refine fe hb ?_;intro _ _ hb)|(refine fT hb ?_;intro hb))|refine rt ?_|refine gA rfl ?_|refine gB rfl ?_|apply cT rfl|apply cF rfl|(apply DM.gbT;rfl)|(apply DM.gbF;rfl)|intro h
    (apply DM.remI; (· rfl); (· rfl); (· decide))
    repeat' first|refine Sp.g ?_|(intro b hb;repeat first|(refine fe hb ?_;intro _ _ hb)|(refine fT hb ?_;intro hb))|refine rt ?_|refine gA rfl ?_|refine gB rfl ?_|apply cT rfl|apply cF rfl|(apply DM.gbT;rfl)|(apply DM.gbF;rfl)|intro h
    (apply DM.apO (t := t); (· rfl); (· exact t_same); (· rfl); (· simp only [List.length_cons, List.length_nil]; omega); (· simp only [List.length_cons, List.length_nil]; unfold maxLen; omega))
    repeat' first|refine Sp.g ?_|(intro b hb;repeat first|(refine fe hb ?_;intro _ _ hb)|(refine fT hb ?_;intro hb))|refine rt ?_|refine gA rfl ?_|refine gB rfl ?_|apply cT rfl|apply cF rfl|(apply DM.gbT;rfl)|(apply DM.gbF;rfl)|intro h
    (apply DM.quoI; (· rfl); (· rfl); (· decide))
    repeat' first|refine Sp.g ?_|(intro b hb;repeat first|(refine fe hb ?_;intro _ _ hb)|(refine fT hb ?_;intro hb))|refine rt ?_|refine gA rfl ?_|refine gB rfl ?_|apply cT rfl|apply cF rfl|(apply DM.gbT;rfl)|(apply DM.gbF;rfl)|intro h
    refine AM.eqH (show _ = H.setT t (.frz 5 1 1) by rw [setT_setT]; rfl) ?_
    refine AM.roundX 1 ⟨rfl, .inr ⟨rfl, hk⟩⟩ ?_ (by decide)
    unfold E106
    refine envle_cons ?_ (envle_cons ?_ (envle_nil _))
    ·simp only [Env.get, Nat.reduceBEq, cond_true, cond_false, beq_self_eq_true]
     exact avle_eq (congrArg (fun z => AV.own t 1 [[AV.int .u8 z]]) hlow)
    ·simp only [Env.get, Nat.reduceBEq, cond_true, cond_false, beq_self_eq_true]
     exact avle_int hquo
   ·intro h
    have hk : u < 128 := by simp at h; omega
    rw [if_pos hk]
    repeat' first|refine Sp.g ?_|(intro b hb;repeat first|(refine fe hb ?_;intro _ _ hb)|(refine fT hb ?_;intro hb))|refine rt ?_|refine gA rfl ?_|refine gB rfl ?_|apply cT rfl|apply cF rfl|(apply DM.gbT;rfl)|(apply DM.gbF;rfl)|intro h
    rw [w8 hk]
    (apply DM.apO (t := t); (· rfl); (· exact t_same); (· rfl); (· simp only [List.length_cons, List.length_nil]; omega); (· simp only [List.length_cons, List.length_nil]; unfold maxLen; omega))
    repeat' first|refine Sp.g ?_|(intro b hb;repeat first|(refine fe hb ?_;intro _ _ hb)|(refine fT hb ?_;intro hb))|refine rt ?_|refine gA rfl ?_|refine gB rfl ?_|apply cT rfl|apply cF rfl|(apply DM.gbT;rfl)|(apply DM.gbF;rfl)|intro h
    refine AM.eqH (show _ = H.setT t (.frz 5 1 (List.map brow [u]).length) by rw [setT_setT]; rfl) ?_
    (apply AM.ret; (· apply Lk.go;constructor<;>first|exact ss|(change _=_;first|(simp only[go_sem,Nat.reduceBEq,Nat.reduceAdd,Nat.reduceLeDiff,reduceIte]<;>rfl)|rfl)|exact Nat.le_of_ble_eq_true rfl|decide|(repeat' first|(apply Lk.go;constructor)|assumption|exact nb ‹_› ‹_›|exact nt ‹_› ‹_›)))
    exact ⟨t, h0, _, rfl, AVLe.refl _, HSub.refl _⟩
  ·simp only [E106, G106]
   repeat' first|refine Sp.g ?_|(intro b hb;repeat first|(refine fe hb ?_;intro _ _ hb)|(refine fT hb ?_;intro hb))|refine rt ?_|refine gA rfl ?_|refine gB rfl ?_|apply cT rfl|apply cF rfl|(apply DM.gbT;rfl)|(apply DM.gbF;rfl)|intro h
   (apply AM.cond; (· rfl))
   ·intro h
    exfalso
    have : 128 ≤ u / 128 := by simp at h; omega
    omega
   ·intro _
    rw [if_neg (show ¬ u < 128 by omega)]
    repeat' first|refine Sp.g ?_|(intro b hb;repeat first|(refine fe hb ?_;intro _ _ hb)|(refine fT hb ?_;intro hb))|refine rt ?_|refine gA rfl ?_|refine gB rfl ?_|apply cT rfl|apply cF rfl|(apply DM.gbT;rfl)|(apply DM.gbF;rfl)|intro h
    rw [w8 (show u / 128 < 128 by omega)]
    (apply DM.apO (t := t); (· rfl); (· exact t_same); (· rfl); (· simp only [List.length_cons, List.length_nil]; omega); (· simp only [List.length_cons, List.length_nil]; unfold maxLen; omega))
    repeat' first|refine Sp.g ?_|(intro b hb;repeat first|(refine fe hb ?_;intro _ _ hb)|(refine fT hb ?_;intro hb))|refine rt ?_|refine gA rfl ?_|refine gB rfl ?_|apply cT rfl|apply cF rfl|(apply DM.gbT;rfl)|(apply DM.gbF;rfl)|intro h
    refine AM.eqH (show _ = H.setT t (.frz 5 1 (List.map brow [u % 128 + 128, u / 128]).length) by rw [setT_setT]; rfl) ?_
    (apply AM.ret; (· apply Lk.go;constructor<;>first|exact ss|(change _=_;first|(simp only[go_sem,Nat.reduceBEq,Nat.reduceAdd,Nat.reduceLeDiff,reduceIte]<;>rfl)|rfl)|exact Nat.le_of_ble_eq_true rfl|decide|(repeat' first|(apply Lk.go;constructor)|assumption|exact nb ‹_› ‹_›|exact nt ‹_› ‹_›)))
    exact ⟨t, h0, _, rfl, AVLe.refl _, HSub.refl _⟩
 ·intro hn
  have hn' : ¬ n < 0 := by simpa using hn
  rw [if_neg hn'] at hz
  repeat' first|refine Sp.g ?_|(intro b hb;repeat first|(refine fe hb ?_;intro _ _ hb)|(refine fT hb ?_;intro hb))|refine rt ?_|refine gA rfl ?_|refine gB rfl ?_|apply cT rfl|apply cF rfl|(apply DM.gbT;rfl)|(apply DM.gbF;rfl)|intro h
  refine AM.ghostO 4 5 1 (by decide) rfl fun t h0 => ?_
  refine AM.loopX (X := Nat) 0 (E106 t u) (fun k H' => H' = G106 H t k ∧ (k = 0 ∨ k = 1 ∧ 128 ≤ u)) (fun k => 1 - k) ⟨rfl, .inl rfl⟩ ?_ ?_
  ·unfold E106
   refine envle_cons ?_ (envle_cons ?_ (envle_nil _))
   ·exact AVLe.refl _
   ·simp only [Env.get, Nat.reduceBEq, cond_true, cond_false, beq_self_eq_true]
    exact avle_int hz
  rintro k H' ⟨rfl, rfl | ⟨rfl, hk⟩⟩
  ·simp only [E106, G106]
   repeat' first|refine Sp.g ?_|(intro b hb;repeat first|(refine fe hb ?_;intro _ _ hb)|(refine fT hb ?_;intro hb))|refine rt ?_|refine gA rfl ?_|refine gB rfl ?_|apply cT rfl|apply cF rfl|(apply DM.gbT;rfl)|(apply DM.gbF;rfl)|intro h
   (apply AM.cond; (· rfl))
   ·intro h
    have hk : 128 ≤ u := by simp at h; omega
    have hlow := lowR_eq (u := u) (by omega)
    have hquo := quoR_eq (u := u) (by omega)
    repeat' first|refine Sp.g ?_|(intro b hb;repeat first|(refine fe hb ?_;intro _ _ hb)|(refine fT hb ?_;intro hb))|refine rt ?_|refine gA rfl ?_|refine gB rfl ?_|apply cT rfl|apply cF rfl|(apply DM.gbT;rfl)|(apply DM.gbF;rfl)|intro h
    (apply DM.remI; (· rfl); (· rfl); (· decide))
    repeat' first|refine Sp.g ?_|(intro b hb;repeat first|(refine fe hb ?_;intro _ _ hb)|(refine fT hb ?_;intro hb))|refine rt ?_|refine gA rfl ?_|refine gB rfl ?_|apply cT rfl|apply cF rfl|(apply DM.gbT;rfl)|(apply DM.gbF;rfl)|intro h
    (apply DM.apO (t := t); (· rfl); (· exact t_same); (· rfl); (· simp only [List.length_cons, List.length_nil]; omega); (· simp only [List.length_cons, List.length_nil]; unfold maxLen; omega))
    repeat' first|refine Sp.g ?_|(intro b hb;repeat first|(refine fe hb ?_;intro _ _ hb)|(refine fT hb ?_;intro hb))|refine rt ?_|refine gA rfl ?_|refine gB rfl ?_|apply cT rfl|apply cF rfl|(apply DM.gbT;rfl)|(apply DM.gbF;rfl)|intro h
    (apply DM.quoI; (· rfl); (· rfl); (· decide))
    repeat' first|refine Sp.g ?_|(intro b hb;repeat first|(refine fe hb ?_;intro _ _ hb)|(refine fT hb ?_;intro hb))|refine rt ?_|refine gA rfl ?_|refine gB rfl ?_|apply cT rfl|apply cF rfl|(apply DM.gbT;rfl)|(apply DM.gbF;rfl)|intro h
    refine AM.eqH (show _ = H.setT t (.frz 5 1 1) by rw [setT_setT]; rfl) ?_
    refine AM.roundX 1 ⟨rfl, .inr ⟨rfl, hk⟩⟩ ?_ (by decide)
    unfold E106
    refine envle_cons ?_ (envle_cons ?_ (envle_nil _))
    ·simp only [Env.get, Nat.reduceBEq, cond_true, cond_false, beq_self_eq_true]
     exact avle_eq (congrArg (fun z => AV.own t 1 [[AV.int .u8 z]]) hlow)
    ·simp only [Env.get, Nat.reduceBEq, cond_true, cond_false, beq_self_eq_true]
     exact avle_int hquo
   ·intro h
    have hk : u < 128 := by simp at h; omega
    rw [if_pos hk]
    repeat' first|refine Sp.g ?_|(intro b hb;repeat first|(refine fe hb ?_;intro _ _ hb)|(refine fT hb ?_;intro hb))|refine rt ?_|refine gA rfl ?_|refine gB rfl ?_|apply cT rfl|apply cF rfl|(apply DM.gbT;rfl)|(apply DM.gbF;rfl)|intro h
    rw [w8 hk]
    (apply DM.apO (t := t); (· rfl); (· exact t_same); (· rfl); (· simp only [List.length_cons, List.length_nil]; omega); (· simp only [List.length_cons, List.length_nil]; unfold maxLen; omega))
    repeat' first|refine Sp.g ?_|(intro b hb;repeat first|(refine fe hb ?_;intro _ _ hb)|(refine fT hb ?_;intro hb))|refine rt ?_|refine gA rfl ?_|refine gB rfl ?_|apply cT rfl|apply cF rfl|(apply DM.gbT;rfl)|(apply DM.gbF;rfl)|intro h
    refine AM.eqH (show _ = H.setT t (.frz 5 1 (List.map brow [u]).length) by rw [setT_setT]; rfl) ?_
    (apply AM.ret; (· apply Lk.go;constructor<;>first|exact ss|(change _=_;first|(simp only[go_sem,Nat.reduceBEq,Nat.reduceAdd,Nat.reduceLeDiff,reduceIte]<;>rfl)|rfl)|exact Nat.le_of_ble_eq_true rfl|decide|(repeat' first|(apply Lk.go;constructor)|assumption|exact nb ‹_› ‹_›|exact nt ‹_› ‹_›)))
    exact ⟨t, h0, _, rfl, AVLe.refl _, HSub.refl _⟩
  ·simp only [E106, G106]
   repeat' first|refine Sp.g ?_|(intro b hb;repeat first|(refine fe hb ?_;intro _ _ hb)|(refine fT hb ?_;intro hb))|refine rt ?_|refine gA rfl ?_|refine gB rfl ?_|apply cT rfl|apply cF rfl|(apply DM.gbT;rfl)|(apply DM.gbF;rfl)|intro h
   (apply AM.cond; (· rfl))
   ·intro h
    exfalso
    have : 128 ≤ u / 128 := by simp at h; omega
    omega
   ·intro _
    rw [if_neg (show ¬ u < 128 by omega)]
    repeat' first|refine Sp.g ?_|(intro b hb;repeat first|(refine fe hb ?_;intro _ _ hb)|(refine fT hb ?_;intro hb))|refine rt ?_|refine gA rfl ?_|refine gB rfl ?_|apply cT rfl|apply cF rfl|(apply DM.gbT;rfl)|(apply DM.gbF;rfl)|intro h
    rw [w8 (show u / 128 < 128 by omega)]
    (apply DM.apO (t := t); (· rfl); (· exact t_same); (· rfl); (· simp only [List.length_cons, List.length_nil]; omega); (· simp only [List.length_cons, List.length_nil]; unfold maxLen; omega))
    repeat' first|refine Sp.g ?_|(intro b hb;repeat first|(refine fe hb ?_;intro _ _ hb)|(refine fT hb ?_;intro hb))|refine rt ?_|refine gA rfl ?_|refine gB rfl ?_|apply cT rfl|apply cF rfl|(apply DM.gbT;rfl)|(apply DM.gbF;rfl)|intro h
    refine AM.eqH (show _ = H.setT t (.frz 5 1 (List.map brow [u % 128 + 128, u / 128]).length) by rw [setT_setT]; rfl) ?_
    (apply AM.ret; (· apply Lk.go;constructor<;>first|exact ss|(change _=_;first|(simp only[go_sem,Nat.reduceBEq,Nat.reduceAdd,Nat.reduceLeDiff,reduceIte]<;>rfl)|rfl)|exact Nat.le_of_ble_eq_true rfl|decide|(repeat' first|(apply Lk.go;constructor)|assumption|exact nb ‹_› ‹_›|exact nt ‹_› ‹_›)))
    exact ⟨t, h0, _, rfl, AVLe.refl _, HSub.refl _⟩
theorem p106 (n : Int) (h0 : -1000 ≤ n) (h1 : n ≤ 1000) : Pure Tryz.prog 106 [.int .i64 n] (.vs 1 ((enc n).map brow)) := pure_of_new fun H => p106n n H h0 h1
end Go.Aw.T
