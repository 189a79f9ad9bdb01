/- Part of a proof; own work. -/
import Derived.Below
import Derived.Lib.SmallJoins
import Derived.Lib.OthersKept
import Derived.Deep.LoopGhost
import Derived.Laws.RangeAny
import Derived.BigCall
import Derived.Lib.AtoiAll
import Derived.Lib.ItoaNum
import Derived.Lib.Bytealg
import Derived.Lib.Walk
import Derived.BigGuard
import Derived.Test.YtocjjlmnkpnjbaaGreatDoorAS5
namespace Go.Aw.T
open Go Go.Aw Go.Proofs Go.RowKit
set_option maxRecDepth 100000
attribute [local irreducible] Go.Aw.DM Go.Aw.AHeap.setB Go.Aw.AHeap.setT
attribute [local go_sem] peval EOpd.ev Env.get binInt binStr binBool buildParts AV.cells AV.okc setRange minmaxAV AV.one AV.ofCells eqCells eqCell bslRows cond_true cond_false beq_self_eq_true Bool.not_true Bool.not_false beq_true beq_false eq_self if_true Option.some.injEq List.length_cons List.length_nil List.take_succ_cons List.take_zero List.drop_succ_cons List.drop_zero List.set_cons_succ List.set_cons_zero List.nil_append List.cons_append List.append_nil and_self Option.map_some List.map_cons List.map_nil Bool.false_eq_true if_false Nat.zero_add Nat.add_zero true_and and_true Bool.and_true Bool.true_and List.getElem?_cons_zero List.getElem?_cons_succ Nat.zero_le Nat.le_refl
set_option linter.unusedSimpArgs false
set_option linter.unusedVariables false
theorem u8d {d : Nat} (h : d < 10) : (UInt8.ofNat (48 + d)).toNat = 48 + d := by
 rw [UInt8.toNat_ofNat']
 omega
theorem dec_step {u : Nat} (h : ¬ u < 10) : Lib.decDigits u = Lib.decDigits (u / 10) ++ [UInt8.ofNat (48 + u % 10)] := by rw [Lib.decDigits, dif_neg h]
theorem dec_small {u : Nat} (h : u < 10) : Lib.decDigits u = [UInt8.ofNat (48 + u)] := by rw [Lib.decDigits, dif_pos h]
theorem dec_len (u : Nat) : (Lib.decDigits u).length ≤ u + 1 := by
 induction u using Nat.strongRecOn with
 | ind u ih =>
  by_cases h : u < 10
  ·rw [dec_small h]; simp
  ·rw [dec_step h]
   have := ih (u / 10) (by omega)
   rw [List.length_append, List.length_cons, List.length_nil]
   omega
theorem itoa_len {z : Int} (h0 : -1000 ≤ z) (h1 : z ≤ 1000) : (Lib.itoa z).length ≤ 1002 := by
 unfold Lib.itoa
 split
 ·have := dec_len z.natAbs; simp only [List.length_cons]; omega
 ·have := dec_len z.toNat; omega
theorem below_grow (w : World) (q : Nat) (os : Array Obj) : Below w.heap.size w (Go.Sort.grow (w.drewN q) os) :=
 ⟨rfl, rfl, rfl, by simp [Go.Sort.grow, World.drewN], fun i hi => by
  show ((w.drewN q).heap ++ os)[i]? = _
  rw [Array.getElem?_append_left (by exact hi)]
  rfl⟩
theorem gTab : Tryz.prog.globalNamed "internal/strconv.uint64pow10" = some 3 := by kernel_rfl
theorem glob_tab {w : World} (hG : GlobW w) : Lib.TabIs Tryz.prog w "internal/strconv.uint64pow10" .u64 Lib.pow10Tab := by
 obtain ⟨ob, h1, T, fr, h2⟩ := hG (3, _) (by simp only [globs]; exact List.mem_cons_self)
 subst h2
 simp only at h1
 unfold Lib.TabIs World.var?
 rw [gTab]
 simp only [Option.bind_some, h1]
 rfl
theorem p46 (n : Int) (h0 : -1000 ≤ n) (h1 : n ≤ 1000) : Pure Tryz.prog 46 [.int .i64 n] (.str (Lib.itoa n)) := by
 refine pure_of_plain fun m vs hG hv => ?_
 simp only [RvL, Rv] at hv
 obtain ⟨_, _, rfl, rfl, rfl⟩ := hv
 refine (Tryz.strconv_Itoa n (by omega) (by omega) m.w (glob_tab hG)).mono ?_
 rintro e w' ⟨rfl, q, os, rfl⟩
 have hl := itoa_len h0 h1
 exact ⟨_, rfl, fun m' => by simp only [Rv]; exact ⟨trivial, by rw [maxLen_eq]; omega⟩, below_grow m.w q os⟩
def textR : List UInt8 → List UInt8 → Nat → List UInt8 × Nat
 | [], _, _ => ([], 0)
 | c :: r, acc, i => if c = 34 then (acc, i + 1) else if c = 92 then
   (match r with
   | [] => ([], 0)
   | d :: r' => if d = 34 ∨ d = 92 then textR r' (acc ++ [d]) (i + 2) else ([], 0))
  else if okc c = true then textR r (acc ++ [c]) (i + 1) else ([], 0)
def textV : List UInt8 → List UInt8 × Nat
 | [] => ([], 0)
 | c :: r => if c = 34 then textR r [] 1 else ([], 0)
theorem textR_cons (c : UInt8) (r acc : List UInt8) (i : Nat) : textR (c :: r) acc i = if c = 34 then (acc, i + 1) else if c = 92 then
   (match r with
   | [] => ([], 0)
   | d :: r' => if d = 34 ∨ d = 92 then textR r' (acc ++ [d]) (i + 2) else ([], 0))
  else if okc c = true then textR r (acc ++ [c]) (i + 1) else ([], 0) := by
 cases r with
 | nil => simp [textR]
 | cons d r => rw [textR]
theorem p153 (l p : List UInt8) : Pure Tryz.prog 153 [.str l, .str p] (.bool (p.isPrefixOf l)) := by
 refine pure_assume (G := l.length ≤ maxLen ∧ p.length ≤ maxLen) (fun m vs h => by simp only [RvL, Rv] at h; obtain ⟨_, _, rfl, ⟨_, h1⟩, _, _, rfl, ⟨_, h2⟩, _⟩ := h; exact ⟨h1, h2⟩) fun hs => ?_
 have key : p.isPrefixOf l = decide (l.take p.length = p) := by
  rw [Bool.eq_iff_iff, List.isPrefixOf_iff_prefix, decide_eq_true_eq, List.prefix_iff_eq_take]
  exact ⟨Eq.symm, Eq.symm⟩
 rw [key]
 refine pure_intro mo Tryz.func153 c153 fun H => ?_
 unfold e153 r153
 simp only [initEnv, initFrom]
 repeat' first|(apply Sp.go;·constructor<;>first|exact ss|(change _=_;first|(simp only[go_sem,Nat.reduceBEq,Nat.reduceAdd,Nat.reduceLeDiff,reduceIte]<;>rfl)|rfl)|exact Nat.le_of_ble_eq_true rfl|decide|(repeat' first|(apply Lk.go;constructor)|assumption|exact nb ‹_› ‹_›|exact nt ‹_› ‹_›))|(intro b hb;repeat first|(refine fe hb ?_;intro _ _ hb)|(refine fT hb ?_;intro hb))|refine rt ?_|refine gA rfl ?_|refine gB rfl ?_|apply cT rfl|apply cF rfl|(apply DM.gbT;rfl)|(apply DM.gbF;rfl)|intro h
 ·skip
  have h' : p.length ≤ l.length := by simp at h; omega
  apply DM.slSs (p := 0)
  ·simp only [EOpd.ev, Env.get, Nat.reduceBEq, cond_true, cond_false, beq_self_eq_true] <;> rfl
  ·rfl
  ·simp only [optNat, EOpd.ev, Env.get, Nat.reduceBEq, cond_true, cond_false, beq_self_eq_true] <;> rfl
  ·omega
  ·exact h'
  ·exact List.drop_zero
  repeat' first|(apply Sp.go;·constructor<;>first|exact ss|(change _=_;first|(simp only[go_sem,Nat.reduceBEq,Nat.reduceAdd,Nat.reduceLeDiff,reduceIte]<;>rfl)|rfl)|exact Nat.le_of_ble_eq_true rfl|decide|(repeat' first|(apply Lk.go;constructor)|assumption|exact nb ‹_› ‹_›|exact nt ‹_› ‹_›))|(intro b hb;repeat first|(refine fe hb ?_;intro _ _ hb)|(refine fT hb ?_;intro hb))|refine rt ?_|refine gA rfl ?_|refine gB rfl ?_|apply cT rfl|apply cF rfl|(apply DM.gbT;rfl)|(apply DM.gbF;rfl)|intro h
  (apply Sr.go;·constructor<;>first|(apply Lk.go;constructor<;>first|exact ss|(change _=_;first|(simp only[go_sem,Nat.reduceBEq,Nat.reduceAdd,Nat.reduceLeDiff,reduceIte]<;>rfl)|rfl)|exact Nat.le_of_ble_eq_true rfl|decide|(repeat' first|(apply Lk.go;constructor)|assumption|exact nb ‹_› ‹_›|exact nt ‹_› ‹_›))|assumption)
  exact AVLe.refl _
 ·skip
  (apply Sr.go;·constructor<;>first|(apply Lk.go;constructor<;>first|exact ss|(change _=_;first|(simp only[go_sem,Nat.reduceBEq,Nat.reduceAdd,Nat.reduceLeDiff,reduceIte]<;>rfl)|rfl)|exact Nat.le_of_ble_eq_true rfl|decide|(repeat' first|(apply Lk.go;constructor)|assumption|exact nb ‹_› ‹_›|exact nt ‹_› ‹_›))|assumption)
  have : l.take p.length ≠ p := fun e => by
   have e2 := congrArg List.length e
   rw [List.length_take] at e2
   simp at h
   omega
  refine avle_eq ?_
  rw [AV.bool.injEq, decide_eq_false this]
theorem p141 (l p : List UInt8) : Pure Tryz.prog 141 [.str l, .str p] (.bool (p.isPrefixOf l)) := by
 refine pure_intro mo Tryz.func141 c141 fun H => ?_
 unfold e141 r141
 simp only [initEnv, initFrom]
 repeat' first|(apply Sp.go;·constructor<;>first|exact ss|(change _=_;first|(simp only[go_sem,Nat.reduceBEq,Nat.reduceAdd,Nat.reduceLeDiff,reduceIte]<;>rfl)|rfl)|exact Nat.le_of_ble_eq_true rfl|decide|(repeat' first|(apply Lk.go;constructor)|assumption|exact nb ‹_› ‹_›|exact nt ‹_› ‹_›))|(intro b hb;repeat first|(refine fe hb ?_;intro _ _ hb)|(refine fT hb ?_;intro hb))|refine rt ?_|refine gA rfl ?_|refine gB rfl ?_|apply cT rfl|apply cF rfl|(apply DM.gbT;rfl)|(apply DM.gbF;rfl)|intro h
 (apply DM.pcs (p153 l p); (· simp only [go_sem, Nat.reduceBEq, Nat.reduceAdd] <;> rfl); (· exact AVLes.refl _))
 repeat' first|(apply Sp.go;·constructor<;>first|exact ss|(change _=_;first|(simp only[go_sem,Nat.reduceBEq,Nat.reduceAdd,Nat.reduceLeDiff,reduceIte]<;>rfl)|rfl)|exact Nat.le_of_ble_eq_true rfl|decide|(repeat' first|(apply Lk.go;constructor)|assumption|exact nb ‹_› ‹_›|exact nt ‹_› ‹_›))|(intro b hb;repeat first|(refine fe hb ?_;intro _ _ hb)|(refine fT hb ?_;intro hb))|refine rt ?_|refine gA rfl ?_|refine gB rfl ?_|apply cT rfl|apply cF rfl|(apply DM.gbT;rfl)|(apply DM.gbF;rfl)|intro h
 (apply Sr.go;·constructor<;>first|(apply Lk.go;constructor<;>first|exact ss|(change _=_;first|(simp only[go_sem,Nat.reduceBEq,Nat.reduceAdd,Nat.reduceLeDiff,reduceIte]<;>rfl)|rfl)|exact Nat.le_of_ble_eq_true rfl|decide|(repeat' first|(apply Lk.go;constructor)|assumption|exact nb ‹_› ‹_›|exact nt ‹_› ‹_›))|assumption)
 exact AVLe.refl _
theorem hasPre (l p : List UInt8) (hl : l.length ≤ 1000000) (hp : p.length ≤ 1000000) (w : World) (hG : GlobW w) : Calls Tryz.prog 141 #[.string ⟨⟨l⟩⟩, .string ⟨⟨p⟩⟩] w fun e w' => e = .returned (.bool (p.isPrefixOf l)) ∧ Below w.heap.size w w' := by
 refine (calls_plain (p141 l p) w [.string ⟨⟨l⟩⟩, .string ⟨⟨p⟩⟩] (fun m => by simp only [RvL, Rv]; exact ⟨_, _, rfl, ⟨rfl, by unfold maxLen; omega⟩, _, _, rfl, ⟨rfl, by unfold maxLen; omega⟩, rfl⟩) hG).mono ?_
 rintro e w' ⟨⟨v, rfl, m, hv⟩, hb⟩
 simp only [Rv] at hv
 subst hv
 exact ⟨rfl, hb⟩
theorem str_index {t : TypeId} (h : Tryz.prog.underlying t = some .string) (l : List UInt8) (i : Nat) (c : UInt8) (hc : l[i]? = some c) (w : World) : (Instr.index t (.string ⟨⟨l⟩⟩) (.int .i64 (i : Int))).run Tryz.prog w = .ok (.int .u8 (c.toNat : Int)) w := by
 obtain ⟨hi, rfl⟩ := List.getElem?_eq_some_iff.1 hc
 rw [run_index_string w t _ _ _ h, dif_pos ⟨by omega, by show (i : Int) < (l.length : Nat); omega⟩]
 rfl
theorem u8i (c : UInt8) (n : Nat) (hn : n < 256) : ((c.toNat : Int) = (n : Int)) = (c = UInt8.ofNat n) := by
 rw [eq_iff_iff, ← UInt8.toNat_inj]
 simp only [UInt8.toNat_ofNat']
 omega
open Go.Lib in
set_option maxHeartbeats 4000000 in
theorem w75 (l : List UInt8) (hl : l.length ≤ 1000000) (w : World) (hG : GlobW w) : Calls Tryz.prog 120 #[.string ⟨⟨l⟩⟩] w fun e w' => e = .returned (.tuple #[.string ⟨⟨(textV l).1⟩⟩, .int .i64 (textV l).2]) ∧ Below w.heap.size w w' := by
 rcases hp : [34].isPrefixOf l with _ | _
 ·have ht : textV l = ([], 0) := by
   cases l with
   | nil => rfl
   | cons c r => simp [List.isPrefixOf] at hp; simp [textV, Ne.symm hp]
  rw [ht]
  go_enter Tryz.func120, Tryz.ntmps120
  go_wp2_with (go_at_call 141; refine (hasPre l [34] hl (by decide) w hG).mono ?_)
  rintro e w1 ⟨rfl, hb1⟩
  simp only [hp]
  go_wp2
  go_ret2
  exact ⟨rfl, hb1⟩
 ·have ht : textV l = textR (l.drop 1) [] 1 ∧ 1 ≤ l.length := by
   cases l with
   | nil => simp [List.isPrefixOf] at hp
   | cons c r => simp [List.isPrefixOf] at hp; simp [textV, ← hp]
  obtain ⟨ht, h1⟩ := ht
  obtain ⟨R, hR⟩ : ∃ R, textR (l.drop 1) [] 1 = R := ⟨_, rfl⟩
  rw [ht, hR]
  go_enter Tryz.func120, Tryz.ntmps120
  go_wp2_with (go_at_call 141; refine (hasPre l [34] hl (by decide) w hG).mono ?_)
  rintro e w1 ⟨rfl, hb1⟩
  simp only [hp]
  go_wp2
  go_loopg [5] (l.length - 1) (fun gk p wr => ∃ (i : Nat) (acc : List UInt8), p = .int .i64 i ∧ i + gk = l.length ∧ IsBuilderF 131 5 w1.heap.size w1.heap.size (byteCells acc) wr ∧ Below w1.heap.size w1 wr ∧ textR (l.drop i) acc i = R ∧ acc.length ≤ i)
  case atStart => exact ⟨1, [], rfl, by omega, IsBuilderF.of (fresh_isBuilder 131 5 w1), (Below.refl _ w1).alloc (Nat.le_refl _) _, hR, by simp⟩
  case round =>
   obtain ⟨i, acc, rfl, hi, hI, hbw, he, hal⟩ := hrel
   have fin : Below w.heap.size w wr := hb1.trans (hbw.mono hb1.size)
   have sz : (⟨⟨l⟩⟩ : ByteArray).size = l.length := rfl
   by_cases hlt : i < l.length
   ·obtain ⟨c, hc⟩ := some_of hlt
    have hx : ∀ W, (Instr.index 9 (.string ⟨⟨l⟩⟩) (.int .i64 (i : Int))).run Tryz.prog W = .ok (.int .u8 (c.toNat : Int)) W := str_index Tryz.underlying9 l i c hc
    rw [drop_of hc] at he
    by_cases h34 : c = 34
    ·subst h34
     rw [textR_cons, if_pos rfl] at he
     subst he
     have hi1 : IntKind.i64.wrap ((i : Int) + 1) = ((i + 1 : Nat) : Int) := inc64 hlt (by unfold maxLen; omega)
     go_wp2_with (go_at_call 88; refine (Tryz.String w1.heap.size w1.heap.size acc _ hI (by have := hbw.size; omega)).mono ?_)
     rintro e W1 ⟨rfl, _, b1, _⟩
     go_wp2
     go_ret2
     exact ⟨rfl, fin.trans (b1.mono hb1.size)⟩
    ·have n34 : ¬ (c.toNat : Int) = 34 := fun e => h34 ((u8i c 34 (by decide)).mp e)
     have hi1 : IntKind.i64.wrap ((i : Int) + 1) = ((i + 1 : Nat) : Int) := inc64 hlt (by unfold maxLen; omega)
     have hbs : w1.heap.size ≤ wr.heap.size := by have := hbw.size; omega
     rw [textR_cons, if_neg h34] at he
     by_cases h92 : c = 92
     ·rw [if_pos h92] at he
      subst h92
      by_cases hlt2 : i + 1 < l.length
      ·obtain ⟨d, hd⟩ := some_of hlt2
       have hx2 : ∀ W, (Instr.index 9 (.string ⟨⟨l⟩⟩) (.int .i64 ((i : Int) + 1))).run Tryz.prog W = .ok (.int .u8 (d.toNat : Int)) W := str_index Tryz.underlying9 l (i + 1) d hd
       have hi2 : IntKind.i64.wrap ((i : Int) + 1 + 1) = ((i + 1 + 1 : Nat) : Int) := inc64 hlt2 (by unfold maxLen; omega)
       have ne : ((i : Int) + 1 == (l.length : Int)) = false := by simp; omega
       rw [drop_of hd] at he
       by_cases hdd : d = 34 ∨ d = 92
       ·simp only [if_pos hdd] at he
        have go1 : ∀ (W : World), IsBuilderF 131 5 w1.heap.size w1.heap.size (byteCells (acc ++ [d])) W → Below w1.heap.size w1 W → ∃ (j : Nat) (acc' : List UInt8), Value.int .i64 ((i + 1 + 1 : Nat) : Int) = .int .i64 j ∧ j + (gk - 2) = l.length ∧ IsBuilderF 131 5 w1.heap.size w1.heap.size (byteCells acc') W ∧ Below w1.heap.size w1 W ∧ textR (l.drop j) acc' j = R ∧ acc'.length ≤ j := fun W k1 k2 => ⟨i + 2, acc ++ [d], rfl, by omega, k1, k2, he, by simp; omega⟩
        rcases hdd with hdd | hdd
        all_goals (
         subst hdd
         go_wp2_with (go_at_call 87; refine (Tryz.WriteByte w1.heap.size w1.heap.size (byteCells acc) _ _ hI (by rw [byteCells_length]; omega) hbs).mono ?_)
         rintro e W1 ⟨rfl, q1, b1, _⟩
         go_wp2
         go_roundg (gk - 2)
         case measure => omega
         case rel => exact go1 W1 (by rw [byteCells_append]; exact Or.inr q1) (hbw.trans b1))
       ·simp only [if_neg hdd] at he
        have n1 : ((d.toNat : Int) != 34) = true := by simp only [bne_iff_ne]; exact fun e => hdd (.inl ((u8i d 34 (by decide)).mp e))
        have n2 : ((d.toNat : Int) != 92) = true := by simp only [bne_iff_ne]; exact fun e => hdd (.inr ((u8i d 92 (by decide)).mp e))
        subst he
        go_wp2
        go_ret2
        exact ⟨rfl, fin⟩
      ·have e1 : ((i : Int) + 1 == (l.length : Int)) = true := by simp; omega
       rw [List.drop_eq_nil_of_le (by omega)] at he
       subst he
       go_wp2
       go_ret2
       exact ⟨rfl, fin⟩
     ·have n92 : ¬ (c.toNat : Int) = 92 := fun e => h92 ((u8i c 92 (by decide)).mp e)
      rw [if_neg h92] at he
      by_cases hk : okc c = true
      ·have b1 : ¬ (c.toNat : Int) < 32 := by simp [okc] at hk; omega
       have b2 : ¬ (126 : Int) < (c.toNat : Int) := by simp [okc] at hk; omega
       rw [if_pos hk] at he
       go_wp2_with (go_at_call 87; refine (Tryz.WriteByte w1.heap.size w1.heap.size (byteCells acc) _ _ hI (by rw [byteCells_length]; omega) hbs).mono ?_)
       rintro e W1 rfl q1 b1 _
       go_wp2
       go_roundg (gk - 1)
       case measure => omega
       case rel => exact ⟨i + 1, acc ++ [c], rfl, by omega, by rw [byteCells_append]; exact Or.inr q1, hbw.trans b1, he, by simp; omega⟩
      ·rw [if_neg hk] at he
       have b1 : (c.toNat : Int) < 32 ∨ (126 : Int) < (c.toNat : Int) := by simp [okc] at hk; omega
       by_cases b2 : (c.toNat : Int) < 32
       ·go_wp2
        go_ret2
        exact ⟨by rw [← he]; rfl, fin⟩
       ·have b3 : (126 : Int) < (c.toNat : Int) := by omega
        subst he
        go_wp2
        go_ret2
        exact ⟨rfl, fin⟩
   ·rw [List.drop_eq_nil_of_le (by omega)] at he
    subst he
    go_wp2
    go_ret2
    exact ⟨rfl, fin⟩
theorem textR_len : ∀ (n : Nat) (r acc : List UInt8) (i : Nat), r.length ≤ n → (textR r acc i).1.length ≤ r.length + acc.length
 | n, [], acc, i, _ => by simp [textR]
 | n + 1, c :: r, acc, i, h => by
  rw [textR_cons]
  split
  ·simp only [List.length_cons]; omega
  ·split
   ·cases r with
    | nil => simp
    | cons d r' =>
     simp only
     split
     ·have := textR_len n r' (acc ++ [d]) (i + 2) (by simp at h; omega)
      simp only [List.length_append, List.length_cons, List.length_nil] at this ⊢
      omega
     ·simp
   ·split
    ·have := textR_len n r (acc ++ [c]) (i + 1) (by simpa using h)
     simp only [List.length_append, List.length_cons, List.length_nil] at this ⊢
     omega
    ·simp
 | 0, c :: r, _, _, h => by simp at h
theorem textV_len (l : List UInt8) : (textV l).1.length ≤ l.length := by
 cases l with
 | nil => simp [textV]
 | cons c r =>
  simp only [textV]
  split
  ·have := textR_len r.length r [] 1 (Nat.le_refl _)
   simp only [List.length_cons, List.length_nil] at this ⊢
   omega
  ·simp
theorem p120 (l : List UInt8) (hl : l.length ≤ 1000000) : Pure Tryz.prog 120 [.str l] (.tup [.str (textV l).1, .int .i64 (textV l).2]) := by
 refine pure_of_plain fun m vs hG hv => ?_
 simp only [RvL, Rv] at hv
 obtain ⟨_, _, rfl, ⟨rfl, _⟩, rfl⟩ := hv
 refine (w75 l hl m.w hG).mono ?_
 rintro e w' ⟨rfl, hb⟩
 refine ⟨_, rfl, fun m' => ?_, hb⟩
 simp only [Rv, RvL]
 exact ⟨_, rfl, _, _, rfl, ⟨rfl, by have := textV_len l; unfold maxLen; omega⟩, _, _, rfl, rfl, rfl⟩
def escC (c : UInt8) : List UInt8 := if c = 34 ∨ c = 92 then [92, c] else [c]
def esc (s : List UInt8) : List UInt8 := s.flatMap escC
def showT (s : List UInt8) : List UInt8 := 34 :: esc s ++ [34]
theorem esc_take {s : List UInt8} {i : Nat} {c : UInt8} (h : s[i]? = some c) : esc (s.take (i + 1)) = esc (s.take i) ++ escC c := by
 rw [List.take_add_one, h]
 simp [esc, List.flatMap_append]
theorem esc_len (s : List UInt8) : (esc s).length ≤ 2 * s.length := by
 induction s with
 | nil => simp [esc]
 | cons c s ih =>
  simp only [esc, List.flatMap_cons, List.length_append, List.length_cons] at *
  have : (escC c).length ≤ 2 := by unfold escC; split <;> simp
  omega
theorem valid_call (k n : Int) (s : List UInt8) (hs : s.length ≤ maxLen) (w : World) (hG : GlobW w) : Calls Tryz.prog 83 #[.agg #[.int .i64 k, .int .i64 n, .string ⟨⟨s⟩⟩]] w fun e w' => e = .returned (.bool (validV ⟨k, n, s⟩)) ∧ Below w.heap.size w w' := by
 refine (calls_plain (p83 ⟨k, n, s⟩) w [.agg ⟨[.int .i64 k, .int .i64 n, .string ⟨⟨s⟩⟩]⟩] (fun m => by simp only [RvL, Rv]; exact ⟨_, _, rfl, ⟨_, rfl, _, _, rfl, rfl, _, _, rfl, rfl, _, _, rfl, ⟨rfl, hs⟩, rfl⟩, rfl⟩) hG).mono ?_
 rintro e w' ⟨⟨v, rfl, m, hv⟩, hb⟩
 simp only [Rv] at hv
 subst hv
 exact ⟨rfl, hb⟩
theorem alloc_new (w : World) (o : Obj) : (w.alloc o).heap[w.heap.size]? = some o := by
 show (w.heap.push o)[w.heap.size]? = some o
 simp
open Go.Lib in
set_option maxHeartbeats 4000000 in
theorem w44 (s : List UInt8) (hv : validV ⟨2, 0, s⟩ = true) (w : World) (hG : GlobW w) : Calls Tryz.prog 44 #[.agg #[.int .i64 2, .int .i64 0, .string ⟨⟨s⟩⟩]] w fun e w' => e = .returned (.string ⟨⟨showT s⟩⟩) ∧ Below w.heap.size w w' := by
 have hl : s.length ≤ 40 := by simp [validV] at hv; exact hv.1
 go_enter Tryz.func44, Tryz.ntmps44
 go_wp2_with (go_at_call 83; refine (valid_call 2 0 s (by unfold maxLen; omega) _ (GlobW.below hG (Nat.le_refl _) ((Below.refl _ w).alloc (Nat.le_refl _) _))).mono ?_)
 rintro e w1 ⟨rfl, hb1⟩
 have ob : ∃ O, O = Obj.cells #[Value.int .i64 2, Value.int .i64 0, Value.string ⟨⟨s⟩⟩] 66 := ⟨_, rfl⟩
 obtain ⟨O, hO⟩ := ob
 rw [← hO] at hb1
 have box1 : w1.heap[w.heap.size]? = some O := (hb1.block _ (by simp)).trans (alloc_new w O)
 have cl : ∀ W : World, W.heap[w.heap.size]? = some O → W.cell? ⟨w.heap.size, 0, none⟩ = some (.int .i64 2) ∧ W.cell? ⟨w.heap.size, 2, none⟩ = some (.string ⟨⟨s⟩⟩) := fun W h => by
  rw [hO] at h
  exact ⟨by rw [Lib.cell_of_heap h]; rfl, by rw [Lib.cell_of_heap h]; rfl⟩
 have hw : Below w.heap.size w w1 := ((Below.refl _ w).alloc (Nat.le_refl _) O).trans (hb1.mono (by simp))
 have hsz : w.heap.size < w1.heap.size := (Array.getElem?_eq_some_iff.1 box1).1
 obtain ⟨k0, k2⟩ := cl w1 box1
 clear hO
 simp only [hv]
 have hf : IsBuilderF 131 5 w1.heap.size w1.heap.size (byteCells []) (w1.alloc (.cells #[.pointer none, .slice none 0 0] 131)) := IsBuilderF.of (fresh_isBuilder 131 5 w1)
 go_wp2_with (go_at_call 87; refine (Tryz.WriteByte w1.heap.size w1.heap.size (byteCells []) _ _ hf (by decide) (by simp)).mono ?_)
 rintro e w2 ⟨rfl, q2, b2, _⟩
 have b2' : Below w1.heap.size w1 w2 := ((Below.refl _ w1).alloc (Nat.le_refl _) _).trans b2
 have k2' : w2.cell? ⟨w.heap.size, 2, none⟩ = some (.string ⟨⟨s⟩⟩) := (cl w2 ((b2'.block _ hsz).trans box1)).2
 go_wp2
 go_loopg [20] s.length (fun gk p wr => ∃ (i : Nat), p = .int .i64 i ∧ i + gk = s.length ∧ IsBuilderF 131 5 w1.heap.size w1.heap.size (byteCells (34 :: esc (s.take i))) wr ∧ Below w1.heap.size w1 wr)
 case atStart => exact ⟨0, rfl, by omega, Or.inr q2, b2'⟩
 case round =>
  obtain ⟨i, rfl, hi, hI, hbw⟩ := hrel
  have hbs : w1.heap.size ≤ wr.heap.size := hbw.size
  have fin : Below w.heap.size w wr := hw.trans (hbw.mono (by omega))
  have g2 : wr.cell? ⟨w.heap.size, 2, none⟩ = some (.string ⟨⟨s⟩⟩) := (cl wr ((hbw.block _ hsz).trans box1)).2
  have el := esc_len (s.take i)
  rw [List.length_take] at el
  by_cases hlt : i < s.length
  ·obtain ⟨c, hc⟩ := some_of hlt
   have hx : ∀ W, (Instr.index 9 (.string ⟨⟨s⟩⟩) (.int .i64 (i : Int))).run Tryz.prog W = .ok (.int .u8 (c.toNat : Int)) W := str_index Tryz.underlying9 s i c hc
   have hi1 : IntKind.i64.wrap ((i : Int) + 1) = ((i + 1 : Nat) : Int) := inc64 hlt (by unfold maxLen; omega)
   have et := esc_take hc
   by_cases hcc : c = 34 ∨ c = 92
   ·have ec : escC c = [92, c] := by simp [escC, hcc]
    have tt : ((c.toNat : Int) == 34) = true ∨ ((c.toNat : Int) == 34) = false ∧ ((c.toNat : Int) == 92) = true := by
     rcases hcc with rfl | rfl
     ·exact .inl rfl
     ·exact .inr ⟨rfl, rfl⟩
    rcases tt with tt | ⟨tt, tt2⟩
    all_goals (
     go_wp2_with (go_at_call 87; refine (Tryz.WriteByte w1.heap.size w1.heap.size (byteCells (34 :: esc (s.take i))) _ _ hI (by rw [byteCells_length, List.length_cons]; omega) hbs).mono ?_)
     rintro e w3 ⟨rfl, q3, b3, _⟩
     have b3' : Below w1.heap.size w1 w3 := hbw.trans b3
     have g3 : w3.cell? ⟨w.heap.size, 2, none⟩ = some (.string ⟨⟨s⟩⟩) := (cl w3 ((b3'.block _ hsz).trans box1)).2
     go_wp2_with (go_at_call 87; refine (Tryz.WriteByte w1.heap.size w1.heap.size (byteCells (34 :: esc (s.take i)) ++ [.int .u8 92]) _ _ (Or.inr q3) (by rw [List.length_append, byteCells_length, List.length_cons, List.length_cons, List.length_nil]; omega) b3'.size).mono ?_)
     rintro e w4 ⟨rfl, q4, b4, _⟩
     go_wp2
     go_roundg (gk - 1)
     case measure => omega
     case rel => exact ⟨i + 1, rfl, by omega, by rw [et, ec, ← List.cons_append, byteCells_append]; rw [List.append_assoc] at q4; exact Or.inr q4, b3'.trans b4⟩)
   ·have ec : escC c = [c] := by simp [escC, hcc]
    have t1 : ((c.toNat : Int) == 34) = false := by
     simp only [beq_eq_false_iff_ne, ne_eq]; exact fun e => hcc (.inl ((u8i c 34 (by decide)).mp e))
    have t2 : ((c.toNat : Int) == 92) = false := by
     simp only [beq_eq_false_iff_ne, ne_eq]; exact fun e => hcc (.inr ((u8i c 92 (by decide)).mp e))
    go_wp2_with (go_at_call 87; refine (Tryz.WriteByte w1.heap.size w1.heap.size (byteCells (34 :: esc (s.take i))) _ _ hI (by rw [byteCells_length, List.length_cons]; omega) hbs).mono ?_)
    rintro e w3 ⟨rfl, q3, b3, _⟩
    go_wp2
    go_roundg (gk - 1)
    case measure => omega
    case rel => exact ⟨i + 1, rfl, by omega, by rw [et, ec, ← List.cons_append, byteCells_append]; exact Or.inr q3, hbw.trans b3⟩
  ·have hi' : i = s.length := by omega
   subst hi'
   rw [List.take_length] at hI el
   go_wp2_with (go_at_call 87; refine (Tryz.WriteByte w1.heap.size w1.heap.size (byteCells (34 :: esc s)) _ _ hI (by rw [byteCells_length, List.length_cons]; omega) hbs).mono ?_)
   rintro e w3 ⟨rfl, q3, b3, _⟩
   have b3' : Below w1.heap.size w1 w3 := hbw.trans b3
   have q3' : IsBuilderF 131 5 w1.heap.size w1.heap.size (byteCells (showT s)) w3 := by
    have e : byteCells (showT s) = byteCells (34 :: esc s) ++ [.int .u8 34] := by unfold showT; rw [byteCells_append]; rfl
    rw [e]
    exact Or.inr q3
   go_wp2_with (go_at_call 88; refine (Tryz.String w1.heap.size w1.heap.size (showT s) _ q3' b3'.size).mono ?_)
   rintro e w4 ⟨rfl, _, b4, _⟩
   go_wp2
   go_ret
   exact ⟨rfl, hw.trans ((b3'.trans b4).mono (by omega))⟩
def isDig (c : UInt8) : Bool := decide (48 ≤ c.toNat) && decide (c.toNat ≤ 57)
def intN (s : List UInt8) : Nat := if [45].isPrefixOf s then 1 else 0
def intD (s : List UInt8) : List UInt8 := (s.drop (intN s)).takeWhile isDig
def badD (n : Nat) : List UInt8 → Bool
 | [] => true
 | c :: ds => decide ((c.toNat : Int) = 48) && (decide (1 < ((ds.length + 1 : Nat) : Int)) || decide (n = 1))
def intLen (s : List UInt8) : Nat := if badD (intN s) (intD s) then 0 else intN s + (intD s).length
set_option maxHeartbeats 4000000 in
theorem p119 (s : List UInt8) : Pure Tryz.prog 119 [.str s] (.int .i64 (intLen s)) := by
 refine pure_assume (G := s.length ≤ maxLen) (fun m vs h => by simp only [RvL, Rv] at h; obtain ⟨_, _, _, ⟨_, h⟩, _⟩ := h; exact h) fun hs => ?_
 obtain ⟨nN, hN⟩ : ∃ n, intN s = n := ⟨_, rfl⟩
 unfold intLen intD
 rw [hN]
 unfold intN at hN
 rcases hp : [45].isPrefixOf s with _ | _
 ·have hn : nN = 0 := by rw [hp] at hN; exact hN.symm
  subst hn
  obtain ⟨D, hD⟩ : ∃ D, (s.drop 0).takeWhile isDig = D := ⟨_, rfl⟩
  rw [hD]
  refine pure_intro mo Tryz.func119 c119 fun H => ?_
  unfold e119 r119
  simp only [initEnv, initFrom]
  repeat' first|(apply Sp.go;·constructor<;>first|exact ss|(change _=_;first|(simp only[go_sem,Nat.reduceBEq,Nat.reduceAdd,Nat.reduceLeDiff,reduceIte]<;>rfl)|rfl)|exact Nat.le_of_ble_eq_true rfl|decide|(repeat' first|(apply Lk.go;constructor)|assumption|exact nb ‹_› ‹_›|exact nt ‹_› ‹_›))|(intro b hb;repeat first|(refine fe hb ?_;intro _ _ hb)|(refine fT hb ?_;intro hb))|refine rt ?_|refine gA rfl ?_|refine gB rfl ?_|apply cT rfl|apply cF rfl|(apply DM.gbT;rfl)|(apply DM.gbF;rfl)|intro h
  (apply DM.pcs (p141 s [45]); (· simp only [go_sem, Nat.reduceBEq, Nat.reduceAdd] <;> rfl); (· exact AVLes.refl _))
  rw [hp]
  repeat' first|(apply Sp.go;·constructor<;>first|exact ss|(change _=_;first|(simp only[go_sem,Nat.reduceBEq,Nat.reduceAdd,Nat.reduceLeDiff,reduceIte]<;>rfl)|rfl)|exact Nat.le_of_ble_eq_true rfl|decide|(repeat' first|(apply Lk.go;constructor)|assumption|exact nb ‹_› ‹_›|exact nt ‹_› ‹_›))|(intro b hb;repeat first|(refine fe hb ?_;intro _ _ hb)|(refine fT hb ?_;intro hb))|refine rt ?_|refine gA rfl ?_|refine gB rfl ?_|apply cT rfl|apply cF rfl|(apply DM.gbT;rfl)|(apply DM.gbF;rfl)|intro h
  refine AM.loopX (X := Nat) 0 (fun k => [(0, .str s), (3, .int .i64 0), (4, .int .i64 k)]) (fun k H' => H' = H ∧ 0 ≤ k ∧ k ≤ s.length ∧ D = (s.take k).drop 0 ++ (s.drop k).takeWhile isDig) (fun k => s.length - k) ⟨rfl, by omega, by omega, by rw [← hD]; simp⟩ ?_ ?_
  ·(repeat first | exact envle_nil _ | (refine envle_cons ?_ ?_; · (simp only [go_sem, Nat.reduceBEq, Nat.reduceAdd]; exact AVLe.refl _)))
  ·intro k H' ⟨e, hk0, hk, he⟩
   subst e
   have out : ∀ (h : (s.drop k).takeWhile isDig = []), (s.take k).drop 0 = D ∧ D.length = k - 0 := fun h => by
    rw [h, List.append_nil] at he
    refine ⟨he.symm, ?_⟩
    rw [he, List.length_drop, List.length_take]
    omega
   clear hD
   repeat' first|(apply Sp.go;·constructor<;>first|exact ss|(change _=_;first|(simp only[go_sem,Nat.reduceBEq,Nat.reduceAdd,Nat.reduceLeDiff,reduceIte]<;>rfl)|rfl)|exact Nat.le_of_ble_eq_true rfl|decide|(repeat' first|(apply Lk.go;constructor)|assumption|exact nb ‹_› ‹_›|exact nt ‹_› ‹_›))|(intro b hb;repeat first|(refine fe hb ?_;intro _ _ hb)|(refine fT hb ?_;intro hb))|refine rt ?_|refine gA rfl ?_|refine gB rfl ?_|apply cT rfl|apply cF rfl|(apply DM.gbT;rfl)|(apply DM.gbF;rfl)|intro h
   ·have hlt : k < s.length := by simp at h; omega
    obtain ⟨c, hc⟩ := some_of hlt
    rw [drop_of hc, List.takeWhile_cons] at he out
    (apply DM.idxSs s .i64 k c (by omega) (by simpa using hc); (· rfl); (· rfl))
    repeat' first|(apply Sp.go;·constructor<;>first|exact ss|(change _=_;first|(simp only[go_sem,Nat.reduceBEq,Nat.reduceAdd,Nat.reduceLeDiff,reduceIte]<;>rfl)|rfl)|exact Nat.le_of_ble_eq_true rfl|decide|(repeat' first|(apply Lk.go;constructor)|assumption|exact nb ‹_› ‹_›|exact nt ‹_› ‹_›))|(intro b hb;repeat first|(refine fe hb ?_;intro _ _ hb)|(refine fT hb ?_;intro hb))|refine rt ?_|refine gA rfl ?_|refine gB rfl ?_|apply cT rfl|apply cF rfl|(apply DM.gbT;rfl)|(apply DM.gbF;rfl)|intro h
    ·(apply DM.idxSs s .i64 k c (by omega) (by simpa using hc); (· rfl); (· rfl))
     repeat' first|(apply Sp.go;·constructor<;>first|exact ss|(change _=_;first|(simp only[go_sem,Nat.reduceBEq,Nat.reduceAdd,Nat.reduceLeDiff,reduceIte]<;>rfl)|rfl)|exact Nat.le_of_ble_eq_true rfl|decide|(repeat' first|(apply Lk.go;constructor)|assumption|exact nb ‹_› ‹_›|exact nt ‹_› ‹_›))|(intro b hb;repeat first|(refine fe hb ?_;intro _ _ hb)|(refine fT hb ?_;intro hb))|refine rt ?_|refine gA rfl ?_|refine gB rfl ?_|apply cT rfl|apply cF rfl|(apply DM.gbT;rfl)|(apply DM.gbF;rfl)|intro h
     (apply AM.cond; (· rfl))
     ·intro h2
      have hd : isDig c = true := by simp at *; simp [isDig]; omega
      rw [if_pos hd] at he
      repeat' first|(apply Sp.go;·constructor<;>first|exact ss|(change _=_;first|(simp only[go_sem,Nat.reduceBEq,Nat.reduceAdd,Nat.reduceLeDiff,reduceIte]<;>rfl)|rfl)|exact Nat.le_of_ble_eq_true rfl|decide|(repeat' first|(apply Lk.go;constructor)|assumption|exact nb ‹_› ‹_›|exact nt ‹_› ‹_›))|(intro b hb;repeat first|(refine fe hb ?_;intro _ _ hb)|(refine fT hb ?_;intro hb))|refine rt ?_|refine gA rfl ?_|refine gB rfl ?_|apply cT rfl|apply cF rfl|(apply DM.gbT;rfl)|(apply DM.gbF;rfl)|intro h
      refine AM.roundX (k + 1) ⟨rfl, by omega, by omega, ?_⟩ ?_ ?_
      ·rw [he, List.take_add_one, hc]
       simp [List.drop_append, List.length_take]
      ·(repeat first | exact envle_nil _ | (refine envle_cons ?_ ?_; · (simp only [go_sem, Nat.reduceBEq, Nat.reduceAdd]; exact AVLe.refl _)))
       refine envle_cons ?_ ?_
       ·simp only [go_sem, Nat.reduceBEq, Nat.reduceAdd]
        refine avle_int ?_
        rw [inc64 hlt hs]
       exact envle_nil _
      ·show s.length - (k + 1) < s.length - k
       omega
     ·intro h2
      have hd : isDig c = false := by simp at *; simp [isDig]; omega
      obtain ⟨o1, o2⟩ := out (by rw [if_neg (by simp [hd])])
      clear out he
      repeat' first|(apply Sp.go;·constructor<;>first|exact ss|(change _=_;first|(simp only[go_sem,Nat.reduceBEq,Nat.reduceAdd,Nat.reduceLeDiff,reduceIte]<;>rfl)|rfl)|exact Nat.le_of_ble_eq_true rfl|decide|(repeat' first|(apply Lk.go;constructor)|assumption|exact nb ‹_› ‹_›|exact nt ‹_› ‹_›))|(intro b hb;repeat first|(refine fe hb ?_;intro _ _ hb)|(refine fT hb ?_;intro hb))|refine rt ?_|refine gA rfl ?_|refine gB rfl ?_|apply cT rfl|apply cF rfl|(apply DM.gbT;rfl)|(apply DM.gbF;rfl)|intro h
      rcases D with _ | ⟨d, ds⟩
      ·apply DM.slSs (p := 0) (q := k)
       ·simp only [EOpd.ev, Env.get, Nat.reduceBEq, cond_true, cond_false, beq_self_eq_true] <;> rfl
       ·simp only [optNat, EOpd.ev, Env.get, Nat.reduceBEq, cond_true, cond_false, beq_self_eq_true] <;> rfl
       ·simp only [optNat, EOpd.ev, Env.get, Nat.reduceBEq, cond_true, cond_false, beq_self_eq_true] <;> rfl
       ·omega
       ·omega
       ·exact o1
       repeat' first|(apply Sp.go;·constructor<;>first|exact ss|(change _=_;first|(simp only[go_sem,Nat.reduceBEq,Nat.reduceAdd,Nat.reduceLeDiff,reduceIte]<;>rfl)|rfl)|exact Nat.le_of_ble_eq_true rfl|decide|(repeat' first|(apply Lk.go;constructor)|assumption|exact nb ‹_› ‹_›|exact nt ‹_› ‹_›))|(intro b hb;repeat first|(refine fe hb ?_;intro _ _ hb)|(refine fT hb ?_;intro hb))|refine rt ?_|refine gA rfl ?_|refine gB rfl ?_|apply cT rfl|apply cF rfl|(apply DM.gbT;rfl)|(apply DM.gbF;rfl)|intro h
       (apply Sr.go;·constructor<;>first|(apply Lk.go;constructor<;>first|exact ss|(change _=_;first|(simp only[go_sem,Nat.reduceBEq,Nat.reduceAdd,Nat.reduceLeDiff,reduceIte]<;>rfl)|rfl)|exact Nat.le_of_ble_eq_true rfl|decide|(repeat' first|(apply Lk.go;constructor)|assumption|exact nb ‹_› ‹_›|exact nt ‹_› ‹_›))|assumption)
       exact AVLe.refl _
      ·apply DM.slSs (p := 0) (q := k)
       ·simp only [EOpd.ev, Env.get, Nat.reduceBEq, cond_true, cond_false, beq_self_eq_true] <;> rfl
       ·simp only [optNat, EOpd.ev, Env.get, Nat.reduceBEq, cond_true, cond_false, beq_self_eq_true] <;> rfl
       ·simp only [optNat, EOpd.ev, Env.get, Nat.reduceBEq, cond_true, cond_false, beq_self_eq_true] <;> rfl
       ·omega
       ·omega
       ·exact o1
       repeat' first|(apply Sp.go;·constructor<;>first|exact ss|(change _=_;first|(simp only[go_sem,Nat.reduceBEq,Nat.reduceAdd,Nat.reduceLeDiff,reduceIte]<;>rfl)|rfl)|exact Nat.le_of_ble_eq_true rfl|decide|(repeat' first|(apply Lk.go;constructor)|assumption|exact nb ‹_› ‹_›|exact nt ‹_› ‹_›))|(intro b hb;repeat first|(refine fe hb ?_;intro _ _ hb)|(refine fT hb ?_;intro hb))|refine rt ?_|refine gA rfl ?_|refine gB rfl ?_|apply cT rfl|apply cF rfl|(apply DM.gbT;rfl)|(apply DM.gbF;rfl)|intro h
       (apply DM.idxSs (d :: ds) .i64 0 d (by omega) rfl; (· rfl); (· rfl))
       repeat' first|(apply Sp.go;·constructor<;>first|exact ss|(change _=_;first|(simp only[go_sem,Nat.reduceBEq,Nat.reduceAdd,Nat.reduceLeDiff,reduceIte]<;>rfl)|rfl)|exact Nat.le_of_ble_eq_true rfl|decide|(repeat' first|(apply Lk.go;constructor)|assumption|exact nb ‹_› ‹_›|exact nt ‹_› ‹_›))|(intro b hb;repeat first|(refine fe hb ?_;intro _ _ hb)|(refine fT hb ?_;intro hb))|refine rt ?_|refine gA rfl ?_|refine gB rfl ?_|apply cT rfl|apply cF rfl|(apply DM.gbT;rfl)|(apply DM.gbF;rfl)|intro h
       all_goals ((apply Sr.go;·constructor<;>first|(apply Lk.go;constructor<;>first|exact ss|(change _=_;first|(simp only[go_sem,Nat.reduceBEq,Nat.reduceAdd,Nat.reduceLeDiff,reduceIte]<;>rfl)|rfl)|exact Nat.le_of_ble_eq_true rfl|decide|(repeat' first|(apply Lk.go;constructor)|assumption|exact nb ‹_› ‹_›|exact nt ‹_› ‹_›))|assumption))
       all_goals (refine avle_int ?_; simp only [badD, *, Bool.and_true, Bool.true_and, Bool.and_false, Bool.false_and, Bool.or_true, Bool.or_false, Bool.false_or, Bool.true_or, if_true, Bool.false_eq_true, if_false]; simp at o2 ⊢; try omega)
    ·have hd : isDig c = false := by simp at *; simp [isDig]; omega
     obtain ⟨o1, o2⟩ := out (by rw [if_neg (by simp [hd])])
     clear out he
     rcases D with _ | ⟨d, ds⟩
     ·apply DM.slSs (p := 0) (q := k)
      ·simp only [EOpd.ev, Env.get, Nat.reduceBEq, cond_true, cond_false, beq_self_eq_true] <;> rfl
      ·simp only [optNat, EOpd.ev, Env.get, Nat.reduceBEq, cond_true, cond_false, beq_self_eq_true] <;> rfl
      ·simp only [optNat, EOpd.ev, Env.get, Nat.reduceBEq, cond_true, cond_false, beq_self_eq_true] <;> rfl
      ·omega
      ·omega
      ·exact o1
      repeat' first|(apply Sp.go;·constructor<;>first|exact ss|(change _=_;first|(simp only[go_sem,Nat.reduceBEq,Nat.reduceAdd,Nat.reduceLeDiff,reduceIte]<;>rfl)|rfl)|exact Nat.le_of_ble_eq_true rfl|decide|(repeat' first|(apply Lk.go;constructor)|assumption|exact nb ‹_› ‹_›|exact nt ‹_› ‹_›))|(intro b hb;repeat first|(refine fe hb ?_;intro _ _ hb)|(refine fT hb ?_;intro hb))|refine rt ?_|refine gA rfl ?_|refine gB rfl ?_|apply cT rfl|apply cF rfl|(apply DM.gbT;rfl)|(apply DM.gbF;rfl)|intro h
      (apply Sr.go;·constructor<;>first|(apply Lk.go;constructor<;>first|exact ss|(change _=_;first|(simp only[go_sem,Nat.reduceBEq,Nat.reduceAdd,Nat.reduceLeDiff,reduceIte]<;>rfl)|rfl)|exact Nat.le_of_ble_eq_true rfl|decide|(repeat' first|(apply Lk.go;constructor)|assumption|exact nb ‹_› ‹_›|exact nt ‹_› ‹_›))|assumption)
      exact AVLe.refl _
     ·apply DM.slSs (p := 0) (q := k)
      ·simp only [EOpd.ev, Env.get, Nat.reduceBEq, cond_true, cond_false, beq_self_eq_true] <;> rfl
      ·simp only [optNat, EOpd.ev, Env.get, Nat.reduceBEq, cond_true, cond_false, beq_self_eq_true] <;> rfl
      ·simp only [optNat, EOpd.ev, Env.get, Nat.reduceBEq, cond_true, cond_false, beq_self_eq_true] <;> rfl
      ·omega
      ·omega
      ·exact o1
      repeat' first|(apply Sp.go;·constructor<;>first|exact ss|(change _=_;first|(simp only[go_sem,Nat.reduceBEq,Nat.reduceAdd,Nat.reduceLeDiff,reduceIte]<;>rfl)|rfl)|exact Nat.le_of_ble_eq_true rfl|decide|(repeat' first|(apply Lk.go;constructor)|assumption|exact nb ‹_› ‹_›|exact nt ‹_› ‹_›))|(intro b hb;repeat first|(refine fe hb ?_;intro _ _ hb)|(refine fT hb ?_;intro hb))|refine rt ?_|refine gA rfl ?_|refine gB rfl ?_|apply cT rfl|apply cF rfl|(apply DM.gbT;rfl)|(apply DM.gbF;rfl)|intro h
      (apply DM.idxSs (d :: ds) .i64 0 d (by omega) rfl; (· rfl); (· rfl))
      repeat' first|(apply Sp.go;·constructor<;>first|exact ss|(change _=_;first|(simp only[go_sem,Nat.reduceBEq,Nat.reduceAdd,Nat.reduceLeDiff,reduceIte]<;>rfl)|rfl)|exact Nat.le_of_ble_eq_true rfl|decide|(repeat' first|(apply Lk.go;constructor)|assumption|exact nb ‹_› ‹_›|exact nt ‹_› ‹_›))|(intro b hb;repeat first|(refine fe hb ?_;intro _ _ hb)|(refine fT hb ?_;intro hb))|refine rt ?_|refine gA rfl ?_|refine gB rfl ?_|apply cT rfl|apply cF rfl|(apply DM.gbT;rfl)|(apply DM.gbF;rfl)|intro h
      all_goals ((apply Sr.go;·constructor<;>first|(apply Lk.go;constructor<;>first|exact ss|(change _=_;first|(simp only[go_sem,Nat.reduceBEq,Nat.reduceAdd,Nat.reduceLeDiff,reduceIte]<;>rfl)|rfl)|exact Nat.le_of_ble_eq_true rfl|decide|(repeat' first|(apply Lk.go;constructor)|assumption|exact nb ‹_› ‹_›|exact nt ‹_› ‹_›))|assumption))
      all_goals (refine avle_int ?_; simp only [badD, *, Bool.and_true, Bool.true_and, Bool.and_false, Bool.false_and, Bool.or_true, Bool.or_false, Bool.false_or, Bool.true_or, if_true, Bool.false_eq_true, if_false]; simp at o2 ⊢; try omega)
   ·obtain ⟨o1, o2⟩ := out (by rw [List.drop_eq_nil_of_le (by simp at h; omega)]; rfl)
    clear out he
    rcases D with _ | ⟨d, ds⟩
    ·apply DM.slSs (p := 0) (q := k)
     ·simp only [EOpd.ev, Env.get, Nat.reduceBEq, cond_true, cond_false, beq_self_eq_true] <;> rfl
     ·simp only [optNat, EOpd.ev, Env.get, Nat.reduceBEq, cond_true, cond_false, beq_self_eq_true] <;> rfl
     ·simp only [optNat, EOpd.ev, Env.get, Nat.reduceBEq, cond_true, cond_false, beq_self_eq_true] <;> rfl
     ·omega
     ·omega
     ·exact o1
     repeat' first|(apply Sp.go;·constructor<;>first|exact ss|(change _=_;first|(simp only[go_sem,Nat.reduceBEq,Nat.reduceAdd,Nat.reduceLeDiff,reduceIte]<;>rfl)|rfl)|exact Nat.le_of_ble_eq_true rfl|decide|(repeat' first|(apply Lk.go;constructor)|assumption|exact nb ‹_› ‹_›|exact nt ‹_› ‹_›))|(intro b hb;repeat first|(refine fe hb ?_;intro _ _ hb)|(refine fT hb ?_;intro hb))|refine rt ?_|refine gA rfl ?_|refine gB rfl ?_|apply cT rfl|apply cF rfl|(apply DM.gbT;rfl)|(apply DM.gbF;rfl)|intro h
     (apply Sr.go;·constructor<;>first|(apply Lk.go;constructor<;>first|exact ss|(change _=_;first|(simp only[go_sem,Nat.reduceBEq,Nat.reduceAdd,Nat.reduceLeDiff,reduceIte]<;>rfl)|rfl)|exact Nat.le_of_ble_eq_true rfl|decide|(repeat' first|(apply Lk.go;constructor)|assumption|exact nb ‹_› ‹_›|exact nt ‹_› ‹_›))|assumption)
     exact AVLe.refl _
    ·apply DM.slSs (p := 0) (q := k)
     ·simp only [EOpd.ev, Env.get, Nat.reduceBEq, cond_true, cond_false, beq_self_eq_true] <;> rfl
     ·simp only [optNat, EOpd.ev, Env.get, Nat.reduceBEq, cond_true, cond_false, beq_self_eq_true] <;> rfl
     ·simp only [optNat, EOpd.ev, Env.get, Nat.reduceBEq, cond_true, cond_false, beq_self_eq_true] <;> rfl
     ·omega
     ·omega
     ·exact o1
     repeat' first|(apply Sp.go;·constructor<;>first|exact ss|(change _=_;first|(simp only[go_sem,Nat.reduceBEq,Nat.reduceAdd,Nat.reduceLeDiff,reduceIte]<;>rfl)|rfl)|exact Nat.le_of_ble_eq_true rfl|decide|(repeat' first|(apply Lk.go;constructor)|assumption|exact nb ‹_› ‹_›|exact nt ‹_› ‹_›))|(intro b hb;repeat first|(refine fe hb ?_;intro _ _ hb)|(refine fT hb ?_;intro hb))|refine rt ?_|refine gA rfl ?_|refine gB rfl ?_|apply cT rfl|apply cF rfl|(apply DM.gbT;rfl)|(apply DM.gbF;rfl)|intro h
     (apply DM.idxSs (d :: ds) .i64 0 d (by omega) rfl; (· rfl); (· rfl))
     repeat' first|(apply Sp.go;·constructor<;>first|exact ss|(change _=_;first|(simp only[go_sem,Nat.reduceBEq,Nat.reduceAdd,Nat.reduceLeDiff,reduceIte]<;>rfl)|rfl)|exact Nat.le_of_ble_eq_true rfl|decide|(repeat' first|(apply Lk.go;constructor)|assumption|exact nb ‹_› ‹_›|exact nt ‹_› ‹_›))|(intro b hb;repeat first|(refine fe hb ?_;intro _ _ hb)|(refine fT hb ?_;intro hb))|refine rt ?_|refine gA rfl ?_|refine gB rfl ?_|apply cT rfl|apply cF rfl|(apply DM.gbT;rfl)|(apply DM.gbF;rfl)|intro h
     all_goals ((apply Sr.go;·constructor<;>first|(apply Lk.go;constructor<;>first|exact ss|(change _=_;first|(simp only[go_sem,Nat.reduceBEq,Nat.reduceAdd,Nat.reduceLeDiff,reduceIte]<;>rfl)|rfl)|exact Nat.le_of_ble_eq_true rfl|decide|(repeat' first|(apply Lk.go;constructor)|assumption|exact nb ‹_› ‹_›|exact nt ‹_› ‹_›))|assumption))
     all_goals (refine avle_int ?_; simp only [badD, *, Bool.and_true, Bool.true_and, Bool.and_false, Bool.false_and, Bool.or_true, Bool.or_false, Bool.false_or, Bool.true_or, if_true, Bool.false_eq_true, if_false]; simp at o2 ⊢; try omega)
 ·have hn : nN = 1 := by rw [hp] at hN; exact hN.symm
  subst hn
  obtain ⟨D, hD⟩ : ∃ D, (s.drop 1).takeWhile isDig = D := ⟨_, rfl⟩
  rw [hD]
  refine pure_intro mo Tryz.func119 c119 fun H => ?_
  unfold e119 r119
  simp only [initEnv, initFrom]
  repeat' first|(apply Sp.go;·constructor<;>first|exact ss|(change _=_;first|(simp only[go_sem,Nat.reduceBEq,Nat.reduceAdd,Nat.reduceLeDiff,reduceIte]<;>rfl)|rfl)|exact Nat.le_of_ble_eq_true rfl|decide|(repeat' first|(apply Lk.go;constructor)|assumption|exact nb ‹_› ‹_›|exact nt ‹_› ‹_›))|(intro b hb;repeat first|(refine fe hb ?_;intro _ _ hb)|(refine fT hb ?_;intro hb))|refine rt ?_|refine gA rfl ?_|refine gB rfl ?_|apply cT rfl|apply cF rfl|(apply DM.gbT;rfl)|(apply DM.gbF;rfl)|intro h
  (apply DM.pcs (p141 s [45]); (· simp only [go_sem, Nat.reduceBEq, Nat.reduceAdd] <;> rfl); (· exact AVLes.refl _))
  rw [hp]
  repeat' first|(apply Sp.go;·constructor<;>first|exact ss|(change _=_;first|(simp only[go_sem,Nat.reduceBEq,Nat.reduceAdd,Nat.reduceLeDiff,reduceIte]<;>rfl)|rfl)|exact Nat.le_of_ble_eq_true rfl|decide|(repeat' first|(apply Lk.go;constructor)|assumption|exact nb ‹_› ‹_›|exact nt ‹_› ‹_›))|(intro b hb;repeat first|(refine fe hb ?_;intro _ _ hb)|(refine fT hb ?_;intro hb))|refine rt ?_|refine gA rfl ?_|refine gB rfl ?_|apply cT rfl|apply cF rfl|(apply DM.gbT;rfl)|(apply DM.gbF;rfl)|intro h
  refine AM.loopX (X := Nat) 1 (fun k => [(0, .str s), (3, .int .i64 1), (4, .int .i64 k)]) (fun k H' => H' = H ∧ 1 ≤ k ∧ k ≤ s.length ∧ D = (s.take k).drop 1 ++ (s.drop k).takeWhile isDig) (fun k => s.length - k) ⟨rfl, by omega, (by cases s with | nil => simp [List.isPrefixOf] at hp | cons c r => simp), by rw [← hD]; simp⟩ ?_ ?_
  ·(repeat first | exact envle_nil _ | (refine envle_cons ?_ ?_; · (simp only [go_sem, Nat.reduceBEq, Nat.reduceAdd]; exact AVLe.refl _)))
  ·intro k H' ⟨e, hk0, hk, he⟩
   subst e
   have out : ∀ (h : (s.drop k).takeWhile isDig = []), (s.take k).drop 1 = D ∧ D.length = k - 1 := fun h => by
    rw [h, List.append_nil] at he
    refine ⟨he.symm, ?_⟩
    rw [he, List.length_drop, List.length_take]
    omega
   clear hD
   repeat' first|(apply Sp.go;·constructor<;>first|exact ss|(change _=_;first|(simp only[go_sem,Nat.reduceBEq,Nat.reduceAdd,Nat.reduceLeDiff,reduceIte]<;>rfl)|rfl)|exact Nat.le_of_ble_eq_true rfl|decide|(repeat' first|(apply Lk.go;constructor)|assumption|exact nb ‹_› ‹_›|exact nt ‹_› ‹_›))|(intro b hb;repeat first|(refine fe hb ?_;intro _ _ hb)|(refine fT hb ?_;intro hb))|refine rt ?_|refine gA rfl ?_|refine gB rfl ?_|apply cT rfl|apply cF rfl|(apply DM.gbT;rfl)|(apply DM.gbF;rfl)|intro h
   ·have hlt : k < s.length := by simp at h; omega
    obtain ⟨c, hc⟩ := some_of hlt
    rw [drop_of hc, List.takeWhile_cons] at he out
    (apply DM.idxSs s .i64 k c (by omega) (by simpa using hc); (· rfl); (· rfl))
    repeat' first|(apply Sp.go;·constructor<;>first|exact ss|(change _=_;first|(simp only[go_sem,Nat.reduceBEq,Nat.reduceAdd,Nat.reduceLeDiff,reduceIte]<;>rfl)|rfl)|exact Nat.le_of_ble_eq_true rfl|decide|(repeat' first|(apply Lk.go;constructor)|assumption|exact nb ‹_› ‹_›|exact nt ‹_› ‹_›))|(intro b hb;repeat first|(refine fe hb ?_;intro _ _ hb)|(refine fT hb ?_;intro hb))|refine rt ?_|refine gA rfl ?_|refine gB rfl ?_|apply cT rfl|apply cF rfl|(apply DM.gbT;rfl)|(apply DM.gbF;rfl)|intro h
    ·(apply DM.idxSs s .i64 k c (by omega) (by simpa using hc); (· rfl); (· rfl))
     repeat' first|(apply Sp.go;·constructor<;>first|exact ss|(change _=_;first|(simp only[go_sem,Nat.reduceBEq,Nat.reduceAdd,Nat.reduceLeDiff,reduceIte]<;>rfl)|rfl)|exact Nat.le_of_ble_eq_true rfl|decide|(repeat' first|(apply Lk.go;constructor)|assumption|exact nb ‹_› ‹_›|exact nt ‹_› ‹_›))|(intro b hb;repeat first|(refine fe hb ?_;intro _ _ hb)|(refine fT hb ?_;intro hb))|refine rt ?_|refine gA rfl ?_|refine gB rfl ?_|apply cT rfl|apply cF rfl|(apply DM.gbT;rfl)|(apply DM.gbF;rfl)|intro h
     (apply AM.cond; (· rfl))
     ·intro h2
      have hd : isDig c = true := by simp at *; simp [isDig]; omega
      rw [if_pos hd] at he
      repeat' first|(apply Sp.go;·constructor<;>first|exact ss|(change _=_;first|(simp only[go_sem,Nat.reduceBEq,Nat.reduceAdd,Nat.reduceLeDiff,reduceIte]<;>rfl)|rfl)|exact Nat.le_of_ble_eq_true rfl|decide|(repeat' first|(apply Lk.go;constructor)|assumption|exact nb ‹_› ‹_›|exact nt ‹_› ‹_›))|(intro b hb;repeat first|(refine fe hb ?_;intro _ _ hb)|(refine fT hb ?_;intro hb))|refine rt ?_|refine gA rfl ?_|refine gB rfl ?_|apply cT rfl|apply cF rfl|(apply DM.gbT;rfl)|(apply DM.gbF;rfl)|intro h
      refine AM.roundX (k + 1) ⟨rfl, by omega, by omega, ?_⟩ ?_ ?_
      ·rw [he, List.take_add_one, hc]
       simp [List.drop_append, List.length_take]
       rw [show 1 - min k s.length = 0 by omega]; rfl
      ·(repeat first | exact envle_nil _ | (refine envle_cons ?_ ?_; · (simp only [go_sem, Nat.reduceBEq, Nat.reduceAdd]; exact AVLe.refl _)))
       refine envle_cons ?_ ?_
       ·simp only [go_sem, Nat.reduceBEq, Nat.reduceAdd]
        refine avle_int ?_
        rw [inc64 hlt hs]
       exact envle_nil _
      ·show s.length - (k + 1) < s.length - k
       omega
     ·intro h2
      have hd : isDig c = false := by simp at *; simp [isDig]; omega
      obtain ⟨o1, o2⟩ := out (by rw [if_neg (by simp [hd])])
      clear out he
      repeat' first|(apply Sp.go;·constructor<;>first|exact ss|(change _=_;first|(simp only[go_sem,Nat.reduceBEq,Nat.reduceAdd,Nat.reduceLeDiff,reduceIte]<;>rfl)|rfl)|exact Nat.le_of_ble_eq_true rfl|decide|(repeat' first|(apply Lk.go;constructor)|assumption|exact nb ‹_› ‹_›|exact nt ‹_› ‹_›))|(intro b hb;repeat first|(refine fe hb ?_;intro _ _ hb)|(refine fT hb ?_;intro hb))|refine rt ?_|refine gA rfl ?_|refine gB rfl ?_|apply cT rfl|apply cF rfl|(apply DM.gbT;rfl)|(apply DM.gbF;rfl)|intro h
      rcases D with _ | ⟨d, ds⟩
      ·apply DM.slSs (p := 1) (q := k)
       ·simp only [EOpd.ev, Env.get, Nat.reduceBEq, cond_true, cond_false, beq_self_eq_true] <;> rfl
       ·simp only [optNat, EOpd.ev, Env.get, Nat.reduceBEq, cond_true, cond_false, beq_self_eq_true] <;> rfl
       ·simp only [optNat, EOpd.ev, Env.get, Nat.reduceBEq, cond_true, cond_false, beq_self_eq_true] <;> rfl
       ·omega
       ·omega
       ·exact o1
       repeat' first|(apply Sp.go;·constructor<;>first|exact ss|(change _=_;first|(simp only[go_sem,Nat.reduceBEq,Nat.reduceAdd,Nat.reduceLeDiff,reduceIte]<;>rfl)|rfl)|exact Nat.le_of_ble_eq_true rfl|decide|(repeat' first|(apply Lk.go;constructor)|assumption|exact nb ‹_› ‹_›|exact nt ‹_› ‹_›))|(intro b hb;repeat first|(refine fe hb ?_;intro _ _ hb)|(refine fT hb ?_;intro hb))|refine rt ?_|refine gA rfl ?_|refine gB rfl ?_|apply cT rfl|apply cF rfl|(apply DM.gbT;rfl)|(apply DM.gbF;rfl)|intro h
       (apply Sr.go;·constructor<;>first|(apply Lk.go;constructor<;>first|exact ss|(change _=_;first|(simp only[go_sem,Nat.reduceBEq,Nat.reduceAdd,Nat.reduceLeDiff,reduceIte]<;>rfl)|rfl)|exact Nat.le_of_ble_eq_true rfl|decide|(repeat' first|(apply Lk.go;constructor)|assumption|exact nb ‹_› ‹_›|exact nt ‹_› ‹_›))|assumption)
       exact AVLe.refl _
      ·apply DM.slSs (p := 1) (q := k)
       ·simp only [EOpd.ev, Env.get, Nat.reduceBEq, cond_true, cond_false, beq_self_eq_true] <;> rfl
       ·simp only [optNat, EOpd.ev, Env.get, Nat.reduceBEq, cond_true, cond_false, beq_self_eq_true] <;> rfl
       ·simp only [optNat, EOpd.ev, Env.get, Nat.reduceBEq, cond_true, cond_false, beq_self_eq_true] <;> rfl
       ·omega
       ·omega
       ·exact o1
       repeat' first|(apply Sp.go;·constructor<;>first|exact ss|(change _=_;first|(simp only[go_sem,Nat.reduceBEq,Nat.reduceAdd,Nat.reduceLeDiff,reduceIte]<;>rfl)|rfl)|exact Nat.le_of_ble_eq_true rfl|decide|(repeat' first|(apply Lk.go;constructor)|assumption|exact nb ‹_› ‹_›|exact nt ‹_› ‹_›))|(intro b hb;repeat first|(refine fe hb ?_;intro _ _ hb)|(refine fT hb ?_;intro hb))|refine rt ?_|refine gA rfl ?_|refine gB rfl ?_|apply cT rfl|apply cF rfl|(apply DM.gbT;rfl)|(apply DM.gbF;rfl)|intro h
       (apply DM.idxSs (d :: ds) .i64 0 d (by omega) rfl; (· rfl); (· rfl))
       repeat' first|(apply Sp.go;·constructor<;>first|exact ss|(change _=_;first|(simp only[go_sem,Nat.reduceBEq,Nat.reduceAdd,Nat.reduceLeDiff,reduceIte]<;>rfl)|rfl)|exact Nat.le_of_ble_eq_true rfl|decide|(repeat' first|(apply Lk.go;constructor)|assumption|exact nb ‹_› ‹_›|exact nt ‹_› ‹_›))|(intro b hb;repeat first|(refine fe hb ?_;intro _ _ hb)|(refine fT hb ?_;intro hb))|refine rt ?_|refine gA rfl ?_|refine gB rfl ?_|apply cT rfl|apply cF rfl|(apply DM.gbT;rfl)|(apply DM.gbF;rfl)|intro h
       all_goals ((apply Sr.go;·constructor<;>first|(apply Lk.go;constructor<;>first|exact ss|(change _=_;first|(simp only[go_sem,Nat.reduceBEq,Nat.reduceAdd,Nat.reduceLeDiff,reduceIte]<;>rfl)|rfl)|exact Nat.le_of_ble_eq_true rfl|decide|(repeat' first|(apply Lk.go;constructor)|assumption|exact nb ‹_› ‹_›|exact nt ‹_› ‹_›))|assumption))
       all_goals (refine avle_int ?_; simp only [badD, *, Bool.and_true, Bool.true_and, Bool.and_false, Bool.false_and, Bool.or_true, Bool.or_false, Bool.false_or, Bool.true_or, if_true, Bool.false_eq_true, if_false]; simp at o2 ⊢; try omega)
    ·have hd : isDig c = false := by simp at *; simp [isDig]; omega
     obtain ⟨o1, o2⟩ := out (by rw [if_neg (by simp [hd])])
     clear out he
     rcases D with _ | ⟨d, ds⟩
     ·apply DM.slSs (p := 1) (q := k)
      ·simp only [EOpd.ev, Env.get, Nat.reduceBEq, cond_true, cond_false, beq_self_eq_true] <;> rfl
      ·simp only [optNat, EOpd.ev, Env.get, Nat.reduceBEq, cond_true, cond_false, beq_self_eq_true] <;> rfl
      ·simp only [optNat, EOpd.ev, Env.get, Nat.reduceBEq, cond_true, cond_false, beq_self_eq_true] <;> rfl
      ·omega
      ·omega
      ·exact o1
      repeat' first|(apply Sp.go;·constructor<;>first|exact ss|(change _=_;first|(simp only[go_sem,Nat.reduceBEq,Nat.reduceAdd,Nat.reduceLeDiff,reduceIte]<;>rfl)|rfl)|exact Nat.le_of_ble_eq_true rfl|decide|(repeat' first|(apply Lk.go;constructor)|assumption|exact nb ‹_› ‹_›|exact nt ‹_› ‹_›))|(intro b hb;repeat first|(refine fe hb ?_;intro _ _ hb)|(refine fT hb ?_;intro hb))|refine rt ?_|refine gA rfl ?_|refine gB rfl ?_|apply cT rfl|apply cF rfl|(apply DM.gbT;rfl)|(apply DM.gbF;rfl)|intro h
      (apply Sr.go;·constructor<;>first|(apply Lk.go;constructor<;>first|exact ss|(change _=_;first|(simp only[go_sem,Nat.reduceBEq,Nat.reduceAdd,Nat.reduceLeDiff,reduceIte]<;>rfl)|rfl)|exact Nat.le_of_ble_eq_true rfl|decide|(repeat' first|(apply Lk.go;constructor)|assumption|exact nb ‹_› ‹_›|exact nt ‹_› ‹_›))|assumption)
      exact AVLe.refl _
     ·apply DM.slSs (p := 1) (q := k)
      ·simp only [EOpd.ev, Env.get, Nat.reduceBEq, cond_true, cond_false, beq_self_eq_true] <;> rfl
      ·simp only [optNat, EOpd.ev, Env.get, Nat.reduceBEq, cond_true, cond_false, beq_self_eq_true] <;> rfl
      ·simp only [optNat, EOpd.ev, Env.get, Nat.reduceBEq, cond_true, cond_false, beq_self_eq_true] <;> rfl
      ·omega
      ·omega
      ·exact o1
      repeat' first|(apply Sp.go;·constructor<;>first|exact ss|(change _=_;first|(simp only[go_sem,Nat.reduceBEq,Nat.reduceAdd,Nat.reduceLeDiff,reduceIte]<;>rfl)|rfl)|exact Nat.le_of_ble_eq_true rfl|decide|(repeat' first|(apply Lk.go;constructor)|assumption|exact nb ‹_› ‹_›|exact nt ‹_› ‹_›))|(intro b hb;repeat first|(refine fe hb ?_;intro _ _ hb)|(refine fT hb ?_;intro hb))|refine rt ?_|refine gA rfl ?_|refine gB rfl ?_|apply cT rfl|apply cF rfl|(apply DM.gbT;rfl)|(apply DM.gbF;rfl)|intro h
      (apply DM.idxSs (d :: ds) .i64 0 d (by omega) rfl; (· rfl); (· rfl))
      repeat' first|(apply Sp.go;·constructor<;>first|exact ss|(change _=_;first|(simp only[go_sem,Nat.reduceBEq,Nat.reduceAdd,Nat.reduceLeDiff,reduceIte]<;>rfl)|rfl)|exact Nat.le_of_ble_eq_true rfl|decide|(repeat' first|(apply Lk.go;constructor)|assumption|exact nb ‹_› ‹_›|exact nt ‹_› ‹_›))|(intro b hb;repeat first|(refine fe hb ?_;intro _ _ hb)|(refine fT hb ?_;intro hb))|refine rt ?_|refine gA rfl ?_|refine gB rfl ?_|apply cT rfl|apply cF rfl|(apply DM.gbT;rfl)|(apply DM.gbF;rfl)|intro h
      all_goals ((apply Sr.go;·constructor<;>first|(apply Lk.go;constructor<;>first|exact ss|(change _=_;first|(simp only[go_sem,Nat.reduceBEq,Nat.reduceAdd,Nat.reduceLeDiff,reduceIte]<;>rfl)|rfl)|exact Nat.le_of_ble_eq_true rfl|decide|(repeat' first|(apply Lk.go;constructor)|assumption|exact nb ‹_› ‹_›|exact nt ‹_› ‹_›))|assumption))
      all_goals (refine avle_int ?_; simp only [badD, *, Bool.and_true, Bool.true_and, Bool.and_false, Bool.false_and, Bool.or_true, Bool.or_false, Bool.false_or, Bool.true_or, if_true, Bool.false_eq_true, if_false]; simp at o2 ⊢; try omega)
   ·obtain ⟨o1, o2⟩ := out (by rw [List.drop_eq_nil_of_le (by simp at h; omega)]; rfl)
    clear out he
    rcases D with _ | ⟨d, ds⟩
    ·apply DM.slSs (p := 1) (q := k)
     ·simp only [EOpd.ev, Env.get, Nat.reduceBEq, cond_true, cond_false, beq_self_eq_true] <;> rfl
     ·simp only [optNat, EOpd.ev, Env.get, Nat.reduceBEq, cond_true, cond_false, beq_self_eq_true] <;> rfl
     ·simp only [optNat, EOpd.ev, Env.get, Nat.reduceBEq, cond_true, cond_false, beq_self_eq_true] <;> rfl
     ·omega
     ·omega
     ·exact o1
     repeat' first|(apply Sp.go;·constructor<;>first|exact ss|(change _=_;first|(simp only[go_sem,Nat.reduceBEq,Nat.reduceAdd,Nat.reduceLeDiff,reduceIte]<;>rfl)|rfl)|exact Nat.le_of_ble_eq_true rfl|decide|(repeat' first|(apply Lk.go;constructor)|assumption|exact nb ‹_› ‹_›|exact nt ‹_› ‹_›))|(intro b hb;repeat first|(refine fe hb ?_;intro _ _ hb)|(refine fT hb ?_;intro hb))|refine rt ?_|refine gA rfl ?_|refine gB rfl ?_|apply cT rfl|apply cF rfl|(apply DM.gbT;rfl)|(apply DM.gbF;rfl)|intro h
     (apply Sr.go;·constructor<;>first|(apply Lk.go;constructor<;>first|exact ss|(change _=_;first|(simp only[go_sem,Nat.reduceBEq,Nat.reduceAdd,Nat.reduceLeDiff,reduceIte]<;>rfl)|rfl)|exact Nat.le_of_ble_eq_true rfl|decide|(repeat' first|(apply Lk.go;constructor)|assumption|exact nb ‹_› ‹_›|exact nt ‹_› ‹_›))|assumption)
     exact AVLe.refl _
    ·apply DM.slSs (p := 1) (q := k)
     ·simp only [EOpd.ev, Env.get, Nat.reduceBEq, cond_true, cond_false, beq_self_eq_true] <;> rfl
     ·simp only [optNat, EOpd.ev, Env.get, Nat.reduceBEq, cond_true, cond_false, beq_self_eq_true] <;> rfl
     ·simp only [optNat, EOpd.ev, Env.get, Nat.reduceBEq, cond_true, cond_false, beq_self_eq_true] <;> rfl
     ·omega
     ·omega
     ·exact o1
     repeat' first|(apply Sp.go;·constructor<;>first|exact ss|(change _=_;first|(simp only[go_sem,Nat.reduceBEq,Nat.reduceAdd,Nat.reduceLeDiff,reduceIte]<;>rfl)|rfl)|exact Nat.le_of_ble_eq_true rfl|decide|(repeat' first|(apply Lk.go;constructor)|assumption|exact nb ‹_› ‹_›|exact nt ‹_› ‹_›))|(intro b hb;repeat first|(refine fe hb ?_;intro _ _ hb)|(refine fT hb ?_;intro hb))|refine rt ?_|refine gA rfl ?_|refine gB rfl ?_|apply cT rfl|apply cF rfl|(apply DM.gbT;rfl)|(apply DM.gbF;rfl)|intro h
     (apply DM.idxSs (d :: ds) .i64 0 d (by omega) rfl; (· rfl); (· rfl))
     repeat' first|(apply Sp.go;·constructor<;>first|exact ss|(change _=_;first|(simp only[go_sem,Nat.reduceBEq,Nat.reduceAdd,Nat.reduceLeDiff,reduceIte]<;>rfl)|rfl)|exact Nat.le_of_ble_eq_true rfl|decide|(repeat' first|(apply Lk.go;constructor)|assumption|exact nb ‹_› ‹_›|exact nt ‹_› ‹_›))|(intro b hb;repeat first|(refine fe hb ?_;intro _ _ hb)|(refine fT hb ?_;intro hb))|refine rt ?_|refine gA rfl ?_|refine gB rfl ?_|apply cT rfl|apply cF rfl|(apply DM.gbT;rfl)|(apply DM.gbF;rfl)|intro h
     all_goals ((apply Sr.go;·constructor<;>first|(apply Lk.go;constructor<;>first|exact ss|(change _=_;first|(simp only[go_sem,Nat.reduceBEq,Nat.reduceAdd,Nat.reduceLeDiff,reduceIte]<;>rfl)|rfl)|exact Nat.le_of_ble_eq_true rfl|decide|(repeat' first|(apply Lk.go;constructor)|assumption|exact nb ‹_› ‹_›|exact nt ‹_› ‹_›))|assumption))
     all_goals (refine avle_int ?_; simp only [badD, *, Bool.and_true, Bool.true_and, Bool.and_false, Bool.false_and, Bool.or_true, Bool.or_false, Bool.false_or, Bool.true_or, if_true, Bool.false_eq_true, if_false]; simp at o2 ⊢; try omega)
abbrev val0 : Val := ⟨0, 0, []⟩
abbrev iv (n : Int) : Val := ⟨1, n, []⟩
abbrev tx (s : List UInt8) : Val := ⟨2, 0, s⟩
theorem showT_len (s : List UInt8) : (showT s).length ≤ 2 * s.length + 2 := by
 have := esc_len s
 simp [showT]
 omega
theorem p44t (s : List UInt8) (hv : validV (tx s) = true) : Pure Tryz.prog 44 [(tx s).av] (.str (showT s)) := by
 have hl : s.length ≤ 40 := by simp [validV] at hv; exact hv.1
 refine pure_of_plain fun m vs hG h => ?_
 simp only [RvL, Rv] at h
 obtain ⟨_, _, rfl, ⟨_, rfl, _, _, rfl, rfl, _, _, rfl, rfl, _, _, rfl, ⟨rfl, _⟩, rfl⟩, rfl⟩ := h
 refine (w44 s hv m.w hG).mono ?_
 rintro e w' ⟨rfl, hb⟩
 refine ⟨_, rfl, fun m' => ?_, hb⟩
 simp only [Rv]
 exact ⟨trivial, by have := showT_len s; unfold maxLen; omega⟩
theorem results_ctt {env : Env} {H : AHeap} {b : Nat} {T : TypeId} {cs : List AV} {r r2 : AV} {a' n' m' c' : Nat} (hx : env.get a' = .ptr b 0) (hb : H.blk b = some (T, cs)) (hl : n' = cs.length) (hm : env.get m' = r) (hc : env.get c' = r2) : Aw.results [.cell true n' a', .t m', .t c'] env H = some (.tup [.agg cs, r, r2]) := by
 subst hl
 subst hm
 subst hc
 simp [Aw.results, ERes.ev, peval, EOpd.ev, hx, hb, AV.ofCells]
def scanT (s : List UInt8) : Val × Nat × Int := if (textV s).2 = 0 then (val0, 0, 3) else if 40 < (textV s).1.length then (val0, (textV s).2, 2) else (tx (textV s).1, (textV s).2, 0)
theorem p91t (s : List UInt8) (hs : s.length ≤ 1000000) (h0 : intLen s = 0) : Pure Tryz.prog 91 [.str s] (.tup [(scanT s).1.av, .int .i64 (scanT s).2.1, .int .i64 (scanT s).2.2]) := by
 have key : ∀ {a : Val} {k : Nat} {e : Int}, scanT s = (a, k, e) → AVLe (.tup [a.av, .int .i64 k, .int .i64 e]) (.tup [(scanT s).1.av, .int .i64 (scanT s).2.1, .int .i64 (scanT s).2.2]) := by
  intro a k e h
  rw [h]
  exact AVLe.refl _
 refine pure_intro mo Tryz.func91 c91 fun H => ?_
 unfold e91 r91
 simp only [initEnv, initFrom]
 repeat' first|(apply Sp.go;·constructor<;>first|exact ss|(change _=_;first|(simp only[go_sem,Nat.reduceBEq,Nat.reduceAdd,Nat.reduceLeDiff,reduceIte]<;>rfl)|rfl)|exact Nat.le_of_ble_eq_true rfl|decide|(repeat' first|(apply Lk.go;constructor)|assumption|exact nb ‹_› ‹_›|exact nt ‹_› ‹_›))|(intro b hb;repeat first|(refine fe hb ?_;intro _ _ hb)|(refine fT hb ?_;intro hb))|refine rt ?_|refine gA rfl ?_|refine gB rfl ?_|apply cT rfl|apply cF rfl|(apply DM.gbT;rfl)|(apply DM.gbF;rfl)|intro h
 (apply DM.pcs (p119 s); (· simp only [go_sem, Nat.reduceBEq, Nat.reduceAdd] <;> rfl); (· exact AVLes.refl _))
 rw [h0]
 repeat' first|(apply Sp.go;·constructor<;>first|exact ss|(change _=_;first|(simp only[go_sem,Nat.reduceBEq,Nat.reduceAdd,Nat.reduceLeDiff,reduceIte]<;>rfl)|rfl)|exact Nat.le_of_ble_eq_true rfl|decide|(repeat' first|(apply Lk.go;constructor)|assumption|exact nb ‹_› ‹_›|exact nt ‹_› ‹_›))|(intro b hb;repeat first|(refine fe hb ?_;intro _ _ hb)|(refine fT hb ?_;intro hb))|refine rt ?_|refine gA rfl ?_|refine gB rfl ?_|apply cT rfl|apply cF rfl|(apply DM.gbT;rfl)|(apply DM.gbF;rfl)|intro h
 (apply DM.pcs (p120 s hs); (· simp only [go_sem, Nat.reduceBEq, Nat.reduceAdd] <;> rfl); (· exact AVLes.refl _))
 repeat' first|(apply Sp.go;·constructor<;>first|exact ss|(change _=_;first|(simp only[go_sem,Nat.reduceBEq,Nat.reduceAdd,Nat.reduceLeDiff,reduceIte]<;>rfl)|rfl)|exact Nat.le_of_ble_eq_true rfl|decide|(repeat' first|(apply Lk.go;constructor)|assumption|exact nb ‹_› ‹_›|exact nt ‹_› ‹_›))|(intro b hb;repeat first|(refine fe hb ?_;intro _ _ hb)|(refine fT hb ?_;intro hb))|refine rt ?_|refine gA rfl ?_|refine gB rfl ?_|apply cT rfl|apply cF rfl|(apply DM.gbT;rfl)|(apply DM.gbF;rfl)|intro h
 (apply AM.cond; (· rfl))
 ·intro h1
  simp at h1
  repeat' first|(apply Sp.go;·constructor<;>first|exact ss|(change _=_;first|(simp only[go_sem,Nat.reduceBEq,Nat.reduceAdd,Nat.reduceLeDiff,reduceIte]<;>rfl)|rfl)|exact Nat.le_of_ble_eq_true rfl|decide|(repeat' first|(apply Lk.go;constructor)|assumption|exact nb ‹_› ‹_›|exact nt ‹_› ‹_›))|(intro b hb;repeat first|(refine fe hb ?_;intro _ _ hb)|(refine fT hb ?_;intro hb))|refine rt ?_|refine gA rfl ?_|refine gB rfl ?_|apply cT rfl|apply cF rfl|(apply DM.gbT;rfl)|(apply DM.gbF;rfl)|intro h
  ((first | apply AM.retA | apply AM.doneA); (· (apply results_ctt; (· rfl); (· repeat' first|(apply Lk.go;constructor)|assumption|exact nb ‹_› ‹_›|exact nt ‹_› ‹_›); (· rfl); (· simp only [go_sem,Nat.reduceBEq,Nat.reduceAdd,Nat.reduceLeDiff,reduceIte] <;> rfl); (· simp only [go_sem,Nat.reduceBEq,Nat.reduceAdd,Nat.reduceLeDiff,reduceIte] <;> rfl))); rotate_left; (· (repeat' first|assumption|(apply Lk.go;constructor))))
  exact key (a := val0) (k := 0) (by simp [scanT, h1])
 ·intro h1
  simp at h1
  repeat' first|(apply Sp.go;·constructor<;>first|exact ss|(change _=_;first|(simp only[go_sem,Nat.reduceBEq,Nat.reduceAdd,Nat.reduceLeDiff,reduceIte]<;>rfl)|rfl)|exact Nat.le_of_ble_eq_true rfl|decide|(repeat' first|(apply Lk.go;constructor)|assumption|exact nb ‹_› ‹_›|exact nt ‹_› ‹_›))|(intro b hb;repeat first|(refine fe hb ?_;intro _ _ hb)|(refine fT hb ?_;intro hb))|refine rt ?_|refine gA rfl ?_|refine gB rfl ?_|apply cT rfl|apply cF rfl|(apply DM.gbT;rfl)|(apply DM.gbF;rfl)|intro h
  (apply AM.cond; (· rfl))
  ·intro h2
   simp at h2
   repeat' first|(apply Sp.go;·constructor<;>first|exact ss|(change _=_;first|(simp only[go_sem,Nat.reduceBEq,Nat.reduceAdd,Nat.reduceLeDiff,reduceIte]<;>rfl)|rfl)|exact Nat.le_of_ble_eq_true rfl|decide|(repeat' first|(apply Lk.go;constructor)|assumption|exact nb ‹_› ‹_›|exact nt ‹_› ‹_›))|(intro b hb;repeat first|(refine fe hb ?_;intro _ _ hb)|(refine fT hb ?_;intro hb))|refine rt ?_|refine gA rfl ?_|refine gB rfl ?_|apply cT rfl|apply cF rfl|(apply DM.gbT;rfl)|(apply DM.gbF;rfl)|intro h
   ((first | apply AM.retA | apply AM.doneA); (· (apply results_ctt; (· rfl); (· repeat' first|(apply Lk.go;constructor)|assumption|exact nb ‹_› ‹_›|exact nt ‹_› ‹_›); (· rfl); (· simp only [go_sem,Nat.reduceBEq,Nat.reduceAdd,Nat.reduceLeDiff,reduceIte] <;> rfl); (· simp only [go_sem,Nat.reduceBEq,Nat.reduceAdd,Nat.reduceLeDiff,reduceIte] <;> rfl))); rotate_left; (· (repeat' first|assumption|(apply Lk.go;constructor))))
   exact key (a := val0) (by simp [scanT, h1, show 40 < (textV s).1.length by omega])
  ·intro h2
   simp at h2
   repeat' first|(apply Sp.go;·constructor<;>first|exact ss|(change _=_;first|(simp only[go_sem,Nat.reduceBEq,Nat.reduceAdd,Nat.reduceLeDiff,reduceIte]<;>rfl)|rfl)|exact Nat.le_of_ble_eq_true rfl|decide|(repeat' first|(apply Lk.go;constructor)|assumption|exact nb ‹_› ‹_›|exact nt ‹_› ‹_›))|(intro b hb;repeat first|(refine fe hb ?_;intro _ _ hb)|(refine fT hb ?_;intro hb))|refine rt ?_|refine gA rfl ?_|refine gB rfl ?_|apply cT rfl|apply cF rfl|(apply DM.gbT;rfl)|(apply DM.gbF;rfl)|intro h
   ((first | apply AM.retA | apply AM.doneA); (· (apply results_ctt; (· rfl); (· repeat' first|(apply Lk.go;constructor)|assumption|exact nb ‹_› ‹_›|exact nt ‹_› ‹_›); (· rfl); (· simp only [go_sem,Nat.reduceBEq,Nat.reduceAdd,Nat.reduceLeDiff,reduceIte] <;> rfl); (· simp only [go_sem,Nat.reduceBEq,Nat.reduceAdd,Nat.reduceLeDiff,reduceIte] <;> rfl))); rotate_left; (· (repeat' first|assumption|(apply Lk.go;constructor))))
   exact key (a := tx (textV s).1) (by simp [scanT, h1, show ¬ 40 < (textV s).1.length by omega])
def parseT (s : List UInt8) : Val × Int := if (scanT s).2.1 = 0 ∨ (scanT s).2.1 ≠ s.length then (val0, 3) else ((scanT s).1, (scanT s).2.2)
theorem p49t (s : List UInt8) (hs : s.length ≤ 1000000) (h0 : intLen s = 0) : Pure Tryz.prog 49 [.str s] (.tup [(parseT s).1.av, .int .i64 (parseT s).2]) := by
 have key : ∀ {a : Val} {e : Int}, parseT s = (a, e) → AVLe (.tup [a.av, .int .i64 e]) (.tup [(parseT s).1.av, .int .i64 (parseT s).2]) := by
  intro a e h
  rw [h]
  exact AVLe.refl _
 refine pure_intro mo Tryz.func49 c49 fun H => ?_
 unfold e49 r49
 simp only [initEnv, initFrom]
 repeat' first|(apply Sp.go;·constructor<;>first|exact ss|(change _=_;first|(simp only[go_sem,Nat.reduceBEq,Nat.reduceAdd,Nat.reduceLeDiff,reduceIte]<;>rfl)|rfl)|exact Nat.le_of_ble_eq_true rfl|decide|(repeat' first|(apply Lk.go;constructor)|assumption|exact nb ‹_› ‹_›|exact nt ‹_› ‹_›))|(intro b hb;repeat first|(refine fe hb ?_;intro _ _ hb)|(refine fT hb ?_;intro hb))|refine rt ?_|refine gA rfl ?_|refine gB rfl ?_|apply cT rfl|apply cF rfl|(apply DM.gbT;rfl)|(apply DM.gbF;rfl)|intro h
 (apply DM.pcs (p91t s hs h0); (· simp only [go_sem, Nat.reduceBEq, Nat.reduceAdd] <;> rfl); (· exact AVLes.refl _))
 repeat' first|(apply Sp.go;·constructor<;>first|exact ss|(change _=_;first|(simp only[go_sem,Nat.reduceBEq,Nat.reduceAdd,Nat.reduceLeDiff,reduceIte]<;>rfl)|rfl)|exact Nat.le_of_ble_eq_true rfl|decide|(repeat' first|(apply Lk.go;constructor)|assumption|exact nb ‹_› ‹_›|exact nt ‹_› ‹_›))|(intro b hb;repeat first|(refine fe hb ?_;intro _ _ hb)|(refine fT hb ?_;intro hb))|refine rt ?_|refine gA rfl ?_|refine gB rfl ?_|apply cT rfl|apply cF rfl|(apply DM.gbT;rfl)|(apply DM.gbF;rfl)|intro h
 ·skip
  (apply AM.cond; (· rfl))
  ·intro h1
   simp at h h1
   repeat' first|(apply Sp.go;·constructor<;>first|exact ss|(change _=_;first|(simp only[go_sem,Nat.reduceBEq,Nat.reduceAdd,Nat.reduceLeDiff,reduceIte]<;>rfl)|rfl)|exact Nat.le_of_ble_eq_true rfl|decide|(repeat' first|(apply Lk.go;constructor)|assumption|exact nb ‹_› ‹_›|exact nt ‹_› ‹_›))|(intro b hb;repeat first|(refine fe hb ?_;intro _ _ hb)|(refine fT hb ?_;intro hb))|refine rt ?_|refine gA rfl ?_|refine gB rfl ?_|apply cT rfl|apply cF rfl|(apply DM.gbT;rfl)|(apply DM.gbF;rfl)|intro h
   (apply Sr.go;·constructor<;>first|(apply Lk.go;constructor<;>first|exact ss|(change _=_;first|(simp only[go_sem,Nat.reduceBEq,Nat.reduceAdd,Nat.reduceLeDiff,reduceIte]<;>rfl)|rfl)|exact Nat.le_of_ble_eq_true rfl|decide|(repeat' first|(apply Lk.go;constructor)|assumption|exact nb ‹_› ‹_›|exact nt ‹_› ‹_›))|assumption)
   exact key (a := val0) (by simp only [parseT]; rw [if_pos (.inr (by omega))])
  ·intro h1
   simp at h h1
   repeat' first|(apply Sp.go;·constructor<;>first|exact ss|(change _=_;first|(simp only[go_sem,Nat.reduceBEq,Nat.reduceAdd,Nat.reduceLeDiff,reduceIte]<;>rfl)|rfl)|exact Nat.le_of_ble_eq_true rfl|decide|(repeat' first|(apply Lk.go;constructor)|assumption|exact nb ‹_› ‹_›|exact nt ‹_› ‹_›))|(intro b hb;repeat first|(refine fe hb ?_;intro _ _ hb)|(refine fT hb ?_;intro hb))|refine rt ?_|refine gA rfl ?_|refine gB rfl ?_|apply cT rfl|apply cF rfl|(apply DM.gbT;rfl)|(apply DM.gbF;rfl)|intro h
   (apply Sr.go;·constructor<;>first|(apply Lk.go;constructor<;>first|exact ss|(change _=_;first|(simp only[go_sem,Nat.reduceBEq,Nat.reduceAdd,Nat.reduceLeDiff,reduceIte]<;>rfl)|rfl)|exact Nat.le_of_ble_eq_true rfl|decide|(repeat' first|(apply Lk.go;constructor)|assumption|exact nb ‹_› ‹_›|exact nt ‹_› ‹_›))|assumption)
   exact key (a := (scanT s).1) (by simp only [parseT]; rw [if_neg (by omega)])
 ·(apply Sr.go;·constructor<;>first|(apply Lk.go;constructor<;>first|exact ss|(change _=_;first|(simp only[go_sem,Nat.reduceBEq,Nat.reduceAdd,Nat.reduceLeDiff,reduceIte]<;>rfl)|rfl)|exact Nat.le_of_ble_eq_true rfl|decide|(repeat' first|(apply Lk.go;constructor)|assumption|exact nb ‹_› ‹_›|exact nt ‹_› ‹_›))|assumption)
  simp at h
  exact key (a := val0) (by simp only [parseT]; rw [if_pos (.inl (by omega))])
def natD (a : Nat) (l : List UInt8) : Nat := l.foldl (fun a c => 10 * a + (c.toNat - 48)) a
theorem natD_nil (a : Nat) : natD a [] = a := rfl
theorem natD_cons (a : Nat) (c : UInt8) (r : List UInt8) : natD a (c :: r) = natD (10 * a + (c.toNat - 48)) r := List.foldl_cons ..
def numV (n : Nat) (d : List UInt8) : Int := if n = 1 then -(natD 0 d : Int) else natD 0 d
theorem natD_append (l : List UInt8) (c : UInt8) : ∀ a : Nat, natD a (l ++ [c]) = 10 * natD a l + (c.toNat - 48) := by
 induction l with
 | nil => intro a; rw [List.nil_append, natD_cons, natD_nil, natD_nil]
 | cons x l ih => intro a; rw [List.cons_append, natD_cons, natD_cons, ih]
theorem natD_ge (l : List UInt8) : ∀ a : Nat, a ≤ natD a l := by
 induction l with
 | nil => intro a; rw [natD_nil]; exact Nat.le_refl _
 | cons x l ih => intro a; rw [natD_cons]; have := ih (10 * a + (x.toNat - 48)); omega
theorem parse_digits (l : List UInt8) : ∀ a : Nat, l.all isDig = true → Lib.parseUint10 a l = .ok (natD a l) ∨ (Lib.parseUint10 a l = .range ∧ 18446744073709551616 ≤ natD a l) := by
 induction l with
 | nil => intro a _; left; rw [natD_nil, Lib.parseUint10]
 | cons c r ih =>
  intro a h
  simp only [List.all_cons, Bool.and_eq_true] at h
  have hc : 48 ≤ c.toNat ∧ c.toNat ≤ 57 := by simpa [isDig] using h.1
  rw [Lib.parseUint10, if_pos hc, natD_cons]
  have ge := natD_ge r (10 * a + (c.toNat - 48))
  by_cases h1 : 1844674407370955162 ≤ a
  ·rw [if_pos h1]; exact .inr ⟨rfl, by omega⟩
  ·rw [if_neg h1]
   by_cases h2 : 18446744073709551616 ≤ a * 10 + (c.toNat - 48)
   ·rw [if_pos h2]; exact .inr ⟨rfl, by omega⟩
   ·rw [if_neg h2, Nat.mul_comm a 10]
    exact ih _ h.2
theorem atoi_digits {d : List UInt8} (n : Nat) (hn : n = 0 ∨ n = 1) (hd : d.all isDig = true) (h0 : d ≠ []) :
  Lib.atoiAll (if n = 1 then 45 :: d else d) = .ok (numV n d) ∧ -9223372036854775808 ≤ numV n d ∧ numV n d ≤ 9223372036854775807 ∨ Lib.atoiAll (if n = 1 then 45 :: d else d) = .range ∧ (numV n d < -1000 ∨ 1000 < numV n d) := by
 have hm : Lib.parseMag d = Lib.parseUint10 0 d := by unfold Lib.parseMag; rw [if_neg h0]
 rcases hn with rfl | rfl
 ·simp only [Nat.zero_ne_one, if_false, numV]
  cases d with
  | nil => exact absurd rfl h0
  | cons c r =>
   have hc : 48 ≤ c.toNat ∧ c.toNat ≤ 57 := by simp only [List.all_cons, Bool.and_eq_true] at hd; simpa [isDig] using hd.1
   simp only [Lib.atoiAll]
   rw [if_neg (by omega), hm]
   rcases parse_digits (c :: r) 0 hd with h | ⟨h, h2⟩
   ·rw [h]
    simp only
    by_cases h3 : 9223372036854775808 ≤ natD 0 (c :: r)
    ·rw [if_pos ⟨by omega, h3⟩]; exact .inr ⟨rfl, .inr (by omega)⟩
    ·rw [if_neg (fun e => h3 e.2), if_neg (fun e => by omega), if_neg (by omega)]
     exact .inl ⟨rfl, by omega, by omega⟩
   ·rw [h]
    exact .inr ⟨rfl, .inr (by omega)⟩
 ·simp only [if_true, numV]
  simp only [Lib.atoiAll]
  rw [if_pos (.inr rfl), hm]
  rcases parse_digits d 0 hd with h | ⟨h, h2⟩
  ·rw [h]
   simp only
   rw [if_neg (fun e => e.1 rfl)]
   by_cases h3 : 9223372036854775808 < natD 0 d
   ·rw [if_pos ⟨rfl, h3⟩]; exact .inr ⟨rfl, .inl (by omega)⟩
   ·rw [if_neg (fun e => h3 e.2), if_pos (show UInt8.toNat 45 = 45 from rfl)]
    exact .inl ⟨rfl, by omega, by omega⟩
  ·rw [h]
   exact .inr ⟨rfl, .inl (by omega)⟩
def scanV (s : List UInt8) : Val × Nat × Int := if intLen s = 0 then scanT s else if numV (intN s) (intD s) < -1000 ∨ 1000 < numV (intN s) (intD s) then (val0, intLen s, 2) else (iv (numV (intN s) (intD s)), intLen s, 0)
def parseV (s : List UInt8) : Val × Int := if (scanV s).2.1 = 0 ∨ (scanV s).2.1 ≠ s.length then (val0, 3) else ((scanV s).1, (scanV s).2.2)
theorem intLen_quote {s : List UInt8} (h : s.head? = some 34) : intLen s = 0 ∧ badD (intN s) (intD s) = true := by
 cases s with
 | nil => simp at h
 | cons c r =>
  simp only [List.head?_cons, Option.some.injEq] at h
  subst h
  have e : badD (intN (34 :: r)) (intD (34 :: r)) = true := by
   have e1 : intN (34 :: r) = 0 := by simp [intN, List.isPrefixOf]
   rw [e1, intD, e1, List.drop_zero, List.takeWhile_cons, if_neg (by decide)]
   rfl
  exact ⟨by unfold intLen; rw [if_pos e], e⟩
theorem dec_num (u : Nat) : (Lib.decDigits u).all isDig = true ∧ natD 0 (Lib.decDigits u) = u ∧ Lib.decDigits u ≠ [] ∧ (1 ≤ u → (Lib.decDigits u).head? ≠ some 48) := by
 induction u using Nat.strongRecOn with
 | ind u ih =>
  by_cases h : u < 10
  ·rw [dec_small h]
   have e := u8d h
   refine ⟨by simp [isDig]; omega, by rw [natD_cons, natD_nil, e]; omega, by simp, fun h1 h2 => ?_⟩
   simp only [List.head?_cons, Option.some.injEq] at h2
   have := congrArg UInt8.toNat h2
   rw [e] at this
   have e48 : (48 : UInt8).toNat = 48 := rfl
   omega
  ·rw [dec_step h]
   obtain ⟨a1, a2, a3, a4⟩ := ih (u / 10) (by omega)
   have e := u8d (d := u % 10) (by omega)
   refine ⟨?_, ?_, by simp, fun _ => ?_⟩
   ·rw [List.all_append, a1]; simp [isDig]; omega
   ·rw [natD_append, a2, e]; omega
   ·rw [List.head?_append]
    cases hh : (Lib.decDigits (u / 10)).head? with
    | none => simp at hh; exact absurd hh a3
    | some c => simp only [Option.some_or]; rw [← hh]; exact a4 (by omega)
theorem textR_show : ∀ (s acc rest : List UInt8) (i : Nat), printable s = true → textR (esc s ++ 34 :: rest) acc i = (acc ++ s, i + (esc s).length + 1)
 | [], acc, rest, i, _ => by simp [esc, textR_cons]
 | c :: s, acc, rest, i, h => by
  simp only [printable, List.all_cons, Bool.and_eq_true] at h
  have e : esc (c :: s) = escC c ++ esc s := by simp [esc]
  rw [e]
  by_cases hc : c = 34 ∨ c = 92
  ·have ec : escC c = [92, c] := by simp [escC, hc]
   rw [ec]
   simp only [List.cons_append, List.nil_append]
   rw [textR_cons, if_neg (by decide), if_pos rfl]
   simp only [if_pos hc]
   rw [textR_show s _ rest _ h.2]
   simp
   omega
  ·have ec : escC c = [c] := by simp [escC, hc]
   rw [ec]
   simp only [List.cons_append, List.nil_append]
   rw [textR_cons, if_neg (fun e => hc (.inl e)), if_neg (fun e => hc (.inr e)), if_pos h.1, textR_show s _ rest _ h.2]
   simp
   omega
theorem parse_text {s : List UInt8} (h : validV (tx s) = true) : parseV (showT s) = (tx s, 0) := by
 have hv : s.length ≤ 40 ∧ printable s = true := by simp [validV] at h; exact h
 have e1 : textV (showT s) = (s, (showT s).length) := by
  unfold showT textV
  simp only [List.cons_append, if_true]
  rw [textR_show s [] [] 1 hv.2]
  simp
  omega
 have hq : (showT s).head? = some 34 := rfl
 have hl : (showT s).length ≠ 0 := by simp [showT]
 have e2 : scanV (showT s) = (tx s, (showT s).length, 0) := by
  unfold scanV scanT
  rw [if_pos (intLen_quote hq).1, e1]
  simp only
  rw [if_neg hl, if_neg (by omega)]
 unfold parseV
 rw [e2]
 simp only
 rw [if_neg (by simp [hl])]
def showV (v : Val) : List UInt8 := if validV v = false then [63] else if v.k = 1 then Lib.itoa v.n else showT v.s
end Go.Aw.T
namespace Go.Aw.T
open Go Go.Aw Go.Proofs Go.RowKit
set_option maxRecDepth 100000
attribute [local irreducible] Go.Aw.DM Go.Aw.AHeap.setB Go.Aw.AHeap.setT
attribute [local go_sem] peval EOpd.ev Env.get binInt binStr binBool buildParts AV.cells AV.okc setRange minmaxAV AV.one AV.ofCells eqCells eqCell bslRows cond_true cond_false beq_self_eq_true Bool.not_true Bool.not_false beq_true beq_false eq_self if_true Option.some.injEq List.length_cons List.length_nil List.take_succ_cons List.take_zero List.drop_succ_cons List.drop_zero List.set_cons_succ List.set_cons_zero List.nil_append List.cons_append List.append_nil and_self Option.map_some List.map_cons List.map_nil Bool.false_eq_true if_false Nat.zero_add Nat.add_zero true_and and_true Bool.and_true Bool.true_and List.getElem?_cons_zero List.getElem?_cons_succ Nat.zero_le Nat.le_refl
set_option linter.unusedSimpArgs false
set_option linter.unusedVariables false
theorem p44 (v : Val) : Pure Tryz.prog 44 [v.av] (.str (showV v)) := by
 by_cases ht : validV v = true ∧ v.k ≠ 1
 ·obtain ⟨k, n, s⟩ := v
  obtain ⟨h1, h2⟩ := ht
  have hk : k = 2 ∧ n = 0 := by simp [validV] at h1; simp at h2; omega
  obtain ⟨rfl, rfl⟩ := hk
  have e : showV ⟨2, 0, s⟩ = showT s := by unfold showV; rw [if_neg (by rw [h1]; simp), if_neg (by simp)]
  rw [e]
  exact p44t s h1
 ·refine pure_intro mo Tryz.func44 c44 fun H => ?_
  unfold e44 r44
  simp only [initEnv, initFrom]
  repeat' first|(apply Sp.go;·constructor<;>first|exact ss|(change _=_;first|(simp only[go_sem,Nat.reduceBEq,Nat.reduceAdd,Nat.reduceLeDiff,reduceIte]<;>rfl)|rfl)|exact Nat.le_of_ble_eq_true rfl|decide|(repeat' first|(apply Lk.go;constructor)|assumption|exact nb ‹_› ‹_›|exact nt ‹_› ‹_›))|(intro b hb;repeat first|(refine fe hb ?_;intro _ _ hb)|(refine fT hb ?_;intro hb))|refine rt ?_|refine gA rfl ?_|refine gB rfl ?_|apply cT rfl|apply cF rfl|(apply DM.gbT;rfl)|(apply DM.gbF;rfl)|intro h
  (apply DM.pcs (p83 v); (· simp only [go_sem, Nat.reduceBEq, Nat.reduceAdd] <;> rfl); (· exact AVLes.refl _))
  repeat' first|(apply Sp.go;·constructor<;>first|exact ss|(change _=_;first|(simp only[go_sem,Nat.reduceBEq,Nat.reduceAdd,Nat.reduceLeDiff,reduceIte]<;>rfl)|rfl)|exact Nat.le_of_ble_eq_true rfl|decide|(repeat' first|(apply Lk.go;constructor)|assumption|exact nb ‹_› ‹_›|exact nt ‹_› ‹_›))|(intro b hb;repeat first|(refine fe hb ?_;intro _ _ hb)|(refine fT hb ?_;intro hb))|refine rt ?_|refine gA rfl ?_|refine gB rfl ?_|apply cT rfl|apply cF rfl|(apply DM.gbT;rfl)|(apply DM.gbF;rfl)|intro h
  (apply AM.cond; (· rfl))
  ·intro h1
   simp at h1
   repeat' first|(apply Sp.go;·constructor<;>first|exact ss|(change _=_;first|(simp only[go_sem,Nat.reduceBEq,Nat.reduceAdd,Nat.reduceLeDiff,reduceIte]<;>rfl)|rfl)|exact Nat.le_of_ble_eq_true rfl|decide|(repeat' first|(apply Lk.go;constructor)|assumption|exact nb ‹_› ‹_›|exact nt ‹_› ‹_›))|(intro b hb;repeat first|(refine fe hb ?_;intro _ _ hb)|(refine fT hb ?_;intro hb))|refine rt ?_|refine gA rfl ?_|refine gB rfl ?_|apply cT rfl|apply cF rfl|(apply DM.gbT;rfl)|(apply DM.gbF;rfl)|intro h
   (apply Sr.go;·constructor<;>first|(apply Lk.go;constructor<;>first|exact ss|(change _=_;first|(simp only[go_sem,Nat.reduceBEq,Nat.reduceAdd,Nat.reduceLeDiff,reduceIte]<;>rfl)|rfl)|exact Nat.le_of_ble_eq_true rfl|decide|(repeat' first|(apply Lk.go;constructor)|assumption|exact nb ‹_› ‹_›|exact nt ‹_› ‹_›))|assumption)
   refine avle_eq ?_; rw [AV.str.injEq, showV, if_pos h1]
  ·intro h1
   simp at h1
   have hk : v.k = 1 := by
    apply Classical.byContradiction
    intro h
    exact ht ⟨h1, h⟩
   have hb : -1000 ≤ v.n ∧ v.n ≤ 1000 := by simp [validV, hk] at h1; omega
   repeat' first|(apply Sp.go;·constructor<;>first|exact ss|(change _=_;first|(simp only[go_sem,Nat.reduceBEq,Nat.reduceAdd,Nat.reduceLeDiff,reduceIte]<;>rfl)|rfl)|exact Nat.le_of_ble_eq_true rfl|decide|(repeat' first|(apply Lk.go;constructor)|assumption|exact nb ‹_› ‹_›|exact nt ‹_› ‹_›))|(intro b hb;repeat first|(refine fe hb ?_;intro _ _ hb)|(refine fT hb ?_;intro hb))|refine rt ?_|refine gA rfl ?_|refine gB rfl ?_|apply cT rfl|apply cF rfl|(apply DM.gbT;rfl)|(apply DM.gbF;rfl)|intro h
   (apply AM.cond; (· rfl))
   ·intro _
    repeat' first|(apply Sp.go;·constructor<;>first|exact ss|(change _=_;first|(simp only[go_sem,Nat.reduceBEq,Nat.reduceAdd,Nat.reduceLeDiff,reduceIte]<;>rfl)|rfl)|exact Nat.le_of_ble_eq_true rfl|decide|(repeat' first|(apply Lk.go;constructor)|assumption|exact nb ‹_› ‹_›|exact nt ‹_› ‹_›))|(intro b hb;repeat first|(refine fe hb ?_;intro _ _ hb)|(refine fT hb ?_;intro hb))|refine rt ?_|refine gA rfl ?_|refine gB rfl ?_|apply cT rfl|apply cF rfl|(apply DM.gbT;rfl)|(apply DM.gbF;rfl)|intro h
    (apply DM.pcs (p46 v.n hb.1 hb.2); (· simp only [go_sem, Nat.reduceBEq, Nat.reduceAdd] <;> rfl); (· exact AVLes.refl _))
    repeat' first|(apply Sp.go;·constructor<;>first|exact ss|(change _=_;first|(simp only[go_sem,Nat.reduceBEq,Nat.reduceAdd,Nat.reduceLeDiff,reduceIte]<;>rfl)|rfl)|exact Nat.le_of_ble_eq_true rfl|decide|(repeat' first|(apply Lk.go;constructor)|assumption|exact nb ‹_› ‹_›|exact nt ‹_› ‹_›))|(intro b hb;repeat first|(refine fe hb ?_;intro _ _ hb)|(refine fT hb ?_;intro hb))|refine rt ?_|refine gA rfl ?_|refine gB rfl ?_|apply cT rfl|apply cF rfl|(apply DM.gbT;rfl)|(apply DM.gbF;rfl)|intro h
    (apply Sr.go;·constructor<;>first|(apply Lk.go;constructor<;>first|exact ss|(change _=_;first|(simp only[go_sem,Nat.reduceBEq,Nat.reduceAdd,Nat.reduceLeDiff,reduceIte]<;>rfl)|rfl)|exact Nat.le_of_ble_eq_true rfl|decide|(repeat' first|(apply Lk.go;constructor)|assumption|exact nb ‹_› ‹_›|exact nt ‹_› ‹_›))|assumption)
    refine avle_eq ?_; rw [AV.str.injEq, showV, if_neg (by rw [h1]; simp), if_pos hk]
   ·intro h2
    exfalso
    simp at h2
    exact h2 hk
theorem showV_len (v : Val) : (showV v).length ≤ 1002 := by
 unfold showV
 split
 ·simp
 ·rename_i h
  have hv : validV v = true := by simpa using h
  split
  ·rename_i hk
   have : -1000 ≤ v.n ∧ v.n ≤ 1000 := by simp [validV, hk] at hv; omega
   exact itoa_len this.1 this.2
  ·rename_i hk
   have hl : v.s.length ≤ 40 := by simp [validV, hk] at hv; omega
   have := showT_len v.s
   omega
end Go.Aw.T
namespace Go.Aw.T
open Go Go.Aw Go.Proofs Go.RowKit
set_option maxRecDepth 100000
attribute [local irreducible] Go.Aw.DM Go.Aw.AHeap.setB Go.Aw.AHeap.setT
attribute [local go_sem] peval EOpd.ev Env.get binInt binStr binBool buildParts AV.cells AV.okc setRange minmaxAV AV.one AV.ofCells eqCells eqCell bslRows cond_true cond_false beq_self_eq_true Bool.not_true Bool.not_false beq_true beq_false eq_self if_true Option.some.injEq List.length_cons List.length_nil List.take_succ_cons List.take_zero List.drop_succ_cons List.drop_zero List.set_cons_succ List.set_cons_zero List.nil_append List.cons_append List.append_nil and_self Option.map_some List.map_cons List.map_nil Bool.false_eq_true if_false Nat.zero_add Nat.add_zero true_and and_true Bool.and_true Bool.true_and List.getElem?_cons_zero List.getElem?_cons_succ Nat.zero_le Nat.le_refl
set_option linter.unusedSimpArgs false
set_option linter.unusedVariables false
open Go.Lib in
set_option maxHeartbeats 2000000 in
theorem w118 (s : List UInt8) (hs : s.length ≤ 1000000) (w : World) : Calls Tryz.prog 118 #[.string ⟨⟨s⟩⟩, .string ⟨⟨[32]⟩⟩] w fun e w' => e = .returned (.int .i64 (Lib.indexByte s 32)) ∧ w' = w := by
 have sz : (⟨⟨[32]⟩⟩ : ByteArray).size = 1 := rfl
 by_cases h : s = [32]
 ·subst h
  go_enter Tryz.func118, Tryz.ntmps118
  go_wp2_with (go_at_fn 137; refine (Tryz.IndexByte _ _ _).mono ?_; rintro e w' ⟨rfl, rfl⟩)
  go_ret
  exact ⟨rfl, rfl⟩
 ·have hne : ([32] == s) = false := by
   simp only [beq_eq_false_iff_ne, ne_eq]
   exact fun e => h e.symm
  go_enter Tryz.func118, Tryz.ntmps118
  go_wp2_with (go_at_fn 137; refine (Tryz.IndexByte _ _ _).mono ?_; rintro e w' ⟨rfl, rfl⟩)
  refine (Tryz.IndexByte _ _ _).mono ?_
  rintro e w' ⟨rfl, rfl⟩
  go_wp2
  go_ret
  exact ⟨rfl, rfl⟩
def idxB (s : List UInt8) : Int := Lib.indexByte s 32
theorem idxB_le (s : List UInt8) : -1 ≤ idxB s ∧ idxB s ≤ s.length - 1 ∨ idxB s = -1 := by
 unfold idxB
 induction s with
 | nil => exact .inr rfl
 | cons c l ih =>
  unfold Lib.indexByte
  have := Lib.indexByte_ge l 32
  split
  ·left; simp
  ·split
   ·exact .inr rfl
   ·left; simp only [List.length_cons]; omega
theorem p118 (s : List UInt8) (hs : s.length ≤ 1000000) : Pure Tryz.prog 118 [.str s, .str [32]] (.int .i64 (idxB s)) := by
 refine pure_of_plain fun m vs hG hv => ?_
 simp only [RvL, Rv] at hv
 obtain ⟨_, _, rfl, ⟨rfl, _⟩, _, _, rfl, ⟨rfl, _⟩, rfl⟩ := hv
 refine (w118 s hs m.w).mono ?_
 rintro e w' ⟨rfl, rfl⟩
 exact ⟨_, rfl, fun m' => by simp only [Rv]; rfl, Below.refl _ _⟩
def cutB (s : List UInt8) : List UInt8 × List UInt8 × Bool := if 0 ≤ idxB s then (s.take (idxB s).toNat, s.drop ((idxB s).toNat + 1), true) else (s, [], false)
theorem p90 (s : List UInt8) (hs : s.length ≤ 1000000) : Pure Tryz.prog 90 [.str s, .str [32]] (.tup [.str (cutB s).1, .str (cutB s).2.1, .bool (cutB s).2.2]) := by
 have hb := idxB_le s
 have key : ∀ {a b : List UInt8} {c : Bool}, cutB s = (a, b, c) → AVLe (.tup [.str a, .str b, .bool c]) (.tup [.str (cutB s).1, .str (cutB s).2.1, .bool (cutB s).2.2]) := by
  intro a b c h
  rw [h]
  exact AVLe.refl _
 refine pure_intro mo Tryz.func90 c90 fun H => ?_
 unfold e90 r90
 simp only [initEnv, initFrom]
 repeat' first|(apply Sp.go;·constructor<;>first|exact ss|(change _=_;first|(simp only[go_sem,Nat.reduceBEq,Nat.reduceAdd,Nat.reduceLeDiff,reduceIte]<;>rfl)|rfl)|exact Nat.le_of_ble_eq_true rfl|decide|(repeat' first|(apply Lk.go;constructor)|assumption|exact nb ‹_› ‹_›|exact nt ‹_› ‹_›))|(intro b hb;repeat first|(refine fe hb ?_;intro _ _ hb)|(refine fT hb ?_;intro hb))|refine rt ?_|refine gA rfl ?_|refine gB rfl ?_|apply cT rfl|apply cF rfl|(apply DM.gbT;rfl)|(apply DM.gbF;rfl)|intro h
 (apply DM.pcs (p118 s hs); (· simp only [go_sem, Nat.reduceBEq, Nat.reduceAdd] <;> rfl); (· exact AVLes.refl _))
 repeat' first|(apply Sp.go;·constructor<;>first|exact ss|(change _=_;first|(simp only[go_sem,Nat.reduceBEq,Nat.reduceAdd,Nat.reduceLeDiff,reduceIte]<;>rfl)|rfl)|exact Nat.le_of_ble_eq_true rfl|decide|(repeat' first|(apply Lk.go;constructor)|assumption|exact nb ‹_› ‹_›|exact nt ‹_› ‹_›))|(intro b hb;repeat first|(refine fe hb ?_;intro _ _ hb)|(refine fT hb ?_;intro hb))|refine rt ?_|refine gA rfl ?_|refine gB rfl ?_|apply cT rfl|apply cF rfl|(apply DM.gbT;rfl)|(apply DM.gbF;rfl)|intro h
 (apply AM.cond; (· rfl))
 ·intro h
  have h0 : 0 ≤ idxB s := by simpa using h
  obtain ⟨k, hk⟩ : ∃ k : Nat, idxB s = k := ⟨(idxB s).toNat, by omega⟩
  have hkl : k + 1 ≤ s.length := by omega
  have ha : IntKind.i64.wrap ((k : Int) + 1) = ((k + 1 : Nat) : Int) := by rw [wrap64 (by omega) (by omega)]; omega
  rw [hk]
  repeat' first|(apply Sp.go;·constructor<;>first|exact ss|(change _=_;first|(simp only[go_sem,Nat.reduceBEq,Nat.reduceAdd,Nat.reduceLeDiff,reduceIte]<;>rfl)|rfl)|exact Nat.le_of_ble_eq_true rfl|decide|(repeat' first|(apply Lk.go;constructor)|assumption|exact nb ‹_› ‹_›|exact nt ‹_› ‹_›))|(intro b hb;repeat first|(refine fe hb ?_;intro _ _ hb)|(refine fT hb ?_;intro hb))|refine rt ?_|refine gA rfl ?_|refine gB rfl ?_|apply cT rfl|apply cF rfl|(apply DM.gbT;rfl)|(apply DM.gbF;rfl)|intro h
  apply DM.slSs (p := 0) (q := k)
  ·simp only [go_sem, Nat.reduceBEq] <;> rfl
  ·rfl
  ·simp only [optNat, go_sem, Nat.reduceBEq] <;> rfl
  ·omega
  ·omega
  ·exact (List.drop_zero)
  repeat' first|(apply Sp.go;·constructor<;>first|exact ss|(change _=_;first|(simp only[go_sem,Nat.reduceBEq,Nat.reduceAdd,Nat.reduceLeDiff,reduceIte]<;>rfl)|rfl)|exact Nat.le_of_ble_eq_true rfl|decide|(repeat' first|(apply Lk.go;constructor)|assumption|exact nb ‹_› ‹_›|exact nt ‹_› ‹_›))|(intro b hb;repeat first|(refine fe hb ?_;intro _ _ hb)|(refine fT hb ?_;intro hb))|refine rt ?_|refine gA rfl ?_|refine gB rfl ?_|apply cT rfl|apply cF rfl|(apply DM.gbT;rfl)|(apply DM.gbF;rfl)|intro h
  apply DM.slSs (p := k + 1) (q := s.length)
  ·simp only [go_sem, Nat.reduceBEq] <;> rfl
  ·simp only [optNat, go_sem, Nat.reduceBEq, List.length_cons, List.length_nil]
   rw [show ((0 + 1 : Nat) : Int) = 1 from rfl, ha]
  ·rfl
  ·omega
  ·omega
  ·rw [List.take_length]
  repeat' first|(apply Sp.go;·constructor<;>first|exact ss|(change _=_;first|(simp only[go_sem,Nat.reduceBEq,Nat.reduceAdd,Nat.reduceLeDiff,reduceIte]<;>rfl)|rfl)|exact Nat.le_of_ble_eq_true rfl|decide|(repeat' first|(apply Lk.go;constructor)|assumption|exact nb ‹_› ‹_›|exact nt ‹_› ‹_›))|(intro b hb;repeat first|(refine fe hb ?_;intro _ _ hb)|(refine fT hb ?_;intro hb))|refine rt ?_|refine gA rfl ?_|refine gB rfl ?_|apply cT rfl|apply cF rfl|(apply DM.gbT;rfl)|(apply DM.gbF;rfl)|intro h
  (apply Sr.go;·constructor<;>first|(apply Lk.go;constructor<;>first|exact ss|(change _=_;first|(simp only[go_sem,Nat.reduceBEq,Nat.reduceAdd,Nat.reduceLeDiff,reduceIte]<;>rfl)|rfl)|exact Nat.le_of_ble_eq_true rfl|decide|(repeat' first|(apply Lk.go;constructor)|assumption|exact nb ‹_› ‹_›|exact nt ‹_› ‹_›))|assumption)
  exact key (by unfold cutB; rw [if_pos h0, hk]; rfl)
 ·intro h
  have h0 : ¬ 0 ≤ idxB s := by simp at h; omega
  repeat' first|(apply Sp.go;·constructor<;>first|exact ss|(change _=_;first|(simp only[go_sem,Nat.reduceBEq,Nat.reduceAdd,Nat.reduceLeDiff,reduceIte]<;>rfl)|rfl)|exact Nat.le_of_ble_eq_true rfl|decide|(repeat' first|(apply Lk.go;constructor)|assumption|exact nb ‹_› ‹_›|exact nt ‹_› ‹_›))|(intro b hb;repeat first|(refine fe hb ?_;intro _ _ hb)|(refine fT hb ?_;intro hb))|refine rt ?_|refine gA rfl ?_|refine gB rfl ?_|apply cT rfl|apply cF rfl|(apply DM.gbT;rfl)|(apply DM.gbF;rfl)|intro h
  (apply Sr.go;·constructor<;>first|(apply Lk.go;constructor<;>first|exact ss|(change _=_;first|(simp only[go_sem,Nat.reduceBEq,Nat.reduceAdd,Nat.reduceLeDiff,reduceIte]<;>rfl)|rfl)|exact Nat.le_of_ble_eq_true rfl|decide|(repeat' first|(apply Lk.go;constructor)|assumption|exact nb ‹_› ‹_›|exact nt ‹_› ‹_›))|assumption)
  exact key (by unfold cutB; rw [if_neg h0])
theorem p47 (s : List UInt8) (hs : s.length ≤ 1000000) : Pure Tryz.prog 47 [.str s, .str [32]] (.tup [.str (cutB s).1, .str (cutB s).2.1, .bool (cutB s).2.2]) := by
 refine pure_intro mo Tryz.func47 c47 fun H => ?_
 unfold e47 r47
 simp only [initEnv, initFrom]
 repeat' first|(apply Sp.go;·constructor<;>first|exact ss|(change _=_;first|(simp only[go_sem,Nat.reduceBEq,Nat.reduceAdd,Nat.reduceLeDiff,reduceIte]<;>rfl)|rfl)|exact Nat.le_of_ble_eq_true rfl|decide|(repeat' first|(apply Lk.go;constructor)|assumption|exact nb ‹_› ‹_›|exact nt ‹_› ‹_›))|(intro b hb;repeat first|(refine fe hb ?_;intro _ _ hb)|(refine fT hb ?_;intro hb))|refine rt ?_|refine gA rfl ?_|refine gB rfl ?_|apply cT rfl|apply cF rfl|(apply DM.gbT;rfl)|(apply DM.gbF;rfl)|intro h
 (apply DM.pcs (p90 s hs); (· simp only [go_sem, Nat.reduceBEq, Nat.reduceAdd] <;> rfl); (· exact AVLes.refl _))
 repeat' first|(apply Sp.go;·constructor<;>first|exact ss|(change _=_;first|(simp only[go_sem,Nat.reduceBEq,Nat.reduceAdd,Nat.reduceLeDiff,reduceIte]<;>rfl)|rfl)|exact Nat.le_of_ble_eq_true rfl|decide|(repeat' first|(apply Lk.go;constructor)|assumption|exact nb ‹_› ‹_›|exact nt ‹_› ‹_›))|(intro b hb;repeat first|(refine fe hb ?_;intro _ _ hb)|(refine fT hb ?_;intro hb))|refine rt ?_|refine gA rfl ?_|refine gB rfl ?_|apply cT rfl|apply cF rfl|(apply DM.gbT;rfl)|(apply DM.gbF;rfl)|intro h
 (apply Sr.go;·constructor<;>first|(apply Lk.go;constructor<;>first|exact ss|(change _=_;first|(simp only[go_sem,Nat.reduceBEq,Nat.reduceAdd,Nat.reduceLeDiff,reduceIte]<;>rfl)|rfl)|exact Nat.le_of_ble_eq_true rfl|decide|(repeat' first|(apply Lk.go;constructor)|assumption|exact nb ‹_› ‹_›|exact nt ‹_› ‹_›))|assumption)
 exact AVLe.refl _
theorem idxB_app {a b : List UInt8} (h : (32 : UInt8) ∉ a) : idxB (a ++ 32 :: b) = a.length := by
 unfold idxB
 induction a with
 | nil => rfl
 | cons c l ih =>
  simp only [List.mem_cons, not_or] at h
  have := ih h.2
  simp only [List.cons_append, Lib.indexByte]
  rw [this]
  have hc : (c == 32) = false := by simpa using Ne.symm h.1
  rw [hc]
  simp
  try omega
theorem idxB_none {a : List UInt8} (h : (32 : UInt8) ∉ a) : idxB a = -1 := by
 unfold idxB
 induction a with
 | nil => rfl
 | cons c l ih =>
  simp only [List.mem_cons, not_or] at h
  have hc : (c == 32) = false := by simpa using Ne.symm h.1
  simp [Lib.indexByte, hc, ih h.2]
theorem cutB_app {a b : List UInt8} (h : (32 : UInt8) ∉ a) : cutB (a ++ 32 :: b) = (a, b, true) := by
 unfold cutB
 rw [idxB_app h, if_pos (by omega)]
 simp
theorem cutB_none {a : List UInt8} (h : (32 : UInt8) ∉ a) : cutB a = (a, [], false) := by
 unfold cutB
 rw [idxB_none h, if_neg (by omega)]
end Go.Aw.T
namespace Go.Aw.T
open Go Go.Aw Go.Proofs Go.RowKit
set_option maxRecDepth 100000
attribute [local irreducible] Go.Aw.DM Go.Aw.AHeap.setB Go.Aw.AHeap.setT
attribute [local go_sem] peval EOpd.ev Env.get binInt binStr binBool buildParts AV.cells AV.okc setRange minmaxAV AV.one AV.ofCells eqCells eqCell bslRows cond_true cond_false beq_self_eq_true Bool.not_true Bool.not_false beq_true beq_false eq_self if_true Option.some.injEq List.length_cons List.length_nil List.take_succ_cons List.take_zero List.drop_succ_cons List.drop_zero List.set_cons_succ List.set_cons_zero List.nil_append List.cons_append List.append_nil and_self Option.map_some List.map_cons List.map_nil Bool.false_eq_true if_false Nat.zero_add Nat.add_zero true_and and_true Bool.and_true Bool.true_and List.getElem?_cons_zero List.getElem?_cons_succ Nat.zero_le Nat.le_refl
set_option linter.unusedSimpArgs false
set_option linter.unusedVariables false
theorem DM.idxA1 {P : Program} {d len : Nat} {l : List EI} {env : Env} {H : AHeap} {K : Env → AHeap → Prop} {Rp : AV → AHeap → Prop} {x i : EOpd} {cs : List AV} {k : IntKind} {z : Int} {v : AV} (h0 : 0 ≤ z) (h1 : z < (len : Int)) (hv : cs[z.toNat]? = some v) (hx : x.ev env = .agg cs) (hi : i.ev env = .int k z) (h : DM P l ((d, v) :: env) H K Rp) : DM P (⟨some d, none, .idxA false len 1 x i⟩ :: l) env H K Rp := by
 obtain ⟨hl, e⟩ := List.getElem?_eq_some_iff.1 hv
 refine DM.de (.det v) rfl (.idxA hx hi h0 h1 (by omega) ?_) fun _ _ => h
 rw [Nat.mul_one, List.drop_eq_getElem_cons hl, e]
 rfl
def opNames : List (List UInt8) := [[], [105, 110, 116], [116, 101, 120, 116], [108, 111, 97, 100], [112, 97, 114, 97, 109], [115, 116, 111, 114, 101], [97, 100, 100], [115, 117, 98], [109, 117, 108], [100, 105, 118], [114, 101, 109], [110, 101, 103], [101, 113, 117, 97, 108], [108, 101, 115, 115], [110, 111, 116], [97, 110, 100], [111, 114], [106, 111, 105, 110], [108, 101, 110], [106, 117, 109, 112], [122, 101, 114, 111], [98, 101, 103, 105, 110], [97, 103, 97, 105, 110], [100, 111, 110, 101], [115, 116, 111, 112]]
def opName (op : Int) : List UInt8 := opNames.getD op.toNat []
theorem opName_get {op : Int} (h : inB op 1 24 = true) : opNames[op.toNat]? = some (opName op) := by
 have : op.toNat < 25 := by simp [inB] at h; omega
 unfold opName
 rw [List.getD_eq_getElem?_getD, List.getElem?_eq_getElem (show op.toNat < opNames.length from this)]
 rfl
theorem p43 : Pure Tryz.prog 43 [] (.agg (opNames.map .str)) := by
 refine pure_intro mo Tryz.func43 c43 fun H => ?_
 unfold e43 r43
 simp only [initEnv, initFrom]
 refine AM.seq ?_
 refine Sp.go .rg ?_
 refine Sp.go (.al (by decide)) ?_
 intro b hb
 refine Sp.go .nl ?_
 refine AM.seq ?_
 refine Sp.go .rg ?_
 refine DM.p (v := .agg (opNames.map .str)) (by kernel_rfl) ?_
 refine Sp.go (.sE (new := opNames.map .str) (o := 0) rfl g_same rfl rfl (by decide) (by decide) rfl rfl) ?_
 refine Sp.go .nl ?_
 (apply Sr.go;·constructor<;>first|(apply Lk.go;constructor<;>first|exact ss|(change _=_;first|(simp only[go_sem,Nat.reduceBEq,Nat.reduceAdd,Nat.reduceLeDiff,reduceIte]<;>rfl)|rfl)|exact Nat.le_of_ble_eq_true rfl|decide|(repeat' first|(apply Lk.go;constructor)|assumption|exact nb ‹_› ‹_›|exact nt ‹_› ‹_›))|assumption)
 exact AVLe.refl _
theorem formed_op {x : Ins_} (h : formed x = true) : inB x.op 1 24 = true := by
 unfold formed at h
 split at h
 ·rename_i e; simp [inB, e]
 ·split at h
  ·rename_i e
   unfold numd at e
   repeat' split at e
   all_goals first
    | (simp [inB] at *; omega)
    | (simp at e; done)
  ·simp only [Bool.and_eq_true] at h; exact h.1.1
def showI (x : Ins_) : List UInt8 :=
 if formed x = false then [63] else if x.op = 2 then opName x.op ++ [32] ++ showV ⟨2, 0, x.s⟩ else if (numd x.op).2.2 = true then opName x.op ++ [32] ++ Lib.itoa x.n else opName x.op
theorem opName_len (op : Int) : (opName op).length ≤ 5 := by
 unfold opName
 rw [List.getD_eq_getElem?_getD]
 cases h : opNames[op.toNat]? with
 | none => simp
 | some n =>
  have := List.mem_of_getElem? h
  have h2 : opNames.all (fun n => decide (n.length ≤ 5)) = true := by decide
  simpa using List.all_eq_true.1 h2 n this
theorem numd_range (op : Int) : -1000 ≤ (numd op).1 ∧ (numd op).2.1 ≤ 1000 := by
 unfold numd
 repeat' split
 all_goals simp
theorem num_range {x : Ins_} (h : formed x = true) (h2 : ¬ x.op = 2) (h3 : (numd x.op).2.2 = true) : -1000 ≤ x.n ∧ x.n ≤ 1000 := by
 have hr := numd_range x.op
 unfold formed at h
 rw [if_neg h2, if_pos h3] at h
 simp only [Bool.and_eq_true, inB, decide_eq_true_eq] at h
 omega
theorem p16 (x : Ins_) : Pure Tryz.prog 16 [x.av] (.str (showI x)) := by
 obtain ⟨Z, hZ⟩ : ∃ Z, showI x = Z := ⟨_, rfl⟩
 rw [hZ]
 unfold showI at hZ
 refine pure_intro mo Tryz.func16 c16 fun H => ?_
 unfold e16 r16
 simp only [initEnv, initFrom]
 repeat' first|(apply Sp.go;·constructor<;>first|exact ss|(change _=_;first|(simp only[go_sem,Nat.reduceBEq,Nat.reduceAdd,Nat.reduceLeDiff,reduceIte]<;>rfl)|rfl)|exact Nat.le_of_ble_eq_true rfl|decide|(repeat' first|(apply Lk.go;constructor)|assumption|exact nb ‹_› ‹_›|exact nt ‹_› ‹_›))|(intro b hb;repeat first|(refine fe hb ?_;intro _ _ hb)|(refine fT hb ?_;intro hb))|refine rt ?_|refine gA rfl ?_|refine gB rfl ?_|apply cT rfl|apply cF rfl|(apply DM.gbT;rfl)|(apply DM.gbF;rfl)|intro h
 (apply DM.pcs (p33 x); (· simp only [go_sem, Nat.reduceBEq, Nat.reduceAdd] <;> rfl); (· exact AVLes.refl _))
 repeat' first|(apply Sp.go;·constructor<;>first|exact ss|(change _=_;first|(simp only[go_sem,Nat.reduceBEq,Nat.reduceAdd,Nat.reduceLeDiff,reduceIte]<;>rfl)|rfl)|exact Nat.le_of_ble_eq_true rfl|decide|(repeat' first|(apply Lk.go;constructor)|assumption|exact nb ‹_› ‹_›|exact nt ‹_› ‹_›))|(intro b hb;repeat first|(refine fe hb ?_;intro _ _ hb)|(refine fT hb ?_;intro hb))|refine rt ?_|refine gA rfl ?_|refine gB rfl ?_|apply cT rfl|apply cF rfl|(apply DM.gbT;rfl)|(apply DM.gbF;rfl)|intro h
 (apply AM.cond; (· rfl))
 ·intro h1
  simp at h1
  rw [if_pos h1] at hZ
  repeat' first|(apply Sp.go;·constructor<;>first|exact ss|(change _=_;first|(simp only[go_sem,Nat.reduceBEq,Nat.reduceAdd,Nat.reduceLeDiff,reduceIte]<;>rfl)|rfl)|exact Nat.le_of_ble_eq_true rfl|decide|(repeat' first|(apply Lk.go;constructor)|assumption|exact nb ‹_› ‹_›|exact nt ‹_› ‹_›))|(intro b hb;repeat first|(refine fe hb ?_;intro _ _ hb)|(refine fT hb ?_;intro hb))|refine rt ?_|refine gA rfl ?_|refine gB rfl ?_|apply cT rfl|apply cF rfl|(apply DM.gbT;rfl)|(apply DM.gbF;rfl)|intro h
  (apply Sr.go;·constructor<;>first|(apply Lk.go;constructor<;>first|exact ss|(change _=_;first|(simp only[go_sem,Nat.reduceBEq,Nat.reduceAdd,Nat.reduceLeDiff,reduceIte]<;>rfl)|rfl)|exact Nat.le_of_ble_eq_true rfl|decide|(repeat' first|(apply Lk.go;constructor)|assumption|exact nb ‹_› ‹_›|exact nt ‹_› ‹_›))|assumption)
  refine avle_eq ?_; rw [hZ]
 ·intro h1
  have hf : formed x = true := by simpa using h1
  rw [if_neg (by rw [hf]; simp)] at hZ
  have ho := formed_op hf
  have hl := opName_len x.op
  repeat' first|(apply Sp.go;·constructor<;>first|exact ss|(change _=_;first|(simp only[go_sem,Nat.reduceBEq,Nat.reduceAdd,Nat.reduceLeDiff,reduceIte]<;>rfl)|rfl)|exact Nat.le_of_ble_eq_true rfl|decide|(repeat' first|(apply Lk.go;constructor)|assumption|exact nb ‹_› ‹_›|exact nt ‹_› ‹_›))|(intro b hb;repeat first|(refine fe hb ?_;intro _ _ hb)|(refine fT hb ?_;intro hb))|refine gA rfl ?_|refine gB rfl ?_|apply cT rfl|apply cF rfl|(apply DM.gbT;rfl)|(apply DM.gbF;rfl)|intro h
  (refine AM.reg [.agg (opNames.map .str)] ?_; simp only [annotate, AV.rows])
  repeat' first|(apply Sp.go;·constructor<;>first|exact ss|(change _=_;first|(simp only[go_sem,Nat.reduceBEq,Nat.reduceAdd,Nat.reduceLeDiff,reduceIte]<;>rfl)|rfl)|exact Nat.le_of_ble_eq_true rfl|decide|(repeat' first|(apply Lk.go;constructor)|assumption|exact nb ‹_› ‹_›|exact nt ‹_› ‹_›))|(intro b hb;repeat first|(refine fe hb ?_;intro _ _ hb)|(refine fT hb ?_;intro hb))|refine rt ?_|refine gA rfl ?_|refine gB rfl ?_|apply cT rfl|apply cF rfl|(apply DM.gbT;rfl)|(apply DM.gbF;rfl)|intro h
  (apply DM.pcRs (p43); (· simp only [go_sem, Nat.reduceBEq, Nat.reduceAdd] <;> rfl); (· exact AVLes.refl _))
  repeat' first|(apply Sp.go;·constructor<;>first|exact ss|(change _=_;first|(simp only[go_sem,Nat.reduceBEq,Nat.reduceAdd,Nat.reduceLeDiff,reduceIte]<;>rfl)|rfl)|exact Nat.le_of_ble_eq_true rfl|decide|(repeat' first|(apply Lk.go;constructor)|assumption|exact nb ‹_› ‹_›|exact nt ‹_› ‹_›))|(intro b hb;repeat first|(refine fe hb ?_;intro _ _ hb)|(refine fT hb ?_;intro hb))|refine rt ?_|refine gA rfl ?_|refine gB rfl ?_|apply cT rfl|apply cF rfl|(apply DM.gbT;rfl)|(apply DM.gbF;rfl)|intro h
  (apply DM.idxA1 (z := x.op) (v := .str (opName x.op)) (by simp [inB] at ho; omega) (by simp [inB] at ho; omega) (by rw [List.getElem?_map, opName_get ho]; rfl); (· rfl); (· rfl))
  repeat' first|(apply Sp.go;·constructor<;>first|exact ss|(change _=_;first|(simp only[go_sem,Nat.reduceBEq,Nat.reduceAdd,Nat.reduceLeDiff,reduceIte]<;>rfl)|rfl)|exact Nat.le_of_ble_eq_true rfl|decide|(repeat' first|(apply Lk.go;constructor)|assumption|exact nb ‹_› ‹_›|exact nt ‹_› ‹_›))|(intro b hb;repeat first|(refine fe hb ?_;intro _ _ hb)|(refine fT hb ?_;intro hb))|refine rt ?_|refine gA rfl ?_|refine gB rfl ?_|apply cT rfl|apply cF rfl|(apply DM.gbT;rfl)|(apply DM.gbF;rfl)|intro h
  (apply AM.cond; (· rfl))
  ·intro h2
   have h2' : x.op = 2 := by simpa using h2
   rw [if_pos h2'] at hZ
   have hv := showV_len ⟨2, 0, x.s⟩
   repeat' first|(apply Sp.go;·constructor<;>first|exact ss|(change _=_;first|(simp only[go_sem,Nat.reduceBEq,Nat.reduceAdd,Nat.reduceLeDiff,reduceIte]<;>rfl)|rfl)|exact Nat.le_of_ble_eq_true rfl|decide|(repeat' first|(apply Lk.go;constructor)|assumption|exact nb ‹_› ‹_›|exact nt ‹_› ‹_›))|(intro b hb;repeat first|(refine fe hb ?_;intro _ _ hb)|(refine fT hb ?_;intro hb))|refine rt ?_|refine gA rfl ?_|refine gB rfl ?_|apply cT rfl|apply cF rfl|(apply DM.gbT;rfl)|(apply DM.gbF;rfl)|intro h
   (apply DM.catS; (· rfl); (· rfl); (· (simp only [List.length_cons, List.length_nil]; unfold maxLen; omega)))
   repeat' first|(apply Sp.go;·constructor<;>first|exact ss|(change _=_;first|(simp only[go_sem,Nat.reduceBEq,Nat.reduceAdd,Nat.reduceLeDiff,reduceIte]<;>rfl)|rfl)|exact Nat.le_of_ble_eq_true rfl|decide|(repeat' first|(apply Lk.go;constructor)|assumption|exact nb ‹_› ‹_›|exact nt ‹_› ‹_›))|(intro b hb;repeat first|(refine fe hb ?_;intro _ _ hb)|(refine fT hb ?_;intro hb))|refine rt ?_|refine gA rfl ?_|refine gB rfl ?_|apply cT rfl|apply cF rfl|(apply DM.gbT;rfl)|(apply DM.gbF;rfl)|intro h
   (apply DM.pcs (p44 ⟨2, 0, x.s⟩); (· simp only [go_sem, Nat.reduceBEq, Nat.reduceAdd] <;> rfl); (· exact AVLes.refl _))
   repeat' first|(apply Sp.go;·constructor<;>first|exact ss|(change _=_;first|(simp only[go_sem,Nat.reduceBEq,Nat.reduceAdd,Nat.reduceLeDiff,reduceIte]<;>rfl)|rfl)|exact Nat.le_of_ble_eq_true rfl|decide|(repeat' first|(apply Lk.go;constructor)|assumption|exact nb ‹_› ‹_›|exact nt ‹_› ‹_›))|(intro b hb;repeat first|(refine fe hb ?_;intro _ _ hb)|(refine fT hb ?_;intro hb))|refine rt ?_|refine gA rfl ?_|refine gB rfl ?_|apply cT rfl|apply cF rfl|(apply DM.gbT;rfl)|(apply DM.gbF;rfl)|intro h
   (apply DM.catS; (· rfl); (· rfl); (· (simp only [List.length_append, List.length_cons, List.length_nil]; unfold maxLen; omega)))
   repeat' first|(apply Sp.go;·constructor<;>first|exact ss|(change _=_;first|(simp only[go_sem,Nat.reduceBEq,Nat.reduceAdd,Nat.reduceLeDiff,reduceIte]<;>rfl)|rfl)|exact Nat.le_of_ble_eq_true rfl|decide|(repeat' first|(apply Lk.go;constructor)|assumption|exact nb ‹_› ‹_›|exact nt ‹_› ‹_›))|(intro b hb;repeat first|(refine fe hb ?_;intro _ _ hb)|(refine fT hb ?_;intro hb))|refine rt ?_|refine gA rfl ?_|refine gB rfl ?_|apply cT rfl|apply cF rfl|(apply DM.gbT;rfl)|(apply DM.gbF;rfl)|intro h
   (apply Sr.go;·constructor<;>first|(apply Lk.go;constructor<;>first|exact ss|(change _=_;first|(simp only[go_sem,Nat.reduceBEq,Nat.reduceAdd,Nat.reduceLeDiff,reduceIte]<;>rfl)|rfl)|exact Nat.le_of_ble_eq_true rfl|decide|(repeat' first|(apply Lk.go;constructor)|assumption|exact nb ‹_› ‹_›|exact nt ‹_› ‹_›))|assumption)
   refine avle_eq ?_; rw [← hZ]
  ·intro h2
   have h2' : ¬ x.op = 2 := by simpa using h2
   rw [if_neg h2'] at hZ
   repeat' first|(apply Sp.go;·constructor<;>first|exact ss|(change _=_;first|(simp only[go_sem,Nat.reduceBEq,Nat.reduceAdd,Nat.reduceLeDiff,reduceIte]<;>rfl)|rfl)|exact Nat.le_of_ble_eq_true rfl|decide|(repeat' first|(apply Lk.go;constructor)|assumption|exact nb ‹_› ‹_›|exact nt ‹_› ‹_›))|(intro b hb;repeat first|(refine fe hb ?_;intro _ _ hb)|(refine fT hb ?_;intro hb))|refine rt ?_|refine gA rfl ?_|refine gB rfl ?_|apply cT rfl|apply cF rfl|(apply DM.gbT;rfl)|(apply DM.gbF;rfl)|intro h
   (apply DM.pcs (p45 x.op); (· simp only [go_sem, Nat.reduceBEq, Nat.reduceAdd] <;> rfl); (· exact AVLes.refl _))
   repeat' first|(apply Sp.go;·constructor<;>first|exact ss|(change _=_;first|(simp only[go_sem,Nat.reduceBEq,Nat.reduceAdd,Nat.reduceLeDiff,reduceIte]<;>rfl)|rfl)|exact Nat.le_of_ble_eq_true rfl|decide|(repeat' first|(apply Lk.go;constructor)|assumption|exact nb ‹_› ‹_›|exact nt ‹_› ‹_›))|(intro b hb;repeat first|(refine fe hb ?_;intro _ _ hb)|(refine fT hb ?_;intro hb))|refine rt ?_|refine gA rfl ?_|refine gB rfl ?_|apply cT rfl|apply cF rfl|(apply DM.gbT;rfl)|(apply DM.gbF;rfl)|intro h
   (apply AM.cond; (· rfl))
   ·intro h3
    rw [if_pos h3] at hZ
    have hr := num_range hf h2' h3
    have hv := itoa_len hr.1 hr.2
    repeat' first|(apply Sp.go;·constructor<;>first|exact ss|(change _=_;first|(simp only[go_sem,Nat.reduceBEq,Nat.reduceAdd,Nat.reduceLeDiff,reduceIte]<;>rfl)|rfl)|exact Nat.le_of_ble_eq_true rfl|decide|(repeat' first|(apply Lk.go;constructor)|assumption|exact nb ‹_› ‹_›|exact nt ‹_› ‹_›))|(intro b hb;repeat first|(refine fe hb ?_;intro _ _ hb)|(refine fT hb ?_;intro hb))|refine rt ?_|refine gA rfl ?_|refine gB rfl ?_|apply cT rfl|apply cF rfl|(apply DM.gbT;rfl)|(apply DM.gbF;rfl)|intro h
    (apply DM.catS; (· rfl); (· rfl); (· (simp only [List.length_cons, List.length_nil]; unfold maxLen; omega)))
    repeat' first|(apply Sp.go;·constructor<;>first|exact ss|(change _=_;first|(simp only[go_sem,Nat.reduceBEq,Nat.reduceAdd,Nat.reduceLeDiff,reduceIte]<;>rfl)|rfl)|exact Nat.le_of_ble_eq_true rfl|decide|(repeat' first|(apply Lk.go;constructor)|assumption|exact nb ‹_› ‹_›|exact nt ‹_› ‹_›))|(intro b hb;repeat first|(refine fe hb ?_;intro _ _ hb)|(refine fT hb ?_;intro hb))|refine rt ?_|refine gA rfl ?_|refine gB rfl ?_|apply cT rfl|apply cF rfl|(apply DM.gbT;rfl)|(apply DM.gbF;rfl)|intro h
    (apply DM.pcs (p46 x.n hr.1 hr.2); (· simp only [go_sem, Nat.reduceBEq, Nat.reduceAdd] <;> rfl); (· exact AVLes.refl _))
    repeat' first|(apply Sp.go;·constructor<;>first|exact ss|(change _=_;first|(simp only[go_sem,Nat.reduceBEq,Nat.reduceAdd,Nat.reduceLeDiff,reduceIte]<;>rfl)|rfl)|exact Nat.le_of_ble_eq_true rfl|decide|(repeat' first|(apply Lk.go;constructor)|assumption|exact nb ‹_› ‹_›|exact nt ‹_› ‹_›))|(intro b hb;repeat first|(refine fe hb ?_;intro _ _ hb)|(refine fT hb ?_;intro hb))|refine rt ?_|refine gA rfl ?_|refine gB rfl ?_|apply cT rfl|apply cF rfl|(apply DM.gbT;rfl)|(apply DM.gbF;rfl)|intro h
    (apply DM.catS; (· rfl); (· rfl); (· (simp only [List.length_append, List.length_cons, List.length_nil]; unfold maxLen; omega)))
    repeat' first|(apply Sp.go;·constructor<;>first|exact ss|(change _=_;first|(simp only[go_sem,Nat.reduceBEq,Nat.reduceAdd,Nat.reduceLeDiff,reduceIte]<;>rfl)|rfl)|exact Nat.le_of_ble_eq_true rfl|decide|(repeat' first|(apply Lk.go;constructor)|assumption|exact nb ‹_› ‹_›|exact nt ‹_› ‹_›))|(intro b hb;repeat first|(refine fe hb ?_;intro _ _ hb)|(refine fT hb ?_;intro hb))|refine rt ?_|refine gA rfl ?_|refine gB rfl ?_|apply cT rfl|apply cF rfl|(apply DM.gbT;rfl)|(apply DM.gbF;rfl)|intro h
    (apply Sr.go;·constructor<;>first|(apply Lk.go;constructor<;>first|exact ss|(change _=_;first|(simp only[go_sem,Nat.reduceBEq,Nat.reduceAdd,Nat.reduceLeDiff,reduceIte]<;>rfl)|rfl)|exact Nat.le_of_ble_eq_true rfl|decide|(repeat' first|(apply Lk.go;constructor)|assumption|exact nb ‹_› ‹_›|exact nt ‹_› ‹_›))|assumption)
    refine avle_eq ?_; rw [← hZ]
   ·intro h3
    rw [if_neg (by rw [h3]; simp)] at hZ
    repeat' first|(apply Sp.go;·constructor<;>first|exact ss|(change _=_;first|(simp only[go_sem,Nat.reduceBEq,Nat.reduceAdd,Nat.reduceLeDiff,reduceIte]<;>rfl)|rfl)|exact Nat.le_of_ble_eq_true rfl|decide|(repeat' first|(apply Lk.go;constructor)|assumption|exact nb ‹_› ‹_›|exact nt ‹_› ‹_›))|(intro b hb;repeat first|(refine fe hb ?_;intro _ _ hb)|(refine fT hb ?_;intro hb))|refine rt ?_|refine gA rfl ?_|refine gB rfl ?_|apply cT rfl|apply cF rfl|(apply DM.gbT;rfl)|(apply DM.gbF;rfl)|intro h
    (apply Sr.go;·constructor<;>first|(apply Lk.go;constructor<;>first|exact ss|(change _=_;first|(simp only[go_sem,Nat.reduceBEq,Nat.reduceAdd,Nat.reduceLeDiff,reduceIte]<;>rfl)|rfl)|exact Nat.le_of_ble_eq_true rfl|decide|(repeat' first|(apply Lk.go;constructor)|assumption|exact nb ‹_› ‹_›|exact nt ‹_› ‹_›))|assumption)
    refine avle_eq ?_; rw [← hZ]
theorem DM.slF {P : Program} {d len size : Nat} {l : List EI} {env : Env} {H : AHeap} {K : Env → AHeap → Prop} {Rp : AV → AHeap → Prop} {x : EOpd} {b : Nat} {T : TypeId} {cs : List AV} {rows : List (List AV)} (hf : rows.flatten = cs) (hr : ∀ r ∈ rows, r.length = size) (hl : rows.length = len) (h0 : 0 < len) (hm : len ≤ maxLen) (hx : x.ev env = .ptr b 0) (hb : H.blk b = some (T, cs)) (h : DM P l ((d, .vs size rows) :: env) (H.dropB b) K Rp) : DM P (⟨some d, none, .slA len size x⟩ :: l) env H K Rp := by
 simp only [DM, wanted]
 exact IStep.slAF hx hb hf hr hl h0 hm h
def findN : List (List UInt8) → List UInt8 → Nat → Int
 | [], _, _ => -1
 | a :: l, x, i => if x = a then (i : Int) else findN l x (i + 1)
theorem p48 (l : List (List UInt8)) (nm : List UInt8) : Pure Tryz.prog 48 [.vs 1 (l.map fun s => [.str s]), .str nm] (.int .i64 (findN l nm 0)) := by
 refine pure_assume (G := l.length ≤ maxLen) (fun m vs h => by simp only [RvL] at h; obtain ⟨_, _, _, h, _⟩ := h; simpa using vs_len h) fun hlen => ?_
 refine pure_intro mo Tryz.func48 c48 fun H => ?_
 unfold e48 r48
 simp only [initEnv, initFrom]
 repeat' first|(apply Sp.go;·constructor<;>first|exact ss|(change _=_;first|(simp only[go_sem,Nat.reduceBEq,Nat.reduceAdd,Nat.reduceLeDiff,reduceIte]<;>rfl)|rfl)|exact Nat.le_of_ble_eq_true rfl|decide|(repeat' first|(apply Lk.go;constructor)|assumption|exact nb ‹_› ‹_›|exact nt ‹_› ‹_›))|(intro b hb;repeat first|(refine fe hb ?_;intro _ _ hb)|(refine fT hb ?_;intro hb))|refine rt ?_|refine gA rfl ?_|refine gB rfl ?_|apply cT rfl|apply cF rfl|(apply DM.gbT;rfl)|(apply DM.gbF;rfl)|intro h
 refine AM.loopX (X := Nat) 0 (fun i => [(0, .vs 1 (l.map fun s => [.str s])), (1, .str nm), (7, .int .i64 l.length), (8, .int .i64 i)]) (fun i H' => H' = H ∧ i ≤ l.length ∧ findN l nm 0 = findN (l.drop i) nm i) (fun i => l.length - i) ⟨rfl, by omega, by simp⟩ ?_ ?_
 ·(repeat first | exact envle_nil _ | (refine envle_cons ?_ ?_; · (simp only [go_sem, Nat.reduceBEq, Nat.reduceAdd]; exact AVLe.refl _)))
  refine envle_cons ?_ (envle_cons ?_ (envle_nil _))
  ·simp only [Env.get, Nat.reduceBEq, cond_true, cond_false, beq_self_eq_true]
   exact avle_int (by simp)
  ·simp only [Env.get, Nat.reduceBEq, cond_true, cond_false, beq_self_eq_true]
   exact AVLe.refl _
 ·rintro i H' ⟨rfl, hi, he⟩
  repeat' first|(apply Sp.go;·constructor<;>first|exact ss|(change _=_;first|(simp only[go_sem,Nat.reduceBEq,Nat.reduceAdd,Nat.reduceLeDiff,reduceIte]<;>rfl)|rfl)|exact Nat.le_of_ble_eq_true rfl|decide|(repeat' first|(apply Lk.go;constructor)|assumption|exact nb ‹_› ‹_›|exact nt ‹_› ‹_›))|(intro b hb;repeat first|(refine fe hb ?_;intro _ _ hb)|(refine fT hb ?_;intro hb))|refine rt ?_|refine gA rfl ?_|refine gB rfl ?_|apply cT rfl|apply cF rfl|(apply DM.gbT;rfl)|(apply DM.gbF;rfl)|intro h
  (apply AM.cond; (· rfl))
  ·intro h3
   simp at h3
   obtain ⟨v, hv⟩ := some_of h3
   rw [drop_of hv] at he
   simp only [findN] at he
   repeat' first|(apply Sp.go;·constructor<;>first|exact ss|(change _=_;first|(simp only[go_sem,Nat.reduceBEq,Nat.reduceAdd,Nat.reduceLeDiff,reduceIte]<;>rfl)|rfl)|exact Nat.le_of_ble_eq_true rfl|decide|(repeat' first|(apply Lk.go;constructor)|assumption|exact nb ‹_› ‹_›|exact nt ‹_› ‹_›))|(intro b hb;repeat first|(refine fe hb ?_;intro _ _ hb)|(refine fT hb ?_;intro hb))|refine rt ?_|refine gA rfl ?_|refine gB rfl ?_|apply cT rfl|apply cF rfl|(apply DM.gbT;rfl)|(apply DM.gbF;rfl)|intro h
   (apply DM.ixV (row := [.str v]) (z := (i : Int)) (by omega) (row_get (fun s => [AV.str s]) hv); (· rfl); (· rfl))
   repeat' first|(apply Sp.go;·constructor<;>first|exact ss|(change _=_;first|(simp only[go_sem,Nat.reduceBEq,Nat.reduceAdd,Nat.reduceLeDiff,reduceIte]<;>rfl)|rfl)|exact Nat.le_of_ble_eq_true rfl|decide|(repeat' first|(apply Lk.go;constructor)|assumption|exact nb ‹_› ‹_›|exact nt ‹_› ‹_›))|(intro b hb;repeat first|(refine fe hb ?_;intro _ _ hb)|(refine fT hb ?_;intro hb))|refine rt ?_|refine gA rfl ?_|refine gB rfl ?_|apply cT rfl|apply cF rfl|(apply DM.gbT;rfl)|(apply DM.gbF;rfl)|intro h
   (apply AM.cond; (· rfl))
   ·intro h4
    have h4' : nm = v := by simpa using h4
    repeat' first|(apply Sp.go;·constructor<;>first|exact ss|(change _=_;first|(simp only[go_sem,Nat.reduceBEq,Nat.reduceAdd,Nat.reduceLeDiff,reduceIte]<;>rfl)|rfl)|exact Nat.le_of_ble_eq_true rfl|decide|(repeat' first|(apply Lk.go;constructor)|assumption|exact nb ‹_› ‹_›|exact nt ‹_› ‹_›))|(intro b hb;repeat first|(refine fe hb ?_;intro _ _ hb)|(refine fT hb ?_;intro hb))|refine rt ?_|refine gA rfl ?_|refine gB rfl ?_|apply cT rfl|apply cF rfl|(apply DM.gbT;rfl)|(apply DM.gbF;rfl)|intro h
    (apply Sr.go;·constructor<;>first|(apply Lk.go;constructor<;>first|exact ss|(change _=_;first|(simp only[go_sem,Nat.reduceBEq,Nat.reduceAdd,Nat.reduceLeDiff,reduceIte]<;>rfl)|rfl)|exact Nat.le_of_ble_eq_true rfl|decide|(repeat' first|(apply Lk.go;constructor)|assumption|exact nb ‹_› ‹_›|exact nt ‹_› ‹_›))|assumption)
    refine avle_int ?_
    rw [he, if_pos h4']
   ·intro h4
    have h4' : ¬ nm = v := by simpa using h4
    rw [if_neg h4'] at he
    repeat' first|(apply Sp.go;·constructor<;>first|exact ss|(change _=_;first|(simp only[go_sem,Nat.reduceBEq,Nat.reduceAdd,Nat.reduceLeDiff,reduceIte]<;>rfl)|rfl)|exact Nat.le_of_ble_eq_true rfl|decide|(repeat' first|(apply Lk.go;constructor)|assumption|exact nb ‹_› ‹_›|exact nt ‹_› ‹_›))|(intro b hb;repeat first|(refine fe hb ?_;intro _ _ hb)|(refine fT hb ?_;intro hb))|refine rt ?_|refine gA rfl ?_|refine gB rfl ?_|apply cT rfl|apply cF rfl|(apply DM.gbT;rfl)|(apply DM.gbF;rfl)|intro h
    refine AM.roundX (i + 1) ⟨rfl, by omega, he⟩ ?_ (show l.length - (i + 1) < l.length - i by omega)
    (repeat first | exact envle_nil _ | (refine envle_cons ?_ ?_; · (simp only [go_sem, Nat.reduceBEq, Nat.reduceAdd]; exact AVLe.refl _)))
    refine envle_cons ?_ ?_
    ·simp only [go_sem, Nat.reduceBEq, Nat.reduceAdd]
     refine avle_int ?_
     rw [inc64 h3 hlen]
    exact envle_nil _
  ·intro h3
   simp at h3
   repeat' first|(apply Sp.go;·constructor<;>first|exact ss|(change _=_;first|(simp only[go_sem,Nat.reduceBEq,Nat.reduceAdd,Nat.reduceLeDiff,reduceIte]<;>rfl)|rfl)|exact Nat.le_of_ble_eq_true rfl|decide|(repeat' first|(apply Lk.go;constructor)|assumption|exact nb ‹_› ‹_›|exact nt ‹_› ‹_›))|(intro b hb;repeat first|(refine fe hb ?_;intro _ _ hb)|(refine fT hb ?_;intro hb))|refine rt ?_|refine gA rfl ?_|refine gB rfl ?_|apply cT rfl|apply cF rfl|(apply DM.gbT;rfl)|(apply DM.gbF;rfl)|intro h
   (apply Sr.go;·constructor<;>first|(apply Lk.go;constructor<;>first|exact ss|(change _=_;first|(simp only[go_sem,Nat.reduceBEq,Nat.reduceAdd,Nat.reduceLeDiff,reduceIte]<;>rfl)|rfl)|exact Nat.le_of_ble_eq_true rfl|decide|(repeat' first|(apply Lk.go;constructor)|assumption|exact nb ‹_› ‹_›|exact nt ‹_› ‹_›))|assumption)
   refine avle_int ?_
   rw [he, List.drop_eq_nil_of_le (by omega)]
   rfl
theorem atoi_itoa {n : Int} (h0 : -1000 ≤ n) (h1 : n ≤ 1000) : Lib.atoiAll (Lib.itoa n) = .ok n := by
 unfold Lib.itoa
 split
 ·rename_i hneg
  obtain ⟨a1, a2, a3, a4⟩ := dec_num n.natAbs
  have e : numV 1 (Lib.decDigits n.natAbs) = n := by simp only [numV, if_true, a2]; omega
  rcases atoi_digits 1 (.inr rfl) a1 a3 with h | h
  ·have := h.1
   rw [e] at this
   simpa using this
  ·rw [e] at h
   omega
 ·rename_i hneg
  obtain ⟨a1, a2, a3, a4⟩ := dec_num n.toNat
  have e : numV 0 (Lib.decDigits n.toNat) = n := by simp only [numV, Nat.zero_ne_one, if_false, a2]; omega
  rcases atoi_digits 0 (.inl rfl) a1 a3 with h | h
  ·have := h.1
   rw [e] at this
   simpa using this
  ·rw [e] at h
   omega
theorem p50 (n : Int) (h0 : -1000 ≤ n) (h1 : n ≤ 1000) : Pure Tryz.prog 50 [.str (Lib.itoa n)] (.tup [.int .i64 n, .raw .nilIface]) := by
 refine pure_of_plain fun m vs hG hv => ?_
 simp only [RvL, Rv] at hv
 obtain ⟨_, _, rfl, ⟨rfl, _⟩, rfl⟩ := hv
 have hl := itoa_len h0 h1
 have hz : (⟨⟨Lib.itoa n⟩⟩ : ByteArray).size ≤ 1002 := hl
 refine (Tryz.strconv_Atoi_ok ⟨⟨Lib.itoa n⟩⟩ (by omega) n (atoi_itoa h0 h1) m.w).mono ?_
 rintro e w' ⟨rfl, hw⟩
 refine ⟨_, rfl, fun m' => by simp only [Rv, RvL]; exact ⟨_, rfl, _, _, rfl, rfl, _, _, rfl, rfl, rfl⟩, ?_⟩
 rcases hw with rfl | ⟨t, rfl⟩
 ·exact Below.refl _ _
 ·exact Go.Joins.below_bytesWorld _ _ _ _ (Nat.le_refl _)
theorem names_found : (List.range 25).all (fun k => decide (findN opNames (opName (k : Int)) 0 = (k : Int))) = true := by decide +kernel
theorem find_name {op : Int} (h : inB op 1 24 = true) : findN opNames (opName op) 0 = op := by
 have hb : 1 ≤ op ∧ op ≤ 24 := by simp [inB] at h; omega
 obtain ⟨k, rfl⟩ : ∃ k : Nat, op = k := ⟨op.toNat, by omega⟩
 have := List.all_eq_true.1 names_found k (List.mem_range.2 (by omega))
 exact of_decide_eq_true this
theorem name_blank (op : Int) : (32 : UInt8) ∉ opName op := by
 have h2 : opNames.all (fun n => !n.contains 32) = true := by decide +kernel
 unfold opName
 rw [List.getD_eq_getElem?_getD]
 cases h : opNames[op.toNat]? with
 | none => simp
 | some n =>
  have := List.all_eq_true.1 h2 n (List.mem_of_getElem? h)
  simpa using this
theorem showI_len (x : Ins_) : (showI x).length ≤ 1010 := by
 have hl := opName_len x.op
 unfold showI
 split
 ·simp
 ·rename_i hf
  have hf' : formed x = true := by simpa using hf
  split
  ·have hv := showV_len ⟨2, 0, x.s⟩
   simp only [List.length_append, List.length_cons, List.length_nil]
   omega
  ·split
   ·rename_i h2 h3
    have hr := num_range hf' h2 h3
    have hv := itoa_len hr.1 hr.2
    simp only [List.length_append, List.length_cons, List.length_nil]
    omega
   ·omega
theorem names_rows : (opNames.map fun s => [AV.str s]).flatten = opNames.map .str := rfl
theorem hsub_dropB {G : AHeap} {b7 b8 : Nat} {T7 T8 : TypeId} {c7 c8 : List AV} (h7 : G.blk b7 = none) : HSub (G.setB b8 T8 c8) (((G.setB b7 T7 c7).dropB b7).setB b8 T8 c8) :=
 ⟨fun x y h => by
  simp only [AHeap.setB, AHeap.dropB] at h ⊢
  by_cases e : x = b8
  ·rw [if_pos e] at h ⊢; exact h
  ·rw [if_neg e] at h ⊢
   have e7 : x ≠ b7 := by rintro rfl; rw [h7] at h; cases h
   rw [if_neg e7, if_neg e7]
   exact h, fun _ _ h => by simpa [AHeap.setB, AHeap.dropB] using h⟩
theorem drop_fresh {G : AHeap} {b7 b8 : Nat} {T7 : TypeId} {c7 : List AV} (h7 : G.blk b7 = none) (h : ((G.setB b7 T7 c7).dropB b7).blk b8 = none) : G.blk b8 = none := by
 simp only [AHeap.setB, AHeap.dropB] at h
 by_cases e : b8 = b7
 ·rw [e]; exact h7
 ·rw [if_neg e, if_neg e] at h; exact h
theorem parseT_show {s : List UInt8} (h : validV (tx s) = true) : intLen (showT s) = 0 ∧ parseT (showT s) = (tx s, 0) := by
 have h0 : intLen (showT s) = 0 := (intLen_quote rfl).1
 have := parse_text h
 unfold parseV scanV at this
 rw [if_pos h0] at this
 exact ⟨h0, this⟩
theorem p17 (x : Ins_) (hf : formed x = true) : Pure Tryz.prog 17 [.str (showI x)] (.tup [x.av, .int .i64 0]) := by
 have ho := formed_op hf
 have ho' : 1 ≤ x.op ∧ x.op ≤ 24 := by simp [inB] at ho; omega
 have hls := showI_len x
 have hnb := name_blank x.op
 obtain ⟨S, hS⟩ : ∃ S, showI x = S := ⟨_, rfl⟩
 have hfind := find_name ho
 -- the shape of the notation
 have hcut : (x.op = 2 ∧ x.n = 0 ∧ validV ⟨2, 0, x.s⟩ = true ∧ cutB S = (opName x.op, showT x.s, true)) ∨ (¬ x.op = 2 ∧ x.s = [] ∧ (-1000 ≤ x.n ∧ x.n ≤ 1000) ∧ cutB S = (opName x.op, Lib.itoa x.n, true)) ∨ (¬ x.op = 2 ∧ x.s = [] ∧ x.n = 0 ∧ cutB S = (opName x.op, [], false)) := by
  rw [← hS]
  unfold showI
  rw [if_neg (by rw [hf]; simp)]
  have hf2 := hf
  unfold formed at hf2
  by_cases h2 : x.op = 2
  ·rw [if_pos h2] at hf2 ⊢
   simp only [Bool.and_eq_true, decide_eq_true_eq] at hf2
   refine .inl ⟨h2, hf2.1, hf2.2, ?_⟩
   have e : showV ⟨2, 0, x.s⟩ = showT x.s := by unfold showV; rw [if_neg (by rw [hf2.2]; simp), if_neg (by simp)]
   rw [e, List.append_assoc]
   exact cutB_app hnb
  ·rw [if_neg h2] at hf2 ⊢
   by_cases h3 : (numd x.op).2.2 = true
   ·have hr := num_range hf h2 h3
    rw [if_pos h3] at hf2 ⊢
    simp only [Bool.and_eq_true, decide_eq_true_eq] at hf2
    refine .inr (.inl ⟨h2, hf2.2, hr, ?_⟩)
    rw [List.append_assoc]
    exact cutB_app hnb
   ·rw [if_neg h3] at hf2 ⊢
    simp only [Bool.and_eq_true, decide_eq_true_eq] at hf2
    exact .inr (.inr ⟨h2, hf2.2, hf2.1.2, cutB_none hnb⟩)
 have hSl : S.length ≤ 1000000 := by rw [← hS]; omega
 have hN : ∃ R B, cutB S = (opName x.op, R, B) := by
  rcases hcut with ⟨_, _, _, e⟩ | ⟨_, _, _, e⟩ | ⟨_, _, _, e⟩ <;> exact ⟨_, _, e⟩
 obtain ⟨R, B, eN⟩ := hN
 have h47 := p47 S hSl
 rw [eN] at h47 hcut
 have h48 := p48 opNames (opName x.op)
 rw [hfind] at h48
 rw [hS]
 refine pure_intro mo Tryz.func17 c17 fun H => ?_
 unfold e17 r17
 simp only [initEnv, initFrom]
 repeat' first|(apply Sp.go;·constructor<;>first|exact ss|(change _=_;first|(simp only[go_sem,Nat.reduceBEq,Nat.reduceAdd,Nat.reduceLeDiff,reduceIte]<;>rfl)|rfl)|exact Nat.le_of_ble_eq_true rfl|decide|(repeat' first|(apply Lk.go;constructor)|assumption|exact nb ‹_› ‹_›|exact nt ‹_› ‹_›))|(intro b hb;repeat first|(refine fe hb ?_;intro _ _ hb)|(refine fT hb ?_;intro hb))|refine rt ?_|refine gA rfl ?_|refine gB rfl ?_|apply cT rfl|apply cF rfl|(apply DM.gbT;rfl)|(apply DM.gbF;rfl)|intro h
 (apply DM.pcs (h47); (· simp only [go_sem, Nat.reduceBEq, Nat.reduceAdd] <;> rfl); (· exact AVLes.refl _))
 repeat' first|(apply Sp.go;·constructor<;>first|exact ss|(change _=_;first|(simp only[go_sem,Nat.reduceBEq,Nat.reduceAdd,Nat.reduceLeDiff,reduceIte]<;>rfl)|rfl)|exact Nat.le_of_ble_eq_true rfl|decide|(repeat' first|(apply Lk.go;constructor)|assumption|exact nb ‹_› ‹_›|exact nt ‹_› ‹_›))|(intro b hb;repeat first|(refine fe hb ?_;intro _ _ hb)|(refine fT hb ?_;intro hb))|refine rt ?_|refine gA rfl ?_|refine gB rfl ?_|apply cT rfl|apply cF rfl|(apply DM.gbT;rfl)|(apply DM.gbF;rfl)|intro h
 (apply DM.pcs (p43); (· simp only [go_sem, Nat.reduceBEq, Nat.reduceAdd] <;> rfl); (· exact AVLes.refl _))
 repeat' first|(apply Sp.go;·constructor<;>first|exact ss|(change _=_;first|(simp only[go_sem,Nat.reduceBEq,Nat.reduceAdd,Nat.reduceLeDiff,reduceIte]<;>rfl)|rfl)|exact Nat.le_of_ble_eq_true rfl|decide|(repeat' first|(apply Lk.go;constructor)|assumption|exact nb ‹_› ‹_›|exact nt ‹_› ‹_›))|(intro b hb;repeat first|(refine fe hb ?_;intro _ _ hb)|(refine fT hb ?_;intro hb))|refine rt ?_|refine gA rfl ?_|refine gB rfl ?_|apply cT rfl|apply cF rfl|(apply DM.gbT;rfl)|(apply DM.gbF;rfl)|intro h
 rename_i b2 _ hG7 _ _
 (apply DM.slF (rows := opNames.map fun s => [AV.str s]) names_rows (by intro r hr; obtain ⟨_, _, rfl⟩ := List.mem_map.1 hr; rfl) rfl (by decide) (by decide); (· rfl); (· exact g_same))
 repeat' first|(apply Sp.go;·constructor<;>first|exact ss|(change _=_;first|(simp only[go_sem,Nat.reduceBEq,Nat.reduceAdd,Nat.reduceLeDiff,reduceIte]<;>rfl)|rfl)|exact Nat.le_of_ble_eq_true rfl|decide|(repeat' first|(apply Lk.go;constructor)|assumption|exact nb ‹_› ‹_›|exact nt ‹_› ‹_›))|(intro b hb;repeat first|(refine fe hb ?_;intro _ _ hb)|(refine fT hb ?_;intro hb))|refine rt ?_|refine gA rfl ?_|refine gB rfl ?_|apply cT rfl|apply cF rfl|(apply DM.gbT;rfl)|(apply DM.gbF;rfl)|intro h
 (apply DM.pcs (h48); (· simp only [go_sem, Nat.reduceBEq, Nat.reduceAdd] <;> rfl); (· exact AVLes.refl _))
 repeat' first|(apply Sp.go;·constructor<;>first|exact ss|(change _=_;first|(simp only[go_sem,Nat.reduceBEq,Nat.reduceAdd,Nat.reduceLeDiff,reduceIte]<;>rfl)|rfl)|exact Nat.le_of_ble_eq_true rfl|decide|(repeat' first|(apply Lk.go;constructor)|assumption|exact nb ‹_› ‹_›|exact nt ‹_› ‹_›))|(intro b hb;repeat first|(refine fe hb ?_;intro _ _ hb)|(refine fT hb ?_;intro hb))|refine rt ?_|refine gA rfl ?_|refine gB rfl ?_|apply cT rfl|apply cF rfl|(apply DM.gbT;rfl)|(apply DM.gbF;rfl)|intro h
 have hG8 := drop_fresh hG7 hb
 refine AM.forget ((H.setB b2 43 [.int .i64 0, .int .i64 0, .str []]).setB b 43 [.int .i64 x.op, .int .i64 0, .str []]) (hsub_dropB hG7) ?_
 refine fe hG8 ?_
 intro n82 n28 hH8
 clear hb hG8
 (apply AM.cond; (· rfl))
 ·intro h
  exfalso
  simp at h
  omega
 intro _
 rcases hcut with ⟨h2, hn, hv, e⟩ | ⟨h2, hs, hr, e⟩ | ⟨h2, hs, hn, e⟩
 ·obtain ⟨rfl, rfl⟩ : R = showT x.s ∧ B = true := by simpa using e
  have hp := parseT_show hv
  have hlen := showT_len x.s
  have hl40 : x.s.length ≤ 40 := by simp [validV] at hv; exact hv.1
  have h49 := p49t (showT x.s) (by omega) hp.1
  rw [hp.2] at h49
  repeat' first|(apply Sp.go;·constructor<;>first|exact ss|(change _=_;first|(simp only[go_sem,Nat.reduceBEq,Nat.reduceAdd,Nat.reduceLeDiff,reduceIte]<;>rfl)|rfl)|exact Nat.le_of_ble_eq_true rfl|decide|(repeat' first|(apply Lk.go;constructor)|assumption|exact nb ‹_› ‹_›|exact nt ‹_› ‹_›))|(intro b hb;repeat first|(refine fe hb ?_;intro _ _ hb)|(refine fT hb ?_;intro hb))|refine rt ?_|refine gA rfl ?_|refine gB rfl ?_|apply cT rfl|apply cF rfl|(apply DM.gbT;rfl)|(apply DM.gbF;rfl)|intro h
  (apply AM.cond; (· rfl))
  ·intro _
   repeat' first|(apply Sp.go;·constructor<;>first|exact ss|(change _=_;first|(simp only[go_sem,Nat.reduceBEq,Nat.reduceAdd,Nat.reduceLeDiff,reduceIte]<;>rfl)|rfl)|exact Nat.le_of_ble_eq_true rfl|decide|(repeat' first|(apply Lk.go;constructor)|assumption|exact nb ‹_› ‹_›|exact nt ‹_› ‹_›))|(intro b hb;repeat first|(refine fe hb ?_;intro _ _ hb)|(refine fT hb ?_;intro hb))|refine rt ?_|refine gA rfl ?_|refine gB rfl ?_|apply cT rfl|apply cF rfl|(apply DM.gbT;rfl)|(apply DM.gbF;rfl)|intro h
   (apply DM.pcs (h49); (· simp only [go_sem, Nat.reduceBEq, Nat.reduceAdd] <;> rfl); (· exact AVLes.refl _))
   repeat' first|(apply Sp.go;·constructor<;>first|exact ss|(change _=_;first|(simp only[go_sem,Nat.reduceBEq,Nat.reduceAdd,Nat.reduceLeDiff,reduceIte]<;>rfl)|rfl)|exact Nat.le_of_ble_eq_true rfl|decide|(repeat' first|(apply Lk.go;constructor)|assumption|exact nb ‹_› ‹_›|exact nt ‹_› ‹_›))|(intro b hb;repeat first|(refine fe hb ?_;intro _ _ hb)|(refine fT hb ?_;intro hb))|refine rt ?_|refine gA rfl ?_|refine gB rfl ?_|apply cT rfl|apply cF rfl|(apply DM.gbT;rfl)|(apply DM.gbF;rfl)|intro h
   (apply DM.pcs (p16 ⟨x.op, 0, x.s⟩); (· simp only [go_sem, Nat.reduceBEq, Nat.reduceAdd] <;> rfl); (· exact AVLes.refl _))
   rw [show (⟨x.op, 0, x.s⟩ : Ins_) = x from by cases x; simp at *; simp [*], hS]
   repeat' first|(apply Sp.go;·constructor<;>first|exact ss|(change _=_;first|(simp only[go_sem,Nat.reduceBEq,Nat.reduceAdd,Nat.reduceLeDiff,reduceIte]<;>rfl)|rfl)|exact Nat.le_of_ble_eq_true rfl|decide|(repeat' first|(apply Lk.go;constructor)|assumption|exact nb ‹_› ‹_›|exact nt ‹_› ‹_›))|(intro b hb;repeat first|(refine fe hb ?_;intro _ _ hb)|(refine fT hb ?_;intro hb))|refine rt ?_|refine gA rfl ?_|refine gB rfl ?_|apply cT rfl|apply cF rfl|(apply DM.gbT;rfl)|(apply DM.gbF;rfl)|intro h
   (apply Sr.go;·constructor<;>first|(apply Lk.go;constructor<;>first|exact ss|(change _=_;first|(simp only[go_sem,Nat.reduceBEq,Nat.reduceAdd,Nat.reduceLeDiff,reduceIte]<;>rfl)|rfl)|exact Nat.le_of_ble_eq_true rfl|decide|(repeat' first|(apply Lk.go;constructor)|assumption|exact nb ‹_› ‹_›|exact nt ‹_› ‹_›))|assumption)
   refine avle_tup (avles_cons ?_ (avles_cons (AVLe.refl _) avles_nil))
   refine avle_eq ?_
   simp [hn]
  ·intro h
   exfalso
   simp at h
   exact h h2
 ·obtain ⟨rfl, rfl⟩ : R = Lib.itoa x.n ∧ B = true := by simpa using e
  repeat' first|(apply Sp.go;·constructor<;>first|exact ss|(change _=_;first|(simp only[go_sem,Nat.reduceBEq,Nat.reduceAdd,Nat.reduceLeDiff,reduceIte]<;>rfl)|rfl)|exact Nat.le_of_ble_eq_true rfl|decide|(repeat' first|(apply Lk.go;constructor)|assumption|exact nb ‹_› ‹_›|exact nt ‹_› ‹_›))|(intro b hb;repeat first|(refine fe hb ?_;intro _ _ hb)|(refine fT hb ?_;intro hb))|refine rt ?_|refine gA rfl ?_|refine gB rfl ?_|apply cT rfl|apply cF rfl|(apply DM.gbT;rfl)|(apply DM.gbF;rfl)|intro h
  (apply AM.cond; (· rfl))
  ·intro h
   exfalso
   simp at h
   exact h2 h
  ·intro _
   repeat' first|(apply Sp.go;·constructor<;>first|exact ss|(change _=_;first|(simp only[go_sem,Nat.reduceBEq,Nat.reduceAdd,Nat.reduceLeDiff,reduceIte]<;>rfl)|rfl)|exact Nat.le_of_ble_eq_true rfl|decide|(repeat' first|(apply Lk.go;constructor)|assumption|exact nb ‹_› ‹_›|exact nt ‹_› ‹_›))|(intro b hb;repeat first|(refine fe hb ?_;intro _ _ hb)|(refine fT hb ?_;intro hb))|refine rt ?_|refine gA rfl ?_|refine gB rfl ?_|apply cT rfl|apply cF rfl|(apply DM.gbT;rfl)|(apply DM.gbF;rfl)|intro h
   (apply DM.pcs (p50 x.n hr.1 hr.2); (· simp only [go_sem, Nat.reduceBEq, Nat.reduceAdd] <;> rfl); (· exact AVLes.refl _))
   repeat' first|(apply Sp.go;·constructor<;>first|exact ss|(change _=_;first|(simp only[go_sem,Nat.reduceBEq,Nat.reduceAdd,Nat.reduceLeDiff,reduceIte]<;>rfl)|rfl)|exact Nat.le_of_ble_eq_true rfl|decide|(repeat' first|(apply Lk.go;constructor)|assumption|exact nb ‹_› ‹_›|exact nt ‹_› ‹_›))|(intro b hb;repeat first|(refine fe hb ?_;intro _ _ hb)|(refine fT hb ?_;intro hb))|refine rt ?_|refine gA rfl ?_|refine gB rfl ?_|apply cT rfl|apply cF rfl|(apply DM.gbT;rfl)|(apply DM.gbF;rfl)|intro h
   (apply DM.pcs (p16 ⟨x.op, x.n, []⟩); (· simp only [go_sem, Nat.reduceBEq, Nat.reduceAdd] <;> rfl); (· exact AVLes.refl _))
   rw [show (⟨x.op, x.n, []⟩ : Ins_) = x from by cases x; simp at *; simp [*], hS]
   repeat' first|(apply Sp.go;·constructor<;>first|exact ss|(change _=_;first|(simp only[go_sem,Nat.reduceBEq,Nat.reduceAdd,Nat.reduceLeDiff,reduceIte]<;>rfl)|rfl)|exact Nat.le_of_ble_eq_true rfl|decide|(repeat' first|(apply Lk.go;constructor)|assumption|exact nb ‹_› ‹_›|exact nt ‹_› ‹_›))|(intro b hb;repeat first|(refine fe hb ?_;intro _ _ hb)|(refine fT hb ?_;intro hb))|refine rt ?_|refine gA rfl ?_|refine gB rfl ?_|apply cT rfl|apply cF rfl|(apply DM.gbT;rfl)|(apply DM.gbF;rfl)|intro h
   (apply Sr.go;·constructor<;>first|(apply Lk.go;constructor<;>first|exact ss|(change _=_;first|(simp only[go_sem,Nat.reduceBEq,Nat.reduceAdd,Nat.reduceLeDiff,reduceIte]<;>rfl)|rfl)|exact Nat.le_of_ble_eq_true rfl|decide|(repeat' first|(apply Lk.go;constructor)|assumption|exact nb ‹_› ‹_›|exact nt ‹_› ‹_›))|assumption)
   refine avle_tup (avles_cons ?_ (avles_cons (AVLe.refl _) avles_nil))
   refine avle_eq ?_
   simp [hs]
 ·obtain ⟨rfl, rfl⟩ : R = [] ∧ B = false := by simpa using e
  repeat' first|(apply Sp.go;·constructor<;>first|exact ss|(change _=_;first|(simp only[go_sem,Nat.reduceBEq,Nat.reduceAdd,Nat.reduceLeDiff,reduceIte]<;>rfl)|rfl)|exact Nat.le_of_ble_eq_true rfl|decide|(repeat' first|(apply Lk.go;constructor)|assumption|exact nb ‹_› ‹_›|exact nt ‹_› ‹_›))|(intro b hb;repeat first|(refine fe hb ?_;intro _ _ hb)|(refine fT hb ?_;intro hb))|refine rt ?_|refine gA rfl ?_|refine gB rfl ?_|apply cT rfl|apply cF rfl|(apply DM.gbT;rfl)|(apply DM.gbF;rfl)|intro h
  (apply DM.pcs (p16 ⟨x.op, 0, []⟩); (· simp only [go_sem, Nat.reduceBEq, Nat.reduceAdd] <;> rfl); (· exact AVLes.refl _))
  rw [show (⟨x.op, 0, []⟩ : Ins_) = x from by cases x; simp at *; simp [*], hS]
  repeat' first|(apply Sp.go;·constructor<;>first|exact ss|(change _=_;first|(simp only[go_sem,Nat.reduceBEq,Nat.reduceAdd,Nat.reduceLeDiff,reduceIte]<;>rfl)|rfl)|exact Nat.le_of_ble_eq_true rfl|decide|(repeat' first|(apply Lk.go;constructor)|assumption|exact nb ‹_› ‹_›|exact nt ‹_› ‹_›))|(intro b hb;repeat first|(refine fe hb ?_;intro _ _ hb)|(refine fT hb ?_;intro hb))|refine rt ?_|refine gA rfl ?_|refine gB rfl ?_|apply cT rfl|apply cF rfl|(apply DM.gbT;rfl)|(apply DM.gbF;rfl)|intro h
  (apply Sr.go;·constructor<;>first|(apply Lk.go;constructor<;>first|exact ss|(change _=_;first|(simp only[go_sem,Nat.reduceBEq,Nat.reduceAdd,Nat.reduceLeDiff,reduceIte]<;>rfl)|rfl)|exact Nat.le_of_ble_eq_true rfl|decide|(repeat' first|(apply Lk.go;constructor)|assumption|exact nb ‹_› ‹_›|exact nt ‹_› ‹_›))|assumption)
  refine avle_tup (avles_cons ?_ (avles_cons (AVLe.refl _) avles_nil))
  refine avle_eq ?_
  simp [hs, hn]
def lineT (l : List Int) : List UInt8 := l.flatMap fun n => 32 :: Lib.itoa n
theorem lineT_take {l : List Int} {i : Nat} {n : Int} (h : l[i]? = some n) : lineT (l.take (i + 1)) = lineT (l.take i) ++ (32 :: Lib.itoa n) := by
 unfold lineT
 rw [List.take_add_one, h]
 simp
theorem lineT_len {l : List Int} (hr : ∀ n ∈ l, -1000 ≤ n ∧ n ≤ 1000) : (lineT l).length ≤ 1003 * l.length := by
 induction l with
 | nil => simp [lineT]
 | cons n l ih =>
  have h1 := hr n (by simp)
  have := itoa_len h1.1 h1.2
  have h2 := ih fun m hm => hr m (by simp [hm])
  simp only [lineT, List.flatMap_cons, List.length_append, List.length_cons] at h2 ⊢
  omega
theorem p74 (w : List UInt8) (l : List Int) (hl : l.length ≤ 4) (hr : ∀ n ∈ l, -1000 ≤ n ∧ n ≤ 1000) (hw : w.length ≤ 100000) : Pure Tryz.prog 74 [.str w, .vs 1 (l.map fun n => [.int .i64 n])] (.str (w ++ lineT l)) := by
 have hlen : l.length ≤ maxLen := by unfold maxLen; omega
 refine pure_intro mo Tryz.func74 c74 fun H => ?_
 unfold e74 r74
 simp only [initEnv, initFrom]
 repeat' first|(apply Sp.go;·constructor<;>first|exact ss|(change _=_;first|(simp only[go_sem,Nat.reduceBEq,Nat.reduceAdd,Nat.reduceLeDiff,reduceIte]<;>rfl)|rfl)|exact Nat.le_of_ble_eq_true rfl|decide|(repeat' first|(apply Lk.go;constructor)|assumption|exact nb ‹_› ‹_›|exact nt ‹_› ‹_›))|(intro b hb;repeat first|(refine fe hb ?_;intro _ _ hb)|(refine fT hb ?_;intro hb))|refine rt ?_|refine gA rfl ?_|refine gB rfl ?_|apply cT rfl|apply cF rfl|(apply DM.gbT;rfl)|(apply DM.gbF;rfl)|intro h
 refine AM.loopX (X := Nat) 0 (fun i => [(7, .vs 1 (l.map fun n => [.int .i64 n])), (8, .int .i64 l.length), (9, .int .i64 i), (0, .str (w ++ lineT (l.take i)))]) (fun i H' => H' = H ∧ i ≤ l.length) (fun i => l.length - i) ⟨rfl, by omega⟩ ?_ ?_
 ·(repeat first | exact envle_nil _ | (refine envle_cons ?_ ?_; · (simp only [go_sem, Nat.reduceBEq, Nat.reduceAdd]; exact AVLe.refl _)))
  refine envle_cons ?_ (envle_cons ?_ (envle_cons ?_ (envle_nil _)))
  ·simp only [Env.get, Nat.reduceBEq, cond_true, cond_false, beq_self_eq_true]
   exact avle_int (by simp)
  ·simp only [Env.get, Nat.reduceBEq, cond_true, cond_false, beq_self_eq_true]
   exact AVLe.refl _
  ·simp only [Env.get, Nat.reduceBEq, cond_true, cond_false, beq_self_eq_true]
   exact avle_eq (by simp [lineT])
 ·rintro i H' ⟨rfl, hi⟩
  repeat' first|(apply Sp.go;·constructor<;>first|exact ss|(change _=_;first|(simp only[go_sem,Nat.reduceBEq,Nat.reduceAdd,Nat.reduceLeDiff,reduceIte]<;>rfl)|rfl)|exact Nat.le_of_ble_eq_true rfl|decide|(repeat' first|(apply Lk.go;constructor)|assumption|exact nb ‹_› ‹_›|exact nt ‹_› ‹_›))|(intro b hb;repeat first|(refine fe hb ?_;intro _ _ hb)|(refine fT hb ?_;intro hb))|refine rt ?_|refine gA rfl ?_|refine gB rfl ?_|apply cT rfl|apply cF rfl|(apply DM.gbT;rfl)|(apply DM.gbF;rfl)|intro h
  (apply AM.cond; (· rfl))
  ·intro h3
   simp at h3
   obtain ⟨v, hv⟩ := some_of h3
   have hvr := hr v (List.mem_of_getElem? hv)
   have il := itoa_len hvr.1 hvr.2
   have ll := lineT_len (l := l.take i) fun n hn => hr n (List.mem_of_mem_take hn)
   rw [List.length_take] at ll
   repeat' first|(apply Sp.go;·constructor<;>first|exact ss|(change _=_;first|(simp only[go_sem,Nat.reduceBEq,Nat.reduceAdd,Nat.reduceLeDiff,reduceIte]<;>rfl)|rfl)|exact Nat.le_of_ble_eq_true rfl|decide|(repeat' first|(apply Lk.go;constructor)|assumption|exact nb ‹_› ‹_›|exact nt ‹_› ‹_›))|(intro b hb;repeat first|(refine fe hb ?_;intro _ _ hb)|(refine fT hb ?_;intro hb))|refine rt ?_|refine gA rfl ?_|refine gB rfl ?_|apply cT rfl|apply cF rfl|(apply DM.gbT;rfl)|(apply DM.gbF;rfl)|intro h
   (apply DM.ixV (row := [.int .i64 v]) (z := (i : Int)) (by omega) (row_get (fun n => [AV.int .i64 n]) hv); (· rfl); (· rfl))
   repeat' first|(apply Sp.go;·constructor<;>first|exact ss|(change _=_;first|(simp only[go_sem,Nat.reduceBEq,Nat.reduceAdd,Nat.reduceLeDiff,reduceIte]<;>rfl)|rfl)|exact Nat.le_of_ble_eq_true rfl|decide|(repeat' first|(apply Lk.go;constructor)|assumption|exact nb ‹_› ‹_›|exact nt ‹_› ‹_›))|(intro b hb;repeat first|(refine fe hb ?_;intro _ _ hb)|(refine fT hb ?_;intro hb))|refine rt ?_|refine gA rfl ?_|refine gB rfl ?_|apply cT rfl|apply cF rfl|(apply DM.gbT;rfl)|(apply DM.gbF;rfl)|intro h
   (apply DM.pcs (p46 v hvr.1 hvr.2); (· simp only [go_sem, Nat.reduceBEq, Nat.reduceAdd] <;> rfl); (· exact AVLes.refl _))
   repeat' first|(apply Sp.go;·constructor<;>first|exact ss|(change _=_;first|(simp only[go_sem,Nat.reduceBEq,Nat.reduceAdd,Nat.reduceLeDiff,reduceIte]<;>rfl)|rfl)|exact Nat.le_of_ble_eq_true rfl|decide|(repeat' first|(apply Lk.go;constructor)|assumption|exact nb ‹_› ‹_›|exact nt ‹_› ‹_›))|(intro b hb;repeat first|(refine fe hb ?_;intro _ _ hb)|(refine fT hb ?_;intro hb))|refine rt ?_|refine gA rfl ?_|refine gB rfl ?_|apply cT rfl|apply cF rfl|(apply DM.gbT;rfl)|(apply DM.gbF;rfl)|intro h
   (apply DM.catS; (· rfl); (· rfl); (· (simp only [List.length_cons, List.length_nil]; unfold maxLen; omega)))
   repeat' first|(apply Sp.go;·constructor<;>first|exact ss|(change _=_;first|(simp only[go_sem,Nat.reduceBEq,Nat.reduceAdd,Nat.reduceLeDiff,reduceIte]<;>rfl)|rfl)|exact Nat.le_of_ble_eq_true rfl|decide|(repeat' first|(apply Lk.go;constructor)|assumption|exact nb ‹_› ‹_›|exact nt ‹_› ‹_›))|(intro b hb;repeat first|(refine fe hb ?_;intro _ _ hb)|(refine fT hb ?_;intro hb))|refine rt ?_|refine gA rfl ?_|refine gB rfl ?_|apply cT rfl|apply cF rfl|(apply DM.gbT;rfl)|(apply DM.gbF;rfl)|intro h
   (apply DM.catS; (· rfl); (· rfl); (· (simp only [List.length_append, List.length_cons, List.length_nil]; unfold maxLen; omega)))
   repeat' first|(apply Sp.go;·constructor<;>first|exact ss|(change _=_;first|(simp only[go_sem,Nat.reduceBEq,Nat.reduceAdd,Nat.reduceLeDiff,reduceIte]<;>rfl)|rfl)|exact Nat.le_of_ble_eq_true rfl|decide|(repeat' first|(apply Lk.go;constructor)|assumption|exact nb ‹_› ‹_›|exact nt ‹_› ‹_›))|(intro b hb;repeat first|(refine fe hb ?_;intro _ _ hb)|(refine fT hb ?_;intro hb))|refine rt ?_|refine gA rfl ?_|refine gB rfl ?_|apply cT rfl|apply cF rfl|(apply DM.gbT;rfl)|(apply DM.gbF;rfl)|intro h
   refine AM.roundX (i + 1) ⟨rfl, by omega⟩ ?_ (show l.length - (i + 1) < l.length - i by omega)
   (repeat first | exact envle_nil _ | (refine envle_cons ?_ ?_; · (simp only [go_sem, Nat.reduceBEq, Nat.reduceAdd]; exact AVLe.refl _)))
   refine envle_cons ?_ ?_
   ·simp only [go_sem, Nat.reduceBEq, Nat.reduceAdd]
    refine avle_int ?_
    rw [inc64 h3 hlen]
   refine envle_cons ?_ (envle_nil _)
   simp only [Env.get, Nat.reduceBEq, cond_true, cond_false, beq_self_eq_true]
   refine avle_eq ?_
   rw [lineT_take hv]
   simp
  ·intro h3
   simp at h3
   repeat' first|(apply Sp.go;·constructor<;>first|exact ss|(change _=_;first|(simp only[go_sem,Nat.reduceBEq,Nat.reduceAdd,Nat.reduceLeDiff,reduceIte]<;>rfl)|rfl)|exact Nat.le_of_ble_eq_true rfl|decide|(repeat' first|(apply Lk.go;constructor)|assumption|exact nb ‹_› ‹_›|exact nt ‹_› ‹_›))|(intro b hb;repeat first|(refine fe hb ?_;intro _ _ hb)|(refine fT hb ?_;intro hb))|refine rt ?_|refine gA rfl ?_|refine gB rfl ?_|apply cT rfl|apply cF rfl|(apply DM.gbT;rfl)|(apply DM.gbF;rfl)|intro h
   (apply Sr.go;·constructor<;>first|(apply Lk.go;constructor<;>first|exact ss|(change _=_;first|(simp only[go_sem,Nat.reduceBEq,Nat.reduceAdd,Nat.reduceLeDiff,reduceIte]<;>rfl)|rfl)|exact Nat.le_of_ble_eq_true rfl|decide|(repeat' first|(apply Lk.go;constructor)|assumption|exact nb ‹_› ‹_›|exact nt ‹_› ‹_›))|assumption)
   refine avle_eq ?_
   rw [List.take_of_length_le (by omega)]
structure VP (p : Prog) : Prop where
 name : p.name.length ≤ 16
 role : 0 ≤ p.role ∧ p.role ≤ 5
 code0 : 1 ≤ p.code.length ∧ p.code.length ≤ 1000
 nv : p.vars.length ≤ 12
 nh : p.hs.length ≤ 40
 no : p.os.length ≤ 40
 vars : ∀ v ∈ p.vars, v.name.length ≤ 16 ∧ fitsV v.sort v.init = true ∧ -1000 ≤ v.sort.lo ∧ v.sort.lo ≤ 1000 ∧ -1000 ≤ v.sort.hi ∧ v.sort.hi ≤ 1000 ∧ (v.sort.k = 1 ∨ v.sort.k = 2) ∧ validV v.init = true
 hs : ∀ v ∈ p.hs, (0 ≤ v.peer ∧ v.peer ≤ 5) ∧ (0 ≤ v.label ∧ v.label ≤ 39) ∧ (0 ≤ v.entry ∧ v.entry ≤ 999)
 os : ∀ v ∈ p.os, (0 ≤ v.peer ∧ v.peer ≤ 5) ∧ (0 ≤ v.label ∧ v.label ≤ 39) ∧ (-1 ≤ v.cond ∧ v.cond ≤ 999) ∧ (0 ≤ v.args ∧ v.args ≤ 999)
 code : ∀ x ∈ p.code, formed x = true
theorem allI_get {n : Nat} {q : Nat → Bool} (h : allI n q = true) {j : Nat} (hj : j < n) : q j = true := by
 simp only [allI, List.all_eq_true, List.mem_range] at h
 exact h j hj
theorem isName_len {s : List UInt8} (h : isName s = true) : s.length ≤ 16 := by
 cases s with
 | nil => simp
 | cons c l => simp only [isName, Bool.and_eq_true, decide_eq_true_eq] at h; exact h.2
theorem VP.of {p : Prog} (h : validP p = true) : VP p := by
 simp only [validP, Bool.and_eq_true] at h
 obtain ⟨⟨⟨⟨⟨h1, h2⟩, h3⟩, h4⟩, h5⟩, h6⟩ := h
 simp only [varsOk, Bool.and_eq_true, decide_eq_true_eq] at h4
 simp only [partsOk, Bool.and_eq_true, decide_eq_true_eq] at h5
 obtain ⟨⟨⟨h51, h52⟩, h53⟩, h54⟩ := h5
 have hc : 1 ≤ p.code.length ∧ p.code.length ≤ 1000 := by simp [inB] at h3; omega
 refine ⟨isName_len h1, by simpa [inB] using h2, hc, h4.2, h53, h54, fun v hv => ?_, fun v hv => ?_, fun v hv => ?_, fun x hx => ?_⟩
 ·obtain ⟨j, hj⟩ := List.getElem?_of_mem hv
  have := allI_get h4.1 (List.getElem?_eq_some_iff.1 hj).1
  simp only [okVar, hj, Bool.and_eq_true] at this
  refine ⟨isName_len this.1.1, this.2, ?_⟩
  have hf := this.2
  simp only [fitsV, Bool.and_eq_true] at hf
  have hs := hf.1.1.1.1
  have hval := hf.1.1.1.2
  simp [validS] at hs
  refine ⟨?_, ?_, ?_, ?_, ?_, hval⟩ <;> omega
 ·obtain ⟨j, hj⟩ := List.getElem?_of_mem hv
  have := allI_get h51 (List.getElem?_eq_some_iff.1 hj).1
  simp only [okHd, hj, Bool.and_eq_true, Prog.party, Prog.target, inB, decide_eq_true_eq] at this
  omega
 ·obtain ⟨j, hj⟩ := List.getElem?_of_mem hv
  have := allI_get h52 (List.getElem?_eq_some_iff.1 hj).1
  simp only [okOf, hj, Bool.and_eq_true, Bool.or_eq_true, Prog.party, Prog.target, inB, decide_eq_true_eq] at this
  omega
 ·obtain ⟨j, hj⟩ := List.getElem?_of_mem hx
  have := allI_get h6 (List.getElem?_eq_some_iff.1 hj).1
  simp only [okIx, hj, okIns, Bool.and_eq_true] at this
  exact this.1
def svcLine (p : Prog) : List UInt8 := [115, 101, 114, 118, 105, 99, 101, 32] ++ p.name ++ [32, 114, 111, 108, 101] ++ lineT [p.role]
def kindS (v : Var_) : List UInt8 := if v.sort.k = 2 then [116, 101, 120, 116] else [105, 110, 116]
def varLine (v : Var_) : List UInt8 := [118, 97, 114, 32] ++ v.name ++ [32] ++ kindS v ++ lineT [v.sort.lo, v.sort.hi] ++ [32] ++ showV v.init
def onLine (v : Hd) : List UInt8 := [111, 110] ++ lineT [v.peer, v.label, v.entry]
def offLine (v : Of_) : List UInt8 := [111, 102, 102, 101, 114] ++ lineT [v.peer, v.label, v.cond, v.args]
def insLine (i : Nat) (x : Ins_) : List UInt8 := Lib.itoa (i : Int) ++ [58, 32] ++ showI x
def codeL (l : List Ins_) : List (List UInt8) := l.mapIdx insLine
theorem codeL_take {l : List Ins_} {i : Nat} {x : Ins_} (h : l[i]? = some x) : codeL (l.take (i + 1)) = codeL (l.take i) ++ [insLine i x] := by
 unfold codeL
 have hi : i < l.length := (List.getElem?_eq_some_iff.1 h).1
 rw [List.take_add_one, h]
 simp only [Option.toList_some, List.mapIdx_append, List.length_take, List.mapIdx_cons, List.mapIdx_nil]
 rw [show min i l.length = i by omega]
 simp
def linesP (p : Prog) : List (List UInt8) := [svcLine p] ++ p.vars.map varLine ++ p.hs.map onLine ++ p.os.map offLine ++ codeL p.code
abbrev sr (s : List UInt8) : List AV := [.str s]
theorem DM.bsO1 {P : Program} {T size n d : Nat} {zero : List AV} {parts : List (Nat × EOpd)} {l : List EI} {env : Env} {H : AHeap} {K : Env → AHeap → Prop} {Rp : AV → AHeap → Prop} (rows : List (List AV)) (hs : rows.all (fun r => r.length == size) = true) (ho : rows.flatten.all AV.one = true) (h0 : size ≠ 0) (hr : bslRows env parts = rows) (h : ∀ t, H.tok t = none → DM P l ((d, .own t size rows) :: env) (H.setT t (.frz T size rows.length)) K Rp) : DM P (⟨some d, none, .bsliceO T size n zero parts⟩ :: l) env H K Rp :=
 DM.de (.ntok T size rows) rfl (.bsliceO hr hs ho h0) fun t ht => h t ht
theorem hsub_own {G : AHeap} {t b : Nat} {o o' : Own} {T : TypeId} {c : List AV} (hb : G.blk b = none) : HSub (G.setT t o') (((G.setT t o).setB b T c).setT t o') :=
 ⟨fun x y h => by
  simp only [AHeap.setB, AHeap.setT] at h ⊢
  rw [if_neg (by rintro rfl; rw [hb] at h; cases h)]
  exact h, fun x y h => by
  simp only [AHeap.setB, AHeap.setT] at h ⊢
  by_cases e : x = t
  ·rw [if_pos e] at h ⊢; exact h
  ·rw [if_neg e] at h ⊢; rw [if_neg e]; exact h⟩
theorem hsub_own' {G : AHeap} {t b n m : Nat} {Te : TypeId} {o : Own} {T : TypeId} {c : List AV} (hb : G.blk b = none) (e : n = m) : HSub (G.setT t (.frz Te 1 n)) (((G.setT t o).setB b T c).setT t (.frz Te 1 m)) := by
 subst e
 exact hsub_own hb
theorem p27 (p : Prog) : Pure Tryz.prog 27 [p.av] (.vs 1 ((if validP p then linesP p else []).map sr)) := by
 refine ok_args fun ok => ?_
 refine pure_intro mo Tryz.func27 c27 fun H => ?_
 unfold e27 r27
 simp only [initEnv, initFrom]
 repeat' first|(apply Sp.go;·constructor<;>first|exact ss|(change _=_;first|(simp only[go_sem,Nat.reduceBEq,Nat.reduceAdd,Nat.reduceLeDiff,reduceIte]<;>rfl)|rfl)|exact Nat.le_of_ble_eq_true rfl|decide|(repeat' first|(apply Lk.go;constructor)|assumption|exact nb ‹_› ‹_›|exact nt ‹_› ‹_›))|(intro b hb;repeat first|(refine fe hb ?_;intro _ _ hb)|(refine fT hb ?_;intro hb))|refine rt ?_|refine gA rfl ?_|refine gB rfl ?_|apply cT rfl|apply cF rfl|(apply DM.gbT;rfl)|(apply DM.gbF;rfl)|intro h
 (apply DM.pcs (p11 p); (· simp only [go_sem, Nat.reduceBEq, Nat.reduceAdd] <;> rfl); (· exact AVLes.refl _))
 repeat' first|(apply Sp.go;·constructor<;>first|exact ss|(change _=_;first|(simp only[go_sem,Nat.reduceBEq,Nat.reduceAdd,Nat.reduceLeDiff,reduceIte]<;>rfl)|rfl)|exact Nat.le_of_ble_eq_true rfl|decide|(repeat' first|(apply Lk.go;constructor)|assumption|exact nb ‹_› ‹_›|exact nt ‹_› ‹_›))|(intro b hb;repeat first|(refine fe hb ?_;intro _ _ hb)|(refine fT hb ?_;intro hb))|refine rt ?_|refine gA rfl ?_|refine gB rfl ?_|apply cT rfl|apply cF rfl|(apply DM.gbT;rfl)|(apply DM.gbF;rfl)|intro h
 (apply AM.cond; (· rfl))
 ·intro hv
  have hv' : validP p = false := by simpa using hv
  repeat' first|(apply Sp.go;·constructor<;>first|exact ss|(change _=_;first|(simp only[go_sem,Nat.reduceBEq,Nat.reduceAdd,Nat.reduceLeDiff,reduceIte]<;>rfl)|rfl)|exact Nat.le_of_ble_eq_true rfl|decide|(repeat' first|(apply Lk.go;constructor)|assumption|exact nb ‹_› ‹_›|exact nt ‹_› ‹_›))|(intro b hb;repeat first|(refine fe hb ?_;intro _ _ hb)|(refine fT hb ?_;intro hb))|refine rt ?_|refine gA rfl ?_|refine gB rfl ?_|apply cT rfl|apply cF rfl|(apply DM.gbT;rfl)|(apply DM.gbF;rfl)|intro h
  (apply Sr.go;·constructor<;>first|(apply Lk.go;constructor<;>first|exact ss|(change _=_;first|(simp only[go_sem,Nat.reduceBEq,Nat.reduceAdd,Nat.reduceLeDiff,reduceIte]<;>rfl)|rfl)|exact Nat.le_of_ble_eq_true rfl|decide|(repeat' first|(apply Lk.go;constructor)|assumption|exact nb ‹_› ‹_›|exact nt ‹_› ‹_›))|assumption)
  rw [hv']
  exact AVLe.nil
 intro hv
 have hv' : validP p = true := by simpa using hv
 have vp := VP.of hv'
 have hlines : (if validP p then linesP p else []) = linesP p := if_pos hv'
 rw [hlines]
 clear hv hlines
 rename Nat => b1
 have hb1 : H.blk b1 = none := by assumption
 have hnm := vp.name
 have hl1 : (lineT [p.role]).length ≤ 1003 * 1 := lineT_len (by intro n hn; simp at hn; subst hn; have := vp.role; omega)
 repeat' first|(apply Sp.go;·constructor<;>first|exact ss|(change _=_;first|(simp only[go_sem,Nat.reduceBEq,Nat.reduceAdd,Nat.reduceLeDiff,reduceIte]<;>rfl)|rfl)|exact Nat.le_of_ble_eq_true rfl|decide|(repeat' first|(apply Lk.go;constructor)|assumption|exact nb ‹_› ‹_›|exact nt ‹_› ‹_›))|(intro b hb;repeat first|(refine fe hb ?_;intro _ _ hb)|(refine fT hb ?_;intro hb))|refine rt ?_|refine gA rfl ?_|refine gB rfl ?_|apply cT rfl|apply cF rfl|(apply DM.gbT;rfl)|(apply DM.gbF;rfl)|intro h
 (apply DM.catS; (· rfl); (· rfl); (· (simp only [List.length_cons, List.length_nil]; unfold maxLen; omega)))
 repeat' first|(apply Sp.go;·constructor<;>first|exact ss|(change _=_;first|(simp only[go_sem,Nat.reduceBEq,Nat.reduceAdd,Nat.reduceLeDiff,reduceIte]<;>rfl)|rfl)|exact Nat.le_of_ble_eq_true rfl|decide|(repeat' first|(apply Lk.go;constructor)|assumption|exact nb ‹_› ‹_›|exact nt ‹_› ‹_›))|(intro b hb;repeat first|(refine fe hb ?_;intro _ _ hb)|(refine fT hb ?_;intro hb))|refine rt ?_|refine gA rfl ?_|refine gB rfl ?_|apply cT rfl|apply cF rfl|(apply DM.gbT;rfl)|(apply DM.gbF;rfl)|intro h
 (apply DM.catS; (· rfl); (· rfl); (· (simp only [List.length_append, List.length_cons, List.length_nil]; unfold maxLen; omega)))
 repeat' first|(apply Sp.go;·constructor<;>first|exact ss|(change _=_;first|(simp only[go_sem,Nat.reduceBEq,Nat.reduceAdd,Nat.reduceLeDiff,reduceIte]<;>rfl)|rfl)|exact Nat.le_of_ble_eq_true rfl|decide|(repeat' first|(apply Lk.go;constructor)|assumption|exact nb ‹_› ‹_›|exact nt ‹_› ‹_›))|(intro b hb;repeat first|(refine fe hb ?_;intro _ _ hb)|(refine fT hb ?_;intro hb))|refine rt ?_|refine gA rfl ?_|refine gB rfl ?_|apply cT rfl|apply cF rfl|(apply DM.gbT;rfl)|(apply DM.gbF;rfl)|intro h
 (apply DM.pcs (p74 ([115, 101, 114, 118, 105, 99, 101, 32] ++ p.name ++ [32, 114, 111, 108, 101]) [p.role] (by simp) (by intro n hn; simp at hn; subst hn; have := vp.role; omega) (by simp only [List.length_append, List.length_cons, List.length_nil]; omega)); (· simp only [go_sem, Nat.reduceBEq, Nat.reduceAdd] <;> rfl); (· exact AVLes.refl _))
 repeat' first|(apply Sp.go;·constructor<;>first|exact ss|(change _=_;first|(simp only[go_sem,Nat.reduceBEq,Nat.reduceAdd,Nat.reduceLeDiff,reduceIte]<;>rfl)|rfl)|exact Nat.le_of_ble_eq_true rfl|decide|(repeat' first|(apply Lk.go;constructor)|assumption|exact nb ‹_› ‹_›|exact nt ‹_› ‹_›))|(intro b hb;repeat first|(refine fe hb ?_;intro _ _ hb)|(refine fT hb ?_;intro hb))|refine rt ?_|refine gA rfl ?_|refine gB rfl ?_|apply cT rfl|apply cF rfl|(apply DM.gbT;rfl)|(apply DM.gbF;rfl)|intro h
 apply DM.bsO1 ([svcLine p].map sr) rfl rfl (by decide)
 ·rfl
 intro tk htk
 have htk0 : H.tok tk = none := freshT_setB htk
 clear htk
 have nv := vp.nv; have nh := vp.nh; have no := vp.no; have c0 := vp.code0
 repeat' first|(apply Sp.go;·constructor<;>first|exact ss|(change _=_;first|(simp only[go_sem,Nat.reduceBEq,Nat.reduceAdd,Nat.reduceLeDiff,reduceIte]<;>rfl)|rfl)|exact Nat.le_of_ble_eq_true rfl|decide|(repeat' first|(apply Lk.go;constructor)|assumption|exact nb ‹_› ‹_›|exact nt ‹_› ‹_›))|(intro b hb;repeat first|(refine fe hb ?_;intro _ _ hb)|(refine fT hb ?_;intro hb))|refine rt ?_|refine gA rfl ?_|refine gB rfl ?_|apply cT rfl|apply cF rfl|(apply DM.gbT;rfl)|(apply DM.gbF;rfl)|intro h
 refine AM.loopX (X := Nat) 0 (fun i => [(1, .ptr b1 0), (26, .vs 7 (p.vars.map Var_.row)), (27, .int .i64 p.vars.length), (28, .int .i64 i), (3, .own tk 1 (([svcLine p] ++ (p.vars.take i).map varLine).map sr))]) (fun i H' => H' = (H.setB b1 36 p.cells).setT tk (.frz 9 1 (([svcLine p] ++ (p.vars.take i).map varLine).map sr).length) ∧ i ≤ p.vars.length) (fun i => p.vars.length - i) ?_ ?_ ?_
 ·refine ⟨?_, by omega⟩
  simp [codeL, List.length_mapIdx]
 ·(repeat first | exact envle_nil _ | (refine envle_cons ?_ ?_; · (simp only [go_sem, Nat.reduceBEq, Nat.reduceAdd]; exact AVLe.refl _)))
  refine envle_cons ?_ (envle_cons ?_ (envle_cons ?_ (envle_nil _)))
  ·simp only [Env.get, Nat.reduceBEq, cond_true, cond_false, beq_self_eq_true]
   exact avle_int (by simp)
  ·simp only [Env.get, Nat.reduceBEq, cond_true, cond_false, beq_self_eq_true]
   exact AVLe.refl _
  ·simp only [Env.get, Nat.reduceBEq, cond_true, cond_false, beq_self_eq_true]
   refine avle_eq ?_
   simp [codeL]
 rintro i H' ⟨rfl, hi⟩
 repeat' first|(apply Sp.go;·constructor<;>first|exact ss|(change _=_;first|(simp only[go_sem,Nat.reduceBEq,Nat.reduceAdd,Nat.reduceLeDiff,reduceIte]<;>rfl)|rfl)|exact Nat.le_of_ble_eq_true rfl|decide|(repeat' first|(apply Lk.go;constructor)|assumption|exact nb ‹_› ‹_›|exact nt ‹_› ‹_›))|(intro b hb;repeat first|(refine fe hb ?_;intro _ _ hb)|(refine fT hb ?_;intro hb))|refine rt ?_|refine gA rfl ?_|refine gB rfl ?_|apply cT rfl|apply cF rfl|(apply DM.gbT;rfl)|(apply DM.gbF;rfl)|intro h
 (apply AM.cond; (· rfl))
 ·intro h3
  simp at h3
  obtain ⟨v, hvx⟩ := some_of h3
  have hmem := List.mem_of_getElem? hvx
  have hlen : (([svcLine p] ++ (p.vars.take i).map varLine).map sr).length ≤ 2000 := by
   have := vp.nv; have := vp.nh; have := vp.no; have := vp.code0
   simp only [List.length_map, List.length_append, List.length_cons, List.length_nil, List.length_take]
   omega
  repeat' first|(apply Sp.go;·constructor<;>first|exact ss|(change _=_;first|(simp only[go_sem,Nat.reduceBEq,Nat.reduceAdd,Nat.reduceLeDiff,reduceIte]<;>rfl)|rfl)|exact Nat.le_of_ble_eq_true rfl|decide|(repeat' first|(apply Lk.go;constructor)|assumption|exact nb ‹_› ‹_›|exact nt ‹_› ‹_›))|(intro b hb;repeat first|(refine fe hb ?_;intro _ _ hb)|(refine fT hb ?_;intro hb))|refine rt ?_|refine gA rfl ?_|refine gB rfl ?_|apply cT rfl|apply cF rfl|(apply DM.gbT;rfl)|(apply DM.gbF;rfl)|intro h
  (apply DM.ixV (row := v.row) (z := (i : Int)) (by omega) (row_get Var_.row hvx); (· rfl); (· rfl))
  have hv1 := vp.vars v hmem
  have hll : (lineT [v.sort.lo, v.sort.hi]).length ≤ 1003 * 2 := lineT_len (by intro n hn; simp at hn; rcases hn with rfl | rfl <;> omega)
  have hsv := showV_len v.init
  repeat' first|(apply Sp.go;·constructor<;>first|exact ss|(change _=_;first|(simp only[go_sem,Nat.reduceBEq,Nat.reduceAdd,Nat.reduceLeDiff,reduceIte]<;>rfl)|rfl)|exact Nat.le_of_ble_eq_true rfl|decide|(repeat' first|(apply Lk.go;constructor)|assumption|exact nb ‹_› ‹_›|exact nt ‹_› ‹_›))|(intro b hb;repeat first|(refine fe hb ?_;intro _ _ hb)|(refine fT hb ?_;intro hb))|refine rt ?_|refine gA rfl ?_|refine gB rfl ?_|apply cT rfl|apply cF rfl|(apply DM.gbT;rfl)|(apply DM.gbF;rfl)|intro h
  (apply AM.cond; (· rfl))
  ·intro hk0
   have hk : kindS v = [116, 101, 120, 116] := by unfold kindS; rw [if_pos (by simpa using hk0)]
   repeat' first|(apply Sp.go;·constructor<;>first|exact ss|(change _=_;first|(simp only[go_sem,Nat.reduceBEq,Nat.reduceAdd,Nat.reduceLeDiff,reduceIte]<;>rfl)|rfl)|exact Nat.le_of_ble_eq_true rfl|decide|(repeat' first|(apply Lk.go;constructor)|assumption|exact nb ‹_› ‹_›|exact nt ‹_› ‹_›))|(intro b hb;repeat first|(refine fe hb ?_;intro _ _ hb)|(refine fT hb ?_;intro hb))|refine gA rfl ?_|refine gB rfl ?_|apply cT rfl|apply cF rfl|(apply DM.gbT;rfl)|(apply DM.gbF;rfl)|intro h
   (refine AM.reg [.str (([118, 97, 114, 32] ++ v.name ++ [32] ++ [116, 101, 120, 116]) ++ lineT [v.sort.lo, v.sort.hi]), .str (showV v.init)] ?_; simp only [annotate, AV.rows])
   repeat' first|(apply Sp.go;·constructor<;>first|exact ss|(change _=_;first|(simp only[go_sem,Nat.reduceBEq,Nat.reduceAdd,Nat.reduceLeDiff,reduceIte]<;>rfl)|rfl)|exact Nat.le_of_ble_eq_true rfl|decide|(repeat' first|(apply Lk.go;constructor)|assumption|exact nb ‹_› ‹_›|exact nt ‹_› ‹_›))|(intro b hb;repeat first|(refine fe hb ?_;intro _ _ hb)|(refine fT hb ?_;intro hb))|refine rt ?_|refine gA rfl ?_|refine gB rfl ?_|apply cT rfl|apply cF rfl|(apply DM.gbT;rfl)|(apply DM.gbF;rfl)|intro h
   (apply DM.catS; (· rfl); (· rfl); (· (simp only [List.length_append, List.length_cons, List.length_nil]; unfold maxLen; omega)))
   repeat' first|(apply Sp.go;·constructor<;>first|exact ss|(change _=_;first|(simp only[go_sem,Nat.reduceBEq,Nat.reduceAdd,Nat.reduceLeDiff,reduceIte]<;>rfl)|rfl)|exact Nat.le_of_ble_eq_true rfl|decide|(repeat' first|(apply Lk.go;constructor)|assumption|exact nb ‹_› ‹_›|exact nt ‹_› ‹_›))|(intro b hb;repeat first|(refine fe hb ?_;intro _ _ hb)|(refine fT hb ?_;intro hb))|refine rt ?_|refine gA rfl ?_|refine gB rfl ?_|apply cT rfl|apply cF rfl|(apply DM.gbT;rfl)|(apply DM.gbF;rfl)|intro h
   (apply DM.catS; (· rfl); (· rfl); (· (simp only [List.length_append, List.length_cons, List.length_nil]; unfold maxLen; omega)))
   repeat' first|(apply Sp.go;·constructor<;>first|exact ss|(change _=_;first|(simp only[go_sem,Nat.reduceBEq,Nat.reduceAdd,Nat.reduceLeDiff,reduceIte]<;>rfl)|rfl)|exact Nat.le_of_ble_eq_true rfl|decide|(repeat' first|(apply Lk.go;constructor)|assumption|exact nb ‹_› ‹_›|exact nt ‹_› ‹_›))|(intro b hb;repeat first|(refine fe hb ?_;intro _ _ hb)|(refine fT hb ?_;intro hb))|refine rt ?_|refine gA rfl ?_|refine gB rfl ?_|apply cT rfl|apply cF rfl|(apply DM.gbT;rfl)|(apply DM.gbF;rfl)|intro h
   (apply DM.catS; (· rfl); (· rfl); (· (simp only [List.length_append, List.length_cons, List.length_nil]; unfold maxLen; omega)))
   repeat' first|(apply Sp.go;·constructor<;>first|exact ss|(change _=_;first|(simp only[go_sem,Nat.reduceBEq,Nat.reduceAdd,Nat.reduceLeDiff,reduceIte]<;>rfl)|rfl)|exact Nat.le_of_ble_eq_true rfl|decide|(repeat' first|(apply Lk.go;constructor)|assumption|exact nb ‹_› ‹_›|exact nt ‹_› ‹_›))|(intro b hb;repeat first|(refine fe hb ?_;intro _ _ hb)|(refine fT hb ?_;intro hb))|refine rt ?_|refine gA rfl ?_|refine gB rfl ?_|apply cT rfl|apply cF rfl|(apply DM.gbT;rfl)|(apply DM.gbF;rfl)|intro h
   (apply DM.pcRs (p74 ([118, 97, 114, 32] ++ v.name ++ [32] ++ [116, 101, 120, 116]) [v.sort.lo, v.sort.hi] (by simp) (by intro n hn; simp at hn; rcases hn with rfl | rfl <;> omega) (by simp only [List.length_append, List.length_cons, List.length_nil]; omega)); (· simp only [go_sem, Nat.reduceBEq, Nat.reduceAdd] <;> rfl); (· exact AVLes.refl _))
   repeat' first|(apply Sp.go;·constructor<;>first|exact ss|(change _=_;first|(simp only[go_sem,Nat.reduceBEq,Nat.reduceAdd,Nat.reduceLeDiff,reduceIte]<;>rfl)|rfl)|exact Nat.le_of_ble_eq_true rfl|decide|(repeat' first|(apply Lk.go;constructor)|assumption|exact nb ‹_› ‹_›|exact nt ‹_› ‹_›))|(intro b hb;repeat first|(refine fe hb ?_;intro _ _ hb)|(refine fT hb ?_;intro hb))|refine rt ?_|refine gA rfl ?_|refine gB rfl ?_|apply cT rfl|apply cF rfl|(apply DM.gbT;rfl)|(apply DM.gbF;rfl)|intro h
   (apply DM.catS; (· rfl); (· rfl); (· (simp only [List.length_append, List.length_cons, List.length_nil]; unfold maxLen; omega)))
   repeat' first|(apply Sp.go;·constructor<;>first|exact ss|(change _=_;first|(simp only[go_sem,Nat.reduceBEq,Nat.reduceAdd,Nat.reduceLeDiff,reduceIte]<;>rfl)|rfl)|exact Nat.le_of_ble_eq_true rfl|decide|(repeat' first|(apply Lk.go;constructor)|assumption|exact nb ‹_› ‹_›|exact nt ‹_› ‹_›))|(intro b hb;repeat first|(refine fe hb ?_;intro _ _ hb)|(refine fT hb ?_;intro hb))|refine rt ?_|refine gA rfl ?_|refine gB rfl ?_|apply cT rfl|apply cF rfl|(apply DM.gbT;rfl)|(apply DM.gbF;rfl)|intro h
   (apply DM.pcRs (p44 v.init); (· simp only [go_sem, Nat.reduceBEq, Nat.reduceAdd] <;> rfl); (· exact AVLes.refl _))
   repeat' first|(apply Sp.go;·constructor<;>first|exact ss|(change _=_;first|(simp only[go_sem,Nat.reduceBEq,Nat.reduceAdd,Nat.reduceLeDiff,reduceIte]<;>rfl)|rfl)|exact Nat.le_of_ble_eq_true rfl|decide|(repeat' first|(apply Lk.go;constructor)|assumption|exact nb ‹_› ‹_›|exact nt ‹_› ‹_›))|(intro b hb;repeat first|(refine fe hb ?_;intro _ _ hb)|(refine fT hb ?_;intro hb))|refine rt ?_|refine gA rfl ?_|refine gB rfl ?_|apply cT rfl|apply cF rfl|(apply DM.gbT;rfl)|(apply DM.gbF;rfl)|intro h
   (apply DM.catS; (· rfl); (· rfl); (· (simp only [List.length_append, List.length_cons, List.length_nil]; unfold maxLen; omega)))
   repeat' first|(apply Sp.go;·constructor<;>first|exact ss|(change _=_;first|(simp only[go_sem,Nat.reduceBEq,Nat.reduceAdd,Nat.reduceLeDiff,reduceIte]<;>rfl)|rfl)|exact Nat.le_of_ble_eq_true rfl|decide|(repeat' first|(apply Lk.go;constructor)|assumption|exact nb ‹_› ‹_›|exact nt ‹_› ‹_›))|(intro b hb;repeat first|(refine fe hb ?_;intro _ _ hb)|(refine fT hb ?_;intro hb))|refine rt ?_|refine gA rfl ?_|refine gB rfl ?_|apply cT rfl|apply cF rfl|(apply DM.gbT;rfl)|(apply DM.gbF;rfl)|intro h
   (apply DM.apO (t := tk); (· rfl); (· exact t_B t_same); (· rfl); (· simp only [List.length_map, List.length_append, List.length_cons, List.length_nil, List.length_take, codeL, List.length_mapIdx]; omega); (· simp only [List.length_map, List.length_append, List.length_cons, List.length_nil, List.length_take, codeL, List.length_mapIdx]; unfold maxLen; omega))
   repeat' first|(apply Sp.go;·constructor<;>first|exact ss|(change _=_;first|(simp only[go_sem,Nat.reduceBEq,Nat.reduceAdd,Nat.reduceLeDiff,reduceIte]<;>rfl)|rfl)|exact Nat.le_of_ble_eq_true rfl|decide|(repeat' first|(apply Lk.go;constructor)|assumption|exact nb ‹_› ‹_›|exact nt ‹_› ‹_›))|(intro b hb;repeat first|(refine fe hb ?_;intro _ _ hb)|(refine fT hb ?_;intro hb))|refine rt ?_|refine gA rfl ?_|refine gB rfl ?_|apply cT rfl|apply cF rfl|(apply DM.gbT;rfl)|(apply DM.gbF;rfl)|intro h
   refine AM.forget ((H.setB b1 36 p.cells).setT tk (.frz 9 1 (([svcLine p] ++ (p.vars.take (i + 1)).map varLine).map sr).length)) (hsub_own' ?_ ?_) ?_
   ·exact g_ne (by assumption) (by assumption)
   ·simp only [List.length_map, List.length_append, List.length_cons, List.length_nil, List.length_take, codeL, List.length_mapIdx]; omega
   refine AM.roundX (i + 1) ⟨rfl, by omega⟩ ?_ (show p.vars.length - (i + 1) < p.vars.length - i by omega)
   (repeat first | exact envle_nil _ | (refine envle_cons ?_ ?_; · (simp only [go_sem, Nat.reduceBEq, Nat.reduceAdd]; exact AVLe.refl _)))
   refine envle_cons ?_ ?_
   ·simp only [go_sem, Nat.reduceBEq, Nat.reduceAdd]
    refine avle_int ?_
    rw [inc64 h3 ok.vars]
   refine envle_cons ?_ (envle_nil _)
   simp only [Env.get, Nat.reduceBEq, cond_true, cond_false, beq_self_eq_true]
   refine avle_eq ?_
   rw [show [svcLine p] ++ (p.vars.take (i + 1)).map varLine = [svcLine p] ++ (p.vars.take i).map varLine ++ [varLine v] from by rw [List.take_add_one, hvx]; simp]
   simp [varLine, hk]
  ·intro hk0
   have hk : kindS v = [105, 110, 116] := by unfold kindS; rw [if_neg (by simpa using hk0)]
   repeat' first|(apply Sp.go;·constructor<;>first|exact ss|(change _=_;first|(simp only[go_sem,Nat.reduceBEq,Nat.reduceAdd,Nat.reduceLeDiff,reduceIte]<;>rfl)|rfl)|exact Nat.le_of_ble_eq_true rfl|decide|(repeat' first|(apply Lk.go;constructor)|assumption|exact nb ‹_› ‹_›|exact nt ‹_› ‹_›))|(intro b hb;repeat first|(refine fe hb ?_;intro _ _ hb)|(refine fT hb ?_;intro hb))|refine gA rfl ?_|refine gB rfl ?_|apply cT rfl|apply cF rfl|(apply DM.gbT;rfl)|(apply DM.gbF;rfl)|intro h
   (refine AM.reg [.str (([118, 97, 114, 32] ++ v.name ++ [32] ++ [105, 110, 116]) ++ lineT [v.sort.lo, v.sort.hi]), .str (showV v.init)] ?_; simp only [annotate, AV.rows])
   repeat' first|(apply Sp.go;·constructor<;>first|exact ss|(change _=_;first|(simp only[go_sem,Nat.reduceBEq,Nat.reduceAdd,Nat.reduceLeDiff,reduceIte]<;>rfl)|rfl)|exact Nat.le_of_ble_eq_true rfl|decide|(repeat' first|(apply Lk.go;constructor)|assumption|exact nb ‹_› ‹_›|exact nt ‹_› ‹_›))|(intro b hb;repeat first|(refine fe hb ?_;intro _ _ hb)|(refine fT hb ?_;intro hb))|refine rt ?_|refine gA rfl ?_|refine gB rfl ?_|apply cT rfl|apply cF rfl|(apply DM.gbT;rfl)|(apply DM.gbF;rfl)|intro h
   (apply DM.catS; (· rfl); (· rfl); (· (simp only [List.length_append, List.length_cons, List.length_nil]; unfold maxLen; omega)))
   repeat' first|(apply Sp.go;·constructor<;>first|exact ss|(change _=_;first|(simp only[go_sem,Nat.reduceBEq,Nat.reduceAdd,Nat.reduceLeDiff,reduceIte]<;>rfl)|rfl)|exact Nat.le_of_ble_eq_true rfl|decide|(repeat' first|(apply Lk.go;constructor)|assumption|exact nb ‹_› ‹_›|exact nt ‹_› ‹_›))|(intro b hb;repeat first|(refine fe hb ?_;intro _ _ hb)|(refine fT hb ?_;intro hb))|refine rt ?_|refine gA rfl ?_|refine gB rfl ?_|apply cT rfl|apply cF rfl|(apply DM.gbT;rfl)|(apply DM.gbF;rfl)|intro h
   (apply DM.catS; (· rfl); (· rfl); (· (simp only [List.length_append, List.length_cons, List.length_nil]; unfold maxLen; omega)))
   repeat' first|(apply Sp.go;·constructor<;>first|exact ss|(change _=_;first|(simp only[go_sem,Nat.reduceBEq,Nat.reduceAdd,Nat.reduceLeDiff,reduceIte]<;>rfl)|rfl)|exact Nat.le_of_ble_eq_true rfl|decide|(repeat' first|(apply Lk.go;constructor)|assumption|exact nb ‹_› ‹_›|exact nt ‹_› ‹_›))|(intro b hb;repeat first|(refine fe hb ?_;intro _ _ hb)|(refine fT hb ?_;intro hb))|refine rt ?_|refine gA rfl ?_|refine gB rfl ?_|apply cT rfl|apply cF rfl|(apply DM.gbT;rfl)|(apply DM.gbF;rfl)|intro h
   (apply DM.catS; (· rfl); (· rfl); (· (simp only [List.length_append, List.length_cons, List.length_nil]; unfold maxLen; omega)))
   repeat' first|(apply Sp.go;·constructor<;>first|exact ss|(change _=_;first|(simp only[go_sem,Nat.reduceBEq,Nat.reduceAdd,Nat.reduceLeDiff,reduceIte]<;>rfl)|rfl)|exact Nat.le_of_ble_eq_true rfl|decide|(repeat' first|(apply Lk.go;constructor)|assumption|exact nb ‹_› ‹_›|exact nt ‹_› ‹_›))|(intro b hb;repeat first|(refine fe hb ?_;intro _ _ hb)|(refine fT hb ?_;intro hb))|refine rt ?_|refine gA rfl ?_|refine gB rfl ?_|apply cT rfl|apply cF rfl|(apply DM.gbT;rfl)|(apply DM.gbF;rfl)|intro h
   (apply DM.pcRs (p74 ([118, 97, 114, 32] ++ v.name ++ [32] ++ [105, 110, 116]) [v.sort.lo, v.sort.hi] (by simp) (by intro n hn; simp at hn; rcases hn with rfl | rfl <;> omega) (by simp only [List.length_append, List.length_cons, List.length_nil]; omega)); (· simp only [go_sem, Nat.reduceBEq, Nat.reduceAdd] <;> rfl); (· exact AVLes.refl _))
   repeat' first|(apply Sp.go;·constructor<;>first|exact ss|(change _=_;first|(simp only[go_sem,Nat.reduceBEq,Nat.reduceAdd,Nat.reduceLeDiff,reduceIte]<;>rfl)|rfl)|exact Nat.le_of_ble_eq_true rfl|decide|(repeat' first|(apply Lk.go;constructor)|assumption|exact nb ‹_› ‹_›|exact nt ‹_› ‹_›))|(intro b hb;repeat first|(refine fe hb ?_;intro _ _ hb)|(refine fT hb ?_;intro hb))|refine rt ?_|refine gA rfl ?_|refine gB rfl ?_|apply cT rfl|apply cF rfl|(apply DM.gbT;rfl)|(apply DM.gbF;rfl)|intro h
   (apply DM.catS; (· rfl); (· rfl); (· (simp only [List.length_append, List.length_cons, List.length_nil]; unfold maxLen; omega)))
   repeat' first|(apply Sp.go;·constructor<;>first|exact ss|(change _=_;first|(simp only[go_sem,Nat.reduceBEq,Nat.reduceAdd,Nat.reduceLeDiff,reduceIte]<;>rfl)|rfl)|exact Nat.le_of_ble_eq_true rfl|decide|(repeat' first|(apply Lk.go;constructor)|assumption|exact nb ‹_› ‹_›|exact nt ‹_› ‹_›))|(intro b hb;repeat first|(refine fe hb ?_;intro _ _ hb)|(refine fT hb ?_;intro hb))|refine rt ?_|refine gA rfl ?_|refine gB rfl ?_|apply cT rfl|apply cF rfl|(apply DM.gbT;rfl)|(apply DM.gbF;rfl)|intro h
   (apply DM.pcRs (p44 v.init); (· simp only [go_sem, Nat.reduceBEq, Nat.reduceAdd] <;> rfl); (· exact AVLes.refl _))
   repeat' first|(apply Sp.go;·constructor<;>first|exact ss|(change _=_;first|(simp only[go_sem,Nat.reduceBEq,Nat.reduceAdd,Nat.reduceLeDiff,reduceIte]<;>rfl)|rfl)|exact Nat.le_of_ble_eq_true rfl|decide|(repeat' first|(apply Lk.go;constructor)|assumption|exact nb ‹_› ‹_›|exact nt ‹_› ‹_›))|(intro b hb;repeat first|(refine fe hb ?_;intro _ _ hb)|(refine fT hb ?_;intro hb))|refine rt ?_|refine gA rfl ?_|refine gB rfl ?_|apply cT rfl|apply cF rfl|(apply DM.gbT;rfl)|(apply DM.gbF;rfl)|intro h
   (apply DM.catS; (· rfl); (· rfl); (· (simp only [List.length_append, List.length_cons, List.length_nil]; unfold maxLen; omega)))
   repeat' first|(apply Sp.go;·constructor<;>first|exact ss|(change _=_;first|(simp only[go_sem,Nat.reduceBEq,Nat.reduceAdd,Nat.reduceLeDiff,reduceIte]<;>rfl)|rfl)|exact Nat.le_of_ble_eq_true rfl|decide|(repeat' first|(apply Lk.go;constructor)|assumption|exact nb ‹_› ‹_›|exact nt ‹_› ‹_›))|(intro b hb;repeat first|(refine fe hb ?_;intro _ _ hb)|(refine fT hb ?_;intro hb))|refine rt ?_|refine gA rfl ?_|refine gB rfl ?_|apply cT rfl|apply cF rfl|(apply DM.gbT;rfl)|(apply DM.gbF;rfl)|intro h
   (apply DM.apO (t := tk); (· rfl); (· exact t_B t_same); (· rfl); (· simp only [List.length_map, List.length_append, List.length_cons, List.length_nil, List.length_take, codeL, List.length_mapIdx]; omega); (· simp only [List.length_map, List.length_append, List.length_cons, List.length_nil, List.length_take, codeL, List.length_mapIdx]; unfold maxLen; omega))
   repeat' first|(apply Sp.go;·constructor<;>first|exact ss|(change _=_;first|(simp only[go_sem,Nat.reduceBEq,Nat.reduceAdd,Nat.reduceLeDiff,reduceIte]<;>rfl)|rfl)|exact Nat.le_of_ble_eq_true rfl|decide|(repeat' first|(apply Lk.go;constructor)|assumption|exact nb ‹_› ‹_›|exact nt ‹_› ‹_›))|(intro b hb;repeat first|(refine fe hb ?_;intro _ _ hb)|(refine fT hb ?_;intro hb))|refine rt ?_|refine gA rfl ?_|refine gB rfl ?_|apply cT rfl|apply cF rfl|(apply DM.gbT;rfl)|(apply DM.gbF;rfl)|intro h
   refine AM.forget ((H.setB b1 36 p.cells).setT tk (.frz 9 1 (([svcLine p] ++ (p.vars.take (i + 1)).map varLine).map sr).length)) (hsub_own' ?_ ?_) ?_
   ·exact g_ne (by assumption) (by assumption)
   ·simp only [List.length_map, List.length_append, List.length_cons, List.length_nil, List.length_take, codeL, List.length_mapIdx]; omega
   refine AM.roundX (i + 1) ⟨rfl, by omega⟩ ?_ (show p.vars.length - (i + 1) < p.vars.length - i by omega)
   (repeat first | exact envle_nil _ | (refine envle_cons ?_ ?_; · (simp only [go_sem, Nat.reduceBEq, Nat.reduceAdd]; exact AVLe.refl _)))
   refine envle_cons ?_ ?_
   ·simp only [go_sem, Nat.reduceBEq, Nat.reduceAdd]
    refine avle_int ?_
    rw [inc64 h3 ok.vars]
   refine envle_cons ?_ (envle_nil _)
   simp only [Env.get, Nat.reduceBEq, cond_true, cond_false, beq_self_eq_true]
   refine avle_eq ?_
   rw [show [svcLine p] ++ (p.vars.take (i + 1)).map varLine = [svcLine p] ++ (p.vars.take i).map varLine ++ [varLine v] from by rw [List.take_add_one, hvx]; simp]
   simp [varLine, hk]
 intro h3
 simp at h3
 rw [show i = p.vars.length by omega, List.take_length]
 clear h3 hi
 repeat' first|(apply Sp.go;·constructor<;>first|exact ss|(change _=_;first|(simp only[go_sem,Nat.reduceBEq,Nat.reduceAdd,Nat.reduceLeDiff,reduceIte]<;>rfl)|rfl)|exact Nat.le_of_ble_eq_true rfl|decide|(repeat' first|(apply Lk.go;constructor)|assumption|exact nb ‹_› ‹_›|exact nt ‹_› ‹_›))|(intro b hb;repeat first|(refine fe hb ?_;intro _ _ hb)|(refine fT hb ?_;intro hb))|refine rt ?_|refine gA rfl ?_|refine gB rfl ?_|apply cT rfl|apply cF rfl|(apply DM.gbT;rfl)|(apply DM.gbF;rfl)|intro h
 refine AM.loopX (X := Nat) 0 (fun i => [(1, .ptr b1 0), (60, .vs 3 (p.hs.map Hd.row)), (61, .int .i64 p.hs.length), (62, .int .i64 i), (3, .own tk 1 ((([svcLine p] ++ p.vars.map varLine) ++ (p.hs.take i).map onLine).map sr))]) (fun i H' => H' = (H.setB b1 36 p.cells).setT tk (.frz 9 1 ((([svcLine p] ++ p.vars.map varLine) ++ (p.hs.take i).map onLine).map sr).length) ∧ i ≤ p.hs.length) (fun i => p.hs.length - i) ?_ ?_ ?_
 ·refine ⟨?_, by omega⟩
  simp [codeL, List.length_mapIdx]
 ·(repeat first | exact envle_nil _ | (refine envle_cons ?_ ?_; · (simp only [go_sem, Nat.reduceBEq, Nat.reduceAdd]; exact AVLe.refl _)))
  refine envle_cons ?_ (envle_cons ?_ (envle_cons ?_ (envle_nil _)))
  ·simp only [Env.get, Nat.reduceBEq, cond_true, cond_false, beq_self_eq_true]
   exact avle_int (by simp)
  ·simp only [Env.get, Nat.reduceBEq, cond_true, cond_false, beq_self_eq_true]
   exact AVLe.refl _
  ·simp only [Env.get, Nat.reduceBEq, cond_true, cond_false, beq_self_eq_true]
   refine avle_eq ?_
   simp [codeL]
 rintro i H' ⟨rfl, hi⟩
 repeat' first|(apply Sp.go;·constructor<;>first|exact ss|(change _=_;first|(simp only[go_sem,Nat.reduceBEq,Nat.reduceAdd,Nat.reduceLeDiff,reduceIte]<;>rfl)|rfl)|exact Nat.le_of_ble_eq_true rfl|decide|(repeat' first|(apply Lk.go;constructor)|assumption|exact nb ‹_› ‹_›|exact nt ‹_› ‹_›))|(intro b hb;repeat first|(refine fe hb ?_;intro _ _ hb)|(refine fT hb ?_;intro hb))|refine rt ?_|refine gA rfl ?_|refine gB rfl ?_|apply cT rfl|apply cF rfl|(apply DM.gbT;rfl)|(apply DM.gbF;rfl)|intro h
 (apply AM.cond; (· rfl))
 ·intro h3
  simp at h3
  obtain ⟨v, hvx⟩ := some_of h3
  have hmem := List.mem_of_getElem? hvx
  have hlen : ((([svcLine p] ++ p.vars.map varLine) ++ (p.hs.take i).map onLine).map sr).length ≤ 2000 := by
   have := vp.nv; have := vp.nh; have := vp.no; have := vp.code0
   simp only [List.length_map, List.length_append, List.length_cons, List.length_nil, List.length_take]
   omega
  repeat' first|(apply Sp.go;·constructor<;>first|exact ss|(change _=_;first|(simp only[go_sem,Nat.reduceBEq,Nat.reduceAdd,Nat.reduceLeDiff,reduceIte]<;>rfl)|rfl)|exact Nat.le_of_ble_eq_true rfl|decide|(repeat' first|(apply Lk.go;constructor)|assumption|exact nb ‹_› ‹_›|exact nt ‹_› ‹_›))|(intro b hb;repeat first|(refine fe hb ?_;intro _ _ hb)|(refine fT hb ?_;intro hb))|refine rt ?_|refine gA rfl ?_|refine gB rfl ?_|apply cT rfl|apply cF rfl|(apply DM.gbT;rfl)|(apply DM.gbF;rfl)|intro h
  (apply DM.ixV (row := v.row) (z := (i : Int)) (by omega) (row_get Hd.row hvx); (· rfl); (· rfl))
  have hv1 := vp.hs v hmem
  repeat' first|(apply Sp.go;·constructor<;>first|exact ss|(change _=_;first|(simp only[go_sem,Nat.reduceBEq,Nat.reduceAdd,Nat.reduceLeDiff,reduceIte]<;>rfl)|rfl)|exact Nat.le_of_ble_eq_true rfl|decide|(repeat' first|(apply Lk.go;constructor)|assumption|exact nb ‹_› ‹_›|exact nt ‹_› ‹_›))|(intro b hb;repeat first|(refine fe hb ?_;intro _ _ hb)|(refine fT hb ?_;intro hb))|refine rt ?_|refine gA rfl ?_|refine gB rfl ?_|apply cT rfl|apply cF rfl|(apply DM.gbT;rfl)|(apply DM.gbF;rfl)|intro h
  (apply DM.pcs (p74 [111, 110] [v.peer, v.label, v.entry] (by simp) (by intro n hn; simp at hn; rcases hn with rfl | rfl | rfl <;> omega) (by simp)); (· simp only [go_sem, Nat.reduceBEq, Nat.reduceAdd] <;> rfl); (· exact AVLes.refl _))
  repeat' first|(apply Sp.go;·constructor<;>first|exact ss|(change _=_;first|(simp only[go_sem,Nat.reduceBEq,Nat.reduceAdd,Nat.reduceLeDiff,reduceIte]<;>rfl)|rfl)|exact Nat.le_of_ble_eq_true rfl|decide|(repeat' first|(apply Lk.go;constructor)|assumption|exact nb ‹_› ‹_›|exact nt ‹_› ‹_›))|(intro b hb;repeat first|(refine fe hb ?_;intro _ _ hb)|(refine fT hb ?_;intro hb))|refine rt ?_|refine gA rfl ?_|refine gB rfl ?_|apply cT rfl|apply cF rfl|(apply DM.gbT;rfl)|(apply DM.gbF;rfl)|intro h
  (apply DM.apO (t := tk); (· rfl); (· exact t_B t_same); (· rfl); (· simp only [List.length_map, List.length_append, List.length_cons, List.length_nil, List.length_take, codeL, List.length_mapIdx]; omega); (· simp only [List.length_map, List.length_append, List.length_cons, List.length_nil, List.length_take, codeL, List.length_mapIdx]; unfold maxLen; omega))
  repeat' first|(apply Sp.go;·constructor<;>first|exact ss|(change _=_;first|(simp only[go_sem,Nat.reduceBEq,Nat.reduceAdd,Nat.reduceLeDiff,reduceIte]<;>rfl)|rfl)|exact Nat.le_of_ble_eq_true rfl|decide|(repeat' first|(apply Lk.go;constructor)|assumption|exact nb ‹_› ‹_›|exact nt ‹_› ‹_›))|(intro b hb;repeat first|(refine fe hb ?_;intro _ _ hb)|(refine fT hb ?_;intro hb))|refine rt ?_|refine gA rfl ?_|refine gB rfl ?_|apply cT rfl|apply cF rfl|(apply DM.gbT;rfl)|(apply DM.gbF;rfl)|intro h
  refine AM.forget ((H.setB b1 36 p.cells).setT tk (.frz 9 1 ((([svcLine p] ++ p.vars.map varLine) ++ (p.hs.take (i + 1)).map onLine).map sr).length)) (hsub_own' ?_ ?_) ?_
  ·exact g_ne (by assumption) (by assumption)
  ·simp only [List.length_map, List.length_append, List.length_cons, List.length_nil, List.length_take, codeL, List.length_mapIdx]; omega
  refine AM.roundX (i + 1) ⟨rfl, by omega⟩ ?_ (show p.hs.length - (i + 1) < p.hs.length - i by omega)
  (repeat first | exact envle_nil _ | (refine envle_cons ?_ ?_; · (simp only [go_sem, Nat.reduceBEq, Nat.reduceAdd]; exact AVLe.refl _)))
  refine envle_cons ?_ ?_
  ·simp only [go_sem, Nat.reduceBEq, Nat.reduceAdd]
   refine avle_int ?_
   rw [inc64 h3 ok.hs]
  refine envle_cons ?_ (envle_nil _)
  simp only [Env.get, Nat.reduceBEq, cond_true, cond_false, beq_self_eq_true]
  refine avle_eq ?_
  rw [show ([svcLine p] ++ p.vars.map varLine) ++ (p.hs.take (i + 1)).map onLine = ([svcLine p] ++ p.vars.map varLine) ++ (p.hs.take i).map onLine ++ [onLine v] from by rw [List.take_add_one, hvx]; simp]
  simp [onLine]
 intro h3
 simp at h3
 rw [show i = p.hs.length by omega, List.take_length]
 clear h3 hi
 repeat' first|(apply Sp.go;·constructor<;>first|exact ss|(change _=_;first|(simp only[go_sem,Nat.reduceBEq,Nat.reduceAdd,Nat.reduceLeDiff,reduceIte]<;>rfl)|rfl)|exact Nat.le_of_ble_eq_true rfl|decide|(repeat' first|(apply Lk.go;constructor)|assumption|exact nb ‹_› ‹_›|exact nt ‹_› ‹_›))|(intro b hb;repeat first|(refine fe hb ?_;intro _ _ hb)|(refine fT hb ?_;intro hb))|refine rt ?_|refine gA rfl ?_|refine gB rfl ?_|apply cT rfl|apply cF rfl|(apply DM.gbT;rfl)|(apply DM.gbF;rfl)|intro h
 refine AM.loopX (X := Nat) 0 (fun i => [(1, .ptr b1 0), (79, .vs 4 (p.os.map Of_.row)), (80, .int .i64 p.os.length), (81, .int .i64 i), (3, .own tk 1 ((([svcLine p] ++ p.vars.map varLine ++ p.hs.map onLine) ++ (p.os.take i).map offLine).map sr))]) (fun i H' => H' = (H.setB b1 36 p.cells).setT tk (.frz 9 1 ((([svcLine p] ++ p.vars.map varLine ++ p.hs.map onLine) ++ (p.os.take i).map offLine).map sr).length) ∧ i ≤ p.os.length) (fun i => p.os.length - i) ?_ ?_ ?_
 ·refine ⟨?_, by omega⟩
  simp [codeL, List.length_mapIdx]
 ·(repeat first | exact envle_nil _ | (refine envle_cons ?_ ?_; · (simp only [go_sem, Nat.reduceBEq, Nat.reduceAdd]; exact AVLe.refl _)))
  refine envle_cons ?_ (envle_cons ?_ (envle_cons ?_ (envle_nil _)))
  ·simp only [Env.get, Nat.reduceBEq, cond_true, cond_false, beq_self_eq_true]
   exact avle_int (by simp)
  ·simp only [Env.get, Nat.reduceBEq, cond_true, cond_false, beq_self_eq_true]
   exact AVLe.refl _
  ·simp only [Env.get, Nat.reduceBEq, cond_true, cond_false, beq_self_eq_true]
   refine avle_eq ?_
   simp [codeL]
 rintro i H' ⟨rfl, hi⟩
 repeat' first|(apply Sp.go;·constructor<;>first|exact ss|(change _=_;first|(simp only[go_sem,Nat.reduceBEq,Nat.reduceAdd,Nat.reduceLeDiff,reduceIte]<;>rfl)|rfl)|exact Nat.le_of_ble_eq_true rfl|decide|(repeat' first|(apply Lk.go;constructor)|assumption|exact nb ‹_› ‹_›|exact nt ‹_› ‹_›))|(intro b hb;repeat first|(refine fe hb ?_;intro _ _ hb)|(refine fT hb ?_;intro hb))|refine rt ?_|refine gA rfl ?_|refine gB rfl ?_|apply cT rfl|apply cF rfl|(apply DM.gbT;rfl)|(apply DM.gbF;rfl)|intro h
 (apply AM.cond; (· rfl))
 ·intro h3
  simp at h3
  obtain ⟨v, hvx⟩ := some_of h3
  have hmem := List.mem_of_getElem? hvx
  have hlen : ((([svcLine p] ++ p.vars.map varLine ++ p.hs.map onLine) ++ (p.os.take i).map offLine).map sr).length ≤ 2000 := by
   have := vp.nv; have := vp.nh; have := vp.no; have := vp.code0
   simp only [List.length_map, List.length_append, List.length_cons, List.length_nil, List.length_take]
   omega
  repeat' first|(apply Sp.go;·constructor<;>first|exact ss|(change _=_;first|(simp only[go_sem,Nat.reduceBEq,Nat.reduceAdd,Nat.reduceLeDiff,reduceIte]<;>rfl)|rfl)|exact Nat.le_of_ble_eq_true rfl|decide|(repeat' first|(apply Lk.go;constructor)|assumption|exact nb ‹_› ‹_›|exact nt ‹_› ‹_›))|(intro b hb;repeat first|(refine fe hb ?_;intro _ _ hb)|(refine fT hb ?_;intro hb))|refine rt ?_|refine gA rfl ?_|refine gB rfl ?_|apply cT rfl|apply cF rfl|(apply DM.gbT;rfl)|(apply DM.gbF;rfl)|intro h
  (apply DM.ixV (row := v.row) (z := (i : Int)) (by omega) (row_get Of_.row hvx); (· rfl); (· rfl))
  have hv1 := vp.os v hmem
  repeat' first|(apply Sp.go;·constructor<;>first|exact ss|(change _=_;first|(simp only[go_sem,Nat.reduceBEq,Nat.reduceAdd,Nat.reduceLeDiff,reduceIte]<;>rfl)|rfl)|exact Nat.le_of_ble_eq_true rfl|decide|(repeat' first|(apply Lk.go;constructor)|assumption|exact nb ‹_› ‹_›|exact nt ‹_› ‹_›))|(intro b hb;repeat first|(refine fe hb ?_;intro _ _ hb)|(refine fT hb ?_;intro hb))|refine rt ?_|refine gA rfl ?_|refine gB rfl ?_|apply cT rfl|apply cF rfl|(apply DM.gbT;rfl)|(apply DM.gbF;rfl)|intro h
  (apply DM.pcs (p74 [111, 102, 102, 101, 114] [v.peer, v.label, v.cond, v.args] (by simp) (by intro n hn; simp at hn; rcases hn with rfl | rfl | rfl | rfl <;> omega) (by simp)); (· simp only [go_sem, Nat.reduceBEq, Nat.reduceAdd] <;> rfl); (· exact AVLes.refl _))
  repeat' first|(apply Sp.go;·constructor<;>first|exact ss|(change _=_;first|(simp only[go_sem,Nat.reduceBEq,Nat.reduceAdd,Nat.reduceLeDiff,reduceIte]<;>rfl)|rfl)|exact Nat.le_of_ble_eq_true rfl|decide|(repeat' first|(apply Lk.go;constructor)|assumption|exact nb ‹_› ‹_›|exact nt ‹_› ‹_›))|(intro b hb;repeat first|(refine fe hb ?_;intro _ _ hb)|(refine fT hb ?_;intro hb))|refine rt ?_|refine gA rfl ?_|refine gB rfl ?_|apply cT rfl|apply cF rfl|(apply DM.gbT;rfl)|(apply DM.gbF;rfl)|intro h
  (apply DM.apO (t := tk); (· rfl); (· exact t_B t_same); (· rfl); (· simp only [List.length_map, List.length_append, List.length_cons, List.length_nil, List.length_take, codeL, List.length_mapIdx]; omega); (· simp only [List.length_map, List.length_append, List.length_cons, List.length_nil, List.length_take, codeL, List.length_mapIdx]; unfold maxLen; omega))
  repeat' first|(apply Sp.go;·constructor<;>first|exact ss|(change _=_;first|(simp only[go_sem,Nat.reduceBEq,Nat.reduceAdd,Nat.reduceLeDiff,reduceIte]<;>rfl)|rfl)|exact Nat.le_of_ble_eq_true rfl|decide|(repeat' first|(apply Lk.go;constructor)|assumption|exact nb ‹_› ‹_›|exact nt ‹_› ‹_›))|(intro b hb;repeat first|(refine fe hb ?_;intro _ _ hb)|(refine fT hb ?_;intro hb))|refine rt ?_|refine gA rfl ?_|refine gB rfl ?_|apply cT rfl|apply cF rfl|(apply DM.gbT;rfl)|(apply DM.gbF;rfl)|intro h
  refine AM.forget ((H.setB b1 36 p.cells).setT tk (.frz 9 1 ((([svcLine p] ++ p.vars.map varLine ++ p.hs.map onLine) ++ (p.os.take (i + 1)).map offLine).map sr).length)) (hsub_own' ?_ ?_) ?_
  ·exact g_ne (by assumption) (by assumption)
  ·simp only [List.length_map, List.length_append, List.length_cons, List.length_nil, List.length_take, codeL, List.length_mapIdx]; omega
  refine AM.roundX (i + 1) ⟨rfl, by omega⟩ ?_ (show p.os.length - (i + 1) < p.os.length - i by omega)
  (repeat first | exact envle_nil _ | (refine envle_cons ?_ ?_; · (simp only [go_sem, Nat.reduceBEq, Nat.reduceAdd]; exact AVLe.refl _)))
  refine envle_cons ?_ ?_
  ·simp only [go_sem, Nat.reduceBEq, Nat.reduceAdd]
   refine avle_int ?_
   rw [inc64 h3 ok.os]
  refine envle_cons ?_ (envle_nil _)
  simp only [Env.get, Nat.reduceBEq, cond_true, cond_false, beq_self_eq_true]
  refine avle_eq ?_
  rw [show ([svcLine p] ++ p.vars.map varLine ++ p.hs.map onLine) ++ (p.os.take (i + 1)).map offLine = ([svcLine p] ++ p.vars.map varLine ++ p.hs.map onLine) ++ (p.os.take i).map offLine ++ [offLine v] from by rw [List.take_add_one, hvx]; simp]
  simp [offLine]
 intro h3
 simp at h3
 rw [show i = p.os.length by omega, List.take_length]
 clear h3 hi
 repeat' first|(apply Sp.go;·constructor<;>first|exact ss|(change _=_;first|(simp only[go_sem,Nat.reduceBEq,Nat.reduceAdd,Nat.reduceLeDiff,reduceIte]<;>rfl)|rfl)|exact Nat.le_of_ble_eq_true rfl|decide|(repeat' first|(apply Lk.go;constructor)|assumption|exact nb ‹_› ‹_›|exact nt ‹_› ‹_›))|(intro b hb;repeat first|(refine fe hb ?_;intro _ _ hb)|(refine fT hb ?_;intro hb))|refine rt ?_|refine gA rfl ?_|refine gB rfl ?_|apply cT rfl|apply cF rfl|(apply DM.gbT;rfl)|(apply DM.gbF;rfl)|intro h
 refine AM.loopX (X := Nat) 0 (fun i => [(1, .ptr b1 0), (100, .vs 3 (p.code.map Ins_.row)), (101, .int .i64 p.code.length), (102, .int .i64 i), (3, .own tk 1 ((([svcLine p] ++ p.vars.map varLine ++ p.hs.map onLine ++ p.os.map offLine) ++ codeL (p.code.take i)).map sr))]) (fun i H' => H' = (H.setB b1 36 p.cells).setT tk (.frz 9 1 ((([svcLine p] ++ p.vars.map varLine ++ p.hs.map onLine ++ p.os.map offLine) ++ codeL (p.code.take i)).map sr).length) ∧ i ≤ p.code.length) (fun i => p.code.length - i) ?_ ?_ ?_
 ·refine ⟨?_, by omega⟩
  simp [codeL, List.length_mapIdx]
 ·(repeat first | exact envle_nil _ | (refine envle_cons ?_ ?_; · (simp only [go_sem, Nat.reduceBEq, Nat.reduceAdd]; exact AVLe.refl _)))
  refine envle_cons ?_ (envle_cons ?_ (envle_cons ?_ (envle_nil _)))
  ·simp only [Env.get, Nat.reduceBEq, cond_true, cond_false, beq_self_eq_true]
   exact avle_int (by simp)
  ·simp only [Env.get, Nat.reduceBEq, cond_true, cond_false, beq_self_eq_true]
   exact AVLe.refl _
  ·simp only [Env.get, Nat.reduceBEq, cond_true, cond_false, beq_self_eq_true]
   refine avle_eq ?_
   simp [codeL]
 rintro i H' ⟨rfl, hi⟩
 repeat' first|(apply Sp.go;·constructor<;>first|exact ss|(change _=_;first|(simp only[go_sem,Nat.reduceBEq,Nat.reduceAdd,Nat.reduceLeDiff,reduceIte]<;>rfl)|rfl)|exact Nat.le_of_ble_eq_true rfl|decide|(repeat' first|(apply Lk.go;constructor)|assumption|exact nb ‹_› ‹_›|exact nt ‹_› ‹_›))|(intro b hb;repeat first|(refine fe hb ?_;intro _ _ hb)|(refine fT hb ?_;intro hb))|refine rt ?_|refine gA rfl ?_|refine gB rfl ?_|apply cT rfl|apply cF rfl|(apply DM.gbT;rfl)|(apply DM.gbF;rfl)|intro h
 (apply AM.cond; (· rfl))
 ·intro h3
  simp at h3
  obtain ⟨v, hvx⟩ := some_of h3
  have hmem := List.mem_of_getElem? hvx
  have hlen : ((([svcLine p] ++ p.vars.map varLine ++ p.hs.map onLine ++ p.os.map offLine) ++ codeL (p.code.take i)).map sr).length ≤ 2000 := by
   have := vp.nv; have := vp.nh; have := vp.no; have := vp.code0
   simp only [List.length_map, List.length_append, List.length_cons, List.length_nil, List.length_take, codeL, List.length_mapIdx]
   omega
  repeat' first|(apply Sp.go;·constructor<;>first|exact ss|(change _=_;first|(simp only[go_sem,Nat.reduceBEq,Nat.reduceAdd,Nat.reduceLeDiff,reduceIte]<;>rfl)|rfl)|exact Nat.le_of_ble_eq_true rfl|decide|(repeat' first|(apply Lk.go;constructor)|assumption|exact nb ‹_› ‹_›|exact nt ‹_› ‹_›))|(intro b hb;repeat first|(refine fe hb ?_;intro _ _ hb)|(refine fT hb ?_;intro hb))|refine rt ?_|refine gA rfl ?_|refine gB rfl ?_|apply cT rfl|apply cF rfl|(apply DM.gbT;rfl)|(apply DM.gbF;rfl)|intro h
  (apply DM.ixV (row := v.row) (z := (i : Int)) (by omega) (row_get Ins_.row hvx); (· rfl); (· rfl))
  have hil := itoa_len (z := (i : Int)) (by omega) (by have := vp.code0; omega)
  have hsl := showI_len v
  repeat' first|(apply Sp.go;·constructor<;>first|exact ss|(change _=_;first|(simp only[go_sem,Nat.reduceBEq,Nat.reduceAdd,Nat.reduceLeDiff,reduceIte]<;>rfl)|rfl)|exact Nat.le_of_ble_eq_true rfl|decide|(repeat' first|(apply Lk.go;constructor)|assumption|exact nb ‹_› ‹_›|exact nt ‹_› ‹_›))|(intro b hb;repeat first|(refine fe hb ?_;intro _ _ hb)|(refine fT hb ?_;intro hb))|refine gA rfl ?_|refine gB rfl ?_|apply cT rfl|apply cF rfl|(apply DM.gbT;rfl)|(apply DM.gbF;rfl)|intro h
  (refine AM.reg [.str (Lib.itoa (i : Int)), .str (showI v)] ?_; simp only [annotate, AV.rows])
  repeat' first|(apply Sp.go;·constructor<;>first|exact ss|(change _=_;first|(simp only[go_sem,Nat.reduceBEq,Nat.reduceAdd,Nat.reduceLeDiff,reduceIte]<;>rfl)|rfl)|exact Nat.le_of_ble_eq_true rfl|decide|(repeat' first|(apply Lk.go;constructor)|assumption|exact nb ‹_› ‹_›|exact nt ‹_› ‹_›))|(intro b hb;repeat first|(refine fe hb ?_;intro _ _ hb)|(refine fT hb ?_;intro hb))|refine rt ?_|refine gA rfl ?_|refine gB rfl ?_|apply cT rfl|apply cF rfl|(apply DM.gbT;rfl)|(apply DM.gbF;rfl)|intro h
  (apply DM.pcRs (p46 (i : Int) (by omega) (by have := vp.code0; omega)); (· simp only [go_sem, Nat.reduceBEq, Nat.reduceAdd] <;> rfl); (· exact AVLes.refl _))
  repeat' first|(apply Sp.go;·constructor<;>first|exact ss|(change _=_;first|(simp only[go_sem,Nat.reduceBEq,Nat.reduceAdd,Nat.reduceLeDiff,reduceIte]<;>rfl)|rfl)|exact Nat.le_of_ble_eq_true rfl|decide|(repeat' first|(apply Lk.go;constructor)|assumption|exact nb ‹_› ‹_›|exact nt ‹_› ‹_›))|(intro b hb;repeat first|(refine fe hb ?_;intro _ _ hb)|(refine fT hb ?_;intro hb))|refine rt ?_|refine gA rfl ?_|refine gB rfl ?_|apply cT rfl|apply cF rfl|(apply DM.gbT;rfl)|(apply DM.gbF;rfl)|intro h
  (apply DM.catS; (· rfl); (· rfl); (· (simp only [List.length_append, List.length_cons, List.length_nil]; unfold maxLen; omega)))
  repeat' first|(apply Sp.go;·constructor<;>first|exact ss|(change _=_;first|(simp only[go_sem,Nat.reduceBEq,Nat.reduceAdd,Nat.reduceLeDiff,reduceIte]<;>rfl)|rfl)|exact Nat.le_of_ble_eq_true rfl|decide|(repeat' first|(apply Lk.go;constructor)|assumption|exact nb ‹_› ‹_›|exact nt ‹_› ‹_›))|(intro b hb;repeat first|(refine fe hb ?_;intro _ _ hb)|(refine fT hb ?_;intro hb))|refine rt ?_|refine gA rfl ?_|refine gB rfl ?_|apply cT rfl|apply cF rfl|(apply DM.gbT;rfl)|(apply DM.gbF;rfl)|intro h
  (apply DM.pcRs (p16 v); (· simp only [go_sem, Nat.reduceBEq, Nat.reduceAdd] <;> rfl); (· exact AVLes.refl _))
  repeat' first|(apply Sp.go;·constructor<;>first|exact ss|(change _=_;first|(simp only[go_sem,Nat.reduceBEq,Nat.reduceAdd,Nat.reduceLeDiff,reduceIte]<;>rfl)|rfl)|exact Nat.le_of_ble_eq_true rfl|decide|(repeat' first|(apply Lk.go;constructor)|assumption|exact nb ‹_› ‹_›|exact nt ‹_› ‹_›))|(intro b hb;repeat first|(refine fe hb ?_;intro _ _ hb)|(refine fT hb ?_;intro hb))|refine rt ?_|refine gA rfl ?_|refine gB rfl ?_|apply cT rfl|apply cF rfl|(apply DM.gbT;rfl)|(apply DM.gbF;rfl)|intro h
  (apply DM.catS; (· rfl); (· rfl); (· (simp only [List.length_append, List.length_cons, List.length_nil]; unfold maxLen; omega)))
  repeat' first|(apply Sp.go;·constructor<;>first|exact ss|(change _=_;first|(simp only[go_sem,Nat.reduceBEq,Nat.reduceAdd,Nat.reduceLeDiff,reduceIte]<;>rfl)|rfl)|exact Nat.le_of_ble_eq_true rfl|decide|(repeat' first|(apply Lk.go;constructor)|assumption|exact nb ‹_› ‹_›|exact nt ‹_› ‹_›))|(intro b hb;repeat first|(refine fe hb ?_;intro _ _ hb)|(refine fT hb ?_;intro hb))|refine rt ?_|refine gA rfl ?_|refine gB rfl ?_|apply cT rfl|apply cF rfl|(apply DM.gbT;rfl)|(apply DM.gbF;rfl)|intro h
  (apply DM.apO (t := tk); (· rfl); (· exact t_B t_same); (· rfl); (· simp only [List.length_map, List.length_append, List.length_cons, List.length_nil, List.length_take, codeL, List.length_mapIdx]; omega); (· simp only [List.length_map, List.length_append, List.length_cons, List.length_nil, List.length_take, codeL, List.length_mapIdx]; unfold maxLen; omega))
  repeat' first|(apply Sp.go;·constructor<;>first|exact ss|(change _=_;first|(simp only[go_sem,Nat.reduceBEq,Nat.reduceAdd,Nat.reduceLeDiff,reduceIte]<;>rfl)|rfl)|exact Nat.le_of_ble_eq_true rfl|decide|(repeat' first|(apply Lk.go;constructor)|assumption|exact nb ‹_› ‹_›|exact nt ‹_› ‹_›))|(intro b hb;repeat first|(refine fe hb ?_;intro _ _ hb)|(refine fT hb ?_;intro hb))|refine rt ?_|refine gA rfl ?_|refine gB rfl ?_|apply cT rfl|apply cF rfl|(apply DM.gbT;rfl)|(apply DM.gbF;rfl)|intro h
  refine AM.forget ((H.setB b1 36 p.cells).setT tk (.frz 9 1 ((([svcLine p] ++ p.vars.map varLine ++ p.hs.map onLine ++ p.os.map offLine) ++ codeL (p.code.take (i + 1))).map sr).length)) (hsub_own' ?_ ?_) ?_
  ·exact g_ne (by assumption) (by assumption)
  ·simp only [List.length_map, List.length_append, List.length_cons, List.length_nil, List.length_take, codeL, List.length_mapIdx]; omega
  refine AM.roundX (i + 1) ⟨rfl, by omega⟩ ?_ (show p.code.length - (i + 1) < p.code.length - i by omega)
  (repeat first | exact envle_nil _ | (refine envle_cons ?_ ?_; · (simp only [go_sem, Nat.reduceBEq, Nat.reduceAdd]; exact AVLe.refl _)))
  refine envle_cons ?_ ?_
  ·simp only [go_sem, Nat.reduceBEq, Nat.reduceAdd]
   refine avle_int ?_
   rw [inc64 h3 ok.code]
  refine envle_cons ?_ (envle_nil _)
  simp only [Env.get, Nat.reduceBEq, cond_true, cond_false, beq_self_eq_true]
  refine avle_eq ?_
  rw [show ([svcLine p] ++ p.vars.map varLine ++ p.hs.map onLine ++ p.os.map offLine) ++ codeL (p.code.take (i + 1)) = ([svcLine p] ++ p.vars.map varLine ++ p.hs.map onLine ++ p.os.map offLine) ++ codeL (p.code.take i) ++ [insLine i v] from by rw [codeL_take hvx]; simp]
  simp [insLine]
 intro h3
 simp at h3
 rw [show i = p.code.length by omega, List.take_length]
 clear h3 hi
 repeat' first|(apply Sp.go;·constructor<;>first|exact ss|(change _=_;first|(simp only[go_sem,Nat.reduceBEq,Nat.reduceAdd,Nat.reduceLeDiff,reduceIte]<;>rfl)|rfl)|exact Nat.le_of_ble_eq_true rfl|decide|(repeat' first|(apply Lk.go;constructor)|assumption|exact nb ‹_› ‹_›|exact nt ‹_› ‹_›))|(intro b hb;repeat first|(refine fe hb ?_;intro _ _ hb)|(refine fT hb ?_;intro hb))|refine rt ?_|refine gA rfl ?_|refine gB rfl ?_|apply cT rfl|apply cF rfl|(apply DM.gbT;rfl)|(apply DM.gbF;rfl)|intro h
 (apply Sr.go;·constructor<;>first|(apply Lk.go;constructor<;>first|exact ss|(change _=_;first|(simp only[go_sem,Nat.reduceBEq,Nat.reduceAdd,Nat.reduceLeDiff,reduceIte]<;>rfl)|rfl)|exact Nat.le_of_ble_eq_true rfl|decide|(repeat' first|(apply Lk.go;constructor)|assumption|exact nb ‹_› ‹_›|exact nt ‹_› ‹_›))|assumption)
 exact AVLe.own
theorem own_of {f : FuncId} {fn : Func} {args : List AV} {e : EC} {rs : List ERes} {H H' : AHeap} {r : AV} (hm : Tryz.prog.follows .mixedOrders = true) (hf : Tryz.prog.funcs[f]? = some fn) (hc : chkF Tryz.prog fn args.length e rs = true)
  (h : AM Tryz.prog rs (fun o H2 => ∃ a, o = .ret a ∧ AVLe a r ∧ HSub H' H2) [.c e] (initEnv args) H) : ACalls Tryz.prog f args H (Ret fun a H2 => a = r ∧ H2 = H') :=
 (acalls_of hm hf hc h).mono fun o H2 ⟨a, e, ha, hs⟩ => ⟨.ret r, H', by subst e; exact ha, hs, r, rfl, rfl, rfl⟩
def zig (n : Int) : Nat := if 0 ≤ n then 2 * n.toNat else 2 * (-n).toNat - 1
def enc (n : Int) : List Nat := if zig n < 128 then [zig n] else [zig n % 128 + 128, zig n / 128]
def encT (s : List UInt8) : List Nat := enc s.length ++ s.map (·.toNat)
def brow (b : Nat) : List AV := [.int .u8 (b : Int)]
def zigC (n : Int) : Int := IntKind.u64.wrap (BitVec.ofInt 64 (IntKind.u64.wrap (IntKind.u64.wrap n * 2 ^ 1)) ^^^ BitVec.ofInt 64 (IntKind.u64.wrap (n.fdiv (2 ^ 63)))).toNat
theorem zigN : ∀ i : Fin 2001, zigC ((i.val : Int) - 1000) = (zig ((i.val : Int) - 1000) : Int) := by decide +kernel
theorem zigC_eq {n : Int} (h0 : -1000 ≤ n) (h1 : n ≤ 1000) : zigC n = (zig n : Int) := by
 have := zigN ⟨(n + 1000).toNat, by omega⟩
 have e : (((n + 1000).toNat : Nat) : Int) - 1000 = n := by omega
 simpa only [e] using this
theorem zig_le {n : Int} (h0 : -1000 ≤ n) (h1 : n ≤ 1000) : zig n ≤ 2000 := by unfold zig; split <;> omega
theorem lowN : ∀ i : Fin 2048, IntKind.u8.wrap (BitVec.ofInt 8 (IntKind.u8.wrap (i.val : Int)) ||| BitVec.ofInt 8 128).toNat = ((i.val % 128 + 128 : Nat) : Int) := by decide +kernel
theorem low_eq {u : Nat} (h : u < 2048) : IntKind.u8.wrap (BitVec.ofInt IntKind.u8.bits (IntKind.u8.wrap (u : Int)) ||| BitVec.ofInt IntKind.u8.bits 128).toNat = ((u % 128 + 128 : Nat) : Int) := lowN ⟨u, h⟩
theorem w8 {u : Nat} (h : u < 128) : IntKind.u8.wrap (u : Int) = (u : Int) := by
 have : ∀ i : Fin 128, IntKind.u8.wrap (i.val : Int) = (i.val : Int) := by decide +kernel
 exact this ⟨u, h⟩
theorem shN {u : Nat} : Int.fdiv (u : Int) (2 ^ 7) = ((u / 128 : Nat) : Int) := by
 rw [Int.fdiv_eq_ediv_of_nonneg _ (by decide)]
 norm_cast
def E96 (t : Nat) (rows : List (List AV)) (u : Nat) : Nat → Env
 | 0 => [(0, .own t 1 rows), (5, .int .u64 (u : Int)), (4, .nilS)]
 | _ => [(0, .own t 1 (rows ++ [brow (u % 128 + 128)])), (5, .int .u64 ((u / 128 : Nat) : Int)), (4, .nilS)]
def G96 (H : AHeap) (t : Nat) (rows : List (List AV)) : Nat → AHeap
 | 0 => H
 | _ => H.setT t (.frz 5 1 (rows.length + 1))
theorem p96 (t : Nat) (rows : List (List AV)) (n : Int) (H : AHeap) (ht : H.tok t = some (.frz 5 1 rows.length)) (hr : rows.length ≤ 1000000) (h0 : -1000 ≤ n) (h1 : n ≤ 1000) :
  ACalls Tryz.prog 96 [.own t 1 rows, .int .i64 n] H (Ret fun a H2 => a = .own t 1 (rows ++ (enc n).map brow) ∧ H2 = H.setT t (.frz 5 1 (rows ++ (enc n).map brow).length)) := by
 refine own_of mo Tryz.func96 c96 ?_
 unfold e96 r96
 simp only [initEnv, initFrom]
 have hz := zigC_eq h0 h1
 have hu := zig_le h0 h1
 generalize hzu : zig n = u at hz hu
 have he : enc n = if u < 128 then [u] else [u % 128 + 128, u / 128] := by unfold enc; rw [hzu]
 rw [he]
 repeat' first|(apply Sp.go;·constructor<;>first|exact ss|(change _=_;first|(simp only[go_sem,Nat.reduceBEq,Nat.reduceAdd,Nat.reduceLeDiff,reduceIte]<;>rfl)|rfl)|exact Nat.le_of_ble_eq_true rfl|decide|(repeat' first|(apply Lk.go;constructor)|assumption|exact nb ‹_› ‹_›|exact nt ‹_› ‹_›))|(intro b hb;repeat first|(refine fe hb ?_;intro _ _ hb)|(refine fT hb ?_;intro hb))|refine rt ?_|refine gA rfl ?_|refine gB rfl ?_|apply cT rfl|apply cF rfl|(apply DM.gbT;rfl)|(apply DM.gbF;rfl)|intro h
 refine AM.loopX (X := Nat) 0 (E96 t rows u) (fun k H' => H' = G96 H t rows k ∧ (k = 0 ∨ k = 1 ∧ 128 ≤ u)) (fun k => 1 - k) ⟨rfl, .inl rfl⟩ ?_ ?_
 ·unfold E96
  refine envle_cons ?_ (envle_cons ?_ (envle_cons ?_ (envle_nil _)))
  ·exact AVLe.refl _
  ·simp only [Env.get, Nat.reduceBEq, cond_true, cond_false, beq_self_eq_true]
   exact avle_int hz
  ·exact AVLe.refl _
 rintro k H' ⟨rfl, rfl | ⟨rfl, hk⟩⟩
 ·simp only [E96, G96]
  repeat' first|(apply Sp.go;·constructor<;>first|exact ss|(change _=_;first|(simp only[go_sem,Nat.reduceBEq,Nat.reduceAdd,Nat.reduceLeDiff,reduceIte]<;>rfl)|rfl)|exact Nat.le_of_ble_eq_true rfl|decide|(repeat' first|(apply Lk.go;constructor)|assumption|exact nb ‹_› ‹_›|exact nt ‹_› ‹_›))|(intro b hb;repeat first|(refine fe hb ?_;intro _ _ hb)|(refine fT hb ?_;intro hb))|refine rt ?_|refine gA rfl ?_|refine gB rfl ?_|apply cT rfl|apply cF rfl|(apply DM.gbT;rfl)|(apply DM.gbF;rfl)|intro h
  (apply AM.cond; (· rfl))
  ·intro h
   have hk : 128 ≤ u := by simp at h; omega
   repeat' first|(apply Sp.go;·constructor<;>first|exact ss|(change _=_;first|(simp only[go_sem,Nat.reduceBEq,Nat.reduceAdd,Nat.reduceLeDiff,reduceIte]<;>rfl)|rfl)|exact Nat.le_of_ble_eq_true rfl|decide|(repeat' first|(apply Lk.go;constructor)|assumption|exact nb ‹_› ‹_›|exact nt ‹_› ‹_›))|(intro b hb;repeat first|(refine fe hb ?_;intro _ _ hb)|(refine fT hb ?_;intro hb))|refine rt ?_|refine gA rfl ?_|refine gB rfl ?_|apply cT rfl|apply cF rfl|(apply DM.gbT;rfl)|(apply DM.gbF;rfl)|intro h
   have hlow := low_eq (u := u) (by omega)
   (apply DM.apO (t := t); (· rfl); (· exact ht); (· rfl); (· simp only [List.length_cons, List.length_nil]; omega); (· simp only [List.length_cons, List.length_nil]; unfold maxLen; omega))
   repeat' first|(apply Sp.go;·constructor<;>first|exact ss|(change _=_;first|(simp only[go_sem,Nat.reduceBEq,Nat.reduceAdd,Nat.reduceLeDiff,reduceIte]<;>rfl)|rfl)|exact Nat.le_of_ble_eq_true rfl|decide|(repeat' first|(apply Lk.go;constructor)|assumption|exact nb ‹_› ‹_›|exact nt ‹_› ‹_›))|(intro b hb;repeat first|(refine fe hb ?_;intro _ _ hb)|(refine fT hb ?_;intro hb))|refine rt ?_|refine gA rfl ?_|refine gB rfl ?_|apply cT rfl|apply cF rfl|(apply DM.gbT;rfl)|(apply DM.gbF;rfl)|intro h
   rw [show (u : Int).fdiv (2 ^ min (Int.toNat 7) 64) = ((u / 128 : Nat) : Int) from shN]
   repeat' first|(apply Sp.go;·constructor<;>first|exact ss|(change _=_;first|(simp only[go_sem,Nat.reduceBEq,Nat.reduceAdd,Nat.reduceLeDiff,reduceIte]<;>rfl)|rfl)|exact Nat.le_of_ble_eq_true rfl|decide|(repeat' first|(apply Lk.go;constructor)|assumption|exact nb ‹_› ‹_›|exact nt ‹_› ‹_›))|(intro b hb;repeat first|(refine fe hb ?_;intro _ _ hb)|(refine fT hb ?_;intro hb))|refine rt ?_|refine gA rfl ?_|refine gB rfl ?_|apply cT rfl|apply cF rfl|(apply DM.gbT;rfl)|(apply DM.gbF;rfl)|intro h
   refine AM.roundX 1 ⟨rfl, .inr ⟨rfl, hk⟩⟩ ?_ (by decide)
   unfold E96
   refine envle_cons ?_ (envle_cons ?_ (envle_cons ?_ (envle_nil _)))
   ·simp only [Env.get, Nat.reduceBEq, cond_true, cond_false, beq_self_eq_true]
    exact avle_eq (congrArg (fun z => AV.own t 1 (rows ++ [[AV.int .u8 z]])) hlow)
   ·exact AVLe.refl _
   ·exact AVLe.refl _
  ·intro h
   have hk : u < 128 := by simp at h; omega
   rw [if_pos hk]
   repeat' first|(apply Sp.go;·constructor<;>first|exact ss|(change _=_;first|(simp only[go_sem,Nat.reduceBEq,Nat.reduceAdd,Nat.reduceLeDiff,reduceIte]<;>rfl)|rfl)|exact Nat.le_of_ble_eq_true rfl|decide|(repeat' first|(apply Lk.go;constructor)|assumption|exact nb ‹_› ‹_›|exact nt ‹_› ‹_›))|(intro b hb;repeat first|(refine fe hb ?_;intro _ _ hb)|(refine fT hb ?_;intro hb))|refine rt ?_|refine gA rfl ?_|refine gB rfl ?_|apply cT rfl|apply cF rfl|(apply DM.gbT;rfl)|(apply DM.gbF;rfl)|intro h
   rw [w8 hk]
   (apply DM.apO (t := t); (· rfl); (· exact ht); (· rfl); (· simp only [List.length_cons, List.length_nil]; omega); (· simp only [List.length_cons, List.length_nil]; unfold maxLen; omega))
   repeat' first|(apply Sp.go;·constructor<;>first|exact ss|(change _=_;first|(simp only[go_sem,Nat.reduceBEq,Nat.reduceAdd,Nat.reduceLeDiff,reduceIte]<;>rfl)|rfl)|exact Nat.le_of_ble_eq_true rfl|decide|(repeat' first|(apply Lk.go;constructor)|assumption|exact nb ‹_› ‹_›|exact nt ‹_› ‹_›))|(intro b hb;repeat first|(refine fe hb ?_;intro _ _ hb)|(refine fT hb ?_;intro hb))|refine rt ?_|refine gA rfl ?_|refine gB rfl ?_|apply cT rfl|apply cF rfl|(apply DM.gbT;rfl)|(apply DM.gbF;rfl)|intro h
   refine AM.eqH (show _ = H.setT t (.frz 5 1 (rows ++ List.map brow [u]).length) by simp) ?_
   (apply Sr.go;·constructor<;>first|(apply Lk.go;constructor<;>first|exact ss|(change _=_;first|(simp only[go_sem,Nat.reduceBEq,Nat.reduceAdd,Nat.reduceLeDiff,reduceIte]<;>rfl)|rfl)|exact Nat.le_of_ble_eq_true rfl|decide|(repeat' first|(apply Lk.go;constructor)|assumption|exact nb ‹_› ‹_›|exact nt ‹_› ‹_›))|assumption)
   exact AVLe.refl _
 ·simp only [E96, G96]
  repeat' first|(apply Sp.go;·constructor<;>first|exact ss|(change _=_;first|(simp only[go_sem,Nat.reduceBEq,Nat.reduceAdd,Nat.reduceLeDiff,reduceIte]<;>rfl)|rfl)|exact Nat.le_of_ble_eq_true rfl|decide|(repeat' first|(apply Lk.go;constructor)|assumption|exact nb ‹_› ‹_›|exact nt ‹_› ‹_›))|(intro b hb;repeat first|(refine fe hb ?_;intro _ _ hb)|(refine fT hb ?_;intro hb))|refine rt ?_|refine gA rfl ?_|refine gB rfl ?_|apply cT rfl|apply cF rfl|(apply DM.gbT;rfl)|(apply DM.gbF;rfl)|intro h
  (apply AM.cond; (· rfl))
  ·intro h
   exfalso
   have : 128 ≤ u / 128 := by simp at h; omega
   omega
  ·intro _
   rw [if_neg (show ¬ u < 128 by omega)]
   repeat' first|(apply Sp.go;·constructor<;>first|exact ss|(change _=_;first|(simp only[go_sem,Nat.reduceBEq,Nat.reduceAdd,Nat.reduceLeDiff,reduceIte]<;>rfl)|rfl)|exact Nat.le_of_ble_eq_true rfl|decide|(repeat' first|(apply Lk.go;constructor)|assumption|exact nb ‹_› ‹_›|exact nt ‹_› ‹_›))|(intro b hb;repeat first|(refine fe hb ?_;intro _ _ hb)|(refine fT hb ?_;intro hb))|refine rt ?_|refine gA rfl ?_|refine gB rfl ?_|apply cT rfl|apply cF rfl|(apply DM.gbT;rfl)|(apply DM.gbF;rfl)|intro h
   rw [w8 (show u / 128 < 128 by omega)]
   (apply DM.apO (t := t); (· rfl); (· simp only [List.length_append, List.length_cons, List.length_nil, Nat.zero_add]; exact t_same); (· rfl); (· simp only [List.length_append, List.length_cons, List.length_nil]; omega); (· simp only [List.length_append, List.length_cons, List.length_nil]; unfold maxLen; omega))
   repeat' first|(apply Sp.go;·constructor<;>first|exact ss|(change _=_;first|(simp only[go_sem,Nat.reduceBEq,Nat.reduceAdd,Nat.reduceLeDiff,reduceIte]<;>rfl)|rfl)|exact Nat.le_of_ble_eq_true rfl|decide|(repeat' first|(apply Lk.go;constructor)|assumption|exact nb ‹_› ‹_›|exact nt ‹_› ‹_›))|(intro b hb;repeat first|(refine fe hb ?_;intro _ _ hb)|(refine fT hb ?_;intro hb))|refine rt ?_|refine gA rfl ?_|refine gB rfl ?_|apply cT rfl|apply cF rfl|(apply DM.gbT;rfl)|(apply DM.gbF;rfl)|intro h
   refine AM.eqH (show _ = H.setT t (.frz 5 1 (rows ++ List.map brow [u % 128 + 128, u / 128]).length) by rw [setT_setT]; simp) ?_
   (apply Sr.go;·constructor<;>first|(apply Lk.go;constructor<;>first|exact ss|(change _=_;first|(simp only[go_sem,Nat.reduceBEq,Nat.reduceAdd,Nat.reduceLeDiff,reduceIte]<;>rfl)|rfl)|exact Nat.le_of_ble_eq_true rfl|decide|(repeat' first|(apply Lk.go;constructor)|assumption|exact nb ‹_› ‹_›|exact nt ‹_› ‹_›))|assumption)
   rw [List.append_assoc]
   exact AVLe.refl _
def irow1 (n : Int) : List AV := [.int .i64 n]
theorem enc_len (n : Int) : (enc n).length ≤ 2 := by unfold enc; split <;> simp
theorem encs_len (ns : List Int) : (ns.flatMap enc).length ≤ 2 * ns.length := by
 induction ns with
 | nil => simp
 | cons n l ih =>
  have := enc_len n
  simp only [List.flatMap_cons, List.length_append, List.length_cons]
  omega
theorem setT_id {H : AHeap} {t : Nat} {o : Own} (h : H.tok t = some o) : H = H.setT t o := by
 cases H with
 | mk b k =>
  simp only [AHeap.setT, AHeap.mk.injEq, true_and]
  funext x
  by_cases e : x = t
  ·subst e; simp only [if_true]; exact h
  ·simp [e]
def RO (H : AHeap) (t : Nat) (rows : List (List AV)) : AV → AHeap → Prop := fun a H2 => a = .own t 1 rows ∧ H2 = H.setT t (.frz 5 1 rows.length)
theorem p57 (t : Nat) (rows : List (List AV)) (ns : List Int) (H : AHeap) (ht : H.tok t = some (.frz 5 1 rows.length)) (hr : rows.length + 2 * ns.length ≤ 1000000) (hn : ∀ n ∈ ns, -1000 ≤ n ∧ n ≤ 1000) :
  ACalls Tryz.prog 57 [.own t 1 rows, .vs 1 (ns.map irow1)] H (Ret (RO H t (rows ++ (ns.flatMap enc).map brow))) := by
 refine own_of mo Tryz.func57 c57 ?_
 unfold e57 r57
 simp only [initEnv, initFrom]
 have hnl : ns.length ≤ maxLen := by unfold maxLen; omega
 repeat' first|(apply Sp.go;·constructor<;>first|exact ss|(change _=_;first|(simp only[go_sem,Nat.reduceBEq,Nat.reduceAdd,Nat.reduceLeDiff,reduceIte]<;>rfl)|rfl)|exact Nat.le_of_ble_eq_true rfl|decide|(repeat' first|(apply Lk.go;constructor)|assumption|exact nb ‹_› ‹_›|exact nt ‹_› ‹_›))|(intro b hb;repeat first|(refine fe hb ?_;intro _ _ hb)|(refine fT hb ?_;intro hb))|refine rt ?_|refine gA rfl ?_|refine gB rfl ?_|apply cT rfl|apply cF rfl|(apply DM.gbT;rfl)|(apply DM.gbF;rfl)|intro h
 refine AM.loopX (X := Nat) 0 (fun i => [(0, .own t 1 (rows ++ ((ns.take i).flatMap enc).map brow)), (7, .vs 1 (ns.map irow1)), (8, .int .i64 ns.length), (9, .int .i64 i), (4, .nilS)]) (fun i H' => H' = H.setT t (.frz 5 1 (rows ++ ((ns.take i).flatMap enc).map brow).length) ∧ i ≤ ns.length) (fun i => ns.length - i) ⟨?_, by omega⟩ ?_ ?_
 ·refine (setT_id ht).trans ?_
  simp
 ·refine envle_cons ?_ (envle_cons ?_ (envle_cons ?_ (envle_cons ?_ (envle_cons ?_ (envle_nil _)))))
  ·simp only [Env.get, Nat.reduceBEq, cond_true, cond_false, beq_self_eq_true]
   exact avle_eq (by simp)
  ·exact AVLe.refl _
  ·simp only [Env.get, Nat.reduceBEq, cond_true, cond_false, beq_self_eq_true]
   exact avle_int (by simp)
  ·exact AVLe.refl _
  ·exact AVLe.refl _
 rintro i H' ⟨rfl, hi⟩
 repeat' first|(apply Sp.go;·constructor<;>first|exact ss|(change _=_;first|(simp only[go_sem,Nat.reduceBEq,Nat.reduceAdd,Nat.reduceLeDiff,reduceIte]<;>rfl)|rfl)|exact Nat.le_of_ble_eq_true rfl|decide|(repeat' first|(apply Lk.go;constructor)|assumption|exact nb ‹_› ‹_›|exact nt ‹_› ‹_›))|(intro b hb;repeat first|(refine fe hb ?_;intro _ _ hb)|(refine fT hb ?_;intro hb))|refine rt ?_|refine gA rfl ?_|refine gB rfl ?_|apply cT rfl|apply cF rfl|(apply DM.gbT;rfl)|(apply DM.gbF;rfl)|intro h
 (apply AM.cond; (· rfl))
 ·intro h3
  simp at h3
  obtain ⟨v, hvx⟩ := some_of h3
  have hmem := hn v (List.mem_of_getElem? hvx)
  have hlen : (rows ++ ((ns.take i).flatMap enc).map brow).length ≤ 1000000 := by
   have := encs_len (ns.take i)
   simp only [List.length_append, List.length_map, List.length_take] at *
   omega
  repeat' first|(apply Sp.go;·constructor<;>first|exact ss|(change _=_;first|(simp only[go_sem,Nat.reduceBEq,Nat.reduceAdd,Nat.reduceLeDiff,reduceIte]<;>rfl)|rfl)|exact Nat.le_of_ble_eq_true rfl|decide|(repeat' first|(apply Lk.go;constructor)|assumption|exact nb ‹_› ‹_›|exact nt ‹_› ‹_›))|(intro b hb;repeat first|(refine fe hb ?_;intro _ _ hb)|(refine fT hb ?_;intro hb))|refine rt ?_|refine gA rfl ?_|refine gB rfl ?_|apply cT rfl|apply cF rfl|(apply DM.gbT;rfl)|(apply DM.gbF;rfl)|intro h
  (apply DM.ixV (row := irow1 v) (z := (i : Int)) (by omega) (row_get irow1 hvx); (· rfl); (· rfl))
  repeat' first|(apply Sp.go;·constructor<;>first|exact ss|(change _=_;first|(simp only[go_sem,Nat.reduceBEq,Nat.reduceAdd,Nat.reduceLeDiff,reduceIte]<;>rfl)|rfl)|exact Nat.le_of_ble_eq_true rfl|decide|(repeat' first|(apply Lk.go;constructor)|assumption|exact nb ‹_› ‹_›|exact nt ‹_› ‹_›))|(intro b hb;repeat first|(refine fe hb ?_;intro _ _ hb)|(refine fT hb ?_;intro hb))|refine rt ?_|refine gA rfl ?_|refine gB rfl ?_|apply cT rfl|apply cF rfl|(apply DM.gbT;rfl)|(apply DM.gbF;rfl)|intro h
  (apply DM.cal (p96 t (rows ++ ((ns.take i).flatMap enc).map brow) v (H.setT t (.frz 5 1 (rows ++ ((ns.take i).flatMap enc).map brow).length)) t_same hlen hmem.1 hmem.2); (· simp only [go_sem, Nat.reduceBEq, Nat.reduceAdd] <;> rfl); (· exact AVLes.refl _))
  rintro r H1 ⟨rfl, rfl⟩
  rw [setT_setT]
  repeat' first|(apply Sp.go;·constructor<;>first|exact ss|(change _=_;first|(simp only[go_sem,Nat.reduceBEq,Nat.reduceAdd,Nat.reduceLeDiff,reduceIte]<;>rfl)|rfl)|exact Nat.le_of_ble_eq_true rfl|decide|(repeat' first|(apply Lk.go;constructor)|assumption|exact nb ‹_› ‹_›|exact nt ‹_› ‹_›))|(intro b hb;repeat first|(refine fe hb ?_;intro _ _ hb)|(refine fT hb ?_;intro hb))|refine rt ?_|refine gA rfl ?_|refine gB rfl ?_|apply cT rfl|apply cF rfl|(apply DM.gbT;rfl)|(apply DM.gbF;rfl)|intro h
  have e1 : (rows ++ ((ns.take i).flatMap enc).map brow) ++ (enc v).map brow = rows ++ ((ns.take (i + 1)).flatMap enc).map brow := by
   rw [List.take_add_one, hvx]; simp
  rw [e1]
  refine AM.roundX (i + 1) ⟨rfl, by omega⟩ ?_ (show ns.length - (i + 1) < ns.length - i by omega)
  (repeat first | exact envle_nil _ | (refine envle_cons ?_ ?_; · (simp only [go_sem, Nat.reduceBEq, Nat.reduceAdd]; exact AVLe.refl _)))
  refine envle_cons ?_ ?_
  ·simp only [go_sem, Nat.reduceBEq, Nat.reduceAdd]
   refine avle_int ?_
   rw [inc64 h3 hnl]
  exact envle_cons (AVLe.refl _) (envle_nil _)
 intro h3
 simp at h3
 rw [show i = ns.length by omega, List.take_length]
 repeat' first|(apply Sp.go;·constructor<;>first|exact ss|(change _=_;first|(simp only[go_sem,Nat.reduceBEq,Nat.reduceAdd,Nat.reduceLeDiff,reduceIte]<;>rfl)|rfl)|exact Nat.le_of_ble_eq_true rfl|decide|(repeat' first|(apply Lk.go;constructor)|assumption|exact nb ‹_› ‹_›|exact nt ‹_› ‹_›))|(intro b hb;repeat first|(refine fe hb ?_;intro _ _ hb)|(refine fT hb ?_;intro hb))|refine rt ?_|refine gA rfl ?_|refine gB rfl ?_|apply cT rfl|apply cF rfl|(apply DM.gbT;rfl)|(apply DM.gbF;rfl)|intro h
 (apply Sr.go;·constructor<;>first|(apply Lk.go;constructor<;>first|exact ss|(change _=_;first|(simp only[go_sem,Nat.reduceBEq,Nat.reduceAdd,Nat.reduceLeDiff,reduceIte]<;>rfl)|rfl)|exact Nat.le_of_ble_eq_true rfl|decide|(repeat' first|(apply Lk.go;constructor)|assumption|exact nb ‹_› ‹_›|exact nt ‹_› ‹_›))|assumption)
 exact AVLe.refl _
theorem p58 (t : Nat) (rows : List (List AV)) (s : List UInt8) (H : AHeap) (ht : H.tok t = some (.frz 5 1 rows.length)) (hr : rows.length ≤ 900000) (hs : s.length ≤ 1000) :
  ACalls Tryz.prog 58 [.own t 1 rows, .str s] H (Ret (RO H t (rows ++ (encT s).map brow))) := by
 refine own_of mo Tryz.func58 c58 ?_
 unfold e58 r58
 simp only [initEnv, initFrom]
 have hel := enc_len s.length
 repeat' first|(apply Sp.go;·constructor<;>first|exact ss|(change _=_;first|(simp only[go_sem,Nat.reduceBEq,Nat.reduceAdd,Nat.reduceLeDiff,reduceIte]<;>rfl)|rfl)|exact Nat.le_of_ble_eq_true rfl|decide|(repeat' first|(apply Lk.go;constructor)|assumption|exact nb ‹_› ‹_›|exact nt ‹_› ‹_›))|(intro b hb;repeat first|(refine fe hb ?_;intro _ _ hb)|(refine fT hb ?_;intro hb))|refine rt ?_|refine gA rfl ?_|refine gB rfl ?_|apply cT rfl|apply cF rfl|(apply DM.gbT;rfl)|(apply DM.gbF;rfl)|intro h
 (apply DM.cal (p96 t rows s.length H ht (by omega) (by omega) (by omega)); (· simp only [go_sem, Nat.reduceBEq, Nat.reduceAdd] <;> rfl); (· exact AVLes.refl _))
 rintro r H1 ⟨rfl, rfl⟩
 repeat' first|(apply Sp.go;·constructor<;>first|exact ss|(change _=_;first|(simp only[go_sem,Nat.reduceBEq,Nat.reduceAdd,Nat.reduceLeDiff,reduceIte]<;>rfl)|rfl)|exact Nat.le_of_ble_eq_true rfl|decide|(repeat' first|(apply Lk.go;constructor)|assumption|exact nb ‹_› ‹_›|exact nt ‹_› ‹_›))|(intro b hb;repeat first|(refine fe hb ?_;intro _ _ hb)|(refine fT hb ?_;intro hb))|refine rt ?_|refine gA rfl ?_|refine gB rfl ?_|apply cT rfl|apply cF rfl|(apply DM.gbT;rfl)|(apply DM.gbF;rfl)|intro h
 (apply DM.apO (t := t); (· rfl); (· exact t_same); (· rfl); (· simp only [List.length_append, List.length_map]; omega); (· simp only [List.length_append, List.length_map]; unfold maxLen; omega))
 repeat' first|(apply Sp.go;·constructor<;>first|exact ss|(change _=_;first|(simp only[go_sem,Nat.reduceBEq,Nat.reduceAdd,Nat.reduceLeDiff,reduceIte]<;>rfl)|rfl)|exact Nat.le_of_ble_eq_true rfl|decide|(repeat' first|(apply Lk.go;constructor)|assumption|exact nb ‹_› ‹_›|exact nt ‹_› ‹_›))|(intro b hb;repeat first|(refine fe hb ?_;intro _ _ hb)|(refine fT hb ?_;intro hb))|refine rt ?_|refine gA rfl ?_|refine gB rfl ?_|apply cT rfl|apply cF rfl|(apply DM.gbT;rfl)|(apply DM.gbF;rfl)|intro h
 rw [setT_setT]
 have e1 : (rows ++ (enc (s.length : Int)).map brow) ++ s.map (fun c => [AV.int .u8 c.toNat]) = rows ++ (encT s).map brow := by
  simp only [encT, List.map_append, List.map_map, List.append_assoc]
  rfl
 refine AM.eqH (show _ = H.setT t (.frz 5 1 (rows ++ (encT s).map brow).length) by rw [← e1]; simp [Nat.add_assoc]) ?_
 (apply Sr.go;·constructor<;>first|(apply Lk.go;constructor<;>first|exact ss|(change _=_;first|(simp only[go_sem,Nat.reduceBEq,Nat.reduceAdd,Nat.reduceLeDiff,reduceIte]<;>rfl)|rfl)|exact Nat.le_of_ble_eq_true rfl|decide|(repeat' first|(apply Lk.go;constructor)|assumption|exact nb ‹_› ‹_›|exact nt ‹_› ‹_›))|assumption)
 rw [← e1]
 exact AVLe.refl _
theorem p58n (s : List UInt8) (H : AHeap) (hs : s.length ≤ 1000) :
  ACalls Tryz.prog 58 [.nilS, .str s] H (Ret fun a H2 => ∃ t, H.tok t = none ∧ RO H t ((encT s).map brow) a H2) := by
 refine ACalls.mono (acalls_of (args := [.nilS, .str s]) (H := H) (R := fun o H2 => ∃ t, H.tok t = none ∧ ∃ a, o = .ret a ∧ AVLe a (.own t 1 ((encT s).map brow)) ∧ HSub (H.setT t (.frz 5 1 ((encT s).map brow).length)) H2) mo Tryz.func58 c58 ?_) fun o H2 ⟨t, h0, a, e, ha, hs⟩ => ⟨.ret (.own t 1 ((encT s).map brow)), H.setT t (.frz 5 1 ((encT s).map brow).length), by subst e; exact ha, hs, _, rfl, t, h0, rfl, rfl⟩
 unfold e58 r58
 simp only [initEnv, initFrom]
 have hel := enc_len s.length
 refine AM.ghostO 0 5 1 (by decide) rfl fun t h0 => ?_
 repeat' first|(apply Sp.go;·constructor<;>first|exact ss|(change _=_;first|(simp only[go_sem,Nat.reduceBEq,Nat.reduceAdd,Nat.reduceLeDiff,reduceIte]<;>rfl)|rfl)|exact Nat.le_of_ble_eq_true rfl|decide|(repeat' first|(apply Lk.go;constructor)|assumption|exact nb ‹_› ‹_›|exact nt ‹_› ‹_›))|(intro b hb;repeat first|(refine fe hb ?_;intro _ _ hb)|(refine fT hb ?_;intro hb))|refine rt ?_|refine gA rfl ?_|refine gB rfl ?_|apply cT rfl|apply cF rfl|(apply DM.gbT;rfl)|(apply DM.gbF;rfl)|intro h
 (apply DM.cal (p96 t [] s.length (H.setT t (.frz 5 1 0)) t_same (by simp) (by omega) (by omega)); (· simp only [go_sem, Nat.reduceBEq, Nat.reduceAdd] <;> rfl); (· exact AVLes.refl _))
 rintro r H1 ⟨rfl, rfl⟩
 repeat' first|(apply Sp.go;·constructor<;>first|exact ss|(change _=_;first|(simp only[go_sem,Nat.reduceBEq,Nat.reduceAdd,Nat.reduceLeDiff,reduceIte]<;>rfl)|rfl)|exact Nat.le_of_ble_eq_true rfl|decide|(repeat' first|(apply Lk.go;constructor)|assumption|exact nb ‹_› ‹_›|exact nt ‹_› ‹_›))|(intro b hb;repeat first|(refine fe hb ?_;intro _ _ hb)|(refine fT hb ?_;intro hb))|refine rt ?_|refine gA rfl ?_|refine gB rfl ?_|apply cT rfl|apply cF rfl|(apply DM.gbT;rfl)|(apply DM.gbF;rfl)|intro h
 (apply DM.apO (t := t); (· rfl); (· exact t_same); (· rfl); (· simp only [List.length_append, List.length_map, List.length_nil]; omega); (· simp only [List.length_append, List.length_map, List.length_nil]; unfold maxLen; omega))
 repeat' first|(apply Sp.go;·constructor<;>first|exact ss|(change _=_;first|(simp only[go_sem,Nat.reduceBEq,Nat.reduceAdd,Nat.reduceLeDiff,reduceIte]<;>rfl)|rfl)|exact Nat.le_of_ble_eq_true rfl|decide|(repeat' first|(apply Lk.go;constructor)|assumption|exact nb ‹_› ‹_›|exact nt ‹_› ‹_›))|(intro b hb;repeat first|(refine fe hb ?_;intro _ _ hb)|(refine fT hb ?_;intro hb))|refine rt ?_|refine gA rfl ?_|refine gB rfl ?_|apply cT rfl|apply cF rfl|(apply DM.gbT;rfl)|(apply DM.gbF;rfl)|intro h
 rw [setT_setT, setT_setT]
 have e1 : ([] ++ (enc (s.length : Int)).map brow) ++ s.map (fun c => [AV.int .u8 c.toNat]) = (encT s).map brow := by
  simp only [encT, List.map_append, List.map_map, List.nil_append]
  rfl
 refine AM.eqH (show _ = H.setT t (.frz 5 1 ((encT s).map brow).length) by rw [← e1]; simp) ?_
 (apply AM.ret; (· apply Lk.go;constructor<;>first|exact ss|(change _=_;first|(simp only[go_sem,Nat.reduceBEq,Nat.reduceAdd,Nat.reduceLeDiff,reduceIte]<;>rfl)|rfl)|exact Nat.le_of_ble_eq_true rfl|decide|(repeat' first|(apply Lk.go;constructor)|assumption|exact nb ‹_› ‹_›|exact nt ‹_› ‹_›)))
 refine ⟨t, h0, _, rfl, ?_, HSub.refl _⟩
 rw [← e1]
 exact AVLe.refl _
section
variable {P : Program} {d me b o : Nat} {l : List EI} {env : Env} {H : AHeap} {K : Env → AHeap → Prop} {Rp : AV → AHeap → Prop} {x : EOpd} {cs : List AV} {T : TypeId} {r : AV}
theorem DM.ldD1 (hm : env.get me = .ptr b 0) (hx : x.ev env = .ptr b o) (hb : H.blk b = some (T, cs)) (hg : cs[o]? = some r) (h : DM P l ((d, r) :: env) H K Rp) : DM P (⟨some d, none, .loadD me false 1 x⟩ :: l) env H K Rp := by
 refine DM.de (.det r) rfl (.pure ?_) fun _ _ => h
 have hl : o + 1 ≤ cs.length := (List.getElem?_eq_some_iff.1 hg).1
 simp only [peval, hm, hx, if_true, hb]
 rw [if_pos hl]
 have : (cs.drop o).take 1 = [r] := by
  rw [List.take_one, List.head?_drop, hg]; rfl
 rw [this]; rfl
theorem DM.ldDA {n : Nat} (hm : env.get me = .ptr b 0) (hx : x.ev env = .ptr b o) (hb : H.blk b = some (T, cs)) (hl : o + n ≤ cs.length) (h : DM P l ((d, .agg ((cs.drop o).take n)) :: env) H K Rp) : DM P (⟨some d, none, .loadD me true n x⟩ :: l) env H K Rp := by
 refine DM.de (.det _) rfl (.pure ?_) fun _ _ => h
 simp only [peval, hm, hx, if_true, hb]
 rw [if_pos hl]
 rfl
end
def encV (v : Val) : List Nat := enc v.k ++ (if v.k = 1 then enc v.n else if v.k = 2 then encT v.s else [])
theorem encT_len (s : List UInt8) : (encT s).length ≤ 2 + s.length := by
 have := enc_len s.length
 simp only [encT, List.length_append, List.length_map]
 omega
theorem encV_len (v : Val) : (encV v).length ≤ 4 + v.s.length := by
 have h1 := enc_len v.k
 have h2 := enc_len v.n
 have h3 := encT_len v.s
 unfold encV
 rw [List.length_append]
 split
 ·omega
 ·split
  ·omega
  ·simp; omega
theorem hsub_own2 {G : AHeap} {t b n m : Nat} {Te : TypeId} {T : TypeId} {c : List AV} (hb : G.blk b = none) (e : n = m) : HSub (G.setT t (.frz Te 1 n)) ((G.setB b T c).setT t (.frz Te 1 m)) := by
 subst e
 refine ⟨fun x y h => ?_, fun x y h => ?_⟩
 ·simp only [AHeap.setB, AHeap.setT] at h ⊢
  rw [if_neg (by rintro rfl; rw [hb] at h; cases h)]
  exact h
 ·simp only [AHeap.setB, AHeap.setT] at h ⊢
  exact h
theorem fin_setT {H : AHeap} {t : Nat} {o : Own} (h : HFin H) : HFin (H.setT t o) := by
 obtain ⟨N, hN⟩ := h
 refine ⟨max N (t + 1), fun n hn => ⟨setT_blk.trans (hN n (by omega)).1, ?_⟩⟩
 rw [setT_ne (by omega)]
 exact (hN n (by omega)).2
theorem p59 (t : Nat) (rows : List (List AV)) (v : Val) (H : AHeap) (ht : H.tok t = some (.frz 5 1 rows.length)) (hr : rows.length ≤ 800000) (hk : -1000 ≤ v.k ∧ v.k ≤ 1000) (hn : -1000 ≤ v.n ∧ v.n ≤ 1000) (hs : v.s.length ≤ 1000) :
  ACalls Tryz.prog 59 [.own t 1 rows, v.av] H (Ret (RO H t (rows ++ (encV v).map brow))) := by
 refine own_of mo Tryz.func59 c59 ?_
 unfold e59 r59
 simp only [initEnv, initFrom]
 have hel := enc_len v.k
 have eV : rows ++ (encV v).map brow = (rows ++ (enc v.k).map brow) ++ (if v.k = 1 then enc v.n else if v.k = 2 then encT v.s else []).map brow := by unfold encV; rw [List.map_append, List.append_assoc]
 rw [eV]
 have hl1 : (rows ++ (enc v.k).map brow).length ≤ 800002 := by simp only [List.length_append, List.length_map]; omega
 generalize hA : rows ++ (enc v.k).map brow = A at hl1
 repeat' first|(apply Sp.go;·constructor<;>first|exact ss|(change _=_;first|(simp only[go_sem,Nat.reduceBEq,Nat.reduceAdd,Nat.reduceLeDiff,reduceIte]<;>rfl)|rfl)|exact Nat.le_of_ble_eq_true rfl|decide|(repeat' first|(apply Lk.go;constructor)|assumption|exact nb ‹_› ‹_›|exact nt ‹_› ‹_›))|(intro b hb;repeat first|(refine fe hb ?_;intro _ _ hb)|(refine fT hb ?_;intro hb))|refine rt ?_|refine gA rfl ?_|refine gB rfl ?_|apply cT rfl|apply cF rfl|(apply DM.gbT;rfl)|(apply DM.gbF;rfl)|intro h
 rename Nat => b1
 have hb1 : H.blk b1 = none := by assumption
 repeat' first|(apply Sp.go;·constructor<;>first|exact ss|(change _=_;first|(simp only[go_sem,Nat.reduceBEq,Nat.reduceAdd,Nat.reduceLeDiff,reduceIte]<;>rfl)|rfl)|exact Nat.le_of_ble_eq_true rfl|decide|(repeat' first|(apply Lk.go;constructor)|assumption|exact nb ‹_› ‹_›|exact nt ‹_› ‹_›))|(intro b hb;repeat first|(refine fe hb ?_;intro _ _ hb)|(refine fT hb ?_;intro hb))|refine rt ?_|refine gA rfl ?_|refine gB rfl ?_|apply cT rfl|apply cF rfl|(apply DM.gbT;rfl)|(apply DM.gbF;rfl)|intro h
 (apply DM.cal (p96 t rows v.k _ (t_B ht) (by omega) hk.1 hk.2); (· simp only [go_sem, Nat.reduceBEq, Nat.reduceAdd] <;> rfl); (· exact AVLes.refl _))
 rintro r H1 ⟨rfl, rfl⟩
 simp only [put_some]
 rw [hA]
 repeat' first|(apply Sp.go;·constructor<;>first|exact ss|(change _=_;first|(simp only[go_sem,Nat.reduceBEq,Nat.reduceAdd,Nat.reduceLeDiff,reduceIte]<;>rfl)|rfl)|exact Nat.le_of_ble_eq_true rfl|decide|(repeat' first|(apply Lk.go;constructor)|assumption|exact nb ‹_› ‹_›|exact nt ‹_› ‹_›))|(intro b hb;repeat first|(refine fe hb ?_;intro _ _ hb)|(refine fT hb ?_;intro hb))|refine rt ?_|refine gA rfl ?_|refine gB rfl ?_|apply cT rfl|apply cF rfl|(apply DM.gbT;rfl)|(apply DM.gbF;rfl)|intro h
 (apply AM.cond; (· rfl))
 ·intro h1
  simp at h1
  rw [if_pos h1]
  repeat' first|(apply Sp.go;·constructor<;>first|exact ss|(change _=_;first|(simp only[go_sem,Nat.reduceBEq,Nat.reduceAdd,Nat.reduceLeDiff,reduceIte]<;>rfl)|rfl)|exact Nat.le_of_ble_eq_true rfl|decide|(repeat' first|(apply Lk.go;constructor)|assumption|exact nb ‹_› ‹_›|exact nt ‹_› ‹_›))|(intro b hb;repeat first|(refine fe hb ?_;intro _ _ hb)|(refine fT hb ?_;intro hb))|refine rt ?_|refine gA rfl ?_|refine gB rfl ?_|apply cT rfl|apply cF rfl|(apply DM.gbT;rfl)|(apply DM.gbF;rfl)|intro h
  (apply DM.cal (p96 t A v.n _ t_same (by omega) hn.1 hn.2); (· simp only [go_sem, Nat.reduceBEq, Nat.reduceAdd] <;> rfl); (· exact AVLes.refl _))
  rintro r H1 ⟨rfl, rfl⟩
  rw [setT_setT]
  repeat' first|(apply Sp.go;·constructor<;>first|exact ss|(change _=_;first|(simp only[go_sem,Nat.reduceBEq,Nat.reduceAdd,Nat.reduceLeDiff,reduceIte]<;>rfl)|rfl)|exact Nat.le_of_ble_eq_true rfl|decide|(repeat' first|(apply Lk.go;constructor)|assumption|exact nb ‹_› ‹_›|exact nt ‹_› ‹_›))|(intro b hb;repeat first|(refine fe hb ?_;intro _ _ hb)|(refine fT hb ?_;intro hb))|refine rt ?_|refine gA rfl ?_|refine gB rfl ?_|apply cT rfl|apply cF rfl|(apply DM.gbT;rfl)|(apply DM.gbF;rfl)|intro h
  refine AM.forget _ (hsub_own2 hb1 rfl) ?_
  (apply Sr.go;·constructor<;>first|(apply Lk.go;constructor<;>first|exact ss|(change _=_;first|(simp only[go_sem,Nat.reduceBEq,Nat.reduceAdd,Nat.reduceLeDiff,reduceIte]<;>rfl)|rfl)|exact Nat.le_of_ble_eq_true rfl|decide|(repeat' first|(apply Lk.go;constructor)|assumption|exact nb ‹_› ‹_›|exact nt ‹_› ‹_›))|assumption)
  exact AVLe.refl _
 ·intro h1
  simp at h1
  rw [if_neg h1]
  repeat' first|(apply Sp.go;·constructor<;>first|exact ss|(change _=_;first|(simp only[go_sem,Nat.reduceBEq,Nat.reduceAdd,Nat.reduceLeDiff,reduceIte]<;>rfl)|rfl)|exact Nat.le_of_ble_eq_true rfl|decide|(repeat' first|(apply Lk.go;constructor)|assumption|exact nb ‹_› ‹_›|exact nt ‹_› ‹_›))|(intro b hb;repeat first|(refine fe hb ?_;intro _ _ hb)|(refine fT hb ?_;intro hb))|refine rt ?_|refine gA rfl ?_|refine gB rfl ?_|apply cT rfl|apply cF rfl|(apply DM.gbT;rfl)|(apply DM.gbF;rfl)|intro h
  (apply AM.cond; (· rfl))
  ·intro h2
   simp at h2
   rw [if_pos h2]
   repeat' first|(apply Sp.go;·constructor<;>first|exact ss|(change _=_;first|(simp only[go_sem,Nat.reduceBEq,Nat.reduceAdd,Nat.reduceLeDiff,reduceIte]<;>rfl)|rfl)|exact Nat.le_of_ble_eq_true rfl|decide|(repeat' first|(apply Lk.go;constructor)|assumption|exact nb ‹_› ‹_›|exact nt ‹_› ‹_›))|(intro b hb;repeat first|(refine fe hb ?_;intro _ _ hb)|(refine fT hb ?_;intro hb))|refine rt ?_|refine gA rfl ?_|refine gB rfl ?_|apply cT rfl|apply cF rfl|(apply DM.gbT;rfl)|(apply DM.gbF;rfl)|intro h
   (apply DM.cal (p58 t A v.s _ t_same (by omega) hs); (· simp only [go_sem, Nat.reduceBEq, Nat.reduceAdd] <;> rfl); (· exact AVLes.refl _))
   rintro r H1 ⟨rfl, rfl⟩
   rw [setT_setT]
   repeat' first|(apply Sp.go;·constructor<;>first|exact ss|(change _=_;first|(simp only[go_sem,Nat.reduceBEq,Nat.reduceAdd,Nat.reduceLeDiff,reduceIte]<;>rfl)|rfl)|exact Nat.le_of_ble_eq_true rfl|decide|(repeat' first|(apply Lk.go;constructor)|assumption|exact nb ‹_› ‹_›|exact nt ‹_› ‹_›))|(intro b hb;repeat first|(refine fe hb ?_;intro _ _ hb)|(refine fT hb ?_;intro hb))|refine rt ?_|refine gA rfl ?_|refine gB rfl ?_|apply cT rfl|apply cF rfl|(apply DM.gbT;rfl)|(apply DM.gbF;rfl)|intro h
   refine AM.forget _ (hsub_own2 hb1 rfl) ?_
   (apply Sr.go;·constructor<;>first|(apply Lk.go;constructor<;>first|exact ss|(change _=_;first|(simp only[go_sem,Nat.reduceBEq,Nat.reduceAdd,Nat.reduceLeDiff,reduceIte]<;>rfl)|rfl)|exact Nat.le_of_ble_eq_true rfl|decide|(repeat' first|(apply Lk.go;constructor)|assumption|exact nb ‹_› ‹_›|exact nt ‹_› ‹_›))|assumption)
   exact AVLe.refl _
  ·intro h2
   simp at h2
   rw [if_neg h2]
   repeat' first|(apply Sp.go;·constructor<;>first|exact ss|(change _=_;first|(simp only[go_sem,Nat.reduceBEq,Nat.reduceAdd,Nat.reduceLeDiff,reduceIte]<;>rfl)|rfl)|exact Nat.le_of_ble_eq_true rfl|decide|(repeat' first|(apply Lk.go;constructor)|assumption|exact nb ‹_› ‹_›|exact nt ‹_› ‹_›))|(intro b hb;repeat first|(refine fe hb ?_;intro _ _ hb)|(refine fT hb ?_;intro hb))|refine rt ?_|refine gA rfl ?_|refine gB rfl ?_|apply cT rfl|apply cF rfl|(apply DM.gbT;rfl)|(apply DM.gbF;rfl)|intro h
   refine AM.forget _ (hsub_own2 hb1 rfl) ?_
   refine AM.eqH (show _ = H.setT t (.frz 5 1 (A ++ List.map brow []).length) by simp) ?_
   (apply Sr.go;·constructor<;>first|(apply Lk.go;constructor<;>first|exact ss|(change _=_;first|(simp only[go_sem,Nat.reduceBEq,Nat.reduceAdd,Nat.reduceLeDiff,reduceIte]<;>rfl)|rfl)|exact Nat.le_of_ble_eq_true rfl|decide|(repeat' first|(apply Lk.go;constructor)|assumption|exact nb ‹_› ‹_›|exact nt ‹_› ‹_›))|assumption)
   refine avle_eq ?_
   simp
def encVar (v : Var_) : List Nat := encT v.name ++ [v.sort.k, v.sort.lo, v.sort.hi].flatMap enc ++ encV v.init
def encH (v : Hd) : List Nat := [v.peer, v.label, v.entry].flatMap enc
def encO (v : Of_) : List Nat := [v.peer, v.label, v.cond, v.args].flatMap enc
def encI (x : Ins_) : List Nat := [x.op, x.n].flatMap enc ++ encT x.s
def encHd (p : Prog) : List Nat := encT p.name ++ [p.role, (p.vars.length : Int)].flatMap enc
def encP (p : Prog) : List Nat := encHd p ++ p.vars.flatMap encVar ++ [(p.hs.length : Int)].flatMap enc ++ p.hs.flatMap encH ++ [(p.os.length : Int)].flatMap enc ++ p.os.flatMap encO ++ [(p.code.length : Int)].flatMap enc ++ p.code.flatMap encI
theorem flat_len {α : Type} {f : α → List Nat} {k : Nat} {l : List α} (h : ∀ v ∈ l, (f v).length ≤ k) : (l.flatMap f).length ≤ k * l.length := by
 induction l with
 | nil => simp
 | cons a l ih =>
  have h1 := h a (List.mem_cons_self ..)
  have h2 := ih fun v hv => h v (List.mem_cons_of_mem _ hv)
  rw [List.flatMap_cons, List.length_append, List.length_cons, Nat.mul_add]
  omega
theorem formed_facts {x : Ins_} (h : formed x = true) : (-1000 ≤ x.op ∧ x.op ≤ 1000) ∧ (-1000 ≤ x.n ∧ x.n ≤ 1000) ∧ x.s.length ≤ 40 := by
 have hr := numd_range x.op
 rw [formed_eq] at h
 simp only [Bool.and_eq_true, inB, decide_eq_true_eq] at h
 refine ⟨by omega, by omega, ?_⟩
 have h2 := h.2
 by_cases e : x.op = 2
 ·rw [if_pos e] at h2
  simp [validV] at h2
  omega
 ·rw [if_neg e] at h2
  simp at h2
  rw [h2]; simp
theorem val_facts {v : Val} (h : validV v = true) : (-1000 ≤ v.k ∧ v.k ≤ 1000) ∧ (-1000 ≤ v.n ∧ v.n ≤ 1000) ∧ v.s.length ≤ 40 := by
 simp [validV] at h
 rcases h with h | h
 ·obtain ⟨h, e⟩ := h
  rw [e]
  simp
  omega
 ·omega
theorem VP.lens {p : Prog} (vp : VP p) (i : Nat) : (encHd p).length ≤ 22 ∧ ((p.vars.take i).flatMap encVar).length ≤ 1000 ∧ ((p.hs.take i).flatMap encH).length ≤ 240 ∧ ((p.os.take i).flatMap encO).length ≤ 320 ∧ ((p.code.take i).flatMap encI).length ≤ 50000 := by
 have h0 := vp.name; have h1 := vp.nv; have h2 := vp.nh; have h3 := vp.no; have h4 := vp.code0
 refine ⟨?_, ?_, ?_, ?_, ?_⟩
 ·have a := encT_len p.name
  have b := encs_len [p.role, (p.vars.length : Int)]
  simp only [encHd, List.length_append, List.length_cons, List.length_nil] at *
  omega
 ·have a := flat_len (f := encVar) (k := 80) (l := p.vars.take i) fun v hv => by
   have hv' := vp.vars v (List.mem_of_mem_take hv)
   have a := encT_len v.name
   have b := encs_len [v.sort.k, v.sort.lo, v.sort.hi]
   have c := encV_len v.init
   have d := val_facts hv'.2.2.2.2.2.2.2
   simp only [encVar, List.length_append, List.length_cons, List.length_nil] at *
   omega
  rw [List.length_take] at a
  omega
 ·have a := flat_len (f := encH) (k := 6) (l := p.hs.take i) fun v hv => by
   have b := encs_len [v.peer, v.label, v.entry]
   simp only [encH, List.length_cons, List.length_nil] at *
   omega
  rw [List.length_take] at a
  omega
 ·have a := flat_len (f := encO) (k := 8) (l := p.os.take i) fun v hv => by
   have b := encs_len [v.peer, v.label, v.cond, v.args]
   simp only [encO, List.length_cons, List.length_nil] at *
   omega
  rw [List.length_take] at a
  omega
 ·have a := flat_len (f := encI) (k := 50) (l := p.code.take i) fun v hv => by
   have b := encs_len [v.op, v.n]
   have c := encT_len v.s
   have d := formed_facts (vp.code v (List.mem_of_mem_take hv))
   simp only [encI, List.length_append, List.length_cons, List.length_nil] at *
   omega
  rw [List.length_take] at a
  omega
end Go.Aw.T
