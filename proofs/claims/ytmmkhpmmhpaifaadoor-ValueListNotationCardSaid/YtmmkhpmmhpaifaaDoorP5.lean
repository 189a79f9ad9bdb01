/- Part of a proof; own work. -/
import Derived.Test.YtmmkhpmmhpaifaaDoorP1
import Derived.Test.YtmmkhpmmhpaifaaDoorP3
import Derived.Test.YtmmkhpmmhpaifaaDoorP2
import Derived.Test.YtmmkhpmmhpaifaaDoorP4
import Derived.Lib.AtoiAll
import Derived.Lib.ItoaNum
import Derived.Test.YtmmkhpmmhpaifaaDoorK
import Derived.Test.YtmmkhpmmhpaifaaDoorC6
import Derived.Shelf.Strconv.Itoa3
import Derived.Shelf.Strconv.ErrVarAll
import Derived.Below
import Derived.KernelRfl
import Derived.Test.YtmmkhpmmhpaifaaDoorProg
import Derived.Lib.SmallJoins
import Derived.Deep.LoopGhost
import Derived.BigCall
namespace Go.Aw.T
open Go Go.Aw Go.Proofs Go.RowKit
set_option maxRecDepth 100000
attribute [local irreducible] Go.Aw.DM Go.Aw.AHeap.setB Go.Aw.AHeap.setT
attribute [local go_sem] peval EOpd.ev Env.get binInt binStr binBool buildParts AV.cells AV.okc setRange minmaxAV AV.one AV.ofCells eqCells eqCell bslRows cond_true cond_false beq_self_eq_true Bool.not_true Bool.not_false beq_true beq_false eq_self if_true Option.some.injEq List.length_cons List.length_nil List.take_succ_cons List.take_zero List.drop_succ_cons List.drop_zero List.set_cons_succ List.set_cons_zero List.nil_append List.cons_append List.append_nil and_self Option.map_some List.map_cons List.map_nil Bool.false_eq_true if_false Nat.zero_add Nat.add_zero true_and and_true Bool.and_true Bool.true_and List.getElem?_cons_zero List.getElem?_cons_succ Nat.zero_le Nat.le_refl
set_option linter.unusedSimpArgs false
set_option linter.unusedVariables false
/-- The number that digits spell. -/
def natD (a : Nat) (l : List UInt8) : Nat := l.foldl (fun a c => 10 * a + (c.toNat - 48)) a
theorem natD_nil (a : Nat) : natD a [] = a := rfl
theorem natD_cons (a : Nat) (c : UInt8) (r : List UInt8) : natD a (c :: r) = natD (10 * a + (c.toNat - 48)) r := List.foldl_cons ..
def numV (n : Nat) (d : List UInt8) : Int := if n = 1 then -(natD 0 d : Int) else natD 0 d
theorem natD_append (l : List UInt8) (c : UInt8) : ∀ a : Nat, natD a (l ++ [c]) = 10 * natD a l + (c.toNat - 48) := by
  induction l with
  | nil => intro a; rw [List.nil_append, natD_cons, natD_nil, natD_nil]
  | cons x l ih => intro a; rw [List.cons_append, natD_cons, natD_cons, ih]
theorem natD_ge (l : List UInt8) : ∀ a : Nat, a ≤ natD a l := by
  induction l with
  | nil => intro a; rw [natD_nil]; exact Nat.le_refl _
  | cons x l ih => intro a; rw [natD_cons]; have := ih (10 * a + (x.toNat - 48)); omega
/-- Digits are read by the library's function. -/
theorem parse_digits (l : List UInt8) : ∀ a : Nat, l.all isDig = true → Lib.parseUint10 a l = .ok (natD a l) ∨ (Lib.parseUint10 a l = .range ∧ 18446744073709551616 ≤ natD a l) := by
  induction l with
  | nil => intro a _; left; rw [natD_nil, Lib.parseUint10]
  | cons c r ih =>
    intro a h
    simp only [List.all_cons, Bool.and_eq_true] at h
    have hc : 48 ≤ c.toNat ∧ c.toNat ≤ 57 := by simpa [isDig] using h.1
    rw [Lib.parseUint10, if_pos hc, natD_cons]
    have ge := natD_ge r (10 * a + (c.toNat - 48))
    by_cases h1 : 1844674407370955162 ≤ a
    · rw [if_pos h1]; exact .inr ⟨rfl, by omega⟩
    · rw [if_neg h1]
      by_cases h2 : 18446744073709551616 ≤ a * 10 + (c.toNat - 48)
      · rw [if_pos h2]; exact .inr ⟨rfl, by omega⟩
      · rw [if_neg h2, Nat.mul_comm a 10]
        exact ih _ h.2
theorem atoi_digits {d : List UInt8} (n : Nat) (hn : n = 0 ∨ n = 1) (hd : d.all isDig = true) (h0 : d ≠ []) :
    Lib.atoiAll (if n = 1 then 45 :: d else d) = .ok (numV n d) ∧ -9223372036854775808 ≤ numV n d ∧ numV n d ≤ 9223372036854775807 ∨ Lib.atoiAll (if n = 1 then 45 :: d else d) = .range ∧ (numV n d < -1000 ∨ 1000 < numV n d) := by
  have hm : Lib.parseMag d = Lib.parseUint10 0 d := by unfold Lib.parseMag; rw [if_neg h0]
  rcases hn with rfl | rfl
  · simp only [Nat.zero_ne_one, if_false, numV]
    cases d with
    | nil => exact absurd rfl h0
    | cons c r =>
      have hc : 48 ≤ c.toNat ∧ c.toNat ≤ 57 := by simp only [List.all_cons, Bool.and_eq_true] at hd; simpa [isDig] using hd.1
      simp only [Lib.atoiAll]
      rw [if_neg (by omega), hm]
      rcases parse_digits (c :: r) 0 hd with h | ⟨h, h2⟩
      · rw [h]
        simp only
        by_cases h3 : 9223372036854775808 ≤ natD 0 (c :: r)
        · rw [if_pos ⟨by omega, h3⟩]; exact .inr ⟨rfl, .inr (by omega)⟩
        · rw [if_neg (fun e => h3 e.2), if_neg (fun e => by omega), if_neg (by omega)]
          exact .inl ⟨rfl, by omega, by omega⟩
      · rw [h]
        exact .inr ⟨rfl, .inr (by omega)⟩
  · simp only [if_true, numV]
    simp only [Lib.atoiAll]
    rw [if_pos (.inr rfl), hm]
    rcases parse_digits d 0 hd with h | ⟨h, h2⟩
    · rw [h]
      simp only
      rw [if_neg (fun e => e.1 rfl)]
      by_cases h3 : 9223372036854775808 < natD 0 d
      · rw [if_pos ⟨rfl, h3⟩]; exact .inr ⟨rfl, .inl (by omega)⟩
      · rw [if_neg (fun e => h3 e.2), if_pos (show UInt8.toNat 45 = 45 from rfl)]
        exact .inl ⟨rfl, by omega, by omega⟩
    · rw [h]
      exact .inr ⟨rfl, .inl (by omega)⟩
theorem intN_01 (s : List UInt8) : intN s = 0 ∨ intN s = 1 := by unfold intN; split <;> simp
theorem takeWhile_all {p : UInt8 → Bool} : ∀ (l : List UInt8), (l.takeWhile p).all p = true
  | [] => rfl
  | c :: l => by
    rw [List.takeWhile_cons]
    split
    · rename_i h; simp [h, takeWhile_all l]
    · rfl
theorem take_takeWhile {p : UInt8 → Bool} : ∀ (l : List UInt8), l.take (l.takeWhile p).length = l.takeWhile p
  | [] => rfl
  | c :: l => by
    rw [List.takeWhile_cons]
    split
    · simp [take_takeWhile l]
    · rfl
theorem badD_nil {n : Nat} {d : List UInt8} (h : badD n d = false) : d ≠ [] := by rintro rfl; simp [badD] at h
/-- The notation of the integer at the beginning. -/
theorem intLen_take {s : List UInt8} (h : intLen s ≠ 0) : badD (intN s) (intD s) = false ∧ intLen s = intN s + (intD s).length ∧ s.take (intLen s) = if intN s = 1 then 45 :: intD s else intD s := by
  unfold intLen at h ⊢
  split at h
  · exact absurd rfl h
  · rename_i hb
    rw [if_neg hb]
    refine ⟨by simpa using hb, rfl, ?_⟩
    rcases hn : [45].isPrefixOf s with _ | _
    · have e : intN s = 0 := by simp [intN, hn]
      rw [e]
      simp only [Nat.zero_add, Nat.zero_ne_one, if_false, intD, e, List.drop_zero]
      exact take_takeWhile s
    · have e : intN s = 1 := by simp [intN, hn]
      rw [e]
      cases s with
      | nil => simp [List.isPrefixOf] at hn
      | cons c r =>
        have hc : c = 45 := by simp [List.isPrefixOf] at hn; exact hn.symm
        subst hc
        simp only [if_true, intD, e, List.drop_succ_cons, List.drop_zero]
        rw [Nat.add_comm, List.take_succ_cons, take_takeWhile]
def scanV (s : List UInt8) : Val × Nat × Int := if intLen s = 0 then scanT s else if numV (intN s) (intD s) < -1000 ∨ 1000 < numV (intN s) (intD s) then (val0, intLen s, 2) else (iv (numV (intN s) (intD s)), intLen s, 0)
def parseV (s : List UInt8) : Val × Int := if (scanV s).2.1 = 0 ∨ (scanV s).2.1 ≠ s.length then (val0, 3) else ((scanV s).1, (scanV s).2.2)
/-- The document's reading. -/
def satD (a : Nat) (l : List UInt8) : Nat := l.foldl (fun a c => min (10 * a + (c.toNat - 48)) 100000) a
theorem satD_nil (a : Nat) : satD a [] = a := rfl
theorem satD_cons (a : Nat) (c : UInt8) (r : List UInt8) : satD a (c :: r) = satD (min (10 * a + (c.toNat - 48)) 100000) r := List.foldl_cons ..
theorem satD_eq (l : List UInt8) : ∀ a : Nat, satD (min a 100000) l = min (natD a l) 100000 := by
  induction l with
  | nil => intro a; rw [satD_nil, natD_nil]
  | cons c r ih =>
    intro a
    rw [satD_cons, natD_cons, ← ih]
    have : min (10 * min a 100000 + (c.toNat - 48)) 100000 = min (10 * a + (c.toNat - 48)) 100000 := by omega
    rw [this]
def refInt (s : List UInt8) : Int × Nat := if badD (intN s) (intD s) then (0, 0) else ((if intN s = 1 then -(satD 0 (intD s) : Int) else satD 0 (intD s)), intN s + (intD s).length)
def refFirst (s : List UInt8) : Val × Nat := if s.head? = some 34 then (tx (textV s).1, (textV s).2) else (iv (refInt s).1, (refInt s).2)
theorem textR_ok : ∀ (n : Nat) (r acc : List UInt8) (i : Nat), r.length ≤ n → printable acc = true → printable (textR r acc i).1 = true
  | n, [], acc, i, _, _ => by simp [textR, printable]
  | n + 1, c :: r, acc, i, h, ha => by
    rw [textR_cons]
    split
    · exact ha
    · split
      · cases r with
        | nil => rfl
        | cons d r' =>
          simp only
          split
          · rename_i hd
            refine textR_ok n r' _ _ (by simp at h; omega) ?_
            have : okc d = true := by rcases hd with rfl | rfl <;> rfl
            simp only [printable, List.all_append, Bool.and_eq_true] at ha ⊢
            exact ⟨ha, by simp [this]⟩
          · rfl
      · split
        · rename_i hk
          refine textR_ok n r _ _ (by simpa using h) ?_
          simp only [printable, List.all_append, Bool.and_eq_true] at ha ⊢
          exact ⟨ha, by simp [hk]⟩
        · rfl
  | 0, c :: r, _, _, h, _ => by simp at h
theorem textV_ok (s : List UInt8) : printable (textV s).1 = true := by
  cases s with
  | nil => rfl
  | cons c r =>
    simp only [textV]
    split
    · exact textR_ok r.length r [] 1 (Nat.le_refl _) rfl
    · rfl
theorem textV_none {s : List UInt8} (h : s.head? ≠ some 34) : textV s = ([], 0) := by
  cases s with
  | nil => rfl
  | cons c r => simp only [List.head?_cons, ne_eq, Option.some.injEq] at h; simp [textV, h]
theorem intLen_quote {s : List UInt8} (h : s.head? = some 34) : intLen s = 0 ∧ badD (intN s) (intD s) = true := by
  cases s with
  | nil => simp at h
  | cons c r =>
    simp only [List.head?_cons, Option.some.injEq] at h
    subst h
    have e : badD (intN (34 :: r)) (intD (34 :: r)) = true := by
      have e1 : intN (34 :: r) = 0 := by simp [intN, List.isPrefixOf]
      rw [e1, intD, e1, List.drop_zero, List.takeWhile_cons, if_neg (by decide)]
      rfl
    exact ⟨by unfold intLen; rw [if_pos e], e⟩
theorem numV_valid {n : Nat} {d : List UInt8} : validV (iv (if n = 1 then -(satD 0 d : Int) else satD 0 d)) = !decide (numV n d < -1000 ∨ 1000 < numV n d) ∧ (¬ (numV n d < -1000 ∨ 1000 < numV n d) → (if n = 1 then -(satD 0 d : Int) else (satD 0 d : Int)) = numV n d) := by
  have h := satD_eq d 0
  rw [show min 0 100000 = 0 by rfl] at h
  unfold numV
  constructor
  · rw [Bool.eq_iff_iff]
    simp only [validV, Bool.or_eq_true, Bool.and_eq_true, decide_eq_true_eq, Bool.not_eq_true', decide_eq_false_iff_not]
    simp
    split <;> omega
  · split <;> omega
theorem u8d {d : Nat} (h : d < 10) : (UInt8.ofNat (48 + d)).toNat = 48 + d := by
  rw [UInt8.toNat_ofNat']
  omega
theorem u8_back {c : UInt8} (h : isDig c = true) : UInt8.ofNat (48 + (c.toNat - 48)) = c := by
  have hc : 48 ≤ c.toNat ∧ c.toNat ≤ 57 := by simpa [isDig] using h
  apply UInt8.toNat_inj.1
  rw [UInt8.toNat_ofNat']
  omega
theorem dec_step {u : Nat} (h : ¬ u < 10) : Lib.decDigits u = Lib.decDigits (u / 10) ++ [UInt8.ofNat (48 + u % 10)] := by rw [Lib.decDigits, dif_neg h]
theorem dec_small {u : Nat} (h : u < 10) : Lib.decDigits u = [UInt8.ofNat (48 + u)] := by rw [Lib.decDigits, dif_pos h]
/-- The numeral of a number is made of digits, spells it, and does not begin with 0 unless it is 0. -/
theorem dec_num (u : Nat) : (Lib.decDigits u).all isDig = true ∧ natD 0 (Lib.decDigits u) = u ∧ Lib.decDigits u ≠ [] ∧ (1 ≤ u → (Lib.decDigits u).head? ≠ some 48) := by
  induction u using Nat.strongRecOn with
  | ind u ih =>
    by_cases h : u < 10
    · rw [dec_small h]
      have e := u8d h
      refine ⟨by simp [isDig]; omega, by rw [natD_cons, natD_nil, e]; omega, by simp, fun h1 h2 => ?_⟩
      simp only [List.head?_cons, Option.some.injEq] at h2
      have := congrArg UInt8.toNat h2
      rw [e] at this
      have e48 : (48 : UInt8).toNat = 48 := rfl
      omega
    · rw [dec_step h]
      obtain ⟨a1, a2, a3, a4⟩ := ih (u / 10) (by omega)
      have e := u8d (d := u % 10) (by omega)
      refine ⟨?_, ?_, by simp, fun _ => ?_⟩
      · rw [List.all_append, a1]; simp [isDig]; omega
      · rw [natD_append, a2, e]; omega
      · rw [List.head?_append]
        cases hh : (Lib.decDigits (u / 10)).head? with
        | none => simp at hh; exact absurd hh a3
        | some c => simp only [Option.some_or]; rw [← hh]; exact a4 (by omega)
theorem dec_back : ∀ (n : Nat) (D : List UInt8), D.length = n + 1 → D.all isDig = true → D.head? ≠ some 48 → Lib.decDigits (natD 0 D) = D ∧ 1 ≤ natD 0 D
  | 0, D, hl, hd, hh => by
    match D, hl with
    | [c], _ =>
      have hc : isDig c = true := by simpa using hd
      have hc' : 48 ≤ c.toNat ∧ c.toNat ≤ 57 := by simpa [isDig] using hc
      have hn : c.toNat ≠ 48 := fun e => hh (by rw [List.head?_cons, show c = 48 from UInt8.toNat_inj.1 e])
      rw [natD_cons, natD_nil, dec_small (by omega)]
      refine ⟨?_, by omega⟩
      rw [show 48 + (10 * 0 + (c.toNat - 48)) = 48 + (c.toNat - 48) by omega, u8_back hc]
  | n + 1, D, hl, hd, hh => by
    obtain ⟨L, c, rfl⟩ : ∃ L c, D = L ++ [c] := by
      rcases List.eq_nil_or_concat D with rfl | ⟨L, c, h⟩
      · simp at hl
      · exact ⟨L, c, by rw [h, List.concat_eq_append]⟩
    rw [List.all_append, Bool.and_eq_true] at hd
    have hL : L.length = n + 1 := by simpa using hl
    have hLh : L.head? ≠ some 48 := by
      cases L with
      | nil => simp at hL
      | cons x L => simpa using hh
    obtain ⟨b1, b2⟩ := dec_back n L hL hd.1 hLh
    have hc : isDig c = true := by simpa using hd.2
    have hc' : 48 ≤ c.toNat ∧ c.toNat ≤ 57 := by simpa [isDig] using hc
    rw [natD_append, dec_step (by omega)]
    refine ⟨?_, by omega⟩
    rw [show (10 * natD 0 L + (c.toNat - 48)) / 10 = natD 0 L by omega, b1, show (10 * natD 0 L + (c.toNat - 48)) % 10 = c.toNat - 48 by omega, u8_back hc]
theorem badD_head {n : Nat} {D : List UInt8} (h : badD n D = false) (hs : 2 ≤ D.length ∨ n = 1) : D.head? ≠ some 48 := by
  cases D with
  | nil => simp
  | cons c r =>
    intro e
    simp only [List.head?_cons, Option.some.injEq] at e
    subst e
    have e48 : ((48 : UInt8).toNat : Int) = 48 := rfl
    simp [badD] at h
    rcases hs with hs | hs
    · simp at hs
      have := h.1
      omega
    · exact h.2 hs
theorem badD_good {n : Nat} {D : List UInt8} (h : D.head? ≠ some 48) (h0 : D ≠ []) : badD n D = false := by
  cases D with
  | nil => exact absurd rfl h0
  | cons c r =>
    have : ¬ (c.toNat : Int) = 48 := fun e => h (by rw [List.head?_cons, show c = 48 from UInt8.toNat_inj.1 (by have e48 : (48 : UInt8).toNat = 48 := rfl; omega)])
    simp [badD, this]
/-- Integers are written as they are read. -/
theorem itoa_num {n : Nat} {D : List UInt8} (hn : n = 0 ∨ n = 1) (hd : D.all isDig = true) (hb : badD n D = false) : Lib.itoa (numV n D) = if n = 1 then 45 :: D else D := by
  have h0 := badD_nil hb
  have hlen : 0 < D.length := List.length_pos_iff.2 h0
  rcases hn with rfl | rfl
  · simp only [numV, Nat.zero_ne_one, if_false]
    have e : Lib.itoa ((natD 0 D : Nat) : Int) = Lib.decDigits (natD 0 D) := by unfold Lib.itoa; rw [if_neg (by omega)]; simp
    rw [e]
    by_cases h1 : D.head? = some 48
    · have hl1 : D.length = 1 := by
        have : ¬ 2 ≤ D.length := fun h2 => badD_head hb (.inl h2) h1
        omega
      match D, hl1 with
      | [c], _ =>
        simp only [List.head?_cons, Option.some.injEq] at h1
        subst h1
        rw [natD_cons, natD_nil, dec_small (by decide)]
        rfl
    · exact (dec_back (D.length - 1) D (by omega) hd h1).1
  · simp only [numV, if_true]
    have h1 := badD_head hb (.inr rfl)
    obtain ⟨b1, b2⟩ := dec_back (D.length - 1) D (by omega) hd h1
    unfold Lib.itoa
    rw [if_pos (by omega)]
    simp [b1]
theorem takeWhile_self {p : UInt8 → Bool} : ∀ {l : List UInt8}, l.all p = true → l.takeWhile p = l
  | [], _ => rfl
  | c :: l, h => by
    simp only [List.all_cons, Bool.and_eq_true] at h
    rw [List.takeWhile_cons, if_pos h.1, takeWhile_self h.2]
theorem parse_itoa {n : Int} (h1 : -1000 ≤ n) (h2 : n ≤ 1000) : parseV (Lib.itoa n) = (iv n, 0) := by
  have key : ∀ (b : Nat) (D : List UInt8), (b = 0 ∨ b = 1) → intN (if b = 1 then 45 :: D else D) = b → D.all isDig = true → badD b D = false → numV b D = n → parseV (if b = 1 then 45 :: D else D) = (iv n, 0) := by
    intro b D hb hN hd hbad hnum
    obtain ⟨s, hs⟩ : ∃ s, (if b = 1 then 45 :: D else D) = s := ⟨_, rfl⟩
    rw [hs] at hN ⊢
    have hD : intD s = D := by
      unfold intD
      rw [hN, ← hs]
      rcases hb with rfl | rfl
      · simp [takeWhile_self hd]
      · simp [takeWhile_self hd]
    have hlen : s.length = b + D.length := by
      rw [← hs]
      rcases hb with rfl | rfl
      · simp
      · simp; omega
    have hL : intLen s = s.length := by unfold intLen; rw [hN, hD, hbad, if_neg (by simp), hlen]
    have hpos : 0 < D.length := List.length_pos_iff.2 (badD_nil hbad)
    have hsc : scanV s = (iv n, s.length, 0) := by
      unfold scanV
      have g0 : intLen s ≠ 0 := by omega
      have gr : ¬ (n < -1000 ∨ 1000 < n) := by omega
      rw [if_neg g0, hN, hD, hnum, if_neg gr, hL]
    unfold parseV
    rw [hsc]
    simp only
    rw [if_neg (fun e => by rcases e with e | e; omega; exact e rfl)]
  unfold Lib.itoa
  split
  · rename_i hneg
    obtain ⟨a1, a2, a3, a4⟩ := dec_num n.natAbs
    have := key 1 (Lib.decDigits n.natAbs) (.inr rfl) (by simp [intN, List.isPrefixOf]) a1 (badD_good (a4 (by omega)) a3) (by simp only [numV, if_true, a2]; omega)
    simpa using this
  · rename_i hneg
    obtain ⟨a1, a2, a3, a4⟩ := dec_num n.toNat
    have hbad : badD 0 (Lib.decDigits n.toNat) = false := by
      by_cases hz : 1 ≤ n.toNat
      · exact badD_good (a4 hz) a3
      · rw [show n.toNat = 0 by omega, dec_small (by decide)]
        rfl
    have hN : intN (Lib.decDigits n.toNat) = 0 := by
      cases hx : Lib.decDigits n.toNat with
      | nil => exact absurd hx a3
      | cons c r =>
        rw [hx] at a1
        simp only [List.all_cons, Bool.and_eq_true] at a1
        have hc : 48 ≤ c.toNat ∧ c.toNat ≤ 57 := by simpa [isDig] using a1.1
        have : (45 : UInt8) ≠ c := by rintro rfl; have e : (45 : UInt8).toNat = 45 := rfl; omega
        simp [intN, List.isPrefixOf, this]
    have := key 0 (Lib.decDigits n.toNat) (.inl rfl) (by simpa using hN) a1 hbad (by simp only [numV, Nat.zero_ne_one, if_false, a2]; omega)
    simpa using this
theorem textR_show : ∀ (s acc rest : List UInt8) (i : Nat), printable s = true → textR (esc s ++ 34 :: rest) acc i = (acc ++ s, i + (esc s).length + 1)
  | [], acc, rest, i, _ => by simp [esc, textR_cons]
  | c :: s, acc, rest, i, h => by
    simp only [printable, List.all_cons, Bool.and_eq_true] at h
    have e : esc (c :: s) = escC c ++ esc s := by simp [esc]
    rw [e]
    by_cases hc : c = 34 ∨ c = 92
    · have ec : escC c = [92, c] := by simp [escC, hc]
      rw [ec]
      simp only [List.cons_append, List.nil_append]
      rw [textR_cons, if_neg (by decide), if_pos rfl]
      simp only [if_pos hc]
      rw [textR_show s _ rest _ h.2]
      simp
      omega
    · have ec : escC c = [c] := by simp [escC, hc]
      rw [ec]
      simp only [List.cons_append, List.nil_append]
      rw [textR_cons, if_neg (fun e => hc (.inl e)), if_neg (fun e => hc (.inr e)), if_pos h.1, textR_show s _ rest _ h.2]
      simp
      omega
theorem textR_back : ∀ (n : Nat) (r acc : List UInt8) (i : Nat), r.length ≤ n → (textR r acc i).2 ≠ 0 → ∃ t rest, (textR r acc i).1 = acc ++ t ∧ r = esc t ++ 34 :: rest ∧ (textR r acc i).2 = i + (esc t).length + 1
  | n, [], acc, i, _, h => by simp [textR] at h
  | n + 1, c :: r, acc, i, hl, h => by
    rw [textR_cons] at h ⊢
    by_cases h34 : c = 34
    · subst h34
      rw [if_pos rfl]
      exact ⟨[], r, by simp, by simp [esc], by simp [esc]⟩
    · rw [if_neg h34] at h ⊢
      by_cases h92 : c = 92
      · subst h92
        rw [if_pos rfl] at h ⊢
        cases r with
        | nil => simp at h
        | cons d r' =>
          simp only at h ⊢
          by_cases hd : d = 34 ∨ d = 92
          · rw [if_pos hd] at h ⊢
            obtain ⟨t, rest, q1, q2, q3⟩ := textR_back n r' (acc ++ [d]) (i + 2) (by simp at hl; omega) h
            have ec : esc (d :: t) = 92 :: d :: esc t := by simp [esc, escC, hd]
            refine ⟨d :: t, rest, by rw [q1]; simp, by rw [ec, q2]; simp, by rw [q3, ec]; simp; omega⟩
          · rw [if_neg hd] at h; simp at h
      · rw [if_neg h92] at h ⊢
        by_cases hk : okc c = true
        · rw [if_pos hk] at h ⊢
          obtain ⟨t, rest, q1, q2, q3⟩ := textR_back n r (acc ++ [c]) (i + 1) (by simpa using hl) h
          have ec : esc (c :: t) = c :: esc t := by simp [esc, escC, h34, h92]
          refine ⟨c :: t, rest, by rw [q1]; simp, by rw [ec, q2]; simp, by rw [q3, ec]; simp; omega⟩
        · rw [if_neg hk] at h; simp at h
  | 0, c :: r, _, _, hl, _ => by simp at hl
theorem parse_text {s : List UInt8} (h : validV (tx s) = true) : parseV (showT s) = (tx s, 0) := by
  have hv : s.length ≤ 40 ∧ printable s = true := by simp [validV] at h; exact h
  have e1 : textV (showT s) = (s, (showT s).length) := by
    unfold showT textV
    simp only [List.cons_append, if_true]
    rw [textR_show s [] [] 1 hv.2]
    simp
    omega
  have hq : (showT s).head? = some 34 := rfl
  have hl : (showT s).length ≠ 0 := by simp [showT]
  have e2 : scanV (showT s) = (tx s, (showT s).length, 0) := by
    unfold scanV scanT
    rw [if_pos (intLen_quote hq).1, e1]
    simp only
    rw [if_neg hl, if_neg (by omega)]
  unfold parseV
  rw [e2]
  simp only
  rw [if_neg (by simp [hl])]
/-- The notation of a value. -/
def showV (v : Val) : List UInt8 := if validV v = false then [63] else if v.k = 1 then Lib.itoa v.n else showT v.s
theorem parse_show {v : Val} (h : validV v = true) : parseV (showV v) = (v, 0) := by
  unfold showV
  rw [if_neg (by simp [h])]
  obtain ⟨k, n, s⟩ := v
  have h' := h
  simp only [validV, Bool.or_eq_true, Bool.and_eq_true, decide_eq_true_eq] at h'
  by_cases hk : k = 1
  · subst hk
    have hs : -1000 ≤ n ∧ n ≤ 1000 ∧ s = [] := by
      rcases h' with h' | h'
      · exact ⟨h'.1.1.2, h'.1.2, h'.2⟩
      · exact absurd h'.1.1.1 (by decide)
    obtain ⟨h1, h2, rfl⟩ := hs
    rw [if_pos rfl]
    exact parse_itoa h1 h2
  · have hs : k = 2 ∧ n = 0 := by
      rcases h' with h' | h'
      · exact absurd h'.1.1.1 hk
      · exact h'.1.1
    obtain ⟨rfl, rfl⟩ := hs
    rw [if_neg hk]
    exact parse_text h
end Go.Aw.T


namespace Go.Proofs
open Go.Shelf
def Tryd.laysM171_ren : Go.Shelf.Ren := ⟨fun | 171 => 49 | 243 => 71 | 246 => 85 | 283 => 91 | 284 => 92 | 285 => 93 | 286 => 94 | 129 => 102 | 317 => 101 | 318 => 103 | 319 => 104 | 320 => 105 | 337 => 109 | 338 => 110 | n => n, fun | 3 => 3 | 9 => 9 | 2 => 2 | 4 => 4 | 171 => 112 | 0 => 0 | 53 => 103 | 37 => 61 | 5 => 5 | 173 => 115 | 212 => 126 | 51 => 100 | 20 => 20 | 213 => 127 | 46 => 84 | 232 => 140 | 233 => 141 | n => n, fun | 17 => 1 | 18 => 4 | 19 => 5 | n => n⟩
theorem Tryd.laysM171 : Go.Proofs.LaysM.n171 Tryd.prog Tryd.laysM171_ren := {
  mixed := by kernel_rfl
  f129 := Tryd.func102.trans (congrArg some (by kernel_rfl))
  f171 := Tryd.func49.trans (congrArg some (by kernel_rfl))
  f243 := Tryd.func71.trans (congrArg some (by kernel_rfl))
  f246 := Tryd.func85.trans (congrArg some (by kernel_rfl))
  f283 := Tryd.func91.trans (congrArg some (by kernel_rfl))
  f284 := Tryd.func92.trans (congrArg some (by kernel_rfl))
  f285 := Tryd.func93.trans (congrArg some (by kernel_rfl))
  f286 := Tryd.func94.trans (congrArg some (by kernel_rfl))
  f317 := Tryd.func101.trans (congrArg some (by kernel_rfl))
  f318 := Tryd.func103.trans (congrArg some (by kernel_rfl))
  f319 := Tryd.func104.trans (congrArg some (by kernel_rfl))
  f320 := Tryd.func105.trans (congrArg some (by kernel_rfl))
  f337 := Tryd.func109.trans (congrArg some (by kernel_rfl))
  f338 := Tryd.func110.trans (congrArg some (by kernel_rfl))
  t0 := Tryd.underlying0
  a0 := Tryd.isAgg0
  z0 := Tryd.sizeOf0
  v0 := Tryd.zeroValue0
  t2 := Tryd.underlying2
  a2 := Tryd.isAgg2
  z2 := Tryd.sizeOf2
  v2 := Tryd.zeroValue2
  t3 := Tryd.underlying3
  a3 := Tryd.isAgg3
  z3 := Tryd.sizeOf3
  v3 := Tryd.zeroValue3
  t4 := Tryd.underlying4
  a4 := Tryd.isAgg4
  z4 := Tryd.sizeOf4
  v4 := Tryd.zeroValue4
  t5 := Tryd.underlying5
  a5 := Tryd.isAgg5
  z5 := Tryd.sizeOf5
  v5 := Tryd.zeroValue5
  t9 := Tryd.underlying9
  a9 := Tryd.isAgg9
  z9 := Tryd.sizeOf9
  v9 := Tryd.zeroValue9
  t20 := Tryd.underlying20
  a20 := Tryd.isAgg20
  z20 := Tryd.sizeOf20
  v20 := Tryd.zeroValue20
  t37 := Tryd.underlying61
  a37 := Tryd.isAgg61
  z37 := Tryd.sizeOf61
  v37 := Tryd.zeroValue61
  t46 := Tryd.underlying84
  a46 := Tryd.isAgg84
  z46 := Tryd.sizeOf84
  v46 := Tryd.zeroValue84
  t51 := Tryd.underlying100
  a51 := Tryd.isAgg100
  z51 := Tryd.sizeOf100
  v51 := Tryd.zeroValue100
  t53 := Tryd.underlying103
  a53 := Tryd.isAgg103
  z53 := Tryd.sizeOf103
  v53 := Tryd.zeroValue103
  t171 := Tryd.underlying112
  a171 := Tryd.isAgg112
  z171 := Tryd.sizeOf112
  v171 := Tryd.zeroValue112
  t173 := Tryd.underlying115
  a173 := Tryd.isAgg115
  z173 := Tryd.sizeOf115
  v173 := Tryd.zeroValue115
  t212 := Tryd.underlying126
  a212 := Tryd.isAgg126
  z212 := Tryd.sizeOf126
  v212 := Tryd.zeroValue126
  t213 := Tryd.underlying127
  a213 := Tryd.isAgg127
  z213 := Tryd.sizeOf127
  t232 := Tryd.underlying140
  a232 := Tryd.isAgg140
  z232 := Tryd.sizeOf140
  v232 := Tryd.zeroValue140
  t233 := Tryd.underlying141
  a233 := Tryd.isAgg141
  z233 := Tryd.sizeOf141
  v233 := Tryd.zeroValue141
  g17 := by kernel_rfl
  g18 := by kernel_rfl
  g19 := by kernel_rfl
  i0 := by kernel_rfl
  i2 := by kernel_rfl
  i3 := by kernel_rfl
  i4 := by kernel_rfl
  i5 := by kernel_rfl
  i9 := by kernel_rfl
  i20 := by kernel_rfl
  i37 := by kernel_rfl
  i46 := by kernel_rfl
  i51 := by kernel_rfl
  i53 := by kernel_rfl
  i171 := by kernel_rfl
  i173 := by kernel_rfl
  i212 := by kernel_rfl
  i232 := by kernel_rfl
  i233 := by kernel_rfl
  m17 := by kernel_rfl
  m18 := by kernel_rfl
  m19 := by kernel_rfl }
def Tryd.laysC172_ren : Go.Shelf.Ren := ⟨fun | 172 => 74 | 244 => 87 | 245 => 88 | 247 => 95 | 279 => 96 | 280 => 97 | 281 => 98 | 282 => 99 | 287 => 106 | 316 => 107 | 171 => 49 | 205 => 108 | 321 => 111 | 322 => 112 | 243 => 71 | 246 => 85 | 283 => 91 | 284 => 92 | 285 => 93 | 286 => 94 | 129 => 102 | 317 => 101 | 318 => 103 | 319 => 104 | 320 => 105 | 337 => 109 | 338 => 110 | n => n, fun | 9 => 9 | 3 => 3 | 75 => 65 | 76 => 89 | 4 => 4 | 5 => 5 | 167 => 117 | 37 => 61 | 0 => 0 | 85 => 118 | 2 => 2 | 168 => 120 | 53 => 103 | 175 => 129 | 46 => 84 | 210 => 133 | 127 => 92 | 145 => 139 | 143 => 137 | 21 => 21 | 171 => 112 | 173 => 115 | 212 => 126 | 51 => 100 | 20 => 20 | 213 => 127 | 232 => 140 | 233 => 141 | 80 => 67 | n => n, fun | 15 => 2 | 16 => 3 | 17 => 1 | 18 => 4 | 19 => 5 | n => n⟩
theorem Tryd.laysC172 : Go.Proofs.LaysC.n172 Tryd.prog Tryd.laysC172_ren := {
  mixed := by kernel_rfl
  f129 := Tryd.func102.trans (congrArg some (by kernel_rfl))
  f171 := Tryd.func49.trans (congrArg some (by kernel_rfl))
  f172 := Tryd.func74.trans (congrArg some (by kernel_rfl))
  f205 := Tryd.func108.trans (congrArg some (by kernel_rfl))
  f243 := Tryd.func71.trans (congrArg some (by kernel_rfl))
  f244 := Tryd.func87.trans (congrArg some (by kernel_rfl))
  f245 := Tryd.func88.trans (congrArg some (by kernel_rfl))
  f246 := Tryd.func85.trans (congrArg some (by kernel_rfl))
  f247 := Tryd.func95.trans (congrArg some (by kernel_rfl))
  f279 := Tryd.func96.trans (congrArg some (by kernel_rfl))
  f280 := Tryd.func97.trans (congrArg some (by kernel_rfl))
  f281 := Tryd.func98.trans (congrArg some (by kernel_rfl))
  f282 := Tryd.func99.trans (congrArg some (by kernel_rfl))
  f283 := Tryd.func91.trans (congrArg some (by kernel_rfl))
  f284 := Tryd.func92.trans (congrArg some (by kernel_rfl))
  f285 := Tryd.func93.trans (congrArg some (by kernel_rfl))
  f286 := Tryd.func94.trans (congrArg some (by kernel_rfl))
  f287 := Tryd.func106.trans (congrArg some (by kernel_rfl))
  f316 := Tryd.func107.trans (congrArg some (by kernel_rfl))
  f317 := Tryd.func101.trans (congrArg some (by kernel_rfl))
  f318 := Tryd.func103.trans (congrArg some (by kernel_rfl))
  f319 := Tryd.func104.trans (congrArg some (by kernel_rfl))
  f320 := Tryd.func105.trans (congrArg some (by kernel_rfl))
  f321 := Tryd.func111.trans (congrArg some (by kernel_rfl))
  f322 := Tryd.func112.trans (congrArg some (by kernel_rfl))
  f337 := Tryd.func109.trans (congrArg some (by kernel_rfl))
  f338 := Tryd.func110.trans (congrArg some (by kernel_rfl))
  t0 := Tryd.underlying0
  a0 := Tryd.isAgg0
  z0 := Tryd.sizeOf0
  v0 := Tryd.zeroValue0
  t2 := Tryd.underlying2
  a2 := Tryd.isAgg2
  z2 := Tryd.sizeOf2
  v2 := Tryd.zeroValue2
  t3 := Tryd.underlying3
  a3 := Tryd.isAgg3
  z3 := Tryd.sizeOf3
  v3 := Tryd.zeroValue3
  t4 := Tryd.underlying4
  a4 := Tryd.isAgg4
  z4 := Tryd.sizeOf4
  v4 := Tryd.zeroValue4
  t5 := Tryd.underlying5
  a5 := Tryd.isAgg5
  z5 := Tryd.sizeOf5
  v5 := Tryd.zeroValue5
  t9 := Tryd.underlying9
  a9 := Tryd.isAgg9
  z9 := Tryd.sizeOf9
  v9 := Tryd.zeroValue9
  t20 := Tryd.underlying20
  a20 := Tryd.isAgg20
  z20 := Tryd.sizeOf20
  v20 := Tryd.zeroValue20
  t21 := Tryd.underlying21
  a21 := Tryd.isAgg21
  z21 := Tryd.sizeOf21
  v21 := Tryd.zeroValue21
  t37 := Tryd.underlying61
  a37 := Tryd.isAgg61
  z37 := Tryd.sizeOf61
  v37 := Tryd.zeroValue61
  t46 := Tryd.underlying84
  a46 := Tryd.isAgg84
  z46 := Tryd.sizeOf84
  v46 := Tryd.zeroValue84
  t51 := Tryd.underlying100
  a51 := Tryd.isAgg100
  z51 := Tryd.sizeOf100
  v51 := Tryd.zeroValue100
  t53 := Tryd.underlying103
  a53 := Tryd.isAgg103
  z53 := Tryd.sizeOf103
  v53 := Tryd.zeroValue103
  t75 := Tryd.underlying65
  a75 := Tryd.isAgg65
  z75 := Tryd.sizeOf65
  v75 := Tryd.zeroValue65
  t76 := Tryd.underlying89
  a76 := Tryd.isAgg89
  z76 := Tryd.sizeOf89
  v76 := Tryd.zeroValue89
  t85 := Tryd.underlying118
  a85 := Tryd.isAgg118
  z85 := Tryd.sizeOf118
  v85 := Tryd.zeroValue118
  t127 := Tryd.underlying92
  a127 := Tryd.isAgg92
  z127 := Tryd.sizeOf92
  v127 := Tryd.zeroValue92
  t143 := Tryd.underlying137
  a143 := Tryd.isAgg137
  z143 := Tryd.sizeOf137
  v143 := Tryd.zeroValue137
  t145 := Tryd.underlying139
  a145 := Tryd.isAgg139
  z145 := Tryd.sizeOf139
  v145 := Tryd.zeroValue139
  t167 := Tryd.underlying117
  a167 := Tryd.isAgg117
  z167 := Tryd.sizeOf117
  v167 := Tryd.zeroValue117
  t168 := Tryd.underlying120
  a168 := Tryd.isAgg120
  z168 := Tryd.sizeOf120
  v168 := Tryd.zeroValue120
  t171 := Tryd.underlying112
  a171 := Tryd.isAgg112
  z171 := Tryd.sizeOf112
  v171 := Tryd.zeroValue112
  t173 := Tryd.underlying115
  a173 := Tryd.isAgg115
  z173 := Tryd.sizeOf115
  v173 := Tryd.zeroValue115
  t175 := Tryd.underlying129
  a175 := Tryd.isAgg129
  z175 := Tryd.sizeOf129
  v175 := Tryd.zeroValue129
  t210 := Tryd.underlying133
  a210 := Tryd.isAgg133
  z210 := Tryd.sizeOf133
  v210 := Tryd.zeroValue133
  t212 := Tryd.underlying126
  a212 := Tryd.isAgg126
  z212 := Tryd.sizeOf126
  v212 := Tryd.zeroValue126
  t213 := Tryd.underlying127
  a213 := Tryd.isAgg127
  z213 := Tryd.sizeOf127
  t232 := Tryd.underlying140
  a232 := Tryd.isAgg140
  z232 := Tryd.sizeOf140
  v232 := Tryd.zeroValue140
  t233 := Tryd.underlying141
  a233 := Tryd.isAgg141
  z233 := Tryd.sizeOf141
  v233 := Tryd.zeroValue141
  g15 := by kernel_rfl
  g16 := by kernel_rfl
  g17 := by kernel_rfl
  g18 := by kernel_rfl
  g19 := by kernel_rfl
  t80 := Tryd.underlying67
  a80 := Tryd.isAgg67
  z80 := Tryd.sizeOf67
  v80 := Tryd.zeroValue67
  i0 := by kernel_rfl
  i2 := by kernel_rfl
  i3 := by kernel_rfl
  i4 := by kernel_rfl
  i5 := by kernel_rfl
  i9 := by kernel_rfl
  i20 := by kernel_rfl
  i21 := by kernel_rfl
  i37 := by kernel_rfl
  i46 := by kernel_rfl
  i51 := by kernel_rfl
  i53 := by kernel_rfl
  i75 := by kernel_rfl
  i76 := by kernel_rfl
  i80 := by kernel_rfl
  i85 := by kernel_rfl
  i127 := by kernel_rfl
  i143 := by kernel_rfl
  i145 := by kernel_rfl
  i167 := by kernel_rfl
  i168 := by kernel_rfl
  i171 := by kernel_rfl
  i173 := by kernel_rfl
  i175 := by kernel_rfl
  i210 := by kernel_rfl
  i212 := by kernel_rfl
  i232 := by kernel_rfl
  i233 := by kernel_rfl
  m15 := by kernel_rfl
  m16 := by kernel_rfl
  m17 := by kernel_rfl
  m18 := by kernel_rfl
  m19 := by kernel_rfl
  c0 := by kernel_rfl
  c2 := by kernel_rfl
  c3 := by kernel_rfl
  c4 := by kernel_rfl
  c5 := by kernel_rfl
  c9 := by kernel_rfl
  c20 := by kernel_rfl
  c21 := by kernel_rfl
  c37 := by kernel_rfl
  c46 := by kernel_rfl
  c51 := by kernel_rfl
  c53 := by kernel_rfl
  c75 := by kernel_rfl
  c76 := by kernel_rfl
  c80 := by kernel_rfl
  c85 := by kernel_rfl
  c127 := by kernel_rfl
  c143 := by kernel_rfl
  c145 := by kernel_rfl
  c167 := by kernel_rfl
  c168 := by kernel_rfl
  c171 := by kernel_rfl
  c173 := by kernel_rfl
  c175 := by kernel_rfl
  c210 := by kernel_rfl
  c212 := by kernel_rfl
  c213 := by kernel_rfl
  c232 := by kernel_rfl
  c233 := by kernel_rfl }
open Go.RowKit in
theorem Tryd.strconv_Itoa (n : Int) (h0 : -9223372036854775808 ≤ n) (h1 : n ≤ 9223372036854775807) (w : World) (htab : Lib.TabIs Tryd.prog w "internal/strconv.uint64pow10" .u64 Lib.pow10Tab) :
    Calls Tryd.prog 49 #[.int .i64 n] w fun e w' => e = .returned (.string ⟨(Lib.itoa n).toArray⟩) ∧ ∃ k os, w' = Go.Sort.grow (w.drewN k) os := Any.strconv_Itoa Tryd.laysM171 n h0 h1 w htab
open Go.RowKit in
theorem Tryd.strconv_Atoi_ok (s : ByteArray) (hmax : s.size ≤ 9223372036854775806) (v : Int) (h : Lib.atoiAll s.data.toList = .ok v) (w : World) :
    Calls Tryd.prog 74 #[.string s] w fun e w' => e = .returned (.tuple #[.int .i64 v, .nilIface]) ∧ (w' = w ∨ ∃ t, w' = Lib.bytesWorld w 5 t) := Any.strconv_Atoi_ok Tryd.laysC172 s hmax v h w
open Go.RowKit in
theorem Tryd.strconv_Atoi_range_var (s : ByteArray) (hlim : s.size ≤ 281474976710656) (h : Lib.atoiAll s.data.toList = .range) (tp : TypeId) (p : Value) (w : World) (hvar : w.var? Tryd.prog "strconv.ErrRange" = some #[.iface tp p]) :
    Calls Tryd.prog 74 #[.string s] w fun e w' => ∃ N, e = .returned (.tuple #[.int .i64 (Lib.atoiSat s.data.toList), .iface 120 (.pointer (some ⟨N, 0, none⟩))]) ∧ w.heap.size ≤ N ∧ w'.heap[N]? = some (.cells #[.string ⟨#[65, 116, 111, 105]⟩, .string s, .iface tp p] 133 (0, 0)) ∧ Below w.heap.size w w' := Any.strconv_Atoi_range_var Tryd.laysC172 s hlim h tp p w hvar
end Go.Proofs


namespace Go.Aw.T
open Go Go.Aw Go.Proofs Go.RowKit
set_option maxRecDepth 100000
attribute [local irreducible] Go.Aw.DM Go.Aw.AHeap.setB Go.Aw.AHeap.setT
attribute [local go_sem] peval EOpd.ev Env.get binInt binStr binBool buildParts AV.cells AV.okc setRange minmaxAV AV.one AV.ofCells eqCells eqCell bslRows cond_true cond_false beq_self_eq_true Bool.not_true Bool.not_false beq_true beq_false eq_self if_true Option.some.injEq List.length_cons List.length_nil List.take_succ_cons List.take_zero List.drop_succ_cons List.drop_zero List.set_cons_succ List.set_cons_zero List.nil_append List.cons_append List.append_nil and_self Option.map_some List.map_cons List.map_nil Bool.false_eq_true if_false Nat.zero_add Nat.add_zero true_and and_true Bool.and_true Bool.true_and List.getElem?_cons_zero List.getElem?_cons_succ Nat.zero_le Nat.le_refl
set_option linter.unusedSimpArgs false
set_option linter.unusedVariables false
/-- What the listed variables hold. -/
def LaidW (w : World) : Prop := Lib.TabIs Tryd.prog w "internal/strconv.uint64pow10" .u64 Lib.pow10Tab ∧ ∃ tp p, w.var? Tryd.prog "strconv.ErrRange" = some #[.iface tp p]
theorem gTab : Tryd.prog.globalNamed "internal/strconv.uint64pow10" = some 1 := by kernel_rfl
theorem gRan : Tryd.prog.globalNamed "strconv.ErrRange" = some 3 := by kernel_rfl
theorem LaidW.below {w w' : World} (h : LaidW w) (hb : Below w.heap.size w w') : LaidW w' :=
  ⟨Go.Joins.var_stays gTab h.1 hb (Nat.le_refl _), by obtain ⟨tp, p, h2⟩ := h.2; exact ⟨tp, p, Go.Joins.var_stays gRan h2 hb (Nat.le_refl _)⟩⟩
theorem below_grow (w : World) (q : Nat) (os : Array Obj) : Below w.heap.size w (Go.Sort.grow (w.drewN q) os) :=
  ⟨rfl, rfl, rfl, by simp [Go.Sort.grow, World.drewN], fun i hi => by
    show ((w.drewN q).heap ++ os)[i]? = _
    rw [Array.getElem?_append_left (by exact hi)]
    rfl⟩
theorem itoa_call {n : Int} (h0 : -1000 ≤ n) (h1 : n ≤ 1000) {w : World} (hL : LaidW w) : Calls Tryd.prog 49 #[.int .i64 n] w fun e w' => e = .returned (.string ⟨⟨Lib.itoa n⟩⟩) ∧ Below w.heap.size w w' := by
  refine (Tryd.strconv_Itoa n (by omega) (by omega) w hL.1).mono ?_
  rintro e w' ⟨rfl, q, os, rfl⟩
  exact ⟨rfl, below_grow w q os⟩
open Go.Lib in
set_option maxHeartbeats 4000000 in
theorem w17i (n : Int) (h0 : -1000 ≤ n) (h1 : n ≤ 1000) (w : World) (hL : LaidW w) : Calls Tryd.prog 17 #[.agg #[.int .i64 1, .int .i64 n, .string ⟨⟨[]⟩⟩]] w fun e w' => e = .returned (.string ⟨⟨Lib.itoa n⟩⟩) ∧ Below w.heap.size w w' := by
  have hv : validV ⟨1, n, []⟩ = true := by simp [validV]; omega
  go_enter Tryd.func17, Tryd.ntmps17
  go_wp2_with (go_at_call 22; refine (valid_call 1 n [] (by decide) _).mono ?_)
  rintro e w1 ⟨rfl, hb1⟩
  have ob : ∃ O, O = Obj.cells #[Value.int .i64 1, Value.int .i64 n, Value.string ⟨⟨[]⟩⟩] 23 := ⟨_, rfl⟩
  obtain ⟨O, hO⟩ := ob
  rw [← hO] at hb1
  have box1 : w1.heap[w.heap.size]? = some O := (hb1.block _ (by simp)).trans (alloc_new w O)
  have cl : ∀ W : World, W.heap[w.heap.size]? = some O → W.cell? ⟨w.heap.size, 0, none⟩ = some (.int .i64 1) ∧ W.cell? ⟨w.heap.size, 1, none⟩ = some (.int .i64 n) := fun W h => by
    rw [hO] at h
    exact ⟨by rw [Lib.cell_of_heap h]; rfl, by rw [Lib.cell_of_heap h]; rfl⟩
  have hw : Below w.heap.size w w1 := ((Below.refl _ w).alloc (Nat.le_refl _) O).trans (hb1.mono (by simp))
  have hL1 := hL.below hw
  obtain ⟨k0, k1⟩ := cl w1 box1
  clear hO
  simp only [hv]
  go_wp2_with (go_at_call 49; refine (itoa_call h0 h1 hL1).mono ?_)
  rintro e w2 ⟨rfl, hb2⟩
  go_wp2
  go_ret
  exact ⟨rfl, hw.trans (hb2.mono hw.size)⟩
open Go.Lib in
theorem w17b (v : Val) (hs : v.s.length ≤ maxLen) (hv : validV v = false) (w : World) : Calls Tryd.prog 17 #[.agg #[.int .i64 v.k, .int .i64 v.n, .string ⟨⟨v.s⟩⟩]] w fun e w' => e = .returned (.string ⟨⟨[63]⟩⟩) ∧ Below w.heap.size w w' := by
  obtain ⟨k, n, s⟩ := v
  go_enter Tryd.func17, Tryd.ntmps17
  go_wp2_with (go_at_call 22; refine (valid_call k n s hs _).mono ?_)
  rintro e w1 rfl hb1
  simp only [hv]
  go_wp2
  go_ret
  exact ⟨rfl, ((Below.refl _ w).alloc (Nat.le_refl _) _).trans (hb1.mono (by simp))⟩
theorem w17v (v : Val) (hs : v.s.length ≤ maxLen) (w : World) (hL : LaidW w) : Calls Tryd.prog 17 #[.agg #[.int .i64 v.k, .int .i64 v.n, .string ⟨⟨v.s⟩⟩]] w fun e w' => e = .returned (.string ⟨⟨showV v⟩⟩) ∧ Below w.heap.size w w' := by
  unfold showV
  by_cases hv : validV v = false
  · rw [if_pos hv]
    exact w17b v hs hv w
  · rw [if_neg hv]
    have hv' : validV v = true := by simpa using hv
    obtain ⟨k, n, s⟩ := v
    have h' := hv'
    simp only [validV, Bool.or_eq_true, Bool.and_eq_true, decide_eq_true_eq] at h'
    by_cases hk : k = 1
    · subst hk
      have hs : -1000 ≤ n ∧ n ≤ 1000 ∧ s = [] := by
        rcases h' with h' | h'
        · exact ⟨h'.1.1.2, h'.1.2, h'.2⟩
        · exact absurd h'.1.1.1 (by decide)
      obtain ⟨h1, h2, rfl⟩ := hs
      rw [if_pos rfl]
      exact w17i n h1 h2 w hL
    · have hs : k = 2 ∧ n = 0 := by
        rcases h' with h' | h'
        · exact absurd h'.1.1.1 hk
        · exact h'.1.1
      obtain ⟨rfl, rfl⟩ := hs
      rw [if_neg hk]
      exact w17 s hv' w
theorem int_call (s : List UInt8) (hs : s.length ≤ maxLen) (w : World) : Calls Tryd.prog 73 #[.string ⟨⟨s⟩⟩] w fun e w' => e = .returned (.int .i64 (intLen s)) ∧ Below w.heap.size w w' := by
  refine (calls_plain (p73 s) w [.string ⟨⟨s⟩⟩] (fun m => by simp only [RvL, Rv]; exact ⟨_, _, rfl, ⟨rfl, hs⟩, rfl⟩)).mono ?_
  rintro e w' ⟨⟨v, rfl, m, hv⟩, hb⟩
  simp only [Rv] at hv
  subst hv
  exact ⟨rfl, hb⟩
theorem intLen_le (s : List UInt8) : intLen s ≤ s.length := by
  by_cases h : intLen s = 0
  · omega
  · obtain ⟨_, h2, h3⟩ := intLen_take h
    have := congrArg List.length h3
    rw [List.length_take] at this
    rcases intN_01 s with e | e
    · rw [e] at this h2; simp at this; omega
    · rw [e] at this h2; simp at this; omega
theorem ext_take (s : List UInt8) (k : Nat) : (⟨⟨s⟩⟩ : ByteArray).extract 0 k = ⟨⟨s.take k⟩⟩ := by
  apply ByteArray.ext
  rw [ByteArray.data_extract]
  simp
theorem atoi_ok {s : List UInt8} {k : Nat} {z : Int} (hs : s.length ≤ 1000000) (h : Lib.atoiAll (s.take k) = .ok z) (w : World) : Calls Tryd.prog 74 #[.string ((⟨⟨s⟩⟩ : ByteArray).extract 0 k)] w fun e w' => e = .returned (.tuple #[.int .i64 z, .nilIface]) ∧ Below w.heap.size w w' := by
  rw [ext_take]
  have hz : (⟨⟨s.take k⟩⟩ : ByteArray).size ≤ 1000000 := by show (s.take k).length ≤ _; rw [List.length_take]; omega
  refine (Tryd.strconv_Atoi_ok ⟨⟨s.take k⟩⟩ (by omega) z h w).mono ?_
  rintro e w' ⟨rfl, rfl | ⟨t, rfl⟩⟩
  · exact ⟨rfl, Below.refl _ _⟩
  · exact ⟨rfl, Go.Joins.below_bytesWorld _ _ _ _ (Nat.le_refl _)⟩
theorem atoi_range {s : List UInt8} {k : Nat} (hs : s.length ≤ 1000000) (h : Lib.atoiAll (s.take k) = .range) (w : World) (hL : LaidW w) : Calls Tryd.prog 74 #[.string ((⟨⟨s⟩⟩ : ByteArray).extract 0 k)] w fun e w' => (∃ a p, e = .returned (.tuple #[.int .i64 a, .iface 120 (.pointer (some p))])) ∧ Below w.heap.size w w' := by
  rw [ext_take]
  have hz : (⟨⟨s.take k⟩⟩ : ByteArray).size ≤ 1000000 := by show (s.take k).length ≤ _; rw [List.length_take]; omega
  obtain ⟨tp, p, hv⟩ := hL.2
  refine (Tryd.strconv_Atoi_range_var ⟨⟨s.take k⟩⟩ (by omega) h tp p w hv).mono ?_
  rintro e w' ⟨N, rfl, _, _, hb⟩
  exact ⟨⟨_, _, rfl⟩, hb⟩
theorem results_cell2 {fn : Func} {p u x : Tmp} {ty : TypeId} (h : fn.results = #[.cell p ty, .tmp u, .tmp x]) (tmps : Array Value) (P : Program) (w : World) :
    (Go.results fn tmps).run P w =
      ((asAddr (tmps.getD p undef)).run P w).andThen fun a w₁ => ((loadVar ty a).run P w₁).andThen fun v w₂ => Result.ok (Value.tuple #[v, tmps.getD u undef, tmps.getD x undef]) w₂ := by
  simp only [Go.results, h]
  simp [Sem.run_bind, Result.andThen]
theorem ret_cell {W : World} {b : Nat} {x y z : Value} (h : W.heap[b]? = some (.cells #[x, y, z] 23 (0, 0))) : (loadVar 23 ⟨b, 0, none⟩).run Tryd.prog W = .ok (.agg #[x, y, z]) W := by
  have hc : ∀ j v, [x, y, z][j]? = some v → W.cell? ⟨b, 0 + j, none⟩ = some v := fun j v hj => by rw [Nat.zero_add, Lib.cell_of_heap h]; simpa using hj
  have := run_loadVar_cells (P := Tryd.prog) (t := 23) (agg := true) (n := 3) (w := W) (by kernel_rfl) b 0 [x, y, z] rfl hc
  simpa using this
theorem set3 {W : World} {b : Nat} {x y z x' y' z' : Value} (h : W.heap[b]? = some (.cells #[x, y, z] 23 (0, 0))) : (((W.setCell ⟨b, 0, none⟩ x').setCell ⟨b, 1, none⟩ y').setCell ⟨b, 2, none⟩ z').heap[b]? = some (.cells #[x', y', z'] 23 (0, 0)) := by
  simp [World.setCell, Array.getElem?_modify, h]
theorem below_set3 {W : World} {B b : Nat} (hB : B ≤ b) (x y z : Value) : Below B W (((W.setCell ⟨b, 0, none⟩ x).setCell ⟨b, 1, none⟩ y).setCell ⟨b, 2, none⟩ z) :=
  (((Below.refl B W).setCell (p := ⟨b, 0, none⟩) hB x).setCell (p := ⟨b, 1, none⟩) hB y).setCell (p := ⟨b, 2, none⟩) hB z
open Go.Lib in
set_option maxHeartbeats 4000000 in
theorem w52r (s : List UInt8) (hs : s.length ≤ 1000000) (k : Nat) (hk : intLen s = k) (h0 : k ≠ 0) (hle : k ≤ s.length) (ha : Lib.atoiAll (s.take k) = .range) (w : World) (hL : LaidW w) : Calls Tryd.prog 52 #[.string ⟨⟨s⟩⟩] w fun e w' => e = .returned (.tuple #[.agg #[.int .i64 0, .int .i64 0, .string ⟨⟨[]⟩⟩], .int .i64 k, .int .i64 2]) ∧ Below w.heap.size w w' := by
  have hpos : (0 : Int) < (k : Int) := by omega
  go_enter Tryd.func52, Tryd.ntmps52
  go_wp2_with (go_at_call 73; refine (int_call s (by unfold maxLen; omega) _).mono ?_)
  rintro e w1 ⟨rfl, hb1⟩
  rw [hk]
  have ob : ∃ O, O = Obj.cells #[Value.int .i64 0, Value.int .i64 0, Value.string ⟨⟨[]⟩⟩] 23 := ⟨_, rfl⟩
  obtain ⟨O, hO⟩ := ob
  have hb1' : Below (w.alloc O).heap.size (w.alloc O) w1 := by rw [hO]; exact hb1
  have box1 : w1.heap[w.heap.size]? = some O := (hb1'.block _ (by simp)).trans (alloc_new w O)
  have hw : Below w.heap.size w w1 := ((Below.refl _ w).alloc (Nat.le_refl _) O).trans (hb1'.mono (by simp))
  have hsz : w.heap.size < w1.heap.size := (Array.getElem?_eq_some_iff.1 box1).1
  have hL1 := hL.below hw
  go_wp2_with (go_at_call 74; refine (atoi_range hs ha w1 hL1).mono ?_)
  rintro e w2 ⟨⟨a, p, rfl⟩, hb2⟩
  have box2 : w2.heap[w.heap.size]? = some O := (hb2.block _ hsz).trans box1
  rw [hO] at box2
  clear box1 hb1' hO
  have c0 : w2.cell? ⟨w.heap.size, 0, none⟩ = some (.int .i64 0) := by rw [Lib.cell_of_heap box2]; rfl
  have c1 : w2.cell? ⟨w.heap.size, 1, none⟩ = some (.int .i64 0) := by rw [Lib.cell_of_heap box2]; rfl
  have c2 : w2.cell? ⟨w.heap.size, 2, none⟩ = some (.string ⟨⟨[]⟩⟩) := by rw [Lib.cell_of_heap box2]; rfl
  have f0 : w2.frozen? ⟨w.heap.size, 0, none⟩ = false := by simp [World.frozen?, box2]
  have f1 : w2.frozen? ⟨w.heap.size, 1, none⟩ = false := by simp [World.frozen?, box2]
  have f2 : w2.frozen? ⟨w.heap.size, 2, none⟩ = false := by simp [World.frozen?, box2]
  go_wp2
  (try simp only [Exit.inBlock, Exit.then])
  refine bodyPost_ret (v := Value.tuple #[.agg #[.int .i64 0, .int .i64 0, .string ⟨⟨[]⟩⟩], .int .i64 k, .int .i64 2]) ?_ rfl ⟨rfl, hw.trans ((hb2.mono hw.size).trans (below_set3 (Nat.le_refl _) _ _ _))⟩
  rw [results_cell2 rfl]
  have hr := ret_cell (set3 (x' := .int .i64 0) (y' := .int .i64 0) (z' := .string ⟨⟨[]⟩⟩) box2)
  simp [asAddr, Result.andThen, hr]
open Go.Lib in
set_option maxHeartbeats 4000000 in
theorem w52o (s : List UInt8) (hs : s.length ≤ 1000000) (k : Nat) (hk : intLen s = k) (h0 : k ≠ 0) (hle : k ≤ s.length) (z : Int) (ha : Lib.atoiAll (s.take k) = .ok z) (hr : z < -1000 ∨ 1000 < z) (w : World) (hL : LaidW w) : Calls Tryd.prog 52 #[.string ⟨⟨s⟩⟩] w fun e w' => e = .returned (.tuple #[.agg #[.int .i64 0, .int .i64 0, .string ⟨⟨[]⟩⟩], .int .i64 k, .int .i64 2]) ∧ Below w.heap.size w w' := by
  have hpos : (0 : Int) < (k : Int) := by omega
  go_enter Tryd.func52, Tryd.ntmps52
  go_wp2_with (go_at_call 73; refine (int_call s (by unfold maxLen; omega) _).mono ?_)
  rintro e w1 ⟨rfl, hb1⟩
  rw [hk]
  have ob : ∃ O, O = Obj.cells #[Value.int .i64 0, Value.int .i64 0, Value.string ⟨⟨[]⟩⟩] 23 := ⟨_, rfl⟩
  obtain ⟨O, hO⟩ := ob
  have hb1' : Below (w.alloc O).heap.size (w.alloc O) w1 := by rw [hO]; exact hb1
  have box1 : w1.heap[w.heap.size]? = some O := (hb1'.block _ (by simp)).trans (alloc_new w O)
  have hw : Below w.heap.size w w1 := ((Below.refl _ w).alloc (Nat.le_refl _) O).trans (hb1'.mono (by simp))
  have hsz : w.heap.size < w1.heap.size := (Array.getElem?_eq_some_iff.1 box1).1
  have hL1 := hL.below hw
  go_wp2_with (go_at_call 74; refine (atoi_ok hs ha w1).mono ?_)
  rintro e w2 ⟨rfl, hb2⟩
  have box2 : w2.heap[w.heap.size]? = some O := (hb2.block _ hsz).trans box1
  rw [hO] at box2
  clear box1 hb1' hO
  have c0 : w2.cell? ⟨w.heap.size, 0, none⟩ = some (.int .i64 0) := by rw [Lib.cell_of_heap box2]; rfl
  have c1 : w2.cell? ⟨w.heap.size, 1, none⟩ = some (.int .i64 0) := by rw [Lib.cell_of_heap box2]; rfl
  have c2 : w2.cell? ⟨w.heap.size, 2, none⟩ = some (.string ⟨⟨[]⟩⟩) := by rw [Lib.cell_of_heap box2]; rfl
  have f0 : w2.frozen? ⟨w.heap.size, 0, none⟩ = false := by simp [World.frozen?, box2]
  have f1 : w2.frozen? ⟨w.heap.size, 1, none⟩ = false := by simp [World.frozen?, box2]
  have f2 : w2.frozen? ⟨w.heap.size, 2, none⟩ = false := by simp [World.frozen?, box2]
  have hr2 : z < -1000 ∨ ¬ z < -1000 ∧ 1000 < z := by omega
  clear hr
  rcases hr2 with hr | ⟨hr1, hr⟩
  all_goals (
    go_wp2
    (try simp only [Exit.inBlock, Exit.then])
    refine bodyPost_ret (v := Value.tuple #[.agg #[.int .i64 0, .int .i64 0, .string ⟨⟨[]⟩⟩], .int .i64 k, .int .i64 2]) ?_ rfl ⟨rfl, hw.trans ((hb2.mono hw.size).trans (below_set3 (Nat.le_refl _) _ _ _))⟩
    rw [results_cell2 rfl]
    have hr := ret_cell (set3 (x' := .int .i64 0) (y' := .int .i64 0) (z' := .string ⟨⟨[]⟩⟩) box2)
    simp [asAddr, Result.andThen, hr])
open Go.Lib in
set_option maxHeartbeats 4000000 in
theorem w52k (s : List UInt8) (hs : s.length ≤ 1000000) (k : Nat) (hk : intLen s = k) (h0 : k ≠ 0) (hle : k ≤ s.length) (z : Int) (ha : Lib.atoiAll (s.take k) = .ok z) (hr1 : ¬ z < -1000) (hr2 : ¬ 1000 < z) (w : World) (hL : LaidW w) : Calls Tryd.prog 52 #[.string ⟨⟨s⟩⟩] w fun e w' => e = .returned (.tuple #[.agg #[.int .i64 1, .int .i64 z, .string ⟨⟨[]⟩⟩], .int .i64 k, .int .i64 0]) ∧ Below w.heap.size w w' := by
  have hpos : (0 : Int) < (k : Int) := by omega
  go_enter Tryd.func52, Tryd.ntmps52
  go_wp2_with (go_at_call 73; refine (int_call s (by unfold maxLen; omega) _).mono ?_)
  rintro e w1 rfl hb1
  have ob : ∃ O, O = Obj.cells #[Value.int .i64 0, Value.int .i64 0, Value.string ⟨⟨[]⟩⟩] 23 := ⟨_, rfl⟩
  obtain ⟨O, hO⟩ := ob
  have hb1' : Below (w.alloc O).heap.size (w.alloc O) w1 := by rw [hO]; simpa using hb1
  have box1 : w1.heap[w.heap.size]? = some O := (hb1'.block _ (by simp)).trans (alloc_new w O)
  have hw : Below w.heap.size w w1 := ((Below.refl _ w).alloc (Nat.le_refl _) O).trans (hb1'.mono (by simp))
  have hsz : w.heap.size < w1.heap.size := (Array.getElem?_eq_some_iff.1 box1).1
  have hL1 := hL.below hw
  go_wp2_with (go_at_call 74; refine (atoi_ok hs ha w1).mono ?_)
  rintro e w2 ⟨rfl, hb2⟩
  have box2 : w2.heap[w.heap.size]? = some O := (hb2.block _ hsz).trans box1
  rw [hO] at box2
  clear box1 hb1' hO
  have c0 : w2.cell? ⟨w.heap.size, 0, none⟩ = some (.int .i64 0) := by rw [Lib.cell_of_heap box2]; rfl
  have c1 : w2.cell? ⟨w.heap.size, 1, none⟩ = some (.int .i64 0) := by rw [Lib.cell_of_heap box2]; rfl
  have c2 : w2.cell? ⟨w.heap.size, 2, none⟩ = some (.string ⟨⟨[]⟩⟩) := by rw [Lib.cell_of_heap box2]; rfl
  have f0 : w2.frozen? ⟨w.heap.size, 0, none⟩ = false := by simp [World.frozen?, box2]
  have f1 : w2.frozen? ⟨w.heap.size, 1, none⟩ = false := by simp [World.frozen?, box2]
  have f2 : w2.frozen? ⟨w.heap.size, 2, none⟩ = false := by simp [World.frozen?, box2]
  go_wp2
  (try simp only [Exit.inBlock, Exit.then])
  refine bodyPost_ret (v := Value.tuple #[.agg #[.int .i64 1, .int .i64 z, .string ⟨⟨[]⟩⟩], .int .i64 k, .int .i64 0]) ?_ rfl ⟨rfl, hw.trans ((hb2.mono hw.size).trans (below_set3 (Nat.le_refl _) _ _ _))⟩
  rw [results_cell2 rfl]
  have hr := ret_cell (set3 (x' := .int .i64 1) (y' := .int .i64 z) (z' := .string ⟨⟨[]⟩⟩) box2)
  simp [asAddr, Result.andThen, hr]
theorem w52v (s : List UInt8) (hs : s.length ≤ 1000000) (w : World) (hL : LaidW w) : Calls Tryd.prog 52 #[.string ⟨⟨s⟩⟩] w fun e w' => e = .returned (.tuple #[.agg #[.int .i64 (scanV s).1.k, .int .i64 (scanV s).1.n, .string ⟨⟨(scanV s).1.s⟩⟩], .int .i64 (scanV s).2.1, .int .i64 (scanV s).2.2]) ∧ Below w.heap.size w w' := by
  by_cases h0 : intLen s = 0
  · have hsc : scanV s = scanT s := by unfold scanV; rw [if_pos h0]
    rw [hsc]
    refine (calls_plain (p52t s hs h0) w [.string ⟨⟨s⟩⟩] (fun m => by simp only [RvL, Rv]; exact ⟨_, _, rfl, ⟨rfl, by unfold maxLen; omega⟩, rfl⟩)).mono ?_
    rintro e w' ⟨⟨v, rfl, m, hv⟩, hb⟩
    simp only [Rv, RvL] at hv
    obtain ⟨_, rfl, _, _, rfl, ⟨_, rfl, _, _, rfl, rfl, _, _, rfl, rfl, _, _, rfl, ⟨rfl, _⟩, rfl⟩, _, _, rfl, rfl, _, _, rfl, rfl, rfl⟩ := hv
    exact ⟨rfl, hb⟩
  · obtain ⟨hb, hlen, ht⟩ := intLen_take h0
    have hle := intLen_le s
    have hall : (intD s).all isDig = true := takeWhile_all _
    have hat := atoi_digits (d := intD s) (intN s) (intN_01 s) hall (badD_nil hb)
    rw [← ht] at hat
    have hsc : scanV s = if numV (intN s) (intD s) < -1000 ∨ 1000 < numV (intN s) (intD s) then (val0, intLen s, 2) else (iv (numV (intN s) (intD s)), intLen s, 0) := by unfold scanV; rw [if_neg h0]
    rw [hsc]
    rcases hat with ⟨ha, _, _⟩ | ⟨ha, hr⟩
    · by_cases hr : numV (intN s) (intD s) < -1000 ∨ 1000 < numV (intN s) (intD s)
      · rw [if_pos hr]
        exact w52o s hs _ rfl h0 hle _ ha hr w hL
      · rw [if_neg hr]
        exact w52k s hs _ rfl h0 hle _ ha (fun e => hr (.inl e)) (fun e => hr (.inr e)) w hL
    · rw [if_pos hr]
      exact w52r s hs _ rfl h0 hle ha w hL
theorem enc_all : (List.range 10).all (fun d => (Utf8.encode (48 + (d : Int))).data.toList == [UInt8.ofNat (48 + d)]) = true := by kernel_rfl
theorem enc_digit {d : Nat} (h : d < 10) : Utf8.encode (48 + (d : Int)) = ⟨⟨[UInt8.ofNat (48 + d)]⟩⟩ := by
  have := List.all_eq_true.1 enc_all d (List.mem_range.2 h)
  simp only [beq_iff_eq] at this
  apply ByteArray.ext
  apply Array.toList_inj.1
  simpa using this
theorem itoa_small {n : Nat} (h : n < 10) : Lib.itoa (n : Int) = [UInt8.ofNat (48 + n)] := by
  unfold Lib.itoa
  rw [if_neg (by omega), Int.toNat_natCast, dec_small h]
theorem itoa_big {n : Nat} (h : ¬ n < 10) : Lib.itoa (n : Int) = Lib.itoa ((n / 10 : Nat) : Int) ++ [UInt8.ofNat (48 + n % 10)] := by
  unfold Lib.itoa
  rw [if_neg (by omega), if_neg (by omega), Int.toNat_natCast, Int.toNat_natCast, dec_step h]
theorem itoa_minus {n : Nat} (h : 1 ≤ n) : Lib.itoa (-(n : Int)) = 45 :: Lib.decDigits n := by
  unfold Lib.itoa
  rw [if_pos (by omega)]
  simp
theorem w53a (n : Nat) (h1 : n < 10) (w : World) : Calls Tryd.prog 53 #[.int .i64 n] w fun e w' => e = .returned (.string ⟨⟨Lib.itoa n⟩⟩) ∧ Below w.heap.size w w' := by
  rw [itoa_small h1, ← enc_digit h1]
  have g1 : ¬ (n : Int) < -9 := by omega
  have g2 : ¬ (n : Int) < 0 := by omega
  have g3 : (n : Int) < 10 := by omega
  go_enter Tryd.func53, Tryd.ntmps53
  go_wp2
  go_ret
  exact ⟨rfl, Below.refl _ _⟩
theorem ba_append (s t : List UInt8) : (⟨⟨s⟩⟩ : ByteArray) ++ ⟨⟨t⟩⟩ = ⟨⟨s ++ t⟩⟩ := by
  apply ByteArray.ext
  rw [ByteArray.data_append]
  simp
theorem enc_minus {z : Int} (h0 : z ≤ 0) (h1 : -9 ≤ z) : Utf8.encode (48 - z) = ⟨⟨[UInt8.ofNat (48 + z.natAbs)]⟩⟩ := by
  obtain ⟨n, rfl⟩ : ∃ n : Nat, z = -(n : Int) := ⟨z.natAbs, by omega⟩
  rw [show 48 - -(n : Int) = 48 + (n : Int) by omega, enc_digit (by omega)]
  simp
theorem tq (m : Nat) : (-(m : Int)).tdiv 10 = -((m / 10 : Nat) : Int) := by rw [Int.neg_tdiv]; rfl
theorem tr (m : Nat) : (-(m : Int)).tmod 10 = -((m % 10 : Nat) : Int) := by rw [Int.neg_tmod]; rfl
theorem dec_len (u : Nat) : (Lib.decDigits u).length ≤ u + 1 := by
  induction u using Nat.strongRecOn with
  | ind u ih =>
    by_cases h : u < 10
    · rw [dec_small h]; simp
    · rw [dec_step h]
      have := ih (u / 10) (by omega)
      rw [List.length_append, List.length_cons, List.length_nil]
      omega
theorem itoa_len {z : Int} (h0 : -1000 ≤ z) (h1 : z ≤ 1000) : (Lib.itoa z).length ≤ 1002 := by
  unfold Lib.itoa
  split
  · have := dec_len z.natAbs; simp only [List.length_cons]; omega
  · have := dec_len z.toNat; omega
theorem w53b (z : Int) (h0 : z < 0) (h1 : -9 ≤ z) (w : World) : Calls Tryd.prog 53 #[.int .i64 z] w fun e w' => e = .returned (.string ⟨⟨Lib.itoa z⟩⟩) ∧ Below w.heap.size w w' := by
  have e2 : (⟨⟨[45]⟩⟩ : ByteArray) ++ Utf8.encode (48 - z) = ⟨⟨Lib.itoa z⟩⟩ := by
    rw [enc_minus (by omega) h1]
    obtain ⟨n, rfl⟩ : ∃ n : Nat, z = -(n : Int) := ⟨z.natAbs, by omega⟩
    rw [ba_append, itoa_minus (by omega), dec_small (by omega)]
    simp
  rw [← e2]
  clear e2
  have g1 : ¬ z < -9 := by omega
  have sz : (Utf8.encode (48 - z)).size = 1 := by rw [enc_minus (by omega) h1]; rfl
  go_enter Tryd.func53, Tryd.ntmps53
  go_wp2
  go_ret
  exact ⟨rfl, Below.refl _ _⟩
theorem w53 : ∀ (z : Int), 0 ≤ z → z ≤ 1000 → ∀ w : World, Calls Tryd.prog 53 #[.int .i64 z] w fun e w' => e = .returned (.string ⟨⟨Lib.itoa z⟩⟩) ∧ Below w.heap.size w w' := by
  have key : ∀ (b : Nat) (z : Int), z.natAbs ≤ b → 0 ≤ z → z ≤ 1000 → ∀ w : World, Calls Tryd.prog 53 #[.int .i64 z] w fun e w' => e = .returned (.string ⟨⟨Lib.itoa z⟩⟩) ∧ Below w.heap.size w w' := by
    intro b
    induction b with
    | zero =>
      intro z h1 h2 h3 w
      obtain rfl : z = ((0 : Nat) : Int) := by omega
      exact w53a 0 (by decide) w
    | succ b ih =>
      intro z h1 h2 h3 w
      by_cases h9 : z < 10
      · obtain ⟨m, rfl⟩ : ∃ m : Nat, z = (m : Int) := ⟨z.natAbs, by omega⟩
        exact w53a m (by omega) w
      have g1 : ¬ z < -9 := by omega
      have g2 : ¬ z < 0 := by omega
      obtain ⟨m, hm⟩ : ∃ m : Nat, z = (m : Int) := ⟨z.natAbs, by omega⟩
      have t1 : (z / 10) = ((m / 10 : Nat) : Int) := by omega
      have t2 : (z % 10) = ((m % 10 : Nat) : Int) := by omega
      have ih' := ih ((z / 10)) (by omega) (by omega) (by omega) w
      have en : Utf8.encode (48 + (z % 10)) = ⟨⟨[UInt8.ofNat (48 + m % 10)]⟩⟩ := by rw [t2]; exact enc_digit (by omega)
      have e2 : (⟨⟨Lib.itoa ((z / 10))⟩⟩ : ByteArray) ++ Utf8.encode (48 + (z % 10)) = ⟨⟨Lib.itoa z⟩⟩ := by
        rw [en, ba_append, t1, hm, itoa_big (n := m) (by omega)]
      rw [← e2]
      have sz : (Utf8.encode (48 + (z % 10))).size = 1 := by rw [en]; rfl
      have le := itoa_len (z := (z / 10)) (by omega) (by omega)
      obtain ⟨L, hL⟩ : ∃ L, Lib.itoa ((z / 10)) = L := ⟨_, rfl⟩
      rw [hL] at ih' le ⊢
      have sl : (⟨⟨L⟩⟩ : ByteArray).size = L.length := rfl
      have b1 : 0 ≤ (z % 10) ∧ (z % 10) ≤ 9 := by omega
      clear hL e2 ih t1 t2 hm en
      go_enter Tryd.func53, Tryd.ntmps53
      go_wp2_with (go_at_call 53; refine ih'.mono ?_)
      rintro e w' rfl hb
      clear ih'
      go_wp2
      go_ret
      exact ⟨rfl, hb⟩
  exact fun z h1 h2 w => key z.natAbs z (Nat.le_refl _) h1 h2 w
theorem w53n : ∀ (z : Int), z < 0 → -1000 ≤ z → ∀ w : World, Calls Tryd.prog 53 #[.int .i64 z] w fun e w' => e = .returned (.string ⟨⟨Lib.itoa z⟩⟩) ∧ Below w.heap.size w w' := by
  have key : ∀ (b : Nat) (z : Int), z.natAbs ≤ b → z < 0 → -1000 ≤ z → ∀ w : World, Calls Tryd.prog 53 #[.int .i64 z] w fun e w' => e = .returned (.string ⟨⟨Lib.itoa z⟩⟩) ∧ Below w.heap.size w w' := by
    intro b
    induction b with
    | zero => intro z h1 h2; omega
    | succ b ih =>
      intro z h1 h2 h3 w
      by_cases h9 : -9 ≤ z
      · exact w53b z h2 h9 w
      have g1 : z < -9 := by omega
      obtain ⟨m, hm⟩ : ∃ m : Nat, z = -(m : Int) := ⟨z.natAbs, by omega⟩
      have t1 := tq m
      have t2 := tr m
      rw [← hm] at t1 t2
      have ih' := ih (z.tdiv 10) (by omega) (by omega) (by omega) w
      have e2 : (⟨⟨Lib.itoa (z.tdiv 10)⟩⟩ : ByteArray) ++ Utf8.encode (48 - z.tmod 10) = ⟨⟨Lib.itoa z⟩⟩ := by
        rw [enc_minus (by omega) (by omega), ba_append, t1, t2, hm, itoa_minus (by omega), itoa_minus (by omega), dec_step (u := m) (by omega)]
        simp only [List.cons_append, Int.natAbs_neg, Int.natAbs_natCast]
      rw [← e2]
      have sz : (Utf8.encode (48 - z.tmod 10)).size = 1 := by rw [enc_minus (by omega) (by omega)]; rfl
      have le := itoa_len (z := z.tdiv 10) (by omega) (by omega)
      obtain ⟨L, hL⟩ : ∃ L, Lib.itoa (z.tdiv 10) = L := ⟨_, rfl⟩
      rw [hL] at ih' le ⊢
      have sl : (⟨⟨L⟩⟩ : ByteArray).size = L.length := rfl
      have b1 : -9 ≤ z.tmod 10 ∧ z.tmod 10 ≤ 0 := by omega
      clear hL e2 ih t1 t2 hm
      go_enter Tryd.func53, Tryd.ntmps53
      go_wp2_with (go_at_call 53; refine ih'.mono ?_)
      rintro e w' rfl hb
      clear ih'
      go_wp2
      go_ret
      exact ⟨rfl, hb⟩
  exact fun z h1 h2 w => key z.natAbs z (Nat.le_refl _) h1 h2 w
theorem p53 (z : Int) (h0 : -1000 ≤ z) (h1 : z ≤ 1000) : Pure Tryd.prog 53 [.int .i64 z] (.str (Lib.itoa z)) := by
  refine pure_of_plain fun m vs h => ?_
  simp only [RvL, Rv] at h
  obtain ⟨_, _, rfl, rfl, rfl⟩ := h
  have hc : Calls Tryd.prog 53 #[.int .i64 z] m.w fun e w' => e = .returned (.string ⟨⟨Lib.itoa z⟩⟩) ∧ Below m.w.heap.size m.w w' := by
    by_cases hz : 0 ≤ z
    · exact w53 z hz h1 m.w
    · exact w53n z (by omega) h0 m.w
  refine hc.mono ?_
  rintro e w' ⟨rfl, hb⟩
  refine ⟨_, rfl, fun m' => ?_, hb⟩
  simp only [Rv]
  exact ⟨trivial, by have := itoa_len h0 h1; unfold maxLen; omega⟩
theorem take_one' {s : List UInt8} {i : Nat} {c : UInt8} (h : s[i]? = some c) : (s.take (i + 1)).drop i = [c] := by
  rw [List.take_add_one, h]
  have : (s.take i).length = i := by rw [List.length_take]; have := (List.getElem?_eq_some_iff.1 h).1; omega
  rw [List.drop_append_of_le_length (by omega), List.drop_eq_nil_of_le (by omega)]
  rfl
theorem p19 (v : Val) : Pure Tryd.prog 19 [v.av] (.str (showV v)) := by
  obtain ⟨Z, hZ⟩ : ∃ Z, showV v = Z := ⟨_, rfl⟩
  rw [hZ]
  unfold showV at hZ
  refine pure_intro mo Tryd.func19 c19 fun H => ?_
  unfold e19 r19
  simp only [initEnv, initFrom]
  repeat' first | apply AM.seq | apply AM.block | apply AM.skip | apply AM.blkEnd | refine AM.exit rfl ?_ | (apply AM.reg []; simp only [annotate]) | apply DM.nil | refine DM.g1 rfl ?_ | refine DM.g0s (t' := true) rfl rfl ?_ | refine DM.g0s (t' := false) rfl rfl ?_ | refine DM.gus rfl ?_ | ((first | apply DM.ldm1 | apply DM.ldmA | apply DM.bxA | apply DM.al | apply DM.stE | apply DM.ixP | apply DM.lnM | apply DM.fdM | apply DM.bsl | apply DM.p); (repeat first | (change _ = _; first | exact setB_setB | (simp only [go_sem, Nat.reduceBEq, Nat.reduceAdd, Nat.reduceLeDiff, reduceIte] <;> rfl) | rfl | focus ((repeat' first | exact g_same | refine g_ne ‹_› ?_ | refine g_fresh ‹_› ?_ | refine g_T ?_ | exact t_same | refine t_ne ‹_› ?_ | refine t_fresh ‹_› ?_ | refine t_B ?_ | assumption); done)) | exact RD.r | apply RD.p | exact Nat.le_of_ble_eq_true rfl | decide); first | change DM _ _ _ _ _ _ | (intro b hb; repeat first | (refine fresh_elim hb ?_; intro _ _ hb) | (refine fresh_elimT hb ?_; intro hb))) | apply AM.condT rfl | apply AM.condF rfl | (apply DM.gbT; rfl) | (apply DM.gbF; rfl) | intro h
  (apply DM.pcs (p20 v); (· simp only [go_sem, Nat.reduceBEq, Nat.reduceAdd] <;> rfl); (· exact AVLes.refl _))
  repeat' first | apply AM.seq | apply AM.block | apply AM.skip | apply AM.blkEnd | refine AM.exit rfl ?_ | (apply AM.reg []; simp only [annotate]) | apply DM.nil | refine DM.g1 rfl ?_ | refine DM.g0s (t' := true) rfl rfl ?_ | refine DM.g0s (t' := false) rfl rfl ?_ | refine DM.gus rfl ?_ | ((first | apply DM.ldm1 | apply DM.ldmA | apply DM.bxA | apply DM.al | apply DM.stE | apply DM.ixP | apply DM.lnM | apply DM.fdM | apply DM.bsl | apply DM.p); (repeat first | (change _ = _; first | exact setB_setB | (simp only [go_sem, Nat.reduceBEq, Nat.reduceAdd, Nat.reduceLeDiff, reduceIte] <;> rfl) | rfl | focus ((repeat' first | exact g_same | refine g_ne ‹_› ?_ | refine g_fresh ‹_› ?_ | refine g_T ?_ | exact t_same | refine t_ne ‹_› ?_ | refine t_fresh ‹_› ?_ | refine t_B ?_ | assumption); done)) | exact RD.r | apply RD.p | exact Nat.le_of_ble_eq_true rfl | decide); first | change DM _ _ _ _ _ _ | (intro b hb; repeat first | (refine fresh_elim hb ?_; intro _ _ hb) | (refine fresh_elimT hb ?_; intro hb))) | apply AM.condT rfl | apply AM.condF rfl | (apply DM.gbT; rfl) | (apply DM.gbF; rfl) | intro h
  (apply AM.cond; (· rfl))
  · intro h1
    simp at h1
    rw [if_pos h1] at hZ
    repeat' first | apply AM.seq | apply AM.block | apply AM.skip | apply AM.blkEnd | refine AM.exit rfl ?_ | (apply AM.reg []; simp only [annotate]) | apply DM.nil | refine DM.g1 rfl ?_ | refine DM.g0s (t' := true) rfl rfl ?_ | refine DM.g0s (t' := false) rfl rfl ?_ | refine DM.gus rfl ?_ | ((first | apply DM.ldm1 | apply DM.ldmA | apply DM.bxA | apply DM.al | apply DM.stE | apply DM.ixP | apply DM.lnM | apply DM.fdM | apply DM.bsl | apply DM.p); (repeat first | (change _ = _; first | exact setB_setB | (simp only [go_sem, Nat.reduceBEq, Nat.reduceAdd, Nat.reduceLeDiff, reduceIte] <;> rfl) | rfl | focus ((repeat' first | exact g_same | refine g_ne ‹_› ?_ | refine g_fresh ‹_› ?_ | refine g_T ?_ | exact t_same | refine t_ne ‹_› ?_ | refine t_fresh ‹_› ?_ | refine t_B ?_ | assumption); done)) | exact RD.r | apply RD.p | exact Nat.le_of_ble_eq_true rfl | decide); first | change DM _ _ _ _ _ _ | (intro b hb; repeat first | (refine fresh_elim hb ?_; intro _ _ hb) | (refine fresh_elimT hb ?_; intro hb))) | apply AM.condT rfl | apply AM.condF rfl | (apply DM.gbT; rfl) | (apply DM.gbF; rfl) | intro h
    ((first | apply AM.retA | apply AM.doneA); (· first | (apply results_t; (· simp only [go_sem, Nat.reduceBEq, Nat.reduceAdd, Nat.reduceLeDiff, reduceIte] <;> rfl)) | (apply results_c; (· rfl); (· repeat' first | exact g_same | refine g_ne ‹_› ?_ | refine g_fresh ‹_› ?_ | refine g_T ?_ | assumption); (· rfl)) | (apply results_ct; (· rfl); (· repeat' first | exact g_same | refine g_ne ‹_› ?_ | refine g_fresh ‹_› ?_ | refine g_T ?_ | assumption); (· rfl); (· simp only [go_sem, Nat.reduceBEq, Nat.reduceAdd, Nat.reduceLeDiff, reduceIte] <;> rfl)) | (apply results_ctt; (· rfl); (· repeat' first | exact g_same | refine g_ne ‹_› ?_ | refine g_fresh ‹_› ?_ | refine g_T ?_ | assumption); (· rfl); (· simp only [go_sem, Nat.reduceBEq, Nat.reduceAdd, Nat.reduceLeDiff, reduceIte] <;> rfl); (· simp only [go_sem, Nat.reduceBEq, Nat.reduceAdd, Nat.reduceLeDiff, reduceIte] <;> rfl)) | (apply results_tt; (· simp only [go_sem, Nat.reduceBEq, Nat.reduceAdd, Nat.reduceLeDiff, reduceIte] <;> rfl); (· simp only [go_sem, Nat.reduceBEq, Nat.reduceAdd, Nat.reduceLeDiff, reduceIte] <;> rfl)) | (apply results_ttt; (· simp only [go_sem, Nat.reduceBEq, Nat.reduceAdd, Nat.reduceLeDiff, reduceIte] <;> rfl); (· simp only [go_sem, Nat.reduceBEq, Nat.reduceAdd, Nat.reduceLeDiff, reduceIte] <;> rfl); (· simp only [go_sem, Nat.reduceBEq, Nat.reduceAdd, Nat.reduceLeDiff, reduceIte] <;> rfl)) | exact results_nil); rotate_left; (· (repeat' first | exact HSub.refl _ | assumption | refine HSub.setB ?_ ‹_› | refine HSub.setT ?_ ‹_›)))
    rw [← hZ]
    exact AVLe.refl _
  · intro h1
    simp at h1
    rw [if_neg (by simp [h1])] at hZ
    repeat' first | apply AM.seq | apply AM.block | apply AM.skip | apply AM.blkEnd | refine AM.exit rfl ?_ | (apply AM.reg []; simp only [annotate]) | apply DM.nil | refine DM.g1 rfl ?_ | refine DM.g0s (t' := true) rfl rfl ?_ | refine DM.g0s (t' := false) rfl rfl ?_ | refine DM.gus rfl ?_ | ((first | apply DM.ldm1 | apply DM.ldmA | apply DM.bxA | apply DM.al | apply DM.stE | apply DM.ixP | apply DM.lnM | apply DM.fdM | apply DM.bsl | apply DM.p); (repeat first | (change _ = _; first | exact setB_setB | (simp only [go_sem, Nat.reduceBEq, Nat.reduceAdd, Nat.reduceLeDiff, reduceIte] <;> rfl) | rfl | focus ((repeat' first | exact g_same | refine g_ne ‹_› ?_ | refine g_fresh ‹_› ?_ | refine g_T ?_ | exact t_same | refine t_ne ‹_› ?_ | refine t_fresh ‹_› ?_ | refine t_B ?_ | assumption); done)) | exact RD.r | apply RD.p | exact Nat.le_of_ble_eq_true rfl | decide); first | change DM _ _ _ _ _ _ | (intro b hb; repeat first | (refine fresh_elim hb ?_; intro _ _ hb) | (refine fresh_elimT hb ?_; intro hb))) | apply AM.condT rfl | apply AM.condF rfl | (apply DM.gbT; rfl) | (apply DM.gbF; rfl) | intro h
    (apply AM.cond; (· rfl))
    · intro h2
      simp at h2
      rw [if_pos h2] at hZ
      have hb : -1000 ≤ v.n ∧ v.n ≤ 1000 := by simp [validV, h2] at h1; exact ⟨h1.1.1, h1.1.2⟩
      repeat' first | apply AM.seq | apply AM.block | apply AM.skip | apply AM.blkEnd | refine AM.exit rfl ?_ | (apply AM.reg []; simp only [annotate]) | apply DM.nil | refine DM.g1 rfl ?_ | refine DM.g0s (t' := true) rfl rfl ?_ | refine DM.g0s (t' := false) rfl rfl ?_ | refine DM.gus rfl ?_ | ((first | apply DM.ldm1 | apply DM.ldmA | apply DM.bxA | apply DM.al | apply DM.stE | apply DM.ixP | apply DM.lnM | apply DM.fdM | apply DM.bsl | apply DM.p); (repeat first | (change _ = _; first | exact setB_setB | (simp only [go_sem, Nat.reduceBEq, Nat.reduceAdd, Nat.reduceLeDiff, reduceIte] <;> rfl) | rfl | focus ((repeat' first | exact g_same | refine g_ne ‹_› ?_ | refine g_fresh ‹_› ?_ | refine g_T ?_ | exact t_same | refine t_ne ‹_› ?_ | refine t_fresh ‹_› ?_ | refine t_B ?_ | assumption); done)) | exact RD.r | apply RD.p | exact Nat.le_of_ble_eq_true rfl | decide); first | change DM _ _ _ _ _ _ | (intro b hb; repeat first | (refine fresh_elim hb ?_; intro _ _ hb) | (refine fresh_elimT hb ?_; intro hb))) | apply AM.condT rfl | apply AM.condF rfl | (apply DM.gbT; rfl) | (apply DM.gbF; rfl) | intro h
      (apply DM.pcs (p53 v.n hb.1 hb.2); (· simp only [go_sem, Nat.reduceBEq, Nat.reduceAdd] <;> rfl); (· exact AVLes.refl _))
      repeat' first | apply AM.seq | apply AM.block | apply AM.skip | apply AM.blkEnd | refine AM.exit rfl ?_ | (apply AM.reg []; simp only [annotate]) | apply DM.nil | refine DM.g1 rfl ?_ | refine DM.g0s (t' := true) rfl rfl ?_ | refine DM.g0s (t' := false) rfl rfl ?_ | refine DM.gus rfl ?_ | ((first | apply DM.ldm1 | apply DM.ldmA | apply DM.bxA | apply DM.al | apply DM.stE | apply DM.ixP | apply DM.lnM | apply DM.fdM | apply DM.bsl | apply DM.p); (repeat first | (change _ = _; first | exact setB_setB | (simp only [go_sem, Nat.reduceBEq, Nat.reduceAdd, Nat.reduceLeDiff, reduceIte] <;> rfl) | rfl | focus ((repeat' first | exact g_same | refine g_ne ‹_› ?_ | refine g_fresh ‹_› ?_ | refine g_T ?_ | exact t_same | refine t_ne ‹_› ?_ | refine t_fresh ‹_› ?_ | refine t_B ?_ | assumption); done)) | exact RD.r | apply RD.p | exact Nat.le_of_ble_eq_true rfl | decide); first | change DM _ _ _ _ _ _ | (intro b hb; repeat first | (refine fresh_elim hb ?_; intro _ _ hb) | (refine fresh_elimT hb ?_; intro hb))) | apply AM.condT rfl | apply AM.condF rfl | (apply DM.gbT; rfl) | (apply DM.gbF; rfl) | intro h
      ((first | apply AM.retA | apply AM.doneA); (· first | (apply results_t; (· simp only [go_sem, Nat.reduceBEq, Nat.reduceAdd, Nat.reduceLeDiff, reduceIte] <;> rfl)) | (apply results_c; (· rfl); (· repeat' first | exact g_same | refine g_ne ‹_› ?_ | refine g_fresh ‹_› ?_ | refine g_T ?_ | assumption); (· rfl)) | (apply results_ct; (· rfl); (· repeat' first | exact g_same | refine g_ne ‹_› ?_ | refine g_fresh ‹_› ?_ | refine g_T ?_ | assumption); (· rfl); (· simp only [go_sem, Nat.reduceBEq, Nat.reduceAdd, Nat.reduceLeDiff, reduceIte] <;> rfl)) | (apply results_ctt; (· rfl); (· repeat' first | exact g_same | refine g_ne ‹_› ?_ | refine g_fresh ‹_› ?_ | refine g_T ?_ | assumption); (· rfl); (· simp only [go_sem, Nat.reduceBEq, Nat.reduceAdd, Nat.reduceLeDiff, reduceIte] <;> rfl); (· simp only [go_sem, Nat.reduceBEq, Nat.reduceAdd, Nat.reduceLeDiff, reduceIte] <;> rfl)) | (apply results_tt; (· simp only [go_sem, Nat.reduceBEq, Nat.reduceAdd, Nat.reduceLeDiff, reduceIte] <;> rfl); (· simp only [go_sem, Nat.reduceBEq, Nat.reduceAdd, Nat.reduceLeDiff, reduceIte] <;> rfl)) | (apply results_ttt; (· simp only [go_sem, Nat.reduceBEq, Nat.reduceAdd, Nat.reduceLeDiff, reduceIte] <;> rfl); (· simp only [go_sem, Nat.reduceBEq, Nat.reduceAdd, Nat.reduceLeDiff, reduceIte] <;> rfl); (· simp only [go_sem, Nat.reduceBEq, Nat.reduceAdd, Nat.reduceLeDiff, reduceIte] <;> rfl)) | exact results_nil); rotate_left; (· (repeat' first | exact HSub.refl _ | assumption | refine HSub.setB ?_ ‹_› | refine HSub.setT ?_ ‹_›)))
      rw [← hZ]
      exact AVLe.refl _
    · intro h2
      simp at h2
      rw [if_neg h2] at hZ
      have hlen : v.s.length ≤ 40 := by simp [validV, h2] at h1; exact h1.1.2
      repeat' first | apply AM.seq | apply AM.block | apply AM.skip | apply AM.blkEnd | refine AM.exit rfl ?_ | (apply AM.reg []; simp only [annotate]) | apply DM.nil | refine DM.g1 rfl ?_ | refine DM.g0s (t' := true) rfl rfl ?_ | refine DM.g0s (t' := false) rfl rfl ?_ | refine DM.gus rfl ?_ | ((first | apply DM.ldm1 | apply DM.ldmA | apply DM.bxA | apply DM.al | apply DM.stE | apply DM.ixP | apply DM.lnM | apply DM.fdM | apply DM.bsl | apply DM.p); (repeat first | (change _ = _; first | exact setB_setB | (simp only [go_sem, Nat.reduceBEq, Nat.reduceAdd, Nat.reduceLeDiff, reduceIte] <;> rfl) | rfl | focus ((repeat' first | exact g_same | refine g_ne ‹_› ?_ | refine g_fresh ‹_› ?_ | refine g_T ?_ | exact t_same | refine t_ne ‹_› ?_ | refine t_fresh ‹_› ?_ | refine t_B ?_ | assumption); done)) | exact RD.r | apply RD.p | exact Nat.le_of_ble_eq_true rfl | decide); first | change DM _ _ _ _ _ _ | (intro b hb; repeat first | (refine fresh_elim hb ?_; intro _ _ hb) | (refine fresh_elimT hb ?_; intro hb))) | apply AM.condT rfl | apply AM.condF rfl | (apply DM.gbT; rfl) | (apply DM.gbF; rfl) | intro h
      refine AM.loopX (X := Nat) 0 (fun i => [(1, .ptr b 0), (3, .str (34 :: esc (v.s.take i))), (4, .int .i64 i)]) (fun i H' => H' = H.setB b 23 [.int .i64 v.k, .int .i64 v.n, .str v.s] ∧ i ≤ v.s.length) (fun i => v.s.length - i) ⟨rfl, by omega⟩ ?_ ?_
      · (repeat first | exact envle_nil _ | (refine envle_cons ?_ ?_; · (simp only [go_sem, Nat.reduceBEq, Nat.reduceAdd]; exact AVLe.refl _)))
      · intro i H' ⟨e, hi⟩
        subst e
        have el := esc_len (v.s.take i)
        rw [List.length_take] at el
        repeat' first | apply AM.seq | apply AM.block | apply AM.skip | apply AM.blkEnd | refine AM.exit rfl ?_ | (apply AM.reg []; simp only [annotate]) | apply DM.nil | refine DM.g1 rfl ?_ | refine DM.g0s (t' := true) rfl rfl ?_ | refine DM.g0s (t' := false) rfl rfl ?_ | refine DM.gus rfl ?_ | ((first | apply DM.ldm1 | apply DM.ldmA | apply DM.bxA | apply DM.al | apply DM.stE | apply DM.ixP | apply DM.lnM | apply DM.fdM | apply DM.bsl | apply DM.p); (repeat first | (change _ = _; first | exact setB_setB | (simp only [go_sem, Nat.reduceBEq, Nat.reduceAdd, Nat.reduceLeDiff, reduceIte] <;> rfl) | rfl | focus ((repeat' first | exact g_same | refine g_ne ‹_› ?_ | refine g_fresh ‹_› ?_ | refine g_T ?_ | exact t_same | refine t_ne ‹_› ?_ | refine t_fresh ‹_› ?_ | refine t_B ?_ | assumption); done)) | exact RD.r | apply RD.p | exact Nat.le_of_ble_eq_true rfl | decide); first | change DM _ _ _ _ _ _ | (intro b hb; repeat first | (refine fresh_elim hb ?_; intro _ _ hb) | (refine fresh_elimT hb ?_; intro hb))) | apply AM.condT rfl | apply AM.condF rfl | (apply DM.gbT; rfl) | (apply DM.gbF; rfl) | intro h
        (apply AM.cond; (· rfl))
        · intro h3
          simp at h3
          obtain ⟨c, hc⟩ := some_of h3
          repeat' first | apply AM.seq | apply AM.block | apply AM.skip | apply AM.blkEnd | refine AM.exit rfl ?_ | (apply AM.reg []; simp only [annotate]) | apply DM.nil | refine DM.g1 rfl ?_ | refine DM.g0s (t' := true) rfl rfl ?_ | refine DM.g0s (t' := false) rfl rfl ?_ | refine DM.gus rfl ?_ | ((first | apply DM.ldm1 | apply DM.ldmA | apply DM.bxA | apply DM.al | apply DM.stE | apply DM.ixP | apply DM.lnM | apply DM.fdM | apply DM.bsl | apply DM.p); (repeat first | (change _ = _; first | exact setB_setB | (simp only [go_sem, Nat.reduceBEq, Nat.reduceAdd, Nat.reduceLeDiff, reduceIte] <;> rfl) | rfl | focus ((repeat' first | exact g_same | refine g_ne ‹_› ?_ | refine g_fresh ‹_› ?_ | refine g_T ?_ | exact t_same | refine t_ne ‹_› ?_ | refine t_fresh ‹_› ?_ | refine t_B ?_ | assumption); done)) | exact RD.r | apply RD.p | exact Nat.le_of_ble_eq_true rfl | decide); first | change DM _ _ _ _ _ _ | (intro b hb; repeat first | (refine fresh_elim hb ?_; intro _ _ hb) | (refine fresh_elimT hb ?_; intro hb))) | apply AM.condT rfl | apply AM.condF rfl | (apply DM.gbT; rfl) | (apply DM.gbF; rfl) | intro h
          (apply DM.idxSs v.s .i64 i c (by omega) (by simpa using hc); (· rfl); (· rfl))
          have et := esc_take hc
          have hw : IntKind.i64.wrap ((i : Int) + 1) = ((i + 1 : Nat) : Int) := inc64 h3 (by unfold maxLen; omega)
          repeat' first | apply AM.seq | apply AM.block | apply AM.skip | apply AM.blkEnd | refine AM.exit rfl ?_ | (apply AM.reg []; simp only [annotate]) | apply DM.nil | refine DM.g1 rfl ?_ | refine DM.g0s (t' := true) rfl rfl ?_ | refine DM.g0s (t' := false) rfl rfl ?_ | refine DM.gus rfl ?_ | ((first | apply DM.ldm1 | apply DM.ldmA | apply DM.bxA | apply DM.al | apply DM.stE | apply DM.ixP | apply DM.lnM | apply DM.fdM | apply DM.bsl | apply DM.p); (repeat first | (change _ = _; first | exact setB_setB | (simp only [go_sem, Nat.reduceBEq, Nat.reduceAdd, Nat.reduceLeDiff, reduceIte] <;> rfl) | rfl | focus ((repeat' first | exact g_same | refine g_ne ‹_› ?_ | refine g_fresh ‹_› ?_ | refine g_T ?_ | exact t_same | refine t_ne ‹_› ?_ | refine t_fresh ‹_› ?_ | refine t_B ?_ | assumption); done)) | exact RD.r | apply RD.p | exact Nat.le_of_ble_eq_true rfl | decide); first | change DM _ _ _ _ _ _ | (intro b hb; repeat first | (refine fresh_elim hb ?_; intro _ _ hb) | (refine fresh_elimT hb ?_; intro hb))) | apply AM.condT rfl | apply AM.condF rfl | (apply DM.gbT; rfl) | (apply DM.gbF; rfl) | intro h
          · (apply DM.idxSs v.s .i64 i c (by omega) (by simpa using hc); (· rfl); (· rfl))
            repeat' first | apply AM.seq | apply AM.block | apply AM.skip | apply AM.blkEnd | refine AM.exit rfl ?_ | (apply AM.reg []; simp only [annotate]) | apply DM.nil | refine DM.g1 rfl ?_ | refine DM.g0s (t' := true) rfl rfl ?_ | refine DM.g0s (t' := false) rfl rfl ?_ | refine DM.gus rfl ?_ | ((first | apply DM.ldm1 | apply DM.ldmA | apply DM.bxA | apply DM.al | apply DM.stE | apply DM.ixP | apply DM.lnM | apply DM.fdM | apply DM.bsl | apply DM.p); (repeat first | (change _ = _; first | exact setB_setB | (simp only [go_sem, Nat.reduceBEq, Nat.reduceAdd, Nat.reduceLeDiff, reduceIte] <;> rfl) | rfl | focus ((repeat' first | exact g_same | refine g_ne ‹_› ?_ | refine g_fresh ‹_› ?_ | refine g_T ?_ | exact t_same | refine t_ne ‹_› ?_ | refine t_fresh ‹_› ?_ | refine t_B ?_ | assumption); done)) | exact RD.r | apply RD.p | exact Nat.le_of_ble_eq_true rfl | decide); first | change DM _ _ _ _ _ _ | (intro b hb; repeat first | (refine fresh_elim hb ?_; intro _ _ hb) | (refine fresh_elimT hb ?_; intro hb))) | apply AM.condT rfl | apply AM.condF rfl | (apply DM.gbT; rfl) | (apply DM.gbF; rfl) | intro h
            (apply AM.cond; (· rfl))
            · intro h4
              simp at h h4
              have ec : escC c = [92, c] := by
                have : c = 92 := (u8i c 92 (by decide)).mp h4
                simp [escC, this]
              repeat' first | apply AM.seq | apply AM.block | apply AM.skip | apply AM.blkEnd | refine AM.exit rfl ?_ | (apply AM.reg []; simp only [annotate]) | apply DM.nil | refine DM.g1 rfl ?_ | refine DM.g0s (t' := true) rfl rfl ?_ | refine DM.g0s (t' := false) rfl rfl ?_ | refine DM.gus rfl ?_ | ((first | apply DM.ldm1 | apply DM.ldmA | apply DM.bxA | apply DM.al | apply DM.stE | apply DM.ixP | apply DM.lnM | apply DM.fdM | apply DM.bsl | apply DM.p); (repeat first | (change _ = _; first | exact setB_setB | (simp only [go_sem, Nat.reduceBEq, Nat.reduceAdd, Nat.reduceLeDiff, reduceIte] <;> rfl) | rfl | focus ((repeat' first | exact g_same | refine g_ne ‹_› ?_ | refine g_fresh ‹_› ?_ | refine g_T ?_ | exact t_same | refine t_ne ‹_› ?_ | refine t_fresh ‹_› ?_ | refine t_B ?_ | assumption); done)) | exact RD.r | apply RD.p | exact Nat.le_of_ble_eq_true rfl | decide); first | change DM _ _ _ _ _ _ | (intro b hb; repeat first | (refine fresh_elim hb ?_; intro _ _ hb) | (refine fresh_elimT hb ?_; intro hb))) | apply AM.condT rfl | apply AM.condF rfl | (apply DM.gbT; rfl) | (apply DM.gbF; rfl) | intro h
              (apply DM.catS; (· rfl); (· rfl); (· (simp only [List.length_cons, List.length_append, List.length_nil, maxLen]; omega)))
              repeat' first | apply AM.seq | apply AM.block | apply AM.skip | apply AM.blkEnd | refine AM.exit rfl ?_ | (apply AM.reg []; simp only [annotate]) | apply DM.nil | refine DM.g1 rfl ?_ | refine DM.g0s (t' := true) rfl rfl ?_ | refine DM.g0s (t' := false) rfl rfl ?_ | refine DM.gus rfl ?_ | ((first | apply DM.ldm1 | apply DM.ldmA | apply DM.bxA | apply DM.al | apply DM.stE | apply DM.ixP | apply DM.lnM | apply DM.fdM | apply DM.bsl | apply DM.p); (repeat first | (change _ = _; first | exact setB_setB | (simp only [go_sem, Nat.reduceBEq, Nat.reduceAdd, Nat.reduceLeDiff, reduceIte] <;> rfl) | rfl | focus ((repeat' first | exact g_same | refine g_ne ‹_› ?_ | refine g_fresh ‹_› ?_ | refine g_T ?_ | exact t_same | refine t_ne ‹_› ?_ | refine t_fresh ‹_› ?_ | refine t_B ?_ | assumption); done)) | exact RD.r | apply RD.p | exact Nat.le_of_ble_eq_true rfl | decide); first | change DM _ _ _ _ _ _ | (intro b hb; repeat first | (refine fresh_elim hb ?_; intro _ _ hb) | (refine fresh_elimT hb ?_; intro hb))) | apply AM.condT rfl | apply AM.condF rfl | (apply DM.gbT; rfl) | (apply DM.gbF; rfl) | intro h
              rw [hw]
              apply DM.slSs (p := i) (q := i + 1)
              · simp only [EOpd.ev, Env.get, Nat.reduceBEq, cond_true, cond_false, beq_self_eq_true] <;> rfl
              · simp only [optNat, EOpd.ev, Env.get, Nat.reduceBEq, cond_true, cond_false, beq_self_eq_true] <;> rfl
              · simp only [optNat, EOpd.ev, Env.get, Nat.reduceBEq, cond_true, cond_false, beq_self_eq_true] <;> rfl
              · omega
              · omega
              · exact take_one' hc
              repeat' first | apply AM.seq | apply AM.block | apply AM.skip | apply AM.blkEnd | refine AM.exit rfl ?_ | (apply AM.reg []; simp only [annotate]) | apply DM.nil | refine DM.g1 rfl ?_ | refine DM.g0s (t' := true) rfl rfl ?_ | refine DM.g0s (t' := false) rfl rfl ?_ | refine DM.gus rfl ?_ | ((first | apply DM.ldm1 | apply DM.ldmA | apply DM.bxA | apply DM.al | apply DM.stE | apply DM.ixP | apply DM.lnM | apply DM.fdM | apply DM.bsl | apply DM.p); (repeat first | (change _ = _; first | exact setB_setB | (simp only [go_sem, Nat.reduceBEq, Nat.reduceAdd, Nat.reduceLeDiff, reduceIte] <;> rfl) | rfl | focus ((repeat' first | exact g_same | refine g_ne ‹_› ?_ | refine g_fresh ‹_› ?_ | refine g_T ?_ | exact t_same | refine t_ne ‹_› ?_ | refine t_fresh ‹_› ?_ | refine t_B ?_ | assumption); done)) | exact RD.r | apply RD.p | exact Nat.le_of_ble_eq_true rfl | decide); first | change DM _ _ _ _ _ _ | (intro b hb; repeat first | (refine fresh_elim hb ?_; intro _ _ hb) | (refine fresh_elimT hb ?_; intro hb))) | apply AM.condT rfl | apply AM.condF rfl | (apply DM.gbT; rfl) | (apply DM.gbF; rfl) | intro h
              (apply DM.catS; (· rfl); (· rfl); (· (simp only [List.length_cons, List.length_append, List.length_nil, maxLen]; omega)))
              repeat' first | apply AM.seq | apply AM.block | apply AM.skip | apply AM.blkEnd | refine AM.exit rfl ?_ | (apply AM.reg []; simp only [annotate]) | apply DM.nil | refine DM.g1 rfl ?_ | refine DM.g0s (t' := true) rfl rfl ?_ | refine DM.g0s (t' := false) rfl rfl ?_ | refine DM.gus rfl ?_ | ((first | apply DM.ldm1 | apply DM.ldmA | apply DM.bxA | apply DM.al | apply DM.stE | apply DM.ixP | apply DM.lnM | apply DM.fdM | apply DM.bsl | apply DM.p); (repeat first | (change _ = _; first | exact setB_setB | (simp only [go_sem, Nat.reduceBEq, Nat.reduceAdd, Nat.reduceLeDiff, reduceIte] <;> rfl) | rfl | focus ((repeat' first | exact g_same | refine g_ne ‹_› ?_ | refine g_fresh ‹_› ?_ | refine g_T ?_ | exact t_same | refine t_ne ‹_› ?_ | refine t_fresh ‹_› ?_ | refine t_B ?_ | assumption); done)) | exact RD.r | apply RD.p | exact Nat.le_of_ble_eq_true rfl | decide); first | change DM _ _ _ _ _ _ | (intro b hb; repeat first | (refine fresh_elim hb ?_; intro _ _ hb) | (refine fresh_elimT hb ?_; intro hb))) | apply AM.condT rfl | apply AM.condF rfl | (apply DM.gbT; rfl) | (apply DM.gbF; rfl) | intro h
              refine AM.roundX (i + 1) ⟨rfl, by omega⟩ ?_ ?_
              · (repeat first | exact envle_nil _ | (refine envle_cons ?_ ?_; · (simp only [go_sem, Nat.reduceBEq, Nat.reduceAdd]; exact AVLe.refl _)))
                refine envle_cons ?_ ?_
                · simp only [Env.get, Nat.reduceBEq, cond_true, cond_false, beq_self_eq_true]
                  rw [et, ec]
                  refine avle_eq ?_
                  simp
                refine envle_cons ?_ (envle_nil _)
                · simp only [Env.get, Nat.reduceBEq, cond_true, cond_false, beq_self_eq_true]
                  refine avle_int ?_
                  exact hw
              · show v.s.length - (i + 1) < v.s.length - i
                omega
            · intro h4
              simp at h h4
              have ec : escC c = [c] := by
                have n1 : ¬ c = 34 := fun e => h ((u8i c 34 (by decide)).mpr e)
                have n2 : ¬ c = 92 := fun e => h4 ((u8i c 92 (by decide)).mpr e)
                simp [escC, n1, n2]
              repeat' first | apply AM.seq | apply AM.block | apply AM.skip | apply AM.blkEnd | refine AM.exit rfl ?_ | (apply AM.reg []; simp only [annotate]) | apply DM.nil | refine DM.g1 rfl ?_ | refine DM.g0s (t' := true) rfl rfl ?_ | refine DM.g0s (t' := false) rfl rfl ?_ | refine DM.gus rfl ?_ | ((first | apply DM.ldm1 | apply DM.ldmA | apply DM.bxA | apply DM.al | apply DM.stE | apply DM.ixP | apply DM.lnM | apply DM.fdM | apply DM.bsl | apply DM.p); (repeat first | (change _ = _; first | exact setB_setB | (simp only [go_sem, Nat.reduceBEq, Nat.reduceAdd, Nat.reduceLeDiff, reduceIte] <;> rfl) | rfl | focus ((repeat' first | exact g_same | refine g_ne ‹_› ?_ | refine g_fresh ‹_› ?_ | refine g_T ?_ | exact t_same | refine t_ne ‹_› ?_ | refine t_fresh ‹_› ?_ | refine t_B ?_ | assumption); done)) | exact RD.r | apply RD.p | exact Nat.le_of_ble_eq_true rfl | decide); first | change DM _ _ _ _ _ _ | (intro b hb; repeat first | (refine fresh_elim hb ?_; intro _ _ hb) | (refine fresh_elimT hb ?_; intro hb))) | apply AM.condT rfl | apply AM.condF rfl | (apply DM.gbT; rfl) | (apply DM.gbF; rfl) | intro h
              rw [hw]
              apply DM.slSs (p := i) (q := i + 1)
              · simp only [EOpd.ev, Env.get, Nat.reduceBEq, cond_true, cond_false, beq_self_eq_true] <;> rfl
              · simp only [optNat, EOpd.ev, Env.get, Nat.reduceBEq, cond_true, cond_false, beq_self_eq_true] <;> rfl
              · simp only [optNat, EOpd.ev, Env.get, Nat.reduceBEq, cond_true, cond_false, beq_self_eq_true] <;> rfl
              · omega
              · omega
              · exact take_one' hc
              repeat' first | apply AM.seq | apply AM.block | apply AM.skip | apply AM.blkEnd | refine AM.exit rfl ?_ | (apply AM.reg []; simp only [annotate]) | apply DM.nil | refine DM.g1 rfl ?_ | refine DM.g0s (t' := true) rfl rfl ?_ | refine DM.g0s (t' := false) rfl rfl ?_ | refine DM.gus rfl ?_ | ((first | apply DM.ldm1 | apply DM.ldmA | apply DM.bxA | apply DM.al | apply DM.stE | apply DM.ixP | apply DM.lnM | apply DM.fdM | apply DM.bsl | apply DM.p); (repeat first | (change _ = _; first | exact setB_setB | (simp only [go_sem, Nat.reduceBEq, Nat.reduceAdd, Nat.reduceLeDiff, reduceIte] <;> rfl) | rfl | focus ((repeat' first | exact g_same | refine g_ne ‹_› ?_ | refine g_fresh ‹_› ?_ | refine g_T ?_ | exact t_same | refine t_ne ‹_› ?_ | refine t_fresh ‹_› ?_ | refine t_B ?_ | assumption); done)) | exact RD.r | apply RD.p | exact Nat.le_of_ble_eq_true rfl | decide); first | change DM _ _ _ _ _ _ | (intro b hb; repeat first | (refine fresh_elim hb ?_; intro _ _ hb) | (refine fresh_elimT hb ?_; intro hb))) | apply AM.condT rfl | apply AM.condF rfl | (apply DM.gbT; rfl) | (apply DM.gbF; rfl) | intro h
              (apply DM.catS; (· rfl); (· rfl); (· (simp only [List.length_cons, List.length_append, List.length_nil, maxLen]; omega)))
              repeat' first | apply AM.seq | apply AM.block | apply AM.skip | apply AM.blkEnd | refine AM.exit rfl ?_ | (apply AM.reg []; simp only [annotate]) | apply DM.nil | refine DM.g1 rfl ?_ | refine DM.g0s (t' := true) rfl rfl ?_ | refine DM.g0s (t' := false) rfl rfl ?_ | refine DM.gus rfl ?_ | ((first | apply DM.ldm1 | apply DM.ldmA | apply DM.bxA | apply DM.al | apply DM.stE | apply DM.ixP | apply DM.lnM | apply DM.fdM | apply DM.bsl | apply DM.p); (repeat first | (change _ = _; first | exact setB_setB | (simp only [go_sem, Nat.reduceBEq, Nat.reduceAdd, Nat.reduceLeDiff, reduceIte] <;> rfl) | rfl | focus ((repeat' first | exact g_same | refine g_ne ‹_› ?_ | refine g_fresh ‹_› ?_ | refine g_T ?_ | exact t_same | refine t_ne ‹_› ?_ | refine t_fresh ‹_› ?_ | refine t_B ?_ | assumption); done)) | exact RD.r | apply RD.p | exact Nat.le_of_ble_eq_true rfl | decide); first | change DM _ _ _ _ _ _ | (intro b hb; repeat first | (refine fresh_elim hb ?_; intro _ _ hb) | (refine fresh_elimT hb ?_; intro hb))) | apply AM.condT rfl | apply AM.condF rfl | (apply DM.gbT; rfl) | (apply DM.gbF; rfl) | intro h
              refine AM.roundX (i + 1) ⟨rfl, by omega⟩ ?_ ?_
              · (repeat first | exact envle_nil _ | (refine envle_cons ?_ ?_; · (simp only [go_sem, Nat.reduceBEq, Nat.reduceAdd]; exact AVLe.refl _)))
                refine envle_cons ?_ ?_
                · simp only [Env.get, Nat.reduceBEq, cond_true, cond_false, beq_self_eq_true]
                  rw [et, ec]
                  refine avle_eq ?_
                  simp
                refine envle_cons ?_ (envle_nil _)
                · simp only [Env.get, Nat.reduceBEq, cond_true, cond_false, beq_self_eq_true]
                  refine avle_int ?_
                  exact hw
              · show v.s.length - (i + 1) < v.s.length - i
                omega
          · skip
            simp at h
            have ec : escC c = [92, c] := by
              have : c = 34 := (u8i c 34 (by decide)).mp h
              simp [escC, this]
            (apply DM.catS; (· rfl); (· rfl); (· (simp only [List.length_cons, List.length_append, List.length_nil, maxLen]; omega)))
            repeat' first | apply AM.seq | apply AM.block | apply AM.skip | apply AM.blkEnd | refine AM.exit rfl ?_ | (apply AM.reg []; simp only [annotate]) | apply DM.nil | refine DM.g1 rfl ?_ | refine DM.g0s (t' := true) rfl rfl ?_ | refine DM.g0s (t' := false) rfl rfl ?_ | refine DM.gus rfl ?_ | ((first | apply DM.ldm1 | apply DM.ldmA | apply DM.bxA | apply DM.al | apply DM.stE | apply DM.ixP | apply DM.lnM | apply DM.fdM | apply DM.bsl | apply DM.p); (repeat first | (change _ = _; first | exact setB_setB | (simp only [go_sem, Nat.reduceBEq, Nat.reduceAdd, Nat.reduceLeDiff, reduceIte] <;> rfl) | rfl | focus ((repeat' first | exact g_same | refine g_ne ‹_› ?_ | refine g_fresh ‹_› ?_ | refine g_T ?_ | exact t_same | refine t_ne ‹_› ?_ | refine t_fresh ‹_› ?_ | refine t_B ?_ | assumption); done)) | exact RD.r | apply RD.p | exact Nat.le_of_ble_eq_true rfl | decide); first | change DM _ _ _ _ _ _ | (intro b hb; repeat first | (refine fresh_elim hb ?_; intro _ _ hb) | (refine fresh_elimT hb ?_; intro hb))) | apply AM.condT rfl | apply AM.condF rfl | (apply DM.gbT; rfl) | (apply DM.gbF; rfl) | intro h
            rw [hw]
            apply DM.slSs (p := i) (q := i + 1)
            · simp only [EOpd.ev, Env.get, Nat.reduceBEq, cond_true, cond_false, beq_self_eq_true] <;> rfl
            · simp only [optNat, EOpd.ev, Env.get, Nat.reduceBEq, cond_true, cond_false, beq_self_eq_true] <;> rfl
            · simp only [optNat, EOpd.ev, Env.get, Nat.reduceBEq, cond_true, cond_false, beq_self_eq_true] <;> rfl
            · omega
            · omega
            · exact take_one' hc
            repeat' first | apply AM.seq | apply AM.block | apply AM.skip | apply AM.blkEnd | refine AM.exit rfl ?_ | (apply AM.reg []; simp only [annotate]) | apply DM.nil | refine DM.g1 rfl ?_ | refine DM.g0s (t' := true) rfl rfl ?_ | refine DM.g0s (t' := false) rfl rfl ?_ | refine DM.gus rfl ?_ | ((first | apply DM.ldm1 | apply DM.ldmA | apply DM.bxA | apply DM.al | apply DM.stE | apply DM.ixP | apply DM.lnM | apply DM.fdM | apply DM.bsl | apply DM.p); (repeat first | (change _ = _; first | exact setB_setB | (simp only [go_sem, Nat.reduceBEq, Nat.reduceAdd, Nat.reduceLeDiff, reduceIte] <;> rfl) | rfl | focus ((repeat' first | exact g_same | refine g_ne ‹_› ?_ | refine g_fresh ‹_› ?_ | refine g_T ?_ | exact t_same | refine t_ne ‹_› ?_ | refine t_fresh ‹_› ?_ | refine t_B ?_ | assumption); done)) | exact RD.r | apply RD.p | exact Nat.le_of_ble_eq_true rfl | decide); first | change DM _ _ _ _ _ _ | (intro b hb; repeat first | (refine fresh_elim hb ?_; intro _ _ hb) | (refine fresh_elimT hb ?_; intro hb))) | apply AM.condT rfl | apply AM.condF rfl | (apply DM.gbT; rfl) | (apply DM.gbF; rfl) | intro h
            (apply DM.catS; (· rfl); (· rfl); (· (simp only [List.length_cons, List.length_append, List.length_nil, maxLen]; omega)))
            repeat' first | apply AM.seq | apply AM.block | apply AM.skip | apply AM.blkEnd | refine AM.exit rfl ?_ | (apply AM.reg []; simp only [annotate]) | apply DM.nil | refine DM.g1 rfl ?_ | refine DM.g0s (t' := true) rfl rfl ?_ | refine DM.g0s (t' := false) rfl rfl ?_ | refine DM.gus rfl ?_ | ((first | apply DM.ldm1 | apply DM.ldmA | apply DM.bxA | apply DM.al | apply DM.stE | apply DM.ixP | apply DM.lnM | apply DM.fdM | apply DM.bsl | apply DM.p); (repeat first | (change _ = _; first | exact setB_setB | (simp only [go_sem, Nat.reduceBEq, Nat.reduceAdd, Nat.reduceLeDiff, reduceIte] <;> rfl) | rfl | focus ((repeat' first | exact g_same | refine g_ne ‹_› ?_ | refine g_fresh ‹_› ?_ | refine g_T ?_ | exact t_same | refine t_ne ‹_› ?_ | refine t_fresh ‹_› ?_ | refine t_B ?_ | assumption); done)) | exact RD.r | apply RD.p | exact Nat.le_of_ble_eq_true rfl | decide); first | change DM _ _ _ _ _ _ | (intro b hb; repeat first | (refine fresh_elim hb ?_; intro _ _ hb) | (refine fresh_elimT hb ?_; intro hb))) | apply AM.condT rfl | apply AM.condF rfl | (apply DM.gbT; rfl) | (apply DM.gbF; rfl) | intro h
            refine AM.roundX (i + 1) ⟨rfl, by omega⟩ ?_ ?_
            · (repeat first | exact envle_nil _ | (refine envle_cons ?_ ?_; · (simp only [go_sem, Nat.reduceBEq, Nat.reduceAdd]; exact AVLe.refl _)))
              refine envle_cons ?_ ?_
              · simp only [Env.get, Nat.reduceBEq, cond_true, cond_false, beq_self_eq_true]
                rw [et, ec]
                refine avle_eq ?_
                simp
              refine envle_cons ?_ (envle_nil _)
              · simp only [Env.get, Nat.reduceBEq, cond_true, cond_false, beq_self_eq_true]
                refine avle_int ?_
                exact hw
            · show v.s.length - (i + 1) < v.s.length - i
              omega
        · intro h3
          simp at h3
          have : i = v.s.length := by omega
          subst this
          rw [List.take_length] at el ⊢
          repeat' first | apply AM.seq | apply AM.block | apply AM.skip | apply AM.blkEnd | refine AM.exit rfl ?_ | (apply AM.reg []; simp only [annotate]) | apply DM.nil | refine DM.g1 rfl ?_ | refine DM.g0s (t' := true) rfl rfl ?_ | refine DM.g0s (t' := false) rfl rfl ?_ | refine DM.gus rfl ?_ | ((first | apply DM.ldm1 | apply DM.ldmA | apply DM.bxA | apply DM.al | apply DM.stE | apply DM.ixP | apply DM.lnM | apply DM.fdM | apply DM.bsl | apply DM.p); (repeat first | (change _ = _; first | exact setB_setB | (simp only [go_sem, Nat.reduceBEq, Nat.reduceAdd, Nat.reduceLeDiff, reduceIte] <;> rfl) | rfl | focus ((repeat' first | exact g_same | refine g_ne ‹_› ?_ | refine g_fresh ‹_› ?_ | refine g_T ?_ | exact t_same | refine t_ne ‹_› ?_ | refine t_fresh ‹_› ?_ | refine t_B ?_ | assumption); done)) | exact RD.r | apply RD.p | exact Nat.le_of_ble_eq_true rfl | decide); first | change DM _ _ _ _ _ _ | (intro b hb; repeat first | (refine fresh_elim hb ?_; intro _ _ hb) | (refine fresh_elimT hb ?_; intro hb))) | apply AM.condT rfl | apply AM.condF rfl | (apply DM.gbT; rfl) | (apply DM.gbF; rfl) | intro h
          (apply DM.catS; (· rfl); (· rfl); (· (simp only [List.length_cons, List.length_nil, maxLen]; omega)))
          repeat' first | apply AM.seq | apply AM.block | apply AM.skip | apply AM.blkEnd | refine AM.exit rfl ?_ | (apply AM.reg []; simp only [annotate]) | apply DM.nil | refine DM.g1 rfl ?_ | refine DM.g0s (t' := true) rfl rfl ?_ | refine DM.g0s (t' := false) rfl rfl ?_ | refine DM.gus rfl ?_ | ((first | apply DM.ldm1 | apply DM.ldmA | apply DM.bxA | apply DM.al | apply DM.stE | apply DM.ixP | apply DM.lnM | apply DM.fdM | apply DM.bsl | apply DM.p); (repeat first | (change _ = _; first | exact setB_setB | (simp only [go_sem, Nat.reduceBEq, Nat.reduceAdd, Nat.reduceLeDiff, reduceIte] <;> rfl) | rfl | focus ((repeat' first | exact g_same | refine g_ne ‹_› ?_ | refine g_fresh ‹_› ?_ | refine g_T ?_ | exact t_same | refine t_ne ‹_› ?_ | refine t_fresh ‹_› ?_ | refine t_B ?_ | assumption); done)) | exact RD.r | apply RD.p | exact Nat.le_of_ble_eq_true rfl | decide); first | change DM _ _ _ _ _ _ | (intro b hb; repeat first | (refine fresh_elim hb ?_; intro _ _ hb) | (refine fresh_elimT hb ?_; intro hb))) | apply AM.condT rfl | apply AM.condF rfl | (apply DM.gbT; rfl) | (apply DM.gbF; rfl) | intro h
          ((first | apply AM.retA | apply AM.doneA); (· first | (apply results_t; (· simp only [go_sem, Nat.reduceBEq, Nat.reduceAdd, Nat.reduceLeDiff, reduceIte] <;> rfl)) | (apply results_c; (· rfl); (· repeat' first | exact g_same | refine g_ne ‹_› ?_ | refine g_fresh ‹_› ?_ | refine g_T ?_ | assumption); (· rfl)) | (apply results_ct; (· rfl); (· repeat' first | exact g_same | refine g_ne ‹_› ?_ | refine g_fresh ‹_› ?_ | refine g_T ?_ | assumption); (· rfl); (· simp only [go_sem, Nat.reduceBEq, Nat.reduceAdd, Nat.reduceLeDiff, reduceIte] <;> rfl)) | (apply results_ctt; (· rfl); (· repeat' first | exact g_same | refine g_ne ‹_› ?_ | refine g_fresh ‹_› ?_ | refine g_T ?_ | assumption); (· rfl); (· simp only [go_sem, Nat.reduceBEq, Nat.reduceAdd, Nat.reduceLeDiff, reduceIte] <;> rfl); (· simp only [go_sem, Nat.reduceBEq, Nat.reduceAdd, Nat.reduceLeDiff, reduceIte] <;> rfl)) | (apply results_tt; (· simp only [go_sem, Nat.reduceBEq, Nat.reduceAdd, Nat.reduceLeDiff, reduceIte] <;> rfl); (· simp only [go_sem, Nat.reduceBEq, Nat.reduceAdd, Nat.reduceLeDiff, reduceIte] <;> rfl)) | (apply results_ttt; (· simp only [go_sem, Nat.reduceBEq, Nat.reduceAdd, Nat.reduceLeDiff, reduceIte] <;> rfl); (· simp only [go_sem, Nat.reduceBEq, Nat.reduceAdd, Nat.reduceLeDiff, reduceIte] <;> rfl); (· simp only [go_sem, Nat.reduceBEq, Nat.reduceAdd, Nat.reduceLeDiff, reduceIte] <;> rfl)) | exact results_nil); rotate_left; (· (repeat' first | exact HSub.refl _ | assumption | refine HSub.setB ?_ ‹_› | refine HSub.setT ?_ ‹_›)))
          rw [← hZ]
          exact AVLe.refl _
end Go.Aw.T

