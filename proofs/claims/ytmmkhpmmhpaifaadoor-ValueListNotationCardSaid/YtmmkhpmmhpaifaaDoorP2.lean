/- Part of a proof; own work. -/
import GoSem.Op.String
import Derived.Test.YtmmkhpmmhpaifaaDoorP1
import Derived.Test.YtmmkhpmmhpaifaaDoorK
import Derived.Test.YtmmkhpmmhpaifaaDoorC6
/- A comparison of values is a total order (own work; plain Lean). -/
namespace Go.Aw.T
open Go
def sgn (a b : Int) : Int := if a < b then -1 else if b < a then 1 else 0
def cmpB : List UInt8 → List UInt8 → Int
  | [], [] => 0
  | [], _ :: _ => -1
  | _ :: _, [] => 1
  | a :: x, b :: y => if a.toNat < b.toNat then -1 else if b.toNat < a.toNat then 1 else cmpB x y
structure Ord3 {α : Type} (c : α → α → Int) : Prop where
  val : ∀ a b, c a b = -1 ∨ c a b = 0 ∨ c a b = 1
  anti : ∀ a b, c b a = - c a b
  eq : ∀ a b, c a b = 0 ↔ a = b
  tr : ∀ a b d, c a b ≤ 0 → c b d ≤ 0 → c a d = min (c a b) (c b d)
theorem sgn_tri (x y : Int) : (x < y ∧ sgn x y = -1) ∨ (x = y ∧ sgn x y = 0) ∨ (y < x ∧ sgn x y = 1) := by
  unfold sgn
  split
  · exact .inl ⟨by assumption, rfl⟩
  · split
    · exact .inr (.inr ⟨by assumption, rfl⟩)
    · exact .inr (.inl ⟨by omega, rfl⟩)
theorem ord_sgn : Ord3 sgn where
  val := fun a b => by have := sgn_tri a b; omega
  anti := fun a b => by have := sgn_tri a b; have := sgn_tri b a; omega
  eq := fun a b => by have := sgn_tri a b; omega
  tr := fun a b d h1 h2 => by have := sgn_tri a b; have := sgn_tri b d; have := sgn_tri a d; omega
theorem u8_ext {a b : UInt8} (h1 : ¬ a.toNat < b.toNat) (h2 : ¬ b.toNat < a.toNat) : a = b := UInt8.toNat_inj.1 (by omega)
theorem cmpB_val : ∀ a b : List UInt8, cmpB a b = -1 ∨ cmpB a b = 0 ∨ cmpB a b = 1
  | [], [] => by simp [cmpB]
  | [], _ :: _ => by simp [cmpB]
  | _ :: _, [] => by simp [cmpB]
  | a :: x, b :: y => by
    simp only [cmpB]
    split
    · simp
    · split
      · simp
      · exact cmpB_val x y
theorem cmpB_anti : ∀ a b : List UInt8, cmpB b a = - cmpB a b
  | [], [] => by simp [cmpB]
  | [], _ :: _ => by simp [cmpB]
  | _ :: _, [] => by simp [cmpB]
  | a :: x, b :: y => by
    simp only [cmpB]
    by_cases h1 : a.toNat < b.toNat
    · rw [if_pos h1, if_neg (by omega), if_pos h1]; rfl
    · by_cases h2 : b.toNat < a.toNat
      · simp [h1, h2]
      · rw [if_neg h1, if_neg h2, if_neg h2, if_neg h1, cmpB_anti x y]
theorem cmpB_eq : ∀ a b : List UInt8, cmpB a b = 0 ↔ a = b
  | [], [] => by simp [cmpB]
  | [], _ :: _ => by simp [cmpB]
  | _ :: _, [] => by simp [cmpB]
  | a :: x, b :: y => by
    simp only [cmpB]
    by_cases h1 : a.toNat < b.toNat
    · rw [if_pos h1]
      have : a ≠ b := fun e => by subst e; omega
      simp [this]
    · by_cases h2 : b.toNat < a.toNat
      · rw [if_neg h1, if_pos h2]
        have : a ≠ b := fun e => by subst e; omega
        simp [this]
      · rw [if_neg h1, if_neg h2, cmpB_eq x y]
        simp [u8_ext h1 h2]
theorem cmpB_tr : ∀ a b d : List UInt8, cmpB a b ≤ 0 → cmpB b d ≤ 0 → cmpB a d = min (cmpB a b) (cmpB b d)
  | [], [], [], _, _ => by simp [cmpB]
  | [], [], _ :: _, _, _ => by simp only [cmpB]; rfl
  | [], _ :: _, [], _, h => by simp [cmpB] at h
  | [], b :: y, d :: z, _, h => by
    have := cmpB_val (b :: y) (d :: z)
    show (-1 : Int) = min (-1) _
    omega
  | _ :: _, [], _, h, _ => by simp [cmpB] at h
  | _ :: _, _ :: _, [], _, h => by simp [cmpB] at h
  | a :: x, b :: y, d :: z, h1, h2 => by
    have ih := cmpB_tr x y z
    have v1 := cmpB_val x y
    have v2 := cmpB_val y z
    simp only [cmpB] at *
    by_cases p1 : a.toNat < b.toNat
    · rw [if_pos p1] at *
      by_cases p2 : b.toNat < d.toNat
      · rw [if_pos p2, if_pos (by omega)]; rfl
      · rw [if_neg p2] at h2 ⊢
        by_cases p3 : d.toNat < b.toNat
        · rw [if_pos p3] at h2; omega
        · rw [if_neg p3] at h2 ⊢
          rw [if_pos (by omega)]; omega
    · rw [if_neg p1] at h1 ⊢
      by_cases p2 : b.toNat < a.toNat
      · rw [if_pos p2] at h1; omega
      · rw [if_neg p2] at h1 ⊢
        have e := u8_ext p1 p2
        subst e
        by_cases p3 : a.toNat < d.toNat
        · rw [if_pos p3]; omega
        · by_cases p4 : d.toNat < a.toNat
          · simp [p3, p4] at h2
          · simp only [p3, p4, if_false] at h2 ⊢
            exact ih h1 h2
theorem ord_cmpB : Ord3 cmpB := ⟨cmpB_val, cmpB_anti, cmpB_eq, cmpB_tr⟩
theorem less_cmpB : ∀ a b : List UInt8, Go.Op.bytesLess a b = decide (cmpB a b = -1)
  | [], [] => by simp [cmpB, Go.Op.bytesLess]
  | [], _ :: _ => by simp [cmpB, Go.Op.bytesLess]
  | _ :: _, [] => by simp [cmpB, Go.Op.bytesLess]
  | a :: x, b :: y => by
    have e1 : (a < b) ↔ a.toNat < b.toNat := UInt8.lt_iff_toNat_lt
    rw [Bool.eq_iff_iff]
    simp only [cmpB, Go.Op.bytesLess, less_cmpB x y, Bool.or_eq_true, Bool.and_eq_true, decide_eq_true_eq, beq_iff_eq, e1]
    by_cases h1 : a.toNat < b.toNat
    · simp [h1]
    · by_cases h2 : b.toNat < a.toNat
      · have : a ≠ b := fun e => by subst e; omega
        simp [h1, h2, this]
      · simp [h1, h2, u8_ext h1 h2]
def lex2 {α β : Type} (c : α → α → Int) (d : β → β → Int) (x y : α × β) : Int := if c x.1 y.1 ≠ 0 then c x.1 y.1 else d x.2 y.2
theorem ord_lex {α β : Type} {c : α → α → Int} {d : β → β → Int} (hc : Ord3 c) (hd : Ord3 d) : Ord3 (lex2 c d) where
  val := fun a b => by unfold lex2; split; exact hc.val _ _; exact hd.val _ _
  anti := fun a b => by
    unfold lex2
    have := hc.anti a.1 b.1
    by_cases h : c a.1 b.1 = 0
    · rw [if_neg (by omega), if_neg (by omega)]; exact hd.anti _ _
    · rw [if_pos (by omega), if_pos h]; exact this
  eq := fun a b => by
    unfold lex2
    by_cases h : c a.1 b.1 = 0
    · rw [if_neg (by omega), hd.eq]
      have := (hc.eq _ _).1 h
      exact ⟨fun e => Prod.ext this e, fun e => by rw [e]⟩
    · rw [if_pos h]
      exact ⟨fun e => absurd e h, fun e => by rw [e]; exact (hc.eq _ _).2 rfl⟩
  tr := fun a b e h1 h2 => by
    unfold lex2 at *
    have v1 := hc.val a.1 b.1
    have v2 := hc.val b.1 e.1
    have w1 := hd.val a.2 b.2
    have w2 := hd.val b.2 e.2
    have t := hc.tr a.1 b.1 e.1
    have t2 := hd.tr a.2 b.2 e.2
    have z1 : c a.1 b.1 = 0 → c a.1 e.1 = c b.1 e.1 := fun h => by rw [(hc.eq _ _).1 h]
    have z2 : c b.1 e.1 = 0 → c a.1 e.1 = c a.1 b.1 := fun h => by rw [(hc.eq _ _).1 h]
    generalize c a.1 b.1 = u1 at *
    generalize c b.1 e.1 = u2 at *
    generalize c a.1 e.1 = u3 at *
    generalize d a.2 b.2 = x1 at *
    generalize d b.2 e.2 = x2 at *
    generalize d a.2 e.2 = x3 at *
    by_cases q1 : u1 = 0
    · have z := z1 q1
      subst q1 z
      simp only [ne_eq, not_true_eq_false, if_false] at h1 ⊢
      by_cases q2 : u3 = 0
      · subst q2
        simp only [ne_eq, not_true_eq_false, if_false] at h2 ⊢
        exact t2 h1 h2
      · simp only [ne_eq, q2, not_false_eq_true, if_true] at h2 ⊢
        omega
    · simp only [ne_eq, q1, not_false_eq_true, if_true] at h1 ⊢
      by_cases q2 : u2 = 0
      · have z := z2 q2
        rw [z]
        simp only [ne_eq, q2, not_true_eq_false, if_false, q1, not_false_eq_true, if_true] at h2 ⊢
        omega
      · simp only [ne_eq, q2, not_false_eq_true, if_true] at h2 ⊢
        have := t h1 h2
        rw [if_pos (by omega)]
        exact this
end Go.Aw.T


namespace Go.Aw.T
open Go Go.Aw Go.Proofs Go.RowKit
set_option maxRecDepth 100000
attribute [local irreducible] Go.Aw.DM Go.Aw.AHeap.setB Go.Aw.AHeap.setT
attribute [local go_sem] peval EOpd.ev Env.get binInt binStr binBool buildParts AV.cells AV.okc setRange minmaxAV AV.one AV.ofCells eqCells eqCell bslRows cond_true cond_false beq_self_eq_true Bool.not_true Bool.not_false beq_true beq_false eq_self if_true Option.some.injEq List.length_cons List.length_nil List.take_succ_cons List.take_zero List.drop_succ_cons List.drop_zero List.set_cons_succ List.set_cons_zero List.nil_append List.cons_append List.append_nil and_self Option.map_some List.map_cons List.map_nil Bool.false_eq_true if_false Nat.zero_add Nat.add_zero true_and and_true Bool.and_true Bool.true_and List.getElem?_cons_zero List.getElem?_cons_succ Nat.zero_le Nat.le_refl
set_option linter.unusedSimpArgs false
set_option linter.unusedVariables false
abbrev iv (n : Int) : Val := ⟨1, n, []⟩
/-- Least. -/
def leastV (s : Sort_) : Val × Int := if validS s = false then (val0, 1) else if s.k = 1 then (iv s.lo, 0) else (⟨2, 0, List.replicate s.lo.toNat 97⟩, 0)
/-- Compare. -/
def key (v : Val) : Int × Int × Int × List UInt8 := (v.k, v.n, (v.s.length : Int), v.s)
def cmpK : Int × Int × Int × List UInt8 → Int × Int × Int × List UInt8 → Int := lex2 sgn (lex2 sgn (lex2 sgn cmpB))
theorem ord_cmpK : Ord3 cmpK := ord_lex ord_sgn (ord_lex ord_sgn (ord_lex ord_sgn ord_cmpB))
def cmpV (a b : Val) : Int := cmpK (key a) (key b)
theorem cmpV_eq (a b : Val) : cmpV a b = 0 ↔ a = b := by
  unfold cmpV
  rw [ord_cmpK.eq]
  constructor
  · intro h
    obtain ⟨k, n, s⟩ := a
    obtain ⟨k', n', s'⟩ := b
    simp only [key, Prod.mk.injEq] at h
    obtain ⟨rfl, rfl, _, rfl⟩ := h
    rfl
  · rintro rfl; rfl
theorem cmpV_unf (a b : Val) : cmpV a b = if sgn a.k b.k ≠ 0 then sgn a.k b.k else if sgn a.n b.n ≠ 0 then sgn a.n b.n else if sgn a.s.length b.s.length ≠ 0 then sgn a.s.length b.s.length else cmpB a.s b.s := rfl
theorem vs_len {m : Mem} {size : Nat} {rows : List (List AV)} {v : Value} (h : Rv m (.vs size rows) v) : rows.length ≤ maxLen := by
  simp only [Rv] at h
  obtain ⟨_, _, _, _, rfl, ⟨h1, h2⟩, _⟩ := h
  omega
theorem row_get {α β : Type} (f : α → β) {l : List α} {i : Nat} {v : α} (h : l[i]? = some v) : (l.map f)[((i : Int)).toNat]? = some (f v) := by simp [h]
theorem p64 (a : Int) : Pure Tryd.prog 64 [.int .i64 a] (.bool false) := by
  refine pure_intro mo Tryd.func64 c64 fun H => ?_
  unfold e64 r64
  simp only [initEnv, initFrom]
  repeat' first | apply AM.seq | apply AM.block | apply AM.skip | apply AM.blkEnd | refine AM.exit rfl ?_ | (apply AM.reg []; simp only [annotate]) | apply DM.nil | refine DM.g1 rfl ?_ | refine DM.g0s (t' := true) rfl rfl ?_ | refine DM.g0s (t' := false) rfl rfl ?_ | refine DM.gus rfl ?_ | ((first | apply DM.ldm1 | apply DM.ldmA | apply DM.bxA | apply DM.al | apply DM.stE | apply DM.ixP | apply DM.lnM | apply DM.fdM | apply DM.bsl | apply DM.p); (repeat first | (change _ = _; first | exact setB_setB | (simp only [go_sem, Nat.reduceBEq, Nat.reduceAdd, Nat.reduceLeDiff, reduceIte] <;> rfl) | rfl | focus ((repeat' first | exact g_same | refine g_ne ‹_› ?_ | refine g_fresh ‹_› ?_ | refine g_T ?_ | exact t_same | refine t_ne ‹_› ?_ | refine t_fresh ‹_› ?_ | refine t_B ?_ | assumption); done)) | exact RD.r | apply RD.p | exact Nat.le_of_ble_eq_true rfl | decide); first | change DM _ _ _ _ _ _ | (intro b hb; repeat first | (refine fresh_elim hb ?_; intro _ _ hb) | (refine fresh_elimT hb ?_; intro hb))) | apply AM.condT rfl | apply AM.condF rfl | (apply DM.gbT; rfl) | (apply DM.gbF; rfl) | intro h
  ((first | apply AM.retA | apply AM.doneA); (· first | (apply results_t; (· simp only [go_sem, Nat.reduceBEq, Nat.reduceAdd, Nat.reduceLeDiff, reduceIte] <;> rfl)) | (apply results_c; (· rfl); (· repeat' first | exact g_same | refine g_ne ‹_› ?_ | refine g_fresh ‹_› ?_ | refine g_T ?_ | assumption); (· rfl)) | (apply results_ct; (· rfl); (· repeat' first | exact g_same | refine g_ne ‹_› ?_ | refine g_fresh ‹_› ?_ | refine g_T ?_ | assumption); (· rfl); (· simp only [go_sem, Nat.reduceBEq, Nat.reduceAdd, Nat.reduceLeDiff, reduceIte] <;> rfl)) | (apply results_tt; (· simp only [go_sem, Nat.reduceBEq, Nat.reduceAdd, Nat.reduceLeDiff, reduceIte] <;> rfl); (· simp only [go_sem, Nat.reduceBEq, Nat.reduceAdd, Nat.reduceLeDiff, reduceIte] <;> rfl)) | (apply results_ttt; (· simp only [go_sem, Nat.reduceBEq, Nat.reduceAdd, Nat.reduceLeDiff, reduceIte] <;> rfl); (· simp only [go_sem, Nat.reduceBEq, Nat.reduceAdd, Nat.reduceLeDiff, reduceIte] <;> rfl); (· simp only [go_sem, Nat.reduceBEq, Nat.reduceAdd, Nat.reduceLeDiff, reduceIte] <;> rfl)) | exact results_nil); rotate_left; (· (repeat' first | exact HSub.refl _ | assumption | refine HSub.setB ?_ ‹_› | refine HSub.setT ?_ ‹_›)))
  refine avle_eq ?_; rw [AV.bool.injEq]; simp
theorem p65 (a : List UInt8) : Pure Tryd.prog 65 [.str a] (.bool false) := by
  refine pure_intro mo Tryd.func65 c65 fun H => ?_
  unfold e65 r65
  simp only [initEnv, initFrom]
  repeat' first | apply AM.seq | apply AM.block | apply AM.skip | apply AM.blkEnd | refine AM.exit rfl ?_ | (apply AM.reg []; simp only [annotate]) | apply DM.nil | refine DM.g1 rfl ?_ | refine DM.g0s (t' := true) rfl rfl ?_ | refine DM.g0s (t' := false) rfl rfl ?_ | refine DM.gus rfl ?_ | ((first | apply DM.ldm1 | apply DM.ldmA | apply DM.bxA | apply DM.al | apply DM.stE | apply DM.ixP | apply DM.lnM | apply DM.fdM | apply DM.bsl | apply DM.p); (repeat first | (change _ = _; first | exact setB_setB | (simp only [go_sem, Nat.reduceBEq, Nat.reduceAdd, Nat.reduceLeDiff, reduceIte] <;> rfl) | rfl | focus ((repeat' first | exact g_same | refine g_ne ‹_› ?_ | refine g_fresh ‹_› ?_ | refine g_T ?_ | exact t_same | refine t_ne ‹_› ?_ | refine t_fresh ‹_› ?_ | refine t_B ?_ | assumption); done)) | exact RD.r | apply RD.p | exact Nat.le_of_ble_eq_true rfl | decide); first | change DM _ _ _ _ _ _ | (intro b hb; repeat first | (refine fresh_elim hb ?_; intro _ _ hb) | (refine fresh_elimT hb ?_; intro hb))) | apply AM.condT rfl | apply AM.condF rfl | (apply DM.gbT; rfl) | (apply DM.gbF; rfl) | intro h
  ((first | apply AM.retA | apply AM.doneA); (· first | (apply results_t; (· simp only [go_sem, Nat.reduceBEq, Nat.reduceAdd, Nat.reduceLeDiff, reduceIte] <;> rfl)) | (apply results_c; (· rfl); (· repeat' first | exact g_same | refine g_ne ‹_› ?_ | refine g_fresh ‹_› ?_ | refine g_T ?_ | assumption); (· rfl)) | (apply results_ct; (· rfl); (· repeat' first | exact g_same | refine g_ne ‹_› ?_ | refine g_fresh ‹_› ?_ | refine g_T ?_ | assumption); (· rfl); (· simp only [go_sem, Nat.reduceBEq, Nat.reduceAdd, Nat.reduceLeDiff, reduceIte] <;> rfl)) | (apply results_tt; (· simp only [go_sem, Nat.reduceBEq, Nat.reduceAdd, Nat.reduceLeDiff, reduceIte] <;> rfl); (· simp only [go_sem, Nat.reduceBEq, Nat.reduceAdd, Nat.reduceLeDiff, reduceIte] <;> rfl)) | (apply results_ttt; (· simp only [go_sem, Nat.reduceBEq, Nat.reduceAdd, Nat.reduceLeDiff, reduceIte] <;> rfl); (· simp only [go_sem, Nat.reduceBEq, Nat.reduceAdd, Nat.reduceLeDiff, reduceIte] <;> rfl); (· simp only [go_sem, Nat.reduceBEq, Nat.reduceAdd, Nat.reduceLeDiff, reduceIte] <;> rfl)) | exact results_nil); rotate_left; (· (repeat' first | exact HSub.refl _ | assumption | refine HSub.setB ?_ ‹_› | refine HSub.setT ?_ ‹_›)))
  refine avle_eq ?_; rw [AV.bool.injEq]; simp
theorem p45 (a b : Int) : Pure Tryd.prog 45 [.int .i64 a, .int .i64 b] (.int .i64 (sgn a b)) := by
  have st := sgn_tri a b
  refine pure_intro mo Tryd.func45 c45 fun H => ?_
  unfold e45 r45
  simp only [initEnv, initFrom]
  repeat' first | apply AM.seq | apply AM.block | apply AM.skip | apply AM.blkEnd | refine AM.exit rfl ?_ | (apply AM.reg []; simp only [annotate]) | apply DM.nil | refine DM.g1 rfl ?_ | refine DM.g0s (t' := true) rfl rfl ?_ | refine DM.g0s (t' := false) rfl rfl ?_ | refine DM.gus rfl ?_ | ((first | apply DM.ldm1 | apply DM.ldmA | apply DM.bxA | apply DM.al | apply DM.stE | apply DM.ixP | apply DM.lnM | apply DM.fdM | apply DM.bsl | apply DM.p); (repeat first | (change _ = _; first | exact setB_setB | (simp only [go_sem, Nat.reduceBEq, Nat.reduceAdd, Nat.reduceLeDiff, reduceIte] <;> rfl) | rfl | focus ((repeat' first | exact g_same | refine g_ne ‹_› ?_ | refine g_fresh ‹_› ?_ | refine g_T ?_ | exact t_same | refine t_ne ‹_› ?_ | refine t_fresh ‹_› ?_ | refine t_B ?_ | assumption); done)) | exact RD.r | apply RD.p | exact Nat.le_of_ble_eq_true rfl | decide); first | change DM _ _ _ _ _ _ | (intro b hb; repeat first | (refine fresh_elim hb ?_; intro _ _ hb) | (refine fresh_elimT hb ?_; intro hb))) | apply AM.condT rfl | apply AM.condF rfl | (apply DM.gbT; rfl) | (apply DM.gbF; rfl) | intro h
  (apply DM.pcs (p64 a); (· simp only [go_sem, Nat.reduceBEq, Nat.reduceAdd] <;> rfl); (· exact AVLes.refl _))
  repeat' first | apply AM.seq | apply AM.block | apply AM.skip | apply AM.blkEnd | refine AM.exit rfl ?_ | (apply AM.reg []; simp only [annotate]) | apply DM.nil | refine DM.g1 rfl ?_ | refine DM.g0s (t' := true) rfl rfl ?_ | refine DM.g0s (t' := false) rfl rfl ?_ | refine DM.gus rfl ?_ | ((first | apply DM.ldm1 | apply DM.ldmA | apply DM.bxA | apply DM.al | apply DM.stE | apply DM.ixP | apply DM.lnM | apply DM.fdM | apply DM.bsl | apply DM.p); (repeat first | (change _ = _; first | exact setB_setB | (simp only [go_sem, Nat.reduceBEq, Nat.reduceAdd, Nat.reduceLeDiff, reduceIte] <;> rfl) | rfl | focus ((repeat' first | exact g_same | refine g_ne ‹_› ?_ | refine g_fresh ‹_› ?_ | refine g_T ?_ | exact t_same | refine t_ne ‹_› ?_ | refine t_fresh ‹_› ?_ | refine t_B ?_ | assumption); done)) | exact RD.r | apply RD.p | exact Nat.le_of_ble_eq_true rfl | decide); first | change DM _ _ _ _ _ _ | (intro b hb; repeat first | (refine fresh_elim hb ?_; intro _ _ hb) | (refine fresh_elimT hb ?_; intro hb))) | apply AM.condT rfl | apply AM.condF rfl | (apply DM.gbT; rfl) | (apply DM.gbF; rfl) | intro h
  (apply DM.pcs (p64 b); (· simp only [go_sem, Nat.reduceBEq, Nat.reduceAdd] <;> rfl); (· exact AVLes.refl _))
  repeat' first | apply AM.seq | apply AM.block | apply AM.skip | apply AM.blkEnd | refine AM.exit rfl ?_ | (apply AM.reg []; simp only [annotate]) | apply DM.nil | refine DM.g1 rfl ?_ | refine DM.g0s (t' := true) rfl rfl ?_ | refine DM.g0s (t' := false) rfl rfl ?_ | refine DM.gus rfl ?_ | ((first | apply DM.ldm1 | apply DM.ldmA | apply DM.bxA | apply DM.al | apply DM.stE | apply DM.ixP | apply DM.lnM | apply DM.fdM | apply DM.bsl | apply DM.p); (repeat first | (change _ = _; first | exact setB_setB | (simp only [go_sem, Nat.reduceBEq, Nat.reduceAdd, Nat.reduceLeDiff, reduceIte] <;> rfl) | rfl | focus ((repeat' first | exact g_same | refine g_ne ‹_› ?_ | refine g_fresh ‹_› ?_ | refine g_T ?_ | exact t_same | refine t_ne ‹_› ?_ | refine t_fresh ‹_› ?_ | refine t_B ?_ | assumption); done)) | exact RD.r | apply RD.p | exact Nat.le_of_ble_eq_true rfl | decide); first | change DM _ _ _ _ _ _ | (intro b hb; repeat first | (refine fresh_elim hb ?_; intro _ _ hb) | (refine fresh_elimT hb ?_; intro hb))) | apply AM.condT rfl | apply AM.condF rfl | (apply DM.gbT; rfl) | (apply DM.gbF; rfl) | intro h
  (apply AM.cond; (· rfl))
  · intro h
    repeat' first | apply AM.seq | apply AM.block | apply AM.skip | apply AM.blkEnd | refine AM.exit rfl ?_ | (apply AM.reg []; simp only [annotate]) | apply DM.nil | refine DM.g1 rfl ?_ | refine DM.g0s (t' := true) rfl rfl ?_ | refine DM.g0s (t' := false) rfl rfl ?_ | refine DM.gus rfl ?_ | ((first | apply DM.ldm1 | apply DM.ldmA | apply DM.bxA | apply DM.al | apply DM.stE | apply DM.ixP | apply DM.lnM | apply DM.fdM | apply DM.bsl | apply DM.p); (repeat first | (change _ = _; first | exact setB_setB | (simp only [go_sem, Nat.reduceBEq, Nat.reduceAdd, Nat.reduceLeDiff, reduceIte] <;> rfl) | rfl | focus ((repeat' first | exact g_same | refine g_ne ‹_› ?_ | refine g_fresh ‹_› ?_ | refine g_T ?_ | exact t_same | refine t_ne ‹_› ?_ | refine t_fresh ‹_› ?_ | refine t_B ?_ | assumption); done)) | exact RD.r | apply RD.p | exact Nat.le_of_ble_eq_true rfl | decide); first | change DM _ _ _ _ _ _ | (intro b hb; repeat first | (refine fresh_elim hb ?_; intro _ _ hb) | (refine fresh_elimT hb ?_; intro hb))) | apply AM.condT rfl | apply AM.condF rfl | (apply DM.gbT; rfl) | (apply DM.gbF; rfl) | intro h
    ((first | apply AM.retA | apply AM.doneA); (· first | (apply results_t; (· simp only [go_sem, Nat.reduceBEq, Nat.reduceAdd, Nat.reduceLeDiff, reduceIte] <;> rfl)) | (apply results_c; (· rfl); (· repeat' first | exact g_same | refine g_ne ‹_› ?_ | refine g_fresh ‹_› ?_ | refine g_T ?_ | assumption); (· rfl)) | (apply results_ct; (· rfl); (· repeat' first | exact g_same | refine g_ne ‹_› ?_ | refine g_fresh ‹_› ?_ | refine g_T ?_ | assumption); (· rfl); (· simp only [go_sem, Nat.reduceBEq, Nat.reduceAdd, Nat.reduceLeDiff, reduceIte] <;> rfl)) | (apply results_tt; (· simp only [go_sem, Nat.reduceBEq, Nat.reduceAdd, Nat.reduceLeDiff, reduceIte] <;> rfl); (· simp only [go_sem, Nat.reduceBEq, Nat.reduceAdd, Nat.reduceLeDiff, reduceIte] <;> rfl)) | (apply results_ttt; (· simp only [go_sem, Nat.reduceBEq, Nat.reduceAdd, Nat.reduceLeDiff, reduceIte] <;> rfl); (· simp only [go_sem, Nat.reduceBEq, Nat.reduceAdd, Nat.reduceLeDiff, reduceIte] <;> rfl); (· simp only [go_sem, Nat.reduceBEq, Nat.reduceAdd, Nat.reduceLeDiff, reduceIte] <;> rfl)) | exact results_nil); rotate_left; (· (repeat' first | exact HSub.refl _ | assumption | refine HSub.setB ?_ ‹_› | refine HSub.setT ?_ ‹_›)))
    refine avle_int ?_; simp at h; omega
  · intro h
    repeat' first | apply AM.seq | apply AM.block | apply AM.skip | apply AM.blkEnd | refine AM.exit rfl ?_ | (apply AM.reg []; simp only [annotate]) | apply DM.nil | refine DM.g1 rfl ?_ | refine DM.g0s (t' := true) rfl rfl ?_ | refine DM.g0s (t' := false) rfl rfl ?_ | refine DM.gus rfl ?_ | ((first | apply DM.ldm1 | apply DM.ldmA | apply DM.bxA | apply DM.al | apply DM.stE | apply DM.ixP | apply DM.lnM | apply DM.fdM | apply DM.bsl | apply DM.p); (repeat first | (change _ = _; first | exact setB_setB | (simp only [go_sem, Nat.reduceBEq, Nat.reduceAdd, Nat.reduceLeDiff, reduceIte] <;> rfl) | rfl | focus ((repeat' first | exact g_same | refine g_ne ‹_› ?_ | refine g_fresh ‹_› ?_ | refine g_T ?_ | exact t_same | refine t_ne ‹_› ?_ | refine t_fresh ‹_› ?_ | refine t_B ?_ | assumption); done)) | exact RD.r | apply RD.p | exact Nat.le_of_ble_eq_true rfl | decide); first | change DM _ _ _ _ _ _ | (intro b hb; repeat first | (refine fresh_elim hb ?_; intro _ _ hb) | (refine fresh_elimT hb ?_; intro hb))) | apply AM.condT rfl | apply AM.condF rfl | (apply DM.gbT; rfl) | (apply DM.gbF; rfl) | intro h
    (apply AM.cond; (· rfl))
    · intro h2
      repeat' first | apply AM.seq | apply AM.block | apply AM.skip | apply AM.blkEnd | refine AM.exit rfl ?_ | (apply AM.reg []; simp only [annotate]) | apply DM.nil | refine DM.g1 rfl ?_ | refine DM.g0s (t' := true) rfl rfl ?_ | refine DM.g0s (t' := false) rfl rfl ?_ | refine DM.gus rfl ?_ | ((first | apply DM.ldm1 | apply DM.ldmA | apply DM.bxA | apply DM.al | apply DM.stE | apply DM.ixP | apply DM.lnM | apply DM.fdM | apply DM.bsl | apply DM.p); (repeat first | (change _ = _; first | exact setB_setB | (simp only [go_sem, Nat.reduceBEq, Nat.reduceAdd, Nat.reduceLeDiff, reduceIte] <;> rfl) | rfl | focus ((repeat' first | exact g_same | refine g_ne ‹_› ?_ | refine g_fresh ‹_› ?_ | refine g_T ?_ | exact t_same | refine t_ne ‹_› ?_ | refine t_fresh ‹_› ?_ | refine t_B ?_ | assumption); done)) | exact RD.r | apply RD.p | exact Nat.le_of_ble_eq_true rfl | decide); first | change DM _ _ _ _ _ _ | (intro b hb; repeat first | (refine fresh_elim hb ?_; intro _ _ hb) | (refine fresh_elimT hb ?_; intro hb))) | apply AM.condT rfl | apply AM.condF rfl | (apply DM.gbT; rfl) | (apply DM.gbF; rfl) | intro h
      ((first | apply AM.retA | apply AM.doneA); (· first | (apply results_t; (· simp only [go_sem, Nat.reduceBEq, Nat.reduceAdd, Nat.reduceLeDiff, reduceIte] <;> rfl)) | (apply results_c; (· rfl); (· repeat' first | exact g_same | refine g_ne ‹_› ?_ | refine g_fresh ‹_› ?_ | refine g_T ?_ | assumption); (· rfl)) | (apply results_ct; (· rfl); (· repeat' first | exact g_same | refine g_ne ‹_› ?_ | refine g_fresh ‹_› ?_ | refine g_T ?_ | assumption); (· rfl); (· simp only [go_sem, Nat.reduceBEq, Nat.reduceAdd, Nat.reduceLeDiff, reduceIte] <;> rfl)) | (apply results_tt; (· simp only [go_sem, Nat.reduceBEq, Nat.reduceAdd, Nat.reduceLeDiff, reduceIte] <;> rfl); (· simp only [go_sem, Nat.reduceBEq, Nat.reduceAdd, Nat.reduceLeDiff, reduceIte] <;> rfl)) | (apply results_ttt; (· simp only [go_sem, Nat.reduceBEq, Nat.reduceAdd, Nat.reduceLeDiff, reduceIte] <;> rfl); (· simp only [go_sem, Nat.reduceBEq, Nat.reduceAdd, Nat.reduceLeDiff, reduceIte] <;> rfl); (· simp only [go_sem, Nat.reduceBEq, Nat.reduceAdd, Nat.reduceLeDiff, reduceIte] <;> rfl)) | exact results_nil); rotate_left; (· (repeat' first | exact HSub.refl _ | assumption | refine HSub.setB ?_ ‹_› | refine HSub.setT ?_ ‹_›)))
      refine avle_int ?_; simp at h h2; omega
    · intro h2
      repeat' first | apply AM.seq | apply AM.block | apply AM.skip | apply AM.blkEnd | refine AM.exit rfl ?_ | (apply AM.reg []; simp only [annotate]) | apply DM.nil | refine DM.g1 rfl ?_ | refine DM.g0s (t' := true) rfl rfl ?_ | refine DM.g0s (t' := false) rfl rfl ?_ | refine DM.gus rfl ?_ | ((first | apply DM.ldm1 | apply DM.ldmA | apply DM.bxA | apply DM.al | apply DM.stE | apply DM.ixP | apply DM.lnM | apply DM.fdM | apply DM.bsl | apply DM.p); (repeat first | (change _ = _; first | exact setB_setB | (simp only [go_sem, Nat.reduceBEq, Nat.reduceAdd, Nat.reduceLeDiff, reduceIte] <;> rfl) | rfl | focus ((repeat' first | exact g_same | refine g_ne ‹_› ?_ | refine g_fresh ‹_› ?_ | refine g_T ?_ | exact t_same | refine t_ne ‹_› ?_ | refine t_fresh ‹_› ?_ | refine t_B ?_ | assumption); done)) | exact RD.r | apply RD.p | exact Nat.le_of_ble_eq_true rfl | decide); first | change DM _ _ _ _ _ _ | (intro b hb; repeat first | (refine fresh_elim hb ?_; intro _ _ hb) | (refine fresh_elimT hb ?_; intro hb))) | apply AM.condT rfl | apply AM.condF rfl | (apply DM.gbT; rfl) | (apply DM.gbF; rfl) | intro h
      ((first | apply AM.retA | apply AM.doneA); (· first | (apply results_t; (· simp only [go_sem, Nat.reduceBEq, Nat.reduceAdd, Nat.reduceLeDiff, reduceIte] <;> rfl)) | (apply results_c; (· rfl); (· repeat' first | exact g_same | refine g_ne ‹_› ?_ | refine g_fresh ‹_› ?_ | refine g_T ?_ | assumption); (· rfl)) | (apply results_ct; (· rfl); (· repeat' first | exact g_same | refine g_ne ‹_› ?_ | refine g_fresh ‹_› ?_ | refine g_T ?_ | assumption); (· rfl); (· simp only [go_sem, Nat.reduceBEq, Nat.reduceAdd, Nat.reduceLeDiff, reduceIte] <;> rfl)) | (apply results_tt; (· simp only [go_sem, Nat.reduceBEq, Nat.reduceAdd, Nat.reduceLeDiff, reduceIte] <;> rfl); (· simp only [go_sem, Nat.reduceBEq, Nat.reduceAdd, Nat.reduceLeDiff, reduceIte] <;> rfl)) | (apply results_ttt; (· simp only [go_sem, Nat.reduceBEq, Nat.reduceAdd, Nat.reduceLeDiff, reduceIte] <;> rfl); (· simp only [go_sem, Nat.reduceBEq, Nat.reduceAdd, Nat.reduceLeDiff, reduceIte] <;> rfl); (· simp only [go_sem, Nat.reduceBEq, Nat.reduceAdd, Nat.reduceLeDiff, reduceIte] <;> rfl)) | exact results_nil); rotate_left; (· (repeat' first | exact HSub.refl _ | assumption | refine HSub.setB ?_ ‹_› | refine HSub.setT ?_ ‹_›)))
      refine avle_int ?_; simp at h h2; omega
theorem p46 (a b : List UInt8) : Pure Tryd.prog 46 [.str a, .str b] (.int .i64 (cmpB a b)) := by
  have v := cmpB_val a b
  have an := cmpB_anti a b
  have l1 := less_cmpB a b
  have l2 := less_cmpB b a
  have ce := cmpB_eq a b
  refine pure_intro mo Tryd.func46 c46 fun H => ?_
  unfold e46 r46
  simp only [initEnv, initFrom]
  repeat' first | apply AM.seq | apply AM.block | apply AM.skip | apply AM.blkEnd | refine AM.exit rfl ?_ | (apply AM.reg []; simp only [annotate]) | apply DM.nil | refine DM.g1 rfl ?_ | refine DM.g0s (t' := true) rfl rfl ?_ | refine DM.g0s (t' := false) rfl rfl ?_ | refine DM.gus rfl ?_ | ((first | apply DM.ldm1 | apply DM.ldmA | apply DM.bxA | apply DM.al | apply DM.stE | apply DM.ixP | apply DM.lnM | apply DM.fdM | apply DM.bsl | apply DM.p); (repeat first | (change _ = _; first | exact setB_setB | (simp only [go_sem, Nat.reduceBEq, Nat.reduceAdd, Nat.reduceLeDiff, reduceIte] <;> rfl) | rfl | focus ((repeat' first | exact g_same | refine g_ne ‹_› ?_ | refine g_fresh ‹_› ?_ | refine g_T ?_ | exact t_same | refine t_ne ‹_› ?_ | refine t_fresh ‹_› ?_ | refine t_B ?_ | assumption); done)) | exact RD.r | apply RD.p | exact Nat.le_of_ble_eq_true rfl | decide); first | change DM _ _ _ _ _ _ | (intro b hb; repeat first | (refine fresh_elim hb ?_; intro _ _ hb) | (refine fresh_elimT hb ?_; intro hb))) | apply AM.condT rfl | apply AM.condF rfl | (apply DM.gbT; rfl) | (apply DM.gbF; rfl) | intro h
  (apply DM.pcs (p65 a); (· simp only [go_sem, Nat.reduceBEq, Nat.reduceAdd] <;> rfl); (· exact AVLes.refl _))
  repeat' first | apply AM.seq | apply AM.block | apply AM.skip | apply AM.blkEnd | refine AM.exit rfl ?_ | (apply AM.reg []; simp only [annotate]) | apply DM.nil | refine DM.g1 rfl ?_ | refine DM.g0s (t' := true) rfl rfl ?_ | refine DM.g0s (t' := false) rfl rfl ?_ | refine DM.gus rfl ?_ | ((first | apply DM.ldm1 | apply DM.ldmA | apply DM.bxA | apply DM.al | apply DM.stE | apply DM.ixP | apply DM.lnM | apply DM.fdM | apply DM.bsl | apply DM.p); (repeat first | (change _ = _; first | exact setB_setB | (simp only [go_sem, Nat.reduceBEq, Nat.reduceAdd, Nat.reduceLeDiff, reduceIte] <;> rfl) | rfl | focus ((repeat' first | exact g_same | refine g_ne ‹_› ?_ | refine g_fresh ‹_› ?_ | refine g_T ?_ | exact t_same | refine t_ne ‹_› ?_ | refine t_fresh ‹_› ?_ | refine t_B ?_ | assumption); done)) | exact RD.r | apply RD.p | exact Nat.le_of_ble_eq_true rfl | decide); first | change DM _ _ _ _ _ _ | (intro b hb; repeat first | (refine fresh_elim hb ?_; intro _ _ hb) | (refine fresh_elimT hb ?_; intro hb))) | apply AM.condT rfl | apply AM.condF rfl | (apply DM.gbT; rfl) | (apply DM.gbF; rfl) | intro h
  (apply DM.pcs (p65 b); (· simp only [go_sem, Nat.reduceBEq, Nat.reduceAdd] <;> rfl); (· exact AVLes.refl _))
  repeat' first | apply AM.seq | apply AM.block | apply AM.skip | apply AM.blkEnd | refine AM.exit rfl ?_ | (apply AM.reg []; simp only [annotate]) | apply DM.nil | refine DM.g1 rfl ?_ | refine DM.g0s (t' := true) rfl rfl ?_ | refine DM.g0s (t' := false) rfl rfl ?_ | refine DM.gus rfl ?_ | ((first | apply DM.ldm1 | apply DM.ldmA | apply DM.bxA | apply DM.al | apply DM.stE | apply DM.ixP | apply DM.lnM | apply DM.fdM | apply DM.bsl | apply DM.p); (repeat first | (change _ = _; first | exact setB_setB | (simp only [go_sem, Nat.reduceBEq, Nat.reduceAdd, Nat.reduceLeDiff, reduceIte] <;> rfl) | rfl | focus ((repeat' first | exact g_same | refine g_ne ‹_› ?_ | refine g_fresh ‹_› ?_ | refine g_T ?_ | exact t_same | refine t_ne ‹_› ?_ | refine t_fresh ‹_› ?_ | refine t_B ?_ | assumption); done)) | exact RD.r | apply RD.p | exact Nat.le_of_ble_eq_true rfl | decide); first | change DM _ _ _ _ _ _ | (intro b hb; repeat first | (refine fresh_elim hb ?_; intro _ _ hb) | (refine fresh_elimT hb ?_; intro hb))) | apply AM.condT rfl | apply AM.condF rfl | (apply DM.gbT; rfl) | (apply DM.gbF; rfl) | intro h
  (apply AM.cond; (· rfl))
  · intro h
    repeat' first | apply AM.seq | apply AM.block | apply AM.skip | apply AM.blkEnd | refine AM.exit rfl ?_ | (apply AM.reg []; simp only [annotate]) | apply DM.nil | refine DM.g1 rfl ?_ | refine DM.g0s (t' := true) rfl rfl ?_ | refine DM.g0s (t' := false) rfl rfl ?_ | refine DM.gus rfl ?_ | ((first | apply DM.ldm1 | apply DM.ldmA | apply DM.bxA | apply DM.al | apply DM.stE | apply DM.ixP | apply DM.lnM | apply DM.fdM | apply DM.bsl | apply DM.p); (repeat first | (change _ = _; first | exact setB_setB | (simp only [go_sem, Nat.reduceBEq, Nat.reduceAdd, Nat.reduceLeDiff, reduceIte] <;> rfl) | rfl | focus ((repeat' first | exact g_same | refine g_ne ‹_› ?_ | refine g_fresh ‹_› ?_ | refine g_T ?_ | exact t_same | refine t_ne ‹_› ?_ | refine t_fresh ‹_› ?_ | refine t_B ?_ | assumption); done)) | exact RD.r | apply RD.p | exact Nat.le_of_ble_eq_true rfl | decide); first | change DM _ _ _ _ _ _ | (intro b hb; repeat first | (refine fresh_elim hb ?_; intro _ _ hb) | (refine fresh_elimT hb ?_; intro hb))) | apply AM.condT rfl | apply AM.condF rfl | (apply DM.gbT; rfl) | (apply DM.gbF; rfl) | intro h
    ((first | apply AM.retA | apply AM.doneA); (· first | (apply results_t; (· simp only [go_sem, Nat.reduceBEq, Nat.reduceAdd, Nat.reduceLeDiff, reduceIte] <;> rfl)) | (apply results_c; (· rfl); (· repeat' first | exact g_same | refine g_ne ‹_› ?_ | refine g_fresh ‹_› ?_ | refine g_T ?_ | assumption); (· rfl)) | (apply results_ct; (· rfl); (· repeat' first | exact g_same | refine g_ne ‹_› ?_ | refine g_fresh ‹_› ?_ | refine g_T ?_ | assumption); (· rfl); (· simp only [go_sem, Nat.reduceBEq, Nat.reduceAdd, Nat.reduceLeDiff, reduceIte] <;> rfl)) | (apply results_tt; (· simp only [go_sem, Nat.reduceBEq, Nat.reduceAdd, Nat.reduceLeDiff, reduceIte] <;> rfl); (· simp only [go_sem, Nat.reduceBEq, Nat.reduceAdd, Nat.reduceLeDiff, reduceIte] <;> rfl)) | (apply results_ttt; (· simp only [go_sem, Nat.reduceBEq, Nat.reduceAdd, Nat.reduceLeDiff, reduceIte] <;> rfl); (· simp only [go_sem, Nat.reduceBEq, Nat.reduceAdd, Nat.reduceLeDiff, reduceIte] <;> rfl); (· simp only [go_sem, Nat.reduceBEq, Nat.reduceAdd, Nat.reduceLeDiff, reduceIte] <;> rfl)) | exact results_nil); rotate_left; (· (repeat' first | exact HSub.refl _ | assumption | refine HSub.setB ?_ ‹_› | refine HSub.setT ?_ ‹_›)))
    refine avle_int ?_; simp [l1, l2] at h; omega
  · intro h
    repeat' first | apply AM.seq | apply AM.block | apply AM.skip | apply AM.blkEnd | refine AM.exit rfl ?_ | (apply AM.reg []; simp only [annotate]) | apply DM.nil | refine DM.g1 rfl ?_ | refine DM.g0s (t' := true) rfl rfl ?_ | refine DM.g0s (t' := false) rfl rfl ?_ | refine DM.gus rfl ?_ | ((first | apply DM.ldm1 | apply DM.ldmA | apply DM.bxA | apply DM.al | apply DM.stE | apply DM.ixP | apply DM.lnM | apply DM.fdM | apply DM.bsl | apply DM.p); (repeat first | (change _ = _; first | exact setB_setB | (simp only [go_sem, Nat.reduceBEq, Nat.reduceAdd, Nat.reduceLeDiff, reduceIte] <;> rfl) | rfl | focus ((repeat' first | exact g_same | refine g_ne ‹_› ?_ | refine g_fresh ‹_› ?_ | refine g_T ?_ | exact t_same | refine t_ne ‹_› ?_ | refine t_fresh ‹_› ?_ | refine t_B ?_ | assumption); done)) | exact RD.r | apply RD.p | exact Nat.le_of_ble_eq_true rfl | decide); first | change DM _ _ _ _ _ _ | (intro b hb; repeat first | (refine fresh_elim hb ?_; intro _ _ hb) | (refine fresh_elimT hb ?_; intro hb))) | apply AM.condT rfl | apply AM.condF rfl | (apply DM.gbT; rfl) | (apply DM.gbF; rfl) | intro h
    (apply AM.cond; (· rfl))
    · intro h2
      repeat' first | apply AM.seq | apply AM.block | apply AM.skip | apply AM.blkEnd | refine AM.exit rfl ?_ | (apply AM.reg []; simp only [annotate]) | apply DM.nil | refine DM.g1 rfl ?_ | refine DM.g0s (t' := true) rfl rfl ?_ | refine DM.g0s (t' := false) rfl rfl ?_ | refine DM.gus rfl ?_ | ((first | apply DM.ldm1 | apply DM.ldmA | apply DM.bxA | apply DM.al | apply DM.stE | apply DM.ixP | apply DM.lnM | apply DM.fdM | apply DM.bsl | apply DM.p); (repeat first | (change _ = _; first | exact setB_setB | (simp only [go_sem, Nat.reduceBEq, Nat.reduceAdd, Nat.reduceLeDiff, reduceIte] <;> rfl) | rfl | focus ((repeat' first | exact g_same | refine g_ne ‹_› ?_ | refine g_fresh ‹_› ?_ | refine g_T ?_ | exact t_same | refine t_ne ‹_› ?_ | refine t_fresh ‹_› ?_ | refine t_B ?_ | assumption); done)) | exact RD.r | apply RD.p | exact Nat.le_of_ble_eq_true rfl | decide); first | change DM _ _ _ _ _ _ | (intro b hb; repeat first | (refine fresh_elim hb ?_; intro _ _ hb) | (refine fresh_elimT hb ?_; intro hb))) | apply AM.condT rfl | apply AM.condF rfl | (apply DM.gbT; rfl) | (apply DM.gbF; rfl) | intro h
      ((first | apply AM.retA | apply AM.doneA); (· first | (apply results_t; (· simp only [go_sem, Nat.reduceBEq, Nat.reduceAdd, Nat.reduceLeDiff, reduceIte] <;> rfl)) | (apply results_c; (· rfl); (· repeat' first | exact g_same | refine g_ne ‹_› ?_ | refine g_fresh ‹_› ?_ | refine g_T ?_ | assumption); (· rfl)) | (apply results_ct; (· rfl); (· repeat' first | exact g_same | refine g_ne ‹_› ?_ | refine g_fresh ‹_› ?_ | refine g_T ?_ | assumption); (· rfl); (· simp only [go_sem, Nat.reduceBEq, Nat.reduceAdd, Nat.reduceLeDiff, reduceIte] <;> rfl)) | (apply results_tt; (· simp only [go_sem, Nat.reduceBEq, Nat.reduceAdd, Nat.reduceLeDiff, reduceIte] <;> rfl); (· simp only [go_sem, Nat.reduceBEq, Nat.reduceAdd, Nat.reduceLeDiff, reduceIte] <;> rfl)) | (apply results_ttt; (· simp only [go_sem, Nat.reduceBEq, Nat.reduceAdd, Nat.reduceLeDiff, reduceIte] <;> rfl); (· simp only [go_sem, Nat.reduceBEq, Nat.reduceAdd, Nat.reduceLeDiff, reduceIte] <;> rfl); (· simp only [go_sem, Nat.reduceBEq, Nat.reduceAdd, Nat.reduceLeDiff, reduceIte] <;> rfl)) | exact results_nil); rotate_left; (· (repeat' first | exact HSub.refl _ | assumption | refine HSub.setB ?_ ‹_› | refine HSub.setT ?_ ‹_›)))
      refine avle_int ?_; simp [l1, l2] at h h2; have := mt ce.mp h2.2; omega
    · intro h2
      repeat' first | apply AM.seq | apply AM.block | apply AM.skip | apply AM.blkEnd | refine AM.exit rfl ?_ | (apply AM.reg []; simp only [annotate]) | apply DM.nil | refine DM.g1 rfl ?_ | refine DM.g0s (t' := true) rfl rfl ?_ | refine DM.g0s (t' := false) rfl rfl ?_ | refine DM.gus rfl ?_ | ((first | apply DM.ldm1 | apply DM.ldmA | apply DM.bxA | apply DM.al | apply DM.stE | apply DM.ixP | apply DM.lnM | apply DM.fdM | apply DM.bsl | apply DM.p); (repeat first | (change _ = _; first | exact setB_setB | (simp only [go_sem, Nat.reduceBEq, Nat.reduceAdd, Nat.reduceLeDiff, reduceIte] <;> rfl) | rfl | focus ((repeat' first | exact g_same | refine g_ne ‹_› ?_ | refine g_fresh ‹_› ?_ | refine g_T ?_ | exact t_same | refine t_ne ‹_› ?_ | refine t_fresh ‹_› ?_ | refine t_B ?_ | assumption); done)) | exact RD.r | apply RD.p | exact Nat.le_of_ble_eq_true rfl | decide); first | change DM _ _ _ _ _ _ | (intro b hb; repeat first | (refine fresh_elim hb ?_; intro _ _ hb) | (refine fresh_elimT hb ?_; intro hb))) | apply AM.condT rfl | apply AM.condF rfl | (apply DM.gbT; rfl) | (apply DM.gbF; rfl) | intro h
      ((first | apply AM.retA | apply AM.doneA); (· first | (apply results_t; (· simp only [go_sem, Nat.reduceBEq, Nat.reduceAdd, Nat.reduceLeDiff, reduceIte] <;> rfl)) | (apply results_c; (· rfl); (· repeat' first | exact g_same | refine g_ne ‹_› ?_ | refine g_fresh ‹_› ?_ | refine g_T ?_ | assumption); (· rfl)) | (apply results_ct; (· rfl); (· repeat' first | exact g_same | refine g_ne ‹_› ?_ | refine g_fresh ‹_› ?_ | refine g_T ?_ | assumption); (· rfl); (· simp only [go_sem, Nat.reduceBEq, Nat.reduceAdd, Nat.reduceLeDiff, reduceIte] <;> rfl)) | (apply results_tt; (· simp only [go_sem, Nat.reduceBEq, Nat.reduceAdd, Nat.reduceLeDiff, reduceIte] <;> rfl); (· simp only [go_sem, Nat.reduceBEq, Nat.reduceAdd, Nat.reduceLeDiff, reduceIte] <;> rfl)) | (apply results_ttt; (· simp only [go_sem, Nat.reduceBEq, Nat.reduceAdd, Nat.reduceLeDiff, reduceIte] <;> rfl); (· simp only [go_sem, Nat.reduceBEq, Nat.reduceAdd, Nat.reduceLeDiff, reduceIte] <;> rfl); (· simp only [go_sem, Nat.reduceBEq, Nat.reduceAdd, Nat.reduceLeDiff, reduceIte] <;> rfl)) | exact results_nil); rotate_left; (· (repeat' first | exact HSub.refl _ | assumption | refine HSub.setB ?_ ‹_› | refine HSub.setT ?_ ‹_›)))
      refine avle_int ?_; simp [l1, l2] at h h2; have := ce.mpr (h2 h); omega
def firstNZ : List Int → Int
  | [] => 0
  | n :: l => if n ≠ 0 then n else firstNZ l
theorem p44 (l : List Int) : Pure Tryd.prog 44 [.vs 1 (l.map fun n => [.int .i64 n])] (.int .i64 (firstNZ l)) := by
  refine pure_assume (G := l.length ≤ maxLen) (fun m vs h => by simp only [RvL] at h; obtain ⟨_, _, _, h, _⟩ := h; simpa using vs_len h) fun hlen => ?_
  refine pure_intro mo Tryd.func44 c44 fun H => ?_
  unfold e44 r44
  simp only [initEnv, initFrom]
  repeat' first | apply AM.seq | apply AM.block | apply AM.skip | apply AM.blkEnd | refine AM.exit rfl ?_ | (apply AM.reg []; simp only [annotate]) | apply DM.nil | refine DM.g1 rfl ?_ | refine DM.g0s (t' := true) rfl rfl ?_ | refine DM.g0s (t' := false) rfl rfl ?_ | refine DM.gus rfl ?_ | ((first | apply DM.ldm1 | apply DM.ldmA | apply DM.bxA | apply DM.al | apply DM.stE | apply DM.ixP | apply DM.lnM | apply DM.fdM | apply DM.bsl | apply DM.p); (repeat first | (change _ = _; first | exact setB_setB | (simp only [go_sem, Nat.reduceBEq, Nat.reduceAdd, Nat.reduceLeDiff, reduceIte] <;> rfl) | rfl | focus ((repeat' first | exact g_same | refine g_ne ‹_› ?_ | refine g_fresh ‹_› ?_ | refine g_T ?_ | exact t_same | refine t_ne ‹_› ?_ | refine t_fresh ‹_› ?_ | refine t_B ?_ | assumption); done)) | exact RD.r | apply RD.p | exact Nat.le_of_ble_eq_true rfl | decide); first | change DM _ _ _ _ _ _ | (intro b hb; repeat first | (refine fresh_elim hb ?_; intro _ _ hb) | (refine fresh_elimT hb ?_; intro hb))) | apply AM.condT rfl | apply AM.condF rfl | (apply DM.gbT; rfl) | (apply DM.gbF; rfl) | intro h
  refine AM.loopX (X := Nat) 0 (fun i => [(6, .vs 1 (l.map fun n => [.int .i64 n])), (3, .int .i64 0), (7, .int .i64 l.length), (8, .int .i64 i)]) (fun i H' => H' = H ∧ i ≤ l.length ∧ firstNZ l = firstNZ (l.drop i)) (fun i => l.length - i) ⟨rfl, by omega, by simp⟩ ?_ ?_
  · (repeat first | exact envle_nil _ | (refine envle_cons ?_ ?_; · (simp only [go_sem, Nat.reduceBEq, Nat.reduceAdd]; exact AVLe.refl _)))
    refine envle_cons ?_ (envle_cons ?_ (envle_nil _))
    · simp only [Env.get, Nat.reduceBEq, cond_true, cond_false, beq_self_eq_true]
      exact avle_int (by simp)
    · simp only [Env.get, Nat.reduceBEq, cond_true, cond_false, beq_self_eq_true]
      exact AVLe.refl _
  · intro i H' ⟨e, hi, he⟩
    subst e
    repeat' first | apply AM.seq | apply AM.block | apply AM.skip | apply AM.blkEnd | refine AM.exit rfl ?_ | (apply AM.reg []; simp only [annotate]) | apply DM.nil | refine DM.g1 rfl ?_ | refine DM.g0s (t' := true) rfl rfl ?_ | refine DM.g0s (t' := false) rfl rfl ?_ | refine DM.gus rfl ?_ | ((first | apply DM.ldm1 | apply DM.ldmA | apply DM.bxA | apply DM.al | apply DM.stE | apply DM.ixP | apply DM.lnM | apply DM.fdM | apply DM.bsl | apply DM.p); (repeat first | (change _ = _; first | exact setB_setB | (simp only [go_sem, Nat.reduceBEq, Nat.reduceAdd, Nat.reduceLeDiff, reduceIte] <;> rfl) | rfl | focus ((repeat' first | exact g_same | refine g_ne ‹_› ?_ | refine g_fresh ‹_› ?_ | refine g_T ?_ | exact t_same | refine t_ne ‹_› ?_ | refine t_fresh ‹_› ?_ | refine t_B ?_ | assumption); done)) | exact RD.r | apply RD.p | exact Nat.le_of_ble_eq_true rfl | decide); first | change DM _ _ _ _ _ _ | (intro b hb; repeat first | (refine fresh_elim hb ?_; intro _ _ hb) | (refine fresh_elimT hb ?_; intro hb))) | apply AM.condT rfl | apply AM.condF rfl | (apply DM.gbT; rfl) | (apply DM.gbF; rfl) | intro h
    (apply AM.cond; (· rfl))
    · intro h3
      simp at h3
      obtain ⟨v, hv⟩ := some_of h3
      rw [drop_of hv] at he
      simp only [firstNZ] at he
      repeat' first | apply AM.seq | apply AM.block | apply AM.skip | apply AM.blkEnd | refine AM.exit rfl ?_ | (apply AM.reg []; simp only [annotate]) | apply DM.nil | refine DM.g1 rfl ?_ | refine DM.g0s (t' := true) rfl rfl ?_ | refine DM.g0s (t' := false) rfl rfl ?_ | refine DM.gus rfl ?_ | ((first | apply DM.ldm1 | apply DM.ldmA | apply DM.bxA | apply DM.al | apply DM.stE | apply DM.ixP | apply DM.lnM | apply DM.fdM | apply DM.bsl | apply DM.p); (repeat first | (change _ = _; first | exact setB_setB | (simp only [go_sem, Nat.reduceBEq, Nat.reduceAdd, Nat.reduceLeDiff, reduceIte] <;> rfl) | rfl | focus ((repeat' first | exact g_same | refine g_ne ‹_› ?_ | refine g_fresh ‹_› ?_ | refine g_T ?_ | exact t_same | refine t_ne ‹_› ?_ | refine t_fresh ‹_› ?_ | refine t_B ?_ | assumption); done)) | exact RD.r | apply RD.p | exact Nat.le_of_ble_eq_true rfl | decide); first | change DM _ _ _ _ _ _ | (intro b hb; repeat first | (refine fresh_elim hb ?_; intro _ _ hb) | (refine fresh_elimT hb ?_; intro hb))) | apply AM.condT rfl | apply AM.condF rfl | (apply DM.gbT; rfl) | (apply DM.gbF; rfl) | intro h
      (apply DM.ixV (row := [.int .i64 v]) (z := (i : Int)) (by omega) (row_get (fun n => [AV.int .i64 n]) hv); (· rfl); (· rfl))
      repeat' first | apply AM.seq | apply AM.block | apply AM.skip | apply AM.blkEnd | refine AM.exit rfl ?_ | (apply AM.reg []; simp only [annotate]) | apply DM.nil | refine DM.g1 rfl ?_ | refine DM.g0s (t' := true) rfl rfl ?_ | refine DM.g0s (t' := false) rfl rfl ?_ | refine DM.gus rfl ?_ | ((first | apply DM.ldm1 | apply DM.ldmA | apply DM.bxA | apply DM.al | apply DM.stE | apply DM.ixP | apply DM.lnM | apply DM.fdM | apply DM.bsl | apply DM.p); (repeat first | (change _ = _; first | exact setB_setB | (simp only [go_sem, Nat.reduceBEq, Nat.reduceAdd, Nat.reduceLeDiff, reduceIte] <;> rfl) | rfl | focus ((repeat' first | exact g_same | refine g_ne ‹_› ?_ | refine g_fresh ‹_› ?_ | refine g_T ?_ | exact t_same | refine t_ne ‹_› ?_ | refine t_fresh ‹_› ?_ | refine t_B ?_ | assumption); done)) | exact RD.r | apply RD.p | exact Nat.le_of_ble_eq_true rfl | decide); first | change DM _ _ _ _ _ _ | (intro b hb; repeat first | (refine fresh_elim hb ?_; intro _ _ hb) | (refine fresh_elimT hb ?_; intro hb))) | apply AM.condT rfl | apply AM.condF rfl | (apply DM.gbT; rfl) | (apply DM.gbF; rfl) | intro h
      (apply AM.cond; (· rfl))
      · intro h4
        simp at h4
        repeat' first | apply AM.seq | apply AM.block | apply AM.skip | apply AM.blkEnd | refine AM.exit rfl ?_ | (apply AM.reg []; simp only [annotate]) | apply DM.nil | refine DM.g1 rfl ?_ | refine DM.g0s (t' := true) rfl rfl ?_ | refine DM.g0s (t' := false) rfl rfl ?_ | refine DM.gus rfl ?_ | ((first | apply DM.ldm1 | apply DM.ldmA | apply DM.bxA | apply DM.al | apply DM.stE | apply DM.ixP | apply DM.lnM | apply DM.fdM | apply DM.bsl | apply DM.p); (repeat first | (change _ = _; first | exact setB_setB | (simp only [go_sem, Nat.reduceBEq, Nat.reduceAdd, Nat.reduceLeDiff, reduceIte] <;> rfl) | rfl | focus ((repeat' first | exact g_same | refine g_ne ‹_› ?_ | refine g_fresh ‹_› ?_ | refine g_T ?_ | exact t_same | refine t_ne ‹_› ?_ | refine t_fresh ‹_› ?_ | refine t_B ?_ | assumption); done)) | exact RD.r | apply RD.p | exact Nat.le_of_ble_eq_true rfl | decide); first | change DM _ _ _ _ _ _ | (intro b hb; repeat first | (refine fresh_elim hb ?_; intro _ _ hb) | (refine fresh_elimT hb ?_; intro hb))) | apply AM.condT rfl | apply AM.condF rfl | (apply DM.gbT; rfl) | (apply DM.gbF; rfl) | intro h
        ((first | apply AM.retA | apply AM.doneA); (· first | (apply results_t; (· simp only [go_sem, Nat.reduceBEq, Nat.reduceAdd, Nat.reduceLeDiff, reduceIte] <;> rfl)) | (apply results_c; (· rfl); (· repeat' first | exact g_same | refine g_ne ‹_› ?_ | refine g_fresh ‹_› ?_ | refine g_T ?_ | assumption); (· rfl)) | (apply results_ct; (· rfl); (· repeat' first | exact g_same | refine g_ne ‹_› ?_ | refine g_fresh ‹_› ?_ | refine g_T ?_ | assumption); (· rfl); (· simp only [go_sem, Nat.reduceBEq, Nat.reduceAdd, Nat.reduceLeDiff, reduceIte] <;> rfl)) | (apply results_tt; (· simp only [go_sem, Nat.reduceBEq, Nat.reduceAdd, Nat.reduceLeDiff, reduceIte] <;> rfl); (· simp only [go_sem, Nat.reduceBEq, Nat.reduceAdd, Nat.reduceLeDiff, reduceIte] <;> rfl)) | (apply results_ttt; (· simp only [go_sem, Nat.reduceBEq, Nat.reduceAdd, Nat.reduceLeDiff, reduceIte] <;> rfl); (· simp only [go_sem, Nat.reduceBEq, Nat.reduceAdd, Nat.reduceLeDiff, reduceIte] <;> rfl); (· simp only [go_sem, Nat.reduceBEq, Nat.reduceAdd, Nat.reduceLeDiff, reduceIte] <;> rfl)) | exact results_nil); rotate_left; (· (repeat' first | exact HSub.refl _ | assumption | refine HSub.setB ?_ ‹_› | refine HSub.setT ?_ ‹_›)))
        refine avle_int ?_
        rw [he, if_pos h4]
      · intro h4
        simp at h4
        rw [if_neg (by simpa using h4)] at he
        repeat' first | apply AM.seq | apply AM.block | apply AM.skip | apply AM.blkEnd | refine AM.exit rfl ?_ | (apply AM.reg []; simp only [annotate]) | apply DM.nil | refine DM.g1 rfl ?_ | refine DM.g0s (t' := true) rfl rfl ?_ | refine DM.g0s (t' := false) rfl rfl ?_ | refine DM.gus rfl ?_ | ((first | apply DM.ldm1 | apply DM.ldmA | apply DM.bxA | apply DM.al | apply DM.stE | apply DM.ixP | apply DM.lnM | apply DM.fdM | apply DM.bsl | apply DM.p); (repeat first | (change _ = _; first | exact setB_setB | (simp only [go_sem, Nat.reduceBEq, Nat.reduceAdd, Nat.reduceLeDiff, reduceIte] <;> rfl) | rfl | focus ((repeat' first | exact g_same | refine g_ne ‹_› ?_ | refine g_fresh ‹_› ?_ | refine g_T ?_ | exact t_same | refine t_ne ‹_› ?_ | refine t_fresh ‹_› ?_ | refine t_B ?_ | assumption); done)) | exact RD.r | apply RD.p | exact Nat.le_of_ble_eq_true rfl | decide); first | change DM _ _ _ _ _ _ | (intro b hb; repeat first | (refine fresh_elim hb ?_; intro _ _ hb) | (refine fresh_elimT hb ?_; intro hb))) | apply AM.condT rfl | apply AM.condF rfl | (apply DM.gbT; rfl) | (apply DM.gbF; rfl) | intro h
        refine AM.roundX (i + 1) ⟨rfl, by omega, he⟩ ?_ ?_
        · (repeat first | exact envle_nil _ | (refine envle_cons ?_ ?_; · (simp only [go_sem, Nat.reduceBEq, Nat.reduceAdd]; exact AVLe.refl _)))
          refine envle_cons ?_ ?_
          · simp only [go_sem, Nat.reduceBEq, Nat.reduceAdd]
            refine avle_int ?_
            rw [inc64 h3 hlen]
          exact envle_nil _
        · show l.length - (i + 1) < l.length - i
          omega
    · intro h3
      simp at h3
      repeat' first | apply AM.seq | apply AM.block | apply AM.skip | apply AM.blkEnd | refine AM.exit rfl ?_ | (apply AM.reg []; simp only [annotate]) | apply DM.nil | refine DM.g1 rfl ?_ | refine DM.g0s (t' := true) rfl rfl ?_ | refine DM.g0s (t' := false) rfl rfl ?_ | refine DM.gus rfl ?_ | ((first | apply DM.ldm1 | apply DM.ldmA | apply DM.bxA | apply DM.al | apply DM.stE | apply DM.ixP | apply DM.lnM | apply DM.fdM | apply DM.bsl | apply DM.p); (repeat first | (change _ = _; first | exact setB_setB | (simp only [go_sem, Nat.reduceBEq, Nat.reduceAdd, Nat.reduceLeDiff, reduceIte] <;> rfl) | rfl | focus ((repeat' first | exact g_same | refine g_ne ‹_› ?_ | refine g_fresh ‹_› ?_ | refine g_T ?_ | exact t_same | refine t_ne ‹_› ?_ | refine t_fresh ‹_› ?_ | refine t_B ?_ | assumption); done)) | exact RD.r | apply RD.p | exact Nat.le_of_ble_eq_true rfl | decide); first | change DM _ _ _ _ _ _ | (intro b hb; repeat first | (refine fresh_elim hb ?_; intro _ _ hb) | (refine fresh_elimT hb ?_; intro hb))) | apply AM.condT rfl | apply AM.condF rfl | (apply DM.gbT; rfl) | (apply DM.gbF; rfl) | intro h
      ((first | apply AM.retA | apply AM.doneA); (· first | (apply results_t; (· simp only [go_sem, Nat.reduceBEq, Nat.reduceAdd, Nat.reduceLeDiff, reduceIte] <;> rfl)) | (apply results_c; (· rfl); (· repeat' first | exact g_same | refine g_ne ‹_› ?_ | refine g_fresh ‹_› ?_ | refine g_T ?_ | assumption); (· rfl)) | (apply results_ct; (· rfl); (· repeat' first | exact g_same | refine g_ne ‹_› ?_ | refine g_fresh ‹_› ?_ | refine g_T ?_ | assumption); (· rfl); (· simp only [go_sem, Nat.reduceBEq, Nat.reduceAdd, Nat.reduceLeDiff, reduceIte] <;> rfl)) | (apply results_tt; (· simp only [go_sem, Nat.reduceBEq, Nat.reduceAdd, Nat.reduceLeDiff, reduceIte] <;> rfl); (· simp only [go_sem, Nat.reduceBEq, Nat.reduceAdd, Nat.reduceLeDiff, reduceIte] <;> rfl)) | (apply results_ttt; (· simp only [go_sem, Nat.reduceBEq, Nat.reduceAdd, Nat.reduceLeDiff, reduceIte] <;> rfl); (· simp only [go_sem, Nat.reduceBEq, Nat.reduceAdd, Nat.reduceLeDiff, reduceIte] <;> rfl); (· simp only [go_sem, Nat.reduceBEq, Nat.reduceAdd, Nat.reduceLeDiff, reduceIte] <;> rfl)) | exact results_nil); rotate_left; (· (repeat' first | exact HSub.refl _ | assumption | refine HSub.setB ?_ ‹_› | refine HSub.setT ?_ ‹_›)))
      refine avle_int ?_
      rw [he, List.drop_eq_nil_of_le (by omega)]
      rfl
theorem firstNZ4 (a b : Val) : firstNZ [sgn a.k b.k, sgn a.n b.n, sgn a.s.length b.s.length, cmpB a.s b.s] = cmpV a b := by
  rw [cmpV_unf]
  simp only [firstNZ]
  split
  · rfl
  · split
    · rfl
    · split
      · rfl
      · split
        · rfl
        · rename_i h; simp only [ne_eq, Decidable.not_not] at h; exact h.symm
theorem p13 (x y : Val) : Pure Tryd.prog 13 [x.av, y.av] (.int .i64 (cmpV x y)) := by
  refine pure_intro mo Tryd.func13 c13 fun H => ?_
  unfold e13 r13
  simp only [initEnv, initFrom]
  repeat' first | apply AM.seq | apply AM.block | apply AM.skip | apply AM.blkEnd | refine AM.exit rfl ?_ | (apply AM.reg (draw := false) []; simp only [annotate]) | apply DM.nil | refine DM.g1 rfl ?_ | refine DM.g0s (t' := true) rfl rfl ?_ | refine DM.g0s (t' := false) rfl rfl ?_ | refine DM.gus rfl ?_ | ((first | apply DM.ldm1 | apply DM.ldmA | apply DM.bxA | apply DM.al | apply DM.stE | apply DM.ixP | apply DM.lnM | apply DM.fdM | apply DM.bsl | apply DM.p); (repeat first | (change _ = _; first | exact setB_setB | (simp only [go_sem, Nat.reduceBEq, Nat.reduceAdd, Nat.reduceLeDiff, reduceIte] <;> rfl) | rfl | focus ((repeat' first | exact g_same | refine g_ne ‹_› ?_ | refine g_fresh ‹_› ?_ | refine g_T ?_ | exact t_same | refine t_ne ‹_› ?_ | refine t_fresh ‹_› ?_ | refine t_B ?_ | assumption); done)) | exact RD.r | apply RD.p | exact Nat.le_of_ble_eq_true rfl | decide); first | change DM _ _ _ _ _ _ | (intro b hb; repeat first | (refine fresh_elim hb ?_; intro _ _ hb) | (refine fresh_elimT hb ?_; intro hb))) | apply AM.condT rfl | apply AM.condF rfl | (apply DM.gbT; rfl) | (apply DM.gbF; rfl) | intro h
  (refine AM.reg [.int .i64 (sgn x.k y.k), .int .i64 (sgn x.n y.n), .int .i64 (sgn x.s.length y.s.length), .int .i64 (cmpB x.s y.s), .int .i64 (cmpV x y)] ?_; simp only [annotate, AV.rows])
  repeat' first | apply AM.seq | apply AM.block | apply AM.skip | apply AM.blkEnd | refine AM.exit rfl ?_ | (apply AM.reg []; simp only [annotate]) | apply DM.nil | refine DM.g1 rfl ?_ | refine DM.g0s (t' := true) rfl rfl ?_ | refine DM.g0s (t' := false) rfl rfl ?_ | refine DM.gus rfl ?_ | ((first | apply DM.ldm1 | apply DM.ldmA | apply DM.bxA | apply DM.al | apply DM.stE | apply DM.ixP | apply DM.lnM | apply DM.fdM | apply DM.bsl | apply DM.p); (repeat first | (change _ = _; first | exact setB_setB | (simp only [go_sem, Nat.reduceBEq, Nat.reduceAdd, Nat.reduceLeDiff, reduceIte] <;> rfl) | rfl | focus ((repeat' first | exact g_same | refine g_ne ‹_› ?_ | refine g_fresh ‹_› ?_ | refine g_T ?_ | exact t_same | refine t_ne ‹_› ?_ | refine t_fresh ‹_› ?_ | refine t_B ?_ | assumption); done)) | exact RD.r | apply RD.p | exact Nat.le_of_ble_eq_true rfl | decide); first | change DM _ _ _ _ _ _ | (intro b hb; repeat first | (refine fresh_elim hb ?_; intro _ _ hb) | (refine fresh_elimT hb ?_; intro hb))) | apply AM.condT rfl | apply AM.condF rfl | (apply DM.gbT; rfl) | (apply DM.gbF; rfl) | intro h
  (apply DM.pcRs (p45 x.k y.k); (· simp only [go_sem, Nat.reduceBEq, Nat.reduceAdd] <;> rfl); (· exact AVLes.refl _))
  repeat' first | apply AM.seq | apply AM.block | apply AM.skip | apply AM.blkEnd | refine AM.exit rfl ?_ | (apply AM.reg []; simp only [annotate]) | apply DM.nil | refine DM.g1 rfl ?_ | refine DM.g0s (t' := true) rfl rfl ?_ | refine DM.g0s (t' := false) rfl rfl ?_ | refine DM.gus rfl ?_ | ((first | apply DM.ldm1 | apply DM.ldmA | apply DM.bxA | apply DM.al | apply DM.stE | apply DM.ixP | apply DM.lnM | apply DM.fdM | apply DM.bsl | apply DM.p); (repeat first | (change _ = _; first | exact setB_setB | (simp only [go_sem, Nat.reduceBEq, Nat.reduceAdd, Nat.reduceLeDiff, reduceIte] <;> rfl) | rfl | focus ((repeat' first | exact g_same | refine g_ne ‹_› ?_ | refine g_fresh ‹_› ?_ | refine g_T ?_ | exact t_same | refine t_ne ‹_› ?_ | refine t_fresh ‹_› ?_ | refine t_B ?_ | assumption); done)) | exact RD.r | apply RD.p | exact Nat.le_of_ble_eq_true rfl | decide); first | change DM _ _ _ _ _ _ | (intro b hb; repeat first | (refine fresh_elim hb ?_; intro _ _ hb) | (refine fresh_elimT hb ?_; intro hb))) | apply AM.condT rfl | apply AM.condF rfl | (apply DM.gbT; rfl) | (apply DM.gbF; rfl) | intro h
  (apply DM.pcRs (p45 x.n y.n); (· simp only [go_sem, Nat.reduceBEq, Nat.reduceAdd] <;> rfl); (· exact AVLes.refl _))
  repeat' first | apply AM.seq | apply AM.block | apply AM.skip | apply AM.blkEnd | refine AM.exit rfl ?_ | (apply AM.reg []; simp only [annotate]) | apply DM.nil | refine DM.g1 rfl ?_ | refine DM.g0s (t' := true) rfl rfl ?_ | refine DM.g0s (t' := false) rfl rfl ?_ | refine DM.gus rfl ?_ | ((first | apply DM.ldm1 | apply DM.ldmA | apply DM.bxA | apply DM.al | apply DM.stE | apply DM.ixP | apply DM.lnM | apply DM.fdM | apply DM.bsl | apply DM.p); (repeat first | (change _ = _; first | exact setB_setB | (simp only [go_sem, Nat.reduceBEq, Nat.reduceAdd, Nat.reduceLeDiff, reduceIte] <;> rfl) | rfl | focus ((repeat' first | exact g_same | refine g_ne ‹_› ?_ | refine g_fresh ‹_› ?_ | refine g_T ?_ | exact t_same | refine t_ne ‹_› ?_ | refine t_fresh ‹_› ?_ | refine t_B ?_ | assumption); done)) | exact RD.r | apply RD.p | exact Nat.le_of_ble_eq_true rfl | decide); first | change DM _ _ _ _ _ _ | (intro b hb; repeat first | (refine fresh_elim hb ?_; intro _ _ hb) | (refine fresh_elimT hb ?_; intro hb))) | apply AM.condT rfl | apply AM.condF rfl | (apply DM.gbT; rfl) | (apply DM.gbF; rfl) | intro h
  (apply DM.pcRs (p45 x.s.length y.s.length); (· simp only [go_sem, Nat.reduceBEq, Nat.reduceAdd] <;> rfl); (· exact AVLes.refl _))
  repeat' first | apply AM.seq | apply AM.block | apply AM.skip | apply AM.blkEnd | refine AM.exit rfl ?_ | (apply AM.reg []; simp only [annotate]) | apply DM.nil | refine DM.g1 rfl ?_ | refine DM.g0s (t' := true) rfl rfl ?_ | refine DM.g0s (t' := false) rfl rfl ?_ | refine DM.gus rfl ?_ | ((first | apply DM.ldm1 | apply DM.ldmA | apply DM.bxA | apply DM.al | apply DM.stE | apply DM.ixP | apply DM.lnM | apply DM.fdM | apply DM.bsl | apply DM.p); (repeat first | (change _ = _; first | exact setB_setB | (simp only [go_sem, Nat.reduceBEq, Nat.reduceAdd, Nat.reduceLeDiff, reduceIte] <;> rfl) | rfl | focus ((repeat' first | exact g_same | refine g_ne ‹_› ?_ | refine g_fresh ‹_› ?_ | refine g_T ?_ | exact t_same | refine t_ne ‹_› ?_ | refine t_fresh ‹_› ?_ | refine t_B ?_ | assumption); done)) | exact RD.r | apply RD.p | exact Nat.le_of_ble_eq_true rfl | decide); first | change DM _ _ _ _ _ _ | (intro b hb; repeat first | (refine fresh_elim hb ?_; intro _ _ hb) | (refine fresh_elimT hb ?_; intro hb))) | apply AM.condT rfl | apply AM.condF rfl | (apply DM.gbT; rfl) | (apply DM.gbF; rfl) | intro h
  (apply DM.pcRs (p46 x.s y.s); (· simp only [go_sem, Nat.reduceBEq, Nat.reduceAdd] <;> rfl); (· exact AVLes.refl _))
  repeat' first | apply AM.seq | apply AM.block | apply AM.skip | apply AM.blkEnd | refine AM.exit rfl ?_ | (apply AM.reg []; simp only [annotate]) | apply DM.nil | refine DM.g1 rfl ?_ | refine DM.g0s (t' := true) rfl rfl ?_ | refine DM.g0s (t' := false) rfl rfl ?_ | refine DM.gus rfl ?_ | ((first | apply DM.ldm1 | apply DM.ldmA | apply DM.bxA | apply DM.al | apply DM.stE | apply DM.ixP | apply DM.lnM | apply DM.fdM | apply DM.bsl | apply DM.p); (repeat first | (change _ = _; first | exact setB_setB | (simp only [go_sem, Nat.reduceBEq, Nat.reduceAdd, Nat.reduceLeDiff, reduceIte] <;> rfl) | rfl | focus ((repeat' first | exact g_same | refine g_ne ‹_› ?_ | refine g_fresh ‹_› ?_ | refine g_T ?_ | exact t_same | refine t_ne ‹_› ?_ | refine t_fresh ‹_› ?_ | refine t_B ?_ | assumption); done)) | exact RD.r | apply RD.p | exact Nat.le_of_ble_eq_true rfl | decide); first | change DM _ _ _ _ _ _ | (intro b hb; repeat first | (refine fresh_elim hb ?_; intro _ _ hb) | (refine fresh_elimT hb ?_; intro hb))) | apply AM.condT rfl | apply AM.condF rfl | (apply DM.gbT; rfl) | (apply DM.gbF; rfl) | intro h
  rw [← firstNZ4]
  (apply DM.pcRs (p44 [sgn x.k y.k, sgn x.n y.n, sgn x.s.length y.s.length, cmpB x.s y.s]); (· simp only [go_sem, Nat.reduceBEq, Nat.reduceAdd] <;> rfl); (· exact AVLes.refl _))
  repeat' first | apply AM.seq | apply AM.block | apply AM.skip | apply AM.blkEnd | refine AM.exit rfl ?_ | (apply AM.reg []; simp only [annotate]) | apply DM.nil | refine DM.g1 rfl ?_ | refine DM.g0s (t' := true) rfl rfl ?_ | refine DM.g0s (t' := false) rfl rfl ?_ | refine DM.gus rfl ?_ | ((first | apply DM.ldm1 | apply DM.ldmA | apply DM.bxA | apply DM.al | apply DM.stE | apply DM.ixP | apply DM.lnM | apply DM.fdM | apply DM.bsl | apply DM.p); (repeat first | (change _ = _; first | exact setB_setB | (simp only [go_sem, Nat.reduceBEq, Nat.reduceAdd, Nat.reduceLeDiff, reduceIte] <;> rfl) | rfl | focus ((repeat' first | exact g_same | refine g_ne ‹_› ?_ | refine g_fresh ‹_› ?_ | refine g_T ?_ | exact t_same | refine t_ne ‹_› ?_ | refine t_fresh ‹_› ?_ | refine t_B ?_ | assumption); done)) | exact RD.r | apply RD.p | exact Nat.le_of_ble_eq_true rfl | decide); first | change DM _ _ _ _ _ _ | (intro b hb; repeat first | (refine fresh_elim hb ?_; intro _ _ hb) | (refine fresh_elimT hb ?_; intro hb))) | apply AM.condT rfl | apply AM.condF rfl | (apply DM.gbT; rfl) | (apply DM.gbF; rfl) | intro h
  ((first | apply AM.retA | apply AM.doneA); (· first | (apply results_t; (· simp only [go_sem, Nat.reduceBEq, Nat.reduceAdd, Nat.reduceLeDiff, reduceIte] <;> rfl)) | (apply results_c; (· rfl); (· repeat' first | exact g_same | refine g_ne ‹_› ?_ | refine g_fresh ‹_› ?_ | refine g_T ?_ | assumption); (· rfl)) | (apply results_ct; (· rfl); (· repeat' first | exact g_same | refine g_ne ‹_› ?_ | refine g_fresh ‹_› ?_ | refine g_T ?_ | assumption); (· rfl); (· simp only [go_sem, Nat.reduceBEq, Nat.reduceAdd, Nat.reduceLeDiff, reduceIte] <;> rfl)) | (apply results_tt; (· simp only [go_sem, Nat.reduceBEq, Nat.reduceAdd, Nat.reduceLeDiff, reduceIte] <;> rfl); (· simp only [go_sem, Nat.reduceBEq, Nat.reduceAdd, Nat.reduceLeDiff, reduceIte] <;> rfl)) | (apply results_ttt; (· simp only [go_sem, Nat.reduceBEq, Nat.reduceAdd, Nat.reduceLeDiff, reduceIte] <;> rfl); (· simp only [go_sem, Nat.reduceBEq, Nat.reduceAdd, Nat.reduceLeDiff, reduceIte] <;> rfl); (· simp only [go_sem, Nat.reduceBEq, Nat.reduceAdd, Nat.reduceLeDiff, reduceIte] <;> rfl)) | exact results_nil); rotate_left; (· (repeat' first | exact HSub.refl _ | assumption | refine HSub.setB ?_ ‹_› | refine HSub.setT ?_ ‹_›)))
  exact AVLe.refl _
theorem p29 (hR : RepeatOk) (s : Sort_) : Pure Tryd.prog 29 [s.av] (.tup [(leastV s).1.av, .int .i64 (leastV s).2]) := by
  have key : ∀ {a : Val} {e : Int}, leastV s = (a, e) → AVLe (.tup [a.av, .int .i64 e]) (.tup [(leastV s).1.av, .int .i64 (leastV s).2]) := by
    intro a e h
    rw [h]
    exact AVLe.refl _
  refine pure_intro mo Tryd.func29 c29 fun H => ?_
  unfold e29 r29
  simp only [initEnv, initFrom]
  repeat' first | apply AM.seq | apply AM.block | apply AM.skip | apply AM.blkEnd | refine AM.exit rfl ?_ | (apply AM.reg []; simp only [annotate]) | apply DM.nil | refine DM.g1 rfl ?_ | refine DM.g0s (t' := true) rfl rfl ?_ | refine DM.g0s (t' := false) rfl rfl ?_ | refine DM.gus rfl ?_ | ((first | apply DM.ldm1 | apply DM.ldmA | apply DM.bxA | apply DM.al | apply DM.stE | apply DM.ixP | apply DM.lnM | apply DM.fdM | apply DM.bsl | apply DM.p); (repeat first | (change _ = _; first | exact setB_setB | (simp only [go_sem, Nat.reduceBEq, Nat.reduceAdd, Nat.reduceLeDiff, reduceIte] <;> rfl) | rfl | focus ((repeat' first | exact g_same | refine g_ne ‹_› ?_ | refine g_fresh ‹_› ?_ | refine g_T ?_ | exact t_same | refine t_ne ‹_› ?_ | refine t_fresh ‹_› ?_ | refine t_B ?_ | assumption); done)) | exact RD.r | apply RD.p | exact Nat.le_of_ble_eq_true rfl | decide); first | change DM _ _ _ _ _ _ | (intro b hb; repeat first | (refine fresh_elim hb ?_; intro _ _ hb) | (refine fresh_elimT hb ?_; intro hb))) | apply AM.condT rfl | apply AM.condF rfl | (apply DM.gbT; rfl) | (apply DM.gbF; rfl) | intro h
  (apply DM.pcs (p23 s); (· simp only [go_sem, Nat.reduceBEq, Nat.reduceAdd] <;> rfl); (· exact AVLes.refl _))
  repeat' first | apply AM.seq | apply AM.block | apply AM.skip | apply AM.blkEnd | refine AM.exit rfl ?_ | (apply AM.reg []; simp only [annotate]) | apply DM.nil | refine DM.g1 rfl ?_ | refine DM.g0s (t' := true) rfl rfl ?_ | refine DM.g0s (t' := false) rfl rfl ?_ | refine DM.gus rfl ?_ | ((first | apply DM.ldm1 | apply DM.ldmA | apply DM.bxA | apply DM.al | apply DM.stE | apply DM.ixP | apply DM.lnM | apply DM.fdM | apply DM.bsl | apply DM.p); (repeat first | (change _ = _; first | exact setB_setB | (simp only [go_sem, Nat.reduceBEq, Nat.reduceAdd, Nat.reduceLeDiff, reduceIte] <;> rfl) | rfl | focus ((repeat' first | exact g_same | refine g_ne ‹_› ?_ | refine g_fresh ‹_› ?_ | refine g_T ?_ | exact t_same | refine t_ne ‹_› ?_ | refine t_fresh ‹_› ?_ | refine t_B ?_ | assumption); done)) | exact RD.r | apply RD.p | exact Nat.le_of_ble_eq_true rfl | decide); first | change DM _ _ _ _ _ _ | (intro b hb; repeat first | (refine fresh_elim hb ?_; intro _ _ hb) | (refine fresh_elimT hb ?_; intro hb))) | apply AM.condT rfl | apply AM.condF rfl | (apply DM.gbT; rfl) | (apply DM.gbF; rfl) | intro h
  (apply AM.cond; (· rfl))
  · intro h1
    simp at h1
    repeat' first | apply AM.seq | apply AM.block | apply AM.skip | apply AM.blkEnd | refine AM.exit rfl ?_ | (apply AM.reg []; simp only [annotate]) | apply DM.nil | refine DM.g1 rfl ?_ | refine DM.g0s (t' := true) rfl rfl ?_ | refine DM.g0s (t' := false) rfl rfl ?_ | refine DM.gus rfl ?_ | ((first | apply DM.ldm1 | apply DM.ldmA | apply DM.bxA | apply DM.al | apply DM.stE | apply DM.ixP | apply DM.lnM | apply DM.fdM | apply DM.bsl | apply DM.p); (repeat first | (change _ = _; first | exact setB_setB | (simp only [go_sem, Nat.reduceBEq, Nat.reduceAdd, Nat.reduceLeDiff, reduceIte] <;> rfl) | rfl | focus ((repeat' first | exact g_same | refine g_ne ‹_› ?_ | refine g_fresh ‹_› ?_ | refine g_T ?_ | exact t_same | refine t_ne ‹_› ?_ | refine t_fresh ‹_› ?_ | refine t_B ?_ | assumption); done)) | exact RD.r | apply RD.p | exact Nat.le_of_ble_eq_true rfl | decide); first | change DM _ _ _ _ _ _ | (intro b hb; repeat first | (refine fresh_elim hb ?_; intro _ _ hb) | (refine fresh_elimT hb ?_; intro hb))) | apply AM.condT rfl | apply AM.condF rfl | (apply DM.gbT; rfl) | (apply DM.gbF; rfl) | intro h
    ((first | apply AM.retA | apply AM.doneA); (· first | (apply results_t; (· simp only [go_sem, Nat.reduceBEq, Nat.reduceAdd, Nat.reduceLeDiff, reduceIte] <;> rfl)) | (apply results_c; (· rfl); (· repeat' first | exact g_same | refine g_ne ‹_› ?_ | refine g_fresh ‹_› ?_ | refine g_T ?_ | assumption); (· rfl)) | (apply results_ct; (· rfl); (· repeat' first | exact g_same | refine g_ne ‹_› ?_ | refine g_fresh ‹_› ?_ | refine g_T ?_ | assumption); (· rfl); (· simp only [go_sem, Nat.reduceBEq, Nat.reduceAdd, Nat.reduceLeDiff, reduceIte] <;> rfl)) | (apply results_tt; (· simp only [go_sem, Nat.reduceBEq, Nat.reduceAdd, Nat.reduceLeDiff, reduceIte] <;> rfl); (· simp only [go_sem, Nat.reduceBEq, Nat.reduceAdd, Nat.reduceLeDiff, reduceIte] <;> rfl)) | (apply results_ttt; (· simp only [go_sem, Nat.reduceBEq, Nat.reduceAdd, Nat.reduceLeDiff, reduceIte] <;> rfl); (· simp only [go_sem, Nat.reduceBEq, Nat.reduceAdd, Nat.reduceLeDiff, reduceIte] <;> rfl); (· simp only [go_sem, Nat.reduceBEq, Nat.reduceAdd, Nat.reduceLeDiff, reduceIte] <;> rfl)) | exact results_nil); rotate_left; (· (repeat' first | exact HSub.refl _ | assumption | refine HSub.setB ?_ ‹_› | refine HSub.setT ?_ ‹_›)))
    exact key (a := val0) (by simp [leastV, h1])
  · intro h1
    simp at h1
    repeat' first | apply AM.seq | apply AM.block | apply AM.skip | apply AM.blkEnd | refine AM.exit rfl ?_ | (apply AM.reg []; simp only [annotate]) | apply DM.nil | refine DM.g1 rfl ?_ | refine DM.g0s (t' := true) rfl rfl ?_ | refine DM.g0s (t' := false) rfl rfl ?_ | refine DM.gus rfl ?_ | ((first | apply DM.ldm1 | apply DM.ldmA | apply DM.bxA | apply DM.al | apply DM.stE | apply DM.ixP | apply DM.lnM | apply DM.fdM | apply DM.bsl | apply DM.p); (repeat first | (change _ = _; first | exact setB_setB | (simp only [go_sem, Nat.reduceBEq, Nat.reduceAdd, Nat.reduceLeDiff, reduceIte] <;> rfl) | rfl | focus ((repeat' first | exact g_same | refine g_ne ‹_› ?_ | refine g_fresh ‹_› ?_ | refine g_T ?_ | exact t_same | refine t_ne ‹_› ?_ | refine t_fresh ‹_› ?_ | refine t_B ?_ | assumption); done)) | exact RD.r | apply RD.p | exact Nat.le_of_ble_eq_true rfl | decide); first | change DM _ _ _ _ _ _ | (intro b hb; repeat first | (refine fresh_elim hb ?_; intro _ _ hb) | (refine fresh_elimT hb ?_; intro hb))) | apply AM.condT rfl | apply AM.condF rfl | (apply DM.gbT; rfl) | (apply DM.gbF; rfl) | intro h
    (apply AM.cond; (· rfl))
    · intro h2
      simp at h2
      repeat' first | apply AM.seq | apply AM.block | apply AM.skip | apply AM.blkEnd | refine AM.exit rfl ?_ | (apply AM.reg []; simp only [annotate]) | apply DM.nil | refine DM.g1 rfl ?_ | refine DM.g0s (t' := true) rfl rfl ?_ | refine DM.g0s (t' := false) rfl rfl ?_ | refine DM.gus rfl ?_ | ((first | apply DM.ldm1 | apply DM.ldmA | apply DM.bxA | apply DM.al | apply DM.stE | apply DM.ixP | apply DM.lnM | apply DM.fdM | apply DM.bsl | apply DM.p); (repeat first | (change _ = _; first | exact setB_setB | (simp only [go_sem, Nat.reduceBEq, Nat.reduceAdd, Nat.reduceLeDiff, reduceIte] <;> rfl) | rfl | focus ((repeat' first | exact g_same | refine g_ne ‹_› ?_ | refine g_fresh ‹_› ?_ | refine g_T ?_ | exact t_same | refine t_ne ‹_› ?_ | refine t_fresh ‹_› ?_ | refine t_B ?_ | assumption); done)) | exact RD.r | apply RD.p | exact Nat.le_of_ble_eq_true rfl | decide); first | change DM _ _ _ _ _ _ | (intro b hb; repeat first | (refine fresh_elim hb ?_; intro _ _ hb) | (refine fresh_elimT hb ?_; intro hb))) | apply AM.condT rfl | apply AM.condF rfl | (apply DM.gbT; rfl) | (apply DM.gbF; rfl) | intro h
      ((first | apply AM.retA | apply AM.doneA); (· first | (apply results_t; (· simp only [go_sem, Nat.reduceBEq, Nat.reduceAdd, Nat.reduceLeDiff, reduceIte] <;> rfl)) | (apply results_c; (· rfl); (· repeat' first | exact g_same | refine g_ne ‹_› ?_ | refine g_fresh ‹_› ?_ | refine g_T ?_ | assumption); (· rfl)) | (apply results_ct; (· rfl); (· repeat' first | exact g_same | refine g_ne ‹_› ?_ | refine g_fresh ‹_› ?_ | refine g_T ?_ | assumption); (· rfl); (· simp only [go_sem, Nat.reduceBEq, Nat.reduceAdd, Nat.reduceLeDiff, reduceIte] <;> rfl)) | (apply results_tt; (· simp only [go_sem, Nat.reduceBEq, Nat.reduceAdd, Nat.reduceLeDiff, reduceIte] <;> rfl); (· simp only [go_sem, Nat.reduceBEq, Nat.reduceAdd, Nat.reduceLeDiff, reduceIte] <;> rfl)) | (apply results_ttt; (· simp only [go_sem, Nat.reduceBEq, Nat.reduceAdd, Nat.reduceLeDiff, reduceIte] <;> rfl); (· simp only [go_sem, Nat.reduceBEq, Nat.reduceAdd, Nat.reduceLeDiff, reduceIte] <;> rfl); (· simp only [go_sem, Nat.reduceBEq, Nat.reduceAdd, Nat.reduceLeDiff, reduceIte] <;> rfl)) | exact results_nil); rotate_left; (· (repeat' first | exact HSub.refl _ | assumption | refine HSub.setB ?_ ‹_› | refine HSub.setT ?_ ‹_›)))
      exact key (a := iv s.lo) (by simp [leastV, h1, h2])
    · intro h2
      simp at h2
      have hb : 0 ≤ s.lo ∧ s.lo ≤ 40 := by simp [validS, h2] at h1; omega
      obtain ⟨n, hn⟩ : ∃ n : Nat, s.lo = n := ⟨s.lo.toNat, by omega⟩
      have hb2 : n ≤ 40 := by omega
      repeat' first | apply AM.seq | apply AM.block | apply AM.skip | apply AM.blkEnd | refine AM.exit rfl ?_ | (apply AM.reg []; simp only [annotate]) | apply DM.nil | refine DM.g1 rfl ?_ | refine DM.g0s (t' := true) rfl rfl ?_ | refine DM.g0s (t' := false) rfl rfl ?_ | refine DM.gus rfl ?_ | ((first | apply DM.ldm1 | apply DM.ldmA | apply DM.bxA | apply DM.al | apply DM.stE | apply DM.ixP | apply DM.lnM | apply DM.fdM | apply DM.bsl | apply DM.p); (repeat first | (change _ = _; first | exact setB_setB | (simp only [go_sem, Nat.reduceBEq, Nat.reduceAdd, Nat.reduceLeDiff, reduceIte] <;> rfl) | rfl | focus ((repeat' first | exact g_same | refine g_ne ‹_› ?_ | refine g_fresh ‹_› ?_ | refine g_T ?_ | exact t_same | refine t_ne ‹_› ?_ | refine t_fresh ‹_› ?_ | refine t_B ?_ | assumption); done)) | exact RD.r | apply RD.p | exact Nat.le_of_ble_eq_true rfl | decide); first | change DM _ _ _ _ _ _ | (intro b hb; repeat first | (refine fresh_elim hb ?_; intro _ _ hb) | (refine fresh_elimT hb ?_; intro hb))) | apply AM.condT rfl | apply AM.condF rfl | (apply DM.gbT; rfl) | (apply DM.gbF; rfl) | intro h
      rw [hn]
      (apply DM.pcs (hR n hb2); (· simp only [go_sem, Nat.reduceBEq, Nat.reduceAdd] <;> rfl); (· exact AVLes.refl _))
      repeat' first | apply AM.seq | apply AM.block | apply AM.skip | apply AM.blkEnd | refine AM.exit rfl ?_ | (apply AM.reg []; simp only [annotate]) | apply DM.nil | refine DM.g1 rfl ?_ | refine DM.g0s (t' := true) rfl rfl ?_ | refine DM.g0s (t' := false) rfl rfl ?_ | refine DM.gus rfl ?_ | ((first | apply DM.ldm1 | apply DM.ldmA | apply DM.bxA | apply DM.al | apply DM.stE | apply DM.ixP | apply DM.lnM | apply DM.fdM | apply DM.bsl | apply DM.p); (repeat first | (change _ = _; first | exact setB_setB | (simp only [go_sem, Nat.reduceBEq, Nat.reduceAdd, Nat.reduceLeDiff, reduceIte] <;> rfl) | rfl | focus ((repeat' first | exact g_same | refine g_ne ‹_› ?_ | refine g_fresh ‹_› ?_ | refine g_T ?_ | exact t_same | refine t_ne ‹_› ?_ | refine t_fresh ‹_› ?_ | refine t_B ?_ | assumption); done)) | exact RD.r | apply RD.p | exact Nat.le_of_ble_eq_true rfl | decide); first | change DM _ _ _ _ _ _ | (intro b hb; repeat first | (refine fresh_elim hb ?_; intro _ _ hb) | (refine fresh_elimT hb ?_; intro hb))) | apply AM.condT rfl | apply AM.condF rfl | (apply DM.gbT; rfl) | (apply DM.gbF; rfl) | intro h
      ((first | apply AM.retA | apply AM.doneA); (· first | (apply results_t; (· simp only [go_sem, Nat.reduceBEq, Nat.reduceAdd, Nat.reduceLeDiff, reduceIte] <;> rfl)) | (apply results_c; (· rfl); (· repeat' first | exact g_same | refine g_ne ‹_› ?_ | refine g_fresh ‹_› ?_ | refine g_T ?_ | assumption); (· rfl)) | (apply results_ct; (· rfl); (· repeat' first | exact g_same | refine g_ne ‹_› ?_ | refine g_fresh ‹_› ?_ | refine g_T ?_ | assumption); (· rfl); (· simp only [go_sem, Nat.reduceBEq, Nat.reduceAdd, Nat.reduceLeDiff, reduceIte] <;> rfl)) | (apply results_tt; (· simp only [go_sem, Nat.reduceBEq, Nat.reduceAdd, Nat.reduceLeDiff, reduceIte] <;> rfl); (· simp only [go_sem, Nat.reduceBEq, Nat.reduceAdd, Nat.reduceLeDiff, reduceIte] <;> rfl)) | (apply results_ttt; (· simp only [go_sem, Nat.reduceBEq, Nat.reduceAdd, Nat.reduceLeDiff, reduceIte] <;> rfl); (· simp only [go_sem, Nat.reduceBEq, Nat.reduceAdd, Nat.reduceLeDiff, reduceIte] <;> rfl); (· simp only [go_sem, Nat.reduceBEq, Nat.reduceAdd, Nat.reduceLeDiff, reduceIte] <;> rfl)) | exact results_nil); rotate_left; (· (repeat' first | exact HSub.refl _ | assumption | refine HSub.setB ?_ ‹_› | refine HSub.setT ?_ ‹_›)))
      exact key (a := ⟨2, 0, List.replicate n 97⟩) (by simp [leastV, h1, h2, hn])
end Go.Aw.T

