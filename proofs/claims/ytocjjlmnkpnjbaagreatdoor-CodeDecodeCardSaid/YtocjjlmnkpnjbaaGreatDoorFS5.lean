/- Part of a proof; own work. -/
import Derived.Below
import Derived.Lib.OthersKept
import Derived.Deep.LoopGhost
import Derived.Laws.RangeAny
import Derived.BigCall
import Derived.Lib.Bytealg
import Derived.Lib.Walk
import Derived.BigGuard
import Derived.Lib.SmallJoins
import Derived.Test.YtocjjlmnkpnjbaaGreatDoorFS4
namespace Go.Aw.T
open Go Go.Aw Go.Proofs Go.RowKit
set_option maxRecDepth 100000
attribute [local irreducible] Go.Aw.DM Go.Aw.AHeap.setB Go.Aw.AHeap.setT
attribute [local go_sem] peval EOpd.ev Env.get binInt binStr binBool buildParts AV.cells AV.okc setRange minmaxAV AV.one AV.ofCells eqCells eqCell bslRows cond_true cond_false beq_self_eq_true Bool.not_true Bool.not_false beq_true beq_false eq_self if_true Option.some.injEq List.length_cons List.length_nil List.take_succ_cons List.take_zero List.drop_succ_cons List.drop_zero List.set_cons_succ List.set_cons_zero List.nil_append List.cons_append List.append_nil and_self Option.map_some List.map_cons List.map_nil Bool.false_eq_true if_false Nat.zero_add Nat.add_zero true_and and_true Bool.and_true Bool.true_and List.getElem?_cons_zero List.getElem?_cons_succ Nat.zero_le Nat.le_refl
set_option linter.unusedSimpArgs false
set_option linter.unusedVariables false
def escC (c : UInt8) : List UInt8 := if c = 34 ∨ c = 92 then [92, c] else [c]
def esc (s : List UInt8) : List UInt8 := s.flatMap escC
def showT (s : List UInt8) : List UInt8 := 34 :: esc s ++ [34]
theorem esc_take {s : List UInt8} {i : Nat} {c : UInt8} (h : s[i]? = some c) : esc (s.take (i + 1)) = esc (s.take i) ++ escC c := by
 rw [List.take_add_one, h]
 simp [esc, List.flatMap_append]
theorem esc_len (s : List UInt8) : (esc s).length ≤ 2 * s.length := by
 induction s with
 | nil => simp [esc]
 | cons c s ih =>
  simp only [esc, List.flatMap_cons, List.length_append, List.length_cons] at *
  have : (escC c).length ≤ 2 := by unfold escC; split <;> simp
  omega
theorem valid_call (k n : Int) (s : List UInt8) (hs : s.length ≤ maxLen) (w : World) (hG : GlobW w) : Calls Tryz.prog 83 #[.agg #[.int .i64 k, .int .i64 n, .string ⟨⟨s⟩⟩]] w fun e w' => e = .returned (.bool (validV ⟨k, n, s⟩)) ∧ Below w.heap.size w w' := by
 refine (calls_plain (p83 ⟨k, n, s⟩) w [.agg ⟨[.int .i64 k, .int .i64 n, .string ⟨⟨s⟩⟩]⟩] (fun m => by simp only [RvL, Rv]; exact ⟨_, _, rfl, ⟨_, rfl, _, _, rfl, rfl, _, _, rfl, rfl, _, _, rfl, ⟨rfl, hs⟩, rfl⟩, rfl⟩) hG).mono ?_
 rintro e w' ⟨⟨v, rfl, m, hv⟩, hb⟩
 simp only [Rv] at hv
 subst hv
 exact ⟨rfl, hb⟩
theorem alloc_new (w : World) (o : Obj) : (w.alloc o).heap[w.heap.size]? = some o := by
 show (w.heap.push o)[w.heap.size]? = some o
 simp
open Go.Lib in
set_option maxHeartbeats 4000000 in
theorem w44 (s : List UInt8) (hv : validV ⟨2, 0, s⟩ = true) (w : World) (hG : GlobW w) : Calls Tryz.prog 44 #[.agg #[.int .i64 2, .int .i64 0, .string ⟨⟨s⟩⟩]] w fun e w' => e = .returned (.string ⟨⟨showT s⟩⟩) ∧ Below w.heap.size w w' := by
 have hl : s.length ≤ 40 := by simp [validV] at hv; exact hv.1
 go_enter Tryz.func44, Tryz.ntmps44
 go_wp2_with (go_at_call 83; refine (valid_call 2 0 s (by unfold maxLen; omega) _ (GlobW.below hG (Nat.le_refl _) ((Below.refl _ w).alloc (Nat.le_refl _) _))).mono ?_)
 rintro e w1 ⟨rfl, hb1⟩
 have ob : ∃ O, O = Obj.cells #[Value.int .i64 2, Value.int .i64 0, Value.string ⟨⟨s⟩⟩] 66 := ⟨_, rfl⟩
 obtain ⟨O, hO⟩ := ob
 rw [← hO] at hb1
 have box1 : w1.heap[w.heap.size]? = some O := (hb1.block _ (by simp)).trans (alloc_new w O)
 have cl : ∀ W : World, W.heap[w.heap.size]? = some O → W.cell? ⟨w.heap.size, 0, none⟩ = some (.int .i64 2) ∧ W.cell? ⟨w.heap.size, 2, none⟩ = some (.string ⟨⟨s⟩⟩) := fun W h => by
  rw [hO] at h
  exact ⟨by rw [Lib.cell_of_heap h]; rfl, by rw [Lib.cell_of_heap h]; rfl⟩
 have hw : Below w.heap.size w w1 := ((Below.refl _ w).alloc (Nat.le_refl _) O).trans (hb1.mono (by simp))
 have hsz : w.heap.size < w1.heap.size := (Array.getElem?_eq_some_iff.1 box1).1
 obtain ⟨k0, k2⟩ := cl w1 box1
 clear hO
 simp only [hv]
 have hf : IsBuilderF 131 5 w1.heap.size w1.heap.size (byteCells []) (w1.alloc (.cells #[.pointer none, .slice none 0 0] 131)) := IsBuilderF.of (fresh_isBuilder 131 5 w1)
 go_wp2_with (go_at_call 87; refine (Tryz.WriteByte w1.heap.size w1.heap.size (byteCells []) _ _ hf (by decide) (by simp)).mono ?_)
 rintro e w2 ⟨rfl, q2, b2, _⟩
 have b2' : Below w1.heap.size w1 w2 := ((Below.refl _ w1).alloc (Nat.le_refl _) _).trans b2
 have k2' : w2.cell? ⟨w.heap.size, 2, none⟩ = some (.string ⟨⟨s⟩⟩) := (cl w2 ((b2'.block _ hsz).trans box1)).2
 go_wp2
 go_loopg [20] s.length (fun gk p wr => ∃ (i : Nat), p = .int .i64 i ∧ i + gk = s.length ∧ IsBuilderF 131 5 w1.heap.size w1.heap.size (byteCells (34 :: esc (s.take i))) wr ∧ Below w1.heap.size w1 wr)
 case atStart => exact ⟨0, rfl, by omega, Or.inr q2, b2'⟩
 case round =>
  obtain ⟨i, rfl, hi, hI, hbw⟩ := hrel
  have hbs : w1.heap.size ≤ wr.heap.size := hbw.size
  have fin : Below w.heap.size w wr := hw.trans (hbw.mono (by omega))
  have g2 : wr.cell? ⟨w.heap.size, 2, none⟩ = some (.string ⟨⟨s⟩⟩) := (cl wr ((hbw.block _ hsz).trans box1)).2
  have el := esc_len (s.take i)
  rw [List.length_take] at el
  by_cases hlt : i < s.length
  ·obtain ⟨c, hc⟩ := some_of hlt
   have hx : ∀ W, (Instr.index 9 (.string ⟨⟨s⟩⟩) (.int .i64 (i : Int))).run Tryz.prog W = .ok (.int .u8 (c.toNat : Int)) W := str_index Tryz.underlying9 s i c hc
   have hi1 : IntKind.i64.wrap ((i : Int) + 1) = ((i + 1 : Nat) : Int) := inc64 hlt (by unfold maxLen; omega)
   have et := esc_take hc
   by_cases hcc : c = 34 ∨ c = 92
   ·have ec : escC c = [92, c] := by simp [escC, hcc]
    have tt : ((c.toNat : Int) == 34) = true ∨ ((c.toNat : Int) == 34) = false ∧ ((c.toNat : Int) == 92) = true := by
     rcases hcc with rfl | rfl
     ·exact .inl rfl
     ·exact .inr ⟨rfl, rfl⟩
    rcases tt with tt | ⟨tt, tt2⟩
    all_goals (
     go_wp2_with (go_at_call 87; refine (Tryz.WriteByte w1.heap.size w1.heap.size (byteCells (34 :: esc (s.take i))) _ _ hI (by rw [byteCells_length, List.length_cons]; omega) hbs).mono ?_)
     rintro e w3 ⟨rfl, q3, b3, _⟩
     have b3' : Below w1.heap.size w1 w3 := hbw.trans b3
     have g3 : w3.cell? ⟨w.heap.size, 2, none⟩ = some (.string ⟨⟨s⟩⟩) := (cl w3 ((b3'.block _ hsz).trans box1)).2
     go_wp2_with (go_at_call 87; refine (Tryz.WriteByte w1.heap.size w1.heap.size (byteCells (34 :: esc (s.take i)) ++ [.int .u8 92]) _ _ (Or.inr q3) (by rw [List.length_append, byteCells_length, List.length_cons, List.length_cons, List.length_nil]; omega) b3'.size).mono ?_)
     rintro e w4 ⟨rfl, q4, b4, _⟩
     go_wp2
     go_roundg (gk - 1)
     case measure => omega
     case rel => exact ⟨i + 1, rfl, by omega, by rw [et, ec, ← List.cons_append, byteCells_append]; rw [List.append_assoc] at q4; exact Or.inr q4, b3'.trans b4⟩)
   ·have ec : escC c = [c] := by simp [escC, hcc]
    have t1 : ((c.toNat : Int) == 34) = false := by
     simp only [beq_eq_false_iff_ne, ne_eq]; exact fun e => hcc (.inl ((u8i c 34 (by decide)).mp e))
    have t2 : ((c.toNat : Int) == 92) = false := by
     simp only [beq_eq_false_iff_ne, ne_eq]; exact fun e => hcc (.inr ((u8i c 92 (by decide)).mp e))
    go_wp2_with (go_at_call 87; refine (Tryz.WriteByte w1.heap.size w1.heap.size (byteCells (34 :: esc (s.take i))) _ _ hI (by rw [byteCells_length, List.length_cons]; omega) hbs).mono ?_)
    rintro e w3 ⟨rfl, q3, b3, _⟩
    go_wp2
    go_roundg (gk - 1)
    case measure => omega
    case rel => exact ⟨i + 1, rfl, by omega, by rw [et, ec, ← List.cons_append, byteCells_append]; exact Or.inr q3, hbw.trans b3⟩
  ·have hi' : i = s.length := by omega
   subst hi'
   rw [List.take_length] at hI el
   go_wp2_with (go_at_call 87; refine (Tryz.WriteByte w1.heap.size w1.heap.size (byteCells (34 :: esc s)) _ _ hI (by rw [byteCells_length, List.length_cons]; omega) hbs).mono ?_)
   rintro e w3 ⟨rfl, q3, b3, _⟩
   have b3' : Below w1.heap.size w1 w3 := hbw.trans b3
   have q3' : IsBuilderF 131 5 w1.heap.size w1.heap.size (byteCells (showT s)) w3 := by
    have e : byteCells (showT s) = byteCells (34 :: esc s) ++ [.int .u8 34] := by unfold showT; rw [byteCells_append]; rfl
    rw [e]
    exact Or.inr q3
   go_wp2_with (go_at_call 88; refine (Tryz.String w1.heap.size w1.heap.size (showT s) _ q3' b3'.size).mono ?_)
   rintro e w4 ⟨rfl, _, b4, _⟩
   go_wp2
   go_ret
   exact ⟨rfl, hw.trans ((b3'.trans b4).mono (by omega))⟩
end Go.Aw.T
namespace Go.Aw.T
open Go Go.Aw Go.Proofs Go.RowKit
set_option maxRecDepth 100000
attribute [local irreducible] Go.Aw.DM Go.Aw.AHeap.setB Go.Aw.AHeap.setT
attribute [local go_sem] peval EOpd.ev Env.get binInt binStr binBool buildParts AV.cells AV.okc setRange minmaxAV AV.one AV.ofCells eqCells eqCell bslRows cond_true cond_false beq_self_eq_true Bool.not_true Bool.not_false beq_true beq_false eq_self if_true Option.some.injEq List.length_cons List.length_nil List.take_succ_cons List.take_zero List.drop_succ_cons List.drop_zero List.set_cons_succ List.set_cons_zero List.nil_append List.cons_append List.append_nil and_self Option.map_some List.map_cons List.map_nil Bool.false_eq_true if_false Nat.zero_add Nat.add_zero true_and and_true Bool.and_true Bool.true_and List.getElem?_cons_zero List.getElem?_cons_succ Nat.zero_le Nat.le_refl
set_option linter.unusedSimpArgs false
set_option linter.unusedVariables false
open Go.Lib in
set_option maxHeartbeats 2000000 in
theorem w118 (s : List UInt8) (hs : s.length ≤ 1000000) (w : World) : Calls Tryz.prog 118 #[.string ⟨⟨s⟩⟩, .string ⟨⟨[32]⟩⟩] w fun e w' => e = .returned (.int .i64 (Lib.indexByte s 32)) ∧ w' = w := by
 have sz : (⟨⟨[32]⟩⟩ : ByteArray).size = 1 := rfl
 by_cases h : s = [32]
 ·subst h
  go_enter Tryz.func118, Tryz.ntmps118
  go_wp2_with (go_at_fn 137; refine (Tryz.IndexByte _ _ _).mono ?_; rintro e w' ⟨rfl, rfl⟩)
  go_ret
  exact ⟨rfl, rfl⟩
 ·have hne : ([32] == s) = false := by
   simp only [beq_eq_false_iff_ne, ne_eq]
   exact fun e => h e.symm
  go_enter Tryz.func118, Tryz.ntmps118
  go_wp2_with (go_at_fn 137; refine (Tryz.IndexByte _ _ _).mono ?_; rintro e w' ⟨rfl, rfl⟩)
  refine (Tryz.IndexByte _ _ _).mono ?_
  rintro e w' ⟨rfl, rfl⟩
  go_wp2
  go_ret
  exact ⟨rfl, rfl⟩
def idxB (s : List UInt8) : Int := Lib.indexByte s 32
theorem p118 (s : List UInt8) (hs : s.length ≤ 1000000) : Pure Tryz.prog 118 [.str s, .str [32]] (.int .i64 (idxB s)) := by
 refine pure_of_plain fun m vs hG hv => ?_
 simp only [RvL, Rv] at hv
 obtain ⟨_, _, rfl, ⟨rfl, _⟩, _, _, rfl, ⟨rfl, _⟩, rfl⟩ := hv
 refine (w118 s hs m.w).mono ?_
 rintro e w' ⟨rfl, rfl⟩
 exact ⟨_, rfl, fun m' => by simp only [Rv]; rfl, Below.refl _ _⟩
end Go.Aw.T
namespace Go.Aw.T
open Go Go.Aw Go.Proofs Go.RowKit
set_option maxRecDepth 100000
attribute [local irreducible] Go.Aw.DM Go.Aw.AHeap.setB Go.Aw.AHeap.setT
attribute [local go_sem] peval EOpd.ev Env.get binInt binStr binBool buildParts AV.cells AV.okc setRange minmaxAV AV.one AV.ofCells eqCells eqCell bslRows cond_true cond_false beq_self_eq_true Bool.not_true Bool.not_false beq_true beq_false eq_self if_true Option.some.injEq List.length_cons List.length_nil List.take_succ_cons List.take_zero List.drop_succ_cons List.drop_zero List.set_cons_succ List.set_cons_zero List.nil_append List.cons_append List.append_nil and_self Option.map_some List.map_cons List.map_nil Bool.false_eq_true if_false Nat.zero_add Nat.add_zero true_and and_true Bool.and_true Bool.true_and List.getElem?_cons_zero List.getElem?_cons_succ Nat.zero_le Nat.le_refl
set_option linter.unusedSimpArgs false
set_option linter.unusedVariables false
theorem DM.slF {P : Program} {d len size : Nat} {l : List EI} {env : Env} {H : AHeap} {K : Env → AHeap → Prop} {Rp : AV → AHeap → Prop} {x : EOpd} {b : Nat} {T : TypeId} {cs : List AV} {rows : List (List AV)} (hf : rows.flatten = cs) (hr : ∀ r ∈ rows, r.length = size) (hl : rows.length = len) (h0 : 0 < len) (hm : len ≤ maxLen) (hx : x.ev env = .ptr b 0) (hb : H.blk b = some (T, cs)) (h : DM P l ((d, .vs size rows) :: env) (H.dropB b) K Rp) : DM P (⟨some d, none, .slA len size x⟩ :: l) env H K Rp := by
 simp only [DM, wanted]
 exact IStep.slAF hx hb hf hr hl h0 hm h
def opNames : List (List UInt8) := [[], [105, 110, 116], [116, 101, 120, 116], [108, 111, 97, 100], [112, 97, 114, 97, 109], [115, 116, 111, 114, 101], [97, 100, 100], [115, 117, 98], [109, 117, 108], [100, 105, 118], [114, 101, 109], [110, 101, 103], [101, 113, 117, 97, 108], [108, 101, 115, 115], [110, 111, 116], [97, 110, 100], [111, 114], [106, 111, 105, 110], [108, 101, 110], [106, 117, 109, 112], [122, 101, 114, 111], [98, 101, 103, 105, 110], [97, 103, 97, 105, 110], [100, 111, 110, 101], [115, 116, 111, 112]]
theorem p43 : Pure Tryz.prog 43 [] (.agg (opNames.map .str)) := by
 refine pure_intro mo Tryz.func43 c43 fun H => ?_
 unfold e43 r43
 simp only [initEnv, initFrom]
 refine AM.seq ?_
 refine Sp.go .rg ?_
 refine Sp.go (.al (by decide)) ?_
 intro b hb
 refine Sp.go .nl ?_
 refine AM.seq ?_
 refine Sp.go .rg ?_
 refine DM.p (v := .agg (opNames.map .str)) (by kernel_rfl) ?_
 refine Sp.go (.sE (new := opNames.map .str) (o := 0) rfl g_same rfl rfl (by decide) (by decide) rfl rfl) ?_
 refine Sp.go .nl ?_
 refine Sr.g ?_
 exact AVLe.refl _
theorem names_rows : (opNames.map fun s => [AV.str s]).flatten = opNames.map .str := rfl
theorem hsub_dropB {G : AHeap} {b7 b8 : Nat} {T7 T8 : TypeId} {c7 c8 : List AV} (h7 : G.blk b7 = none) : HSub (G.setB b8 T8 c8) (((G.setB b7 T7 c7).dropB b7).setB b8 T8 c8) :=
 ⟨fun x y h => by
  simp only [AHeap.setB, AHeap.dropB] at h ⊢
  by_cases e : x = b8
  ·rw [if_pos e] at h ⊢; exact h
  ·rw [if_neg e] at h ⊢
   have e7 : x ≠ b7 := by rintro rfl; rw [h7] at h; cases h
   rw [if_neg e7, if_neg e7]
   exact h, fun _ _ h => by simpa [AHeap.setB, AHeap.dropB] using h⟩
theorem drop_fresh {G : AHeap} {b7 b8 : Nat} {T7 : TypeId} {c7 : List AV} (h7 : G.blk b7 = none) (h : ((G.setB b7 T7 c7).dropB b7).blk b8 = none) : G.blk b8 = none := by
 simp only [AHeap.setB, AHeap.dropB] at h
 by_cases e : b8 = b7
 ·rw [e]; exact h7
 ·rw [if_neg e, if_neg e] at h; exact h
abbrev tx (s : List UInt8) : Val := ⟨2, 0, s⟩
theorem showT_len (s : List UInt8) : (showT s).length ≤ 2 * s.length + 2 := by
 have := esc_len s
 simp [showT]
 omega
theorem p44t (s : List UInt8) (hv : validV (tx s) = true) : Pure Tryz.prog 44 [(tx s).av] (.str (showT s)) := by
 have hl : s.length ≤ 40 := by simp [validV] at hv; exact hv.1
 refine pure_of_plain fun m vs hG h => ?_
 simp only [RvL, Rv] at h
 obtain ⟨_, _, rfl, ⟨_, rfl, _, _, rfl, rfl, _, _, rfl, rfl, _, _, rfl, ⟨rfl, _⟩, rfl⟩, rfl⟩ := h
 refine (w44 s hv m.w hG).mono ?_
 rintro e w' ⟨rfl, hb⟩
 refine ⟨_, rfl, fun m' => ?_, hb⟩
 simp only [Rv]
 exact ⟨trivial, by have := showT_len s; unfold maxLen; omega⟩
def pA : Prog := ⟨[115], 0, [], [], [], [⟨24, 0, []⟩]⟩
def bA : List (List AV) := [[.int .u8 2], [.int .u8 115], [.int .u8 0], [.int .u8 0], [.int .u8 0], [.int .u8 0], [.int .u8 2], [.int .u8 48], [.int .u8 0], [.int .u8 0]]
theorem encA : (encQ pA).map brow = bA := by
 rw [show encQ pA = [2, 115, 0, 0, 0, 0, 2, 48, 0, 0] by decide +kernel]
 rfl
theorem rvL_les {m : Mem} : ∀ {xs ys : List AV} {l : List Value}, AVLes xs ys → RvL m xs l → RvL m ys l
 | [], _, _, h, k => by simp only [AVLes] at h; subst h; exact k
 | a :: xs, _, _, h, k => by
  simp only [AVLes] at h
  obtain ⟨b, bs, rfl, h1, h2⟩ := h
  simp only [RvL] at k ⊢
  obtain ⟨v, vs, e1, e2, e3⟩ := k
  exact ⟨v, vs, e1, h1 m v e2, rvL_les h2 e3⟩
theorem pure_mono {P : Program} {f : FuncId} {xs ys : List AV} {r : AV} (h : Pure P f ys r) (ha : AVLes xs ys) : Pure P f xs r :=
 fun H m vs hH rh hv => h H m vs hH rh (rvL_les ha hv)
abbrev aN : AV := .agg [.str [115], .int .i64 0, .nilS, .nilS, .nilS, .vs 3 [[.int .i64 24, .int .i64 0, .str []]]]
theorem aN_le : AVLe aN pA.av := avle_agg (avles_cons (AVLe.refl _) (avles_cons (AVLe.refl _) (avles_cons AVLe.nil (avles_cons AVLe.nil (avles_cons AVLe.nil (avles_cons (AVLe.refl _) avles_nil))))))
theorem tab_mem {f : Nat} {x : EC × List ERes × Nat} : ∀ {l : List (Nat × EC × List ERes × Nat)}, l.lookup f = some x → (f, x) ∈ l
 | [], h => by cases h
 | (g, y) :: l, h => by
  simp only [List.lookup] at h
  split at h
  ·rename_i e
   have : f = g := by simpa using e
   subst this
   simp only [Option.some.injEq] at h
   subst h
   exact List.mem_cons_self
  ·exact List.mem_cons_of_mem _ (tab_mem h)
def tabW : List (Nat × EC × List ERes × Nat) := [(49, e49, r49, 1), (91, e91, r91, 1), (119, e119, r119, 1), (47, e47, r47, 2), (90, e90, r90, 2), (48, e48, r48, 2), (16, e16, r16, 1), (33, e33, r33, 1), (43, e43, r43, 0), (45, e45, r45, 1), (30, e30, r30, 3), (27, e27, r27, 1), (74, e74, r74, 2), (14, e14, r14, 2), (39, e39, r39, 2), (40, e40, r40, 2), (41, e41, r41, 2), (42, e42, r42, 2), (141, e141, r141, 2), (153, e153, r153, 2)]
theorem tabW_all : ∀ x ∈ tabW, ∃ fn, Tryz.prog.funcs[x.1]? = some fn ∧ chkF Tryz.prog fn x.2.2.2 x.2.1 x.2.2.1 = true := by
 intro x hx
 simp only [tabW, List.mem_cons, List.not_mem_nil, or_false] at hx
 rcases hx with rfl | rfl | rfl | rfl | rfl | rfl | rfl | rfl | rfl | rfl | rfl | rfl | rfl | rfl | rfl | rfl | rfl | rfl | rfl | rfl
 ·exact ⟨_, Tryz.func49, c49⟩
 ·exact ⟨_, Tryz.func91, c91⟩
 ·exact ⟨_, Tryz.func119, c119⟩
 ·exact ⟨_, Tryz.func47, c47⟩
 ·exact ⟨_, Tryz.func90, c90⟩
 ·exact ⟨_, Tryz.func48, c48⟩
 ·exact ⟨_, Tryz.func16, c16⟩
 ·exact ⟨_, Tryz.func33, c33⟩
 ·exact ⟨_, Tryz.func43, c43⟩
 ·exact ⟨_, Tryz.func45, c45⟩
 ·exact ⟨_, Tryz.func30, c30⟩
 ·exact ⟨_, Tryz.func27, c27⟩
 ·exact ⟨_, Tryz.func74, c74⟩
 ·exact ⟨_, Tryz.func14, c14⟩
 ·exact ⟨_, Tryz.func39, c39⟩
 ·exact ⟨_, Tryz.func40, c40⟩
 ·exact ⟨_, Tryz.func41, c41⟩
 ·exact ⟨_, Tryz.func42, c42⟩
 ·exact ⟨_, Tryz.func141, c141⟩
 ·exact ⟨_, Tryz.func153, c153⟩
theorem tabW_ok : TabOK Tryz.prog (fun f => tabW.lookup f) := fun f e rs m h => tabW_all (f, e, rs, m) (tab_mem h)
def libW : Lib := fun f xs => match f, xs with
 | 44, [.agg [.int .i64 2, .int .i64 0, .str s]] => bif validV ⟨2, 0, s⟩ then some (.str (showT s)) else none
 | 46, [.int .i64 n] => bif decide (-1000 ≤ n) && decide (n ≤ 1000) then some (.str (Lib.itoa n)) else none
 | 83, [.agg [.int .i64 k, .int .i64 n, .str s]] => some (.bool (validV ⟨k, n, s⟩))
 | 118, [.str s, .str [32]] => bif Nat.ble s.length 1000000 then some (.int .i64 (idxB s)) else none
 | 120, [.str l] => bif Nat.ble l.length 1000000 then some (.tup [.str (textV l).1, .int .i64 (textV l).2]) else none
 | 11, [.agg [.str s, .int .i64 r, .raw (.slice none 0 0), .raw (.slice none 0 0), .raw (.slice none 0 0), .vs 3 [[.int .i64 a, .int .i64 b, .str t]]]] => some (.bool (validP ⟨s, r, [], [], [], [⟨a, b, t⟩]⟩))
 | _, _ => none
theorem nilW_le (s : List UInt8) (r a b : Int) (t : List UInt8) : AVLe (.agg [.str s, .int .i64 r, .nilS, .nilS, .nilS, .vs 3 [[.int .i64 a, .int .i64 b, .str t]]]) (⟨s, r, [], [], [], [⟨a, b, t⟩]⟩ : Prog).av :=
 avle_agg (avles_cons (AVLe.refl _) (avles_cons (AVLe.refl _) (avles_cons AVLe.nil (avles_cons AVLe.nil (avles_cons AVLe.nil (avles_cons (AVLe.refl _) avles_nil))))))
theorem libW_ok : LibOK Tryz.prog libW := fun f xs r h hf => by
 clear hf
 unfold libW at h
 split at h
 ·rename_i s
  cases hv : validV ⟨2, 0, s⟩ with
  | false => rw [hv] at h; cases h
  | true => rw [hv] at h; cases h; exact p44t s hv
 ·rename_i n
  cases hv : decide (-1000 ≤ n) && decide (n ≤ 1000) with
  | false => rw [hv] at h; cases h
  | true => rw [hv] at h; cases h; simp only [Bool.and_eq_true, decide_eq_true_eq] at hv; exact p46 n hv.1 hv.2
 ·cases h; exact p83 ⟨_, _, _⟩
 ·rename_i s
  cases hv : Nat.ble s.length 1000000 with
  | false => rw [hv] at h; cases h
  | true => rw [hv] at h; cases h; exact p118 s (Nat.le_of_ble_eq_true hv)
 ·rename_i l
  cases hv : Nat.ble l.length 1000000 with
  | false => rw [hv] at h; cases h
  | true => rw [hv] at h; cases h; exact p120 l (Nat.le_of_ble_eq_true hv)
 ·cases h; exact pure_mono (p11 _) (avles_cons (nilW_le _ _ _ _ _) avles_nil)
 ·cases h
theorem cvs0 : ∀ f ∈ ([] : List FuncId), callable Tryz.prog f = true := fun f h => by cases h
theorem runW {f : FuncId} {fn : Func} {e : EC} {rs : List ERes} {xs : List AV} {r : AV} (hf : Tryz.prog.funcs[f]? = some fn) (hc : chkF Tryz.prog fn xs.length e rs = true) (ha : flatL xs = true) (hr : r.flat = true) (h : (run (fun f => tabW.lookup f) libW [] 3000 rs [.c e] (initEnv xs) .new).map (fun x => x.1.wk) = some r) : Pure Tryz.prog f xs r := by
 obtain ⟨x, hx, e⟩ := Option.map_eq_some_iff.1 h
 exact pure_run mo tabW_ok libW_ok cvs0 hf hc ha hx e hr
abbrev sT : List UInt8 := [116, 101, 120, 116, 32, 34, 97, 92, 34, 98, 34]
abbrev sQ : List UInt8 := [34, 97, 92, 34, 98, 34]
theorem h49 : Pure Tryz.prog 49 [.str sQ] (.tup [.agg [.int .i64 2, .int .i64 0, .str [97, 34, 98]], .int .i64 0]) := runW Tryz.func49 c49 rfl rfl (by kernel_rfl)
theorem h16t : Pure Tryz.prog 16 [.agg [.int .i64 2, .int .i64 0, .str [97, 34, 98]]] (.str sT) := runW Tryz.func16 c16 rfl rfl (by kernel_rfl)
theorem h16a : Pure Tryz.prog 16 [.agg [.int .i64 1, .int .i64 (-3), .str []]] (.str [105, 110, 116, 32, 45, 51]) := runW Tryz.func16 c16 rfl rfl (by kernel_rfl)
theorem h16b : Pure Tryz.prog 16 [.agg [.int .i64 24, .int .i64 0, .str []]] (.str [115, 116, 111, 112]) := runW Tryz.func16 c16 rfl rfl (by kernel_rfl)
theorem h47 : Pure Tryz.prog 47 [.str sT, .str [32]] (.tup [.str [116, 101, 120, 116], .str sQ, .bool true]) := runW Tryz.func47 c47 rfl rfl (by kernel_rfl)
theorem h48 : Pure Tryz.prog 48 [.vs 1 (opNames.map fun s => [.str s]), .str [116, 101, 120, 116]] (.int .i64 2) := runW Tryz.func48 c48 rfl rfl (by kernel_rfl)
theorem h27 : Pure Tryz.prog 27 [aN] (.vs 1 [[.str [115, 101, 114, 118, 105, 99, 101, 32, 115, 32, 114, 111, 108, 101, 32, 48]], [.str [48, 58, 32, 115, 116, 111, 112]]]) := runW Tryz.func27 c27 rfl rfl (by kernel_rfl)
theorem h14 : Pure Tryz.prog 14 [aN, pA.av] (.bool true) := runW Tryz.func14 c14 rfl rfl (by kernel_rfl)
end Go.Aw.T
