/- Part of a proof; own work. -/
import Derived.Shelf.Strings.Repeat
import Derived.Shelf.Strings.BuilderK
import Derived.Below
import Derived.KernelRfl
import Derived.Test.YtmmkhpmmhpaifaaDoorProg
import Derived.Test.YtmmkhpmmhpaifaaDoorP1
import Derived.Lib.OthersKept
import Derived.Deep.LoopGhost
import Derived.Laws.RangeAny
import Derived.BigCall
import Derived.Test.YtmmkhpmmhpaifaaDoorK
import Derived.Test.YtmmkhpmmhpaifaaDoorC6
import Derived.Test.YtmmkhpmmhpaifaaDoorP2
namespace Go.Proofs
open Go.Shelf
def Tryd.ren : Go.Shelf.Ren := ⟨fun | 105 => 48 | 212 => 66 | 99 => 67 | 165 => 68 | 166 => 69 | 170 => 70 | 169 => 51 | 263 => 81 | 264 => 82 | 206 => 83 | 240 => 72 | 241 => 84 | 276 => 86 | 277 => 90 | 167 => 50 | n => n, fun | 9 => 9 | 3 => 3 | 4 => 4 | 20 => 20 | 0 => 0 | 46 => 84 | 109 => 85 | 5 => 5 | 72 => 63 | 76 => 89 | 51 => 100 | 146 => 101 | 53 => 103 | 148 => 104 | 70 => 60 | 37 => 61 | 75 => 65 | 127 => 92 | 164 => 107 | 80 => 67 | n => n, fun | n => n⟩
theorem Tryd.lays105 : Go.Proofs.Lays.n105 Tryd.prog Tryd.ren := {
  mixed := by kernel_rfl
  f99 := Tryd.func67.trans (congrArg some (by kernel_rfl))
  f105 := Tryd.func48.trans (congrArg some (by kernel_rfl))
  f165 := Tryd.func68.trans (congrArg some (by kernel_rfl))
  f166 := Tryd.func69.trans (congrArg some (by kernel_rfl))
  f169 := Tryd.func51.trans (congrArg some (by kernel_rfl))
  f170 := Tryd.func70.trans (congrArg some (by kernel_rfl))
  f206 := Tryd.func83.trans (congrArg some (by kernel_rfl))
  f212 := Tryd.func66.trans (congrArg some (by kernel_rfl))
  f240 := Tryd.func72.trans (congrArg some (by kernel_rfl))
  f241 := Tryd.func84.trans (congrArg some (by kernel_rfl))
  f263 := Tryd.func81.trans (congrArg some (by kernel_rfl))
  f264 := Tryd.func82.trans (congrArg some (by kernel_rfl))
  f276 := Tryd.func86.trans (congrArg some (by kernel_rfl))
  f277 := Tryd.func90.trans (congrArg some (by kernel_rfl))
  t0 := Tryd.underlying0
  a0 := Tryd.isAgg0
  z0 := Tryd.sizeOf0
  v0 := Tryd.zeroValue0
  t3 := Tryd.underlying3
  a3 := Tryd.isAgg3
  z3 := Tryd.sizeOf3
  v3 := Tryd.zeroValue3
  t4 := Tryd.underlying4
  a4 := Tryd.isAgg4
  z4 := Tryd.sizeOf4
  v4 := Tryd.zeroValue4
  t5 := Tryd.underlying5
  a5 := Tryd.isAgg5
  z5 := Tryd.sizeOf5
  v5 := Tryd.zeroValue5
  t9 := Tryd.underlying9
  a9 := Tryd.isAgg9
  z9 := Tryd.sizeOf9
  v9 := Tryd.zeroValue9
  t20 := Tryd.underlying20
  a20 := Tryd.isAgg20
  z20 := Tryd.sizeOf20
  v20 := Tryd.zeroValue20
  t37 := Tryd.underlying61
  a37 := Tryd.isAgg61
  z37 := Tryd.sizeOf61
  v37 := Tryd.zeroValue61
  t46 := Tryd.underlying84
  a46 := Tryd.isAgg84
  z46 := Tryd.sizeOf84
  v46 := Tryd.zeroValue84
  t51 := Tryd.underlying100
  a51 := Tryd.isAgg100
  z51 := Tryd.sizeOf100
  v51 := Tryd.zeroValue100
  t53 := Tryd.underlying103
  a53 := Tryd.isAgg103
  z53 := Tryd.sizeOf103
  v53 := Tryd.zeroValue103
  t70 := Tryd.underlying60
  a70 := Tryd.isAgg60
  z70 := Tryd.sizeOf60
  v70 := Tryd.zeroValue60
  t72 := Tryd.underlying63
  a72 := Tryd.isAgg63
  z72 := Tryd.sizeOf63
  v72 := Tryd.zeroValue63
  t75 := Tryd.underlying65
  a75 := Tryd.isAgg65
  z75 := Tryd.sizeOf65
  v75 := Tryd.zeroValue65
  t76 := Tryd.underlying89
  a76 := Tryd.isAgg89
  z76 := Tryd.sizeOf89
  v76 := Tryd.zeroValue89
  t109 := Tryd.underlying85
  a109 := Tryd.isAgg85
  z109 := Tryd.sizeOf85
  v109 := Tryd.zeroValue85
  t127 := Tryd.underlying92
  a127 := Tryd.isAgg92
  z127 := Tryd.sizeOf92
  v127 := Tryd.zeroValue92
  t146 := Tryd.underlying101
  a146 := Tryd.isAgg101
  z146 := Tryd.sizeOf101
  v146 := Tryd.zeroValue101
  t148 := Tryd.underlying104
  a148 := Tryd.isAgg104
  z148 := Tryd.sizeOf104
  v148 := Tryd.zeroValue104
  t164 := Tryd.underlying107
  a164 := Tryd.isAgg107
  z164 := Tryd.sizeOf107
  v164 := Tryd.zeroValue107 }
theorem Tryd.lays167 : Go.Proofs.Lays.n167 Tryd.prog Tryd.ren := {
  mixed := by kernel_rfl
  f167 := Tryd.func50.trans (congrArg some (by kernel_rfl))
  f240 := Tryd.func72.trans (congrArg some (by kernel_rfl))
  f276 := Tryd.func86.trans (congrArg some (by kernel_rfl))
  t0 := Tryd.underlying0
  a0 := Tryd.isAgg0
  z0 := Tryd.sizeOf0
  v0 := Tryd.zeroValue0
  t4 := Tryd.underlying4
  a4 := Tryd.isAgg4
  z4 := Tryd.sizeOf4
  v4 := Tryd.zeroValue4
  t5 := Tryd.underlying5
  a5 := Tryd.isAgg5
  z5 := Tryd.sizeOf5
  v5 := Tryd.zeroValue5
  t9 := Tryd.underlying9
  a9 := Tryd.isAgg9
  z9 := Tryd.sizeOf9
  v9 := Tryd.zeroValue9
  t20 := Tryd.underlying20
  a20 := Tryd.isAgg20
  z20 := Tryd.sizeOf20
  v20 := Tryd.zeroValue20
  t37 := Tryd.underlying61
  a37 := Tryd.isAgg61
  z37 := Tryd.sizeOf61
  v37 := Tryd.zeroValue61
  t70 := Tryd.underlying60
  a70 := Tryd.isAgg60
  z70 := Tryd.sizeOf60
  v70 := Tryd.zeroValue60
  t72 := Tryd.underlying63
  a72 := Tryd.isAgg63
  z72 := Tryd.sizeOf63
  v72 := Tryd.zeroValue63
  t75 := Tryd.underlying65
  a75 := Tryd.isAgg65
  z75 := Tryd.sizeOf65
  v75 := Tryd.zeroValue65
  t164 := Tryd.underlying107
  a164 := Tryd.isAgg107
  z164 := Tryd.sizeOf107
  v164 := Tryd.zeroValue107 }
theorem Tryd.lays169 : Go.Proofs.Lays.n169 Tryd.prog Tryd.ren := {
  mixed := by kernel_rfl
  f169 := Tryd.func51.trans (congrArg some (by kernel_rfl))
  t0 := Tryd.underlying0
  a0 := Tryd.isAgg0
  z0 := Tryd.sizeOf0
  v0 := Tryd.zeroValue0
  t3 := Tryd.underlying3
  a3 := Tryd.isAgg3
  z3 := Tryd.sizeOf3
  v3 := Tryd.zeroValue3
  t9 := Tryd.underlying9
  a9 := Tryd.isAgg9
  z9 := Tryd.sizeOf9
  v9 := Tryd.zeroValue9
  t37 := Tryd.underlying61
  a37 := Tryd.isAgg61
  z37 := Tryd.sizeOf61
  v37 := Tryd.zeroValue61
  t70 := Tryd.underlying60
  a70 := Tryd.isAgg60
  z70 := Tryd.sizeOf60
  v70 := Tryd.zeroValue60
  t72 := Tryd.underlying63
  a72 := Tryd.isAgg63
  z72 := Tryd.sizeOf63
  v72 := Tryd.zeroValue63
  t127 := Tryd.underlying92
  a127 := Tryd.isAgg92
  z127 := Tryd.sizeOf92
  v127 := Tryd.zeroValue92 }
theorem Tryd.extra : Builder.Extra Tryd.prog Tryd.ren := {
  sizeBuilder := by kernel_rfl
  liesBuilder := by kernel_rfl
  t5 := Tryd.underlying5
  a5 := Tryd.isAgg5
  z5 := Tryd.sizeOf5
  v5 := Tryd.zeroValue5
  infoByte := by kernel_rfl
  cellsByte := by kernel_rfl
  sizeByte := by kernel_rfl
  neB5 := by decide }
open Go.RowKit
theorem Tryd.strings_Repeat (s : ByteArray) (c : Nat) (w : World) (hc : c ≤ 9223372036854775807) (hlen : s.size * c ≤ 140737488355328) :
    Calls Tryd.prog 48 #[.string s, .int .i64 c] w fun e w' => e = .returned (.string ⟨(Lib.repeatL s.data.toList c).toArray⟩) ∧ Below w.heap.size w w' :=
  Any.strings_Repeat Tryd.lays105 Tryd.extra s c w hc hlen
theorem Tryd.WriteByte (B b : Nat) (bs : List Value) (c : Int) (w : World) (h : Lib.IsBuilderF 63 5 B b bs w) (hlen : bs.length + 1 ≤ 140737488355328) (hBw : B ≤ w.heap.size) :
    Calls Tryd.prog 50 #[.pointer (some ⟨b, 0, none⟩), .int .u8 c] w fun e w' => e = .returned .nilIface ∧ (Lib.BuilderAtF 63 5 B b (.pointer (some ⟨b, 0, none⟩)) (bs ++ [.int .u8 c]) w' ∧ Below B w w' ∧ Lib.OthersKept 5 (some b) w w') :=
  Any.Builder_WriteByte_k Tryd.lays167 Tryd.extra B b bs c w h hlen hBw
theorem Tryd.String (B b : Nat) (l : List UInt8) (w : World) (h : Lib.IsBuilderF 63 5 B b (Lib.byteCells l) w) (hBw : B ≤ w.heap.size) :
    Calls Tryd.prog 51 #[.pointer (some ⟨b, 0, none⟩)] w fun e w' => e = .returned (.string ⟨l.toArray⟩) ∧ (Lib.IsBuilderF 63 5 B b (Lib.byteCells l) w' ∧ Below B w w' ∧ Lib.OthersKept 5 (some b) w w') :=
  Any.Builder_String_any_k Tryd.lays169 Tryd.extra B b l w h hBw
end Go.Proofs


namespace Go.Aw.T
open Go Go.Aw Go.Proofs Go.RowKit
set_option maxRecDepth 100000
attribute [local irreducible] Go.Aw.DM Go.Aw.AHeap.setB Go.Aw.AHeap.setT
attribute [local go_sem] peval EOpd.ev Env.get binInt binStr binBool buildParts AV.cells AV.okc setRange minmaxAV AV.one AV.ofCells eqCells eqCell bslRows cond_true cond_false beq_self_eq_true Bool.not_true Bool.not_false beq_true beq_false eq_self if_true Option.some.injEq List.length_cons List.length_nil List.take_succ_cons List.take_zero List.drop_succ_cons List.drop_zero List.set_cons_succ List.set_cons_zero List.nil_append List.cons_append List.append_nil and_self Option.map_some List.map_cons List.map_nil Bool.false_eq_true if_false Nat.zero_add Nat.add_zero true_and and_true Bool.and_true Bool.true_and List.getElem?_cons_zero List.getElem?_cons_succ Nat.zero_le Nat.le_refl
set_option linter.unusedSimpArgs false
set_option linter.unusedVariables false
/-- What a text's notation holds: the text, and the place behind it (0: it is none). -/
def textR : List UInt8 → List UInt8 → Nat → List UInt8 × Nat
  | [], _, _ => ([], 0)
  | c :: r, acc, i => if c = 34 then (acc, i + 1) else if c = 92 then
      (match r with
      | [] => ([], 0)
      | d :: r' => if d = 34 ∨ d = 92 then textR r' (acc ++ [d]) (i + 2) else ([], 0))
    else if okc c = true then textR r (acc ++ [c]) (i + 1) else ([], 0)
def textV : List UInt8 → List UInt8 × Nat
  | [] => ([], 0)
  | c :: r => if c = 34 then textR r [] 1 else ([], 0)
theorem textR_cons (c : UInt8) (r acc : List UInt8) (i : Nat) : textR (c :: r) acc i = if c = 34 then (acc, i + 1) else if c = 92 then
      (match r with
      | [] => ([], 0)
      | d :: r' => if d = 34 ∨ d = 92 then textR r' (acc ++ [d]) (i + 2) else ([], 0))
    else if okc c = true then textR r (acc ++ [c]) (i + 1) else ([], 0) := by
  cases r with
  | nil => simp [textR]
  | cons d r => rw [textR]
theorem p83 (l p : List UInt8) : Pure Tryd.prog 83 [.str l, .str p] (.bool (p.isPrefixOf l)) := by
  refine pure_assume (G := l.length ≤ maxLen ∧ p.length ≤ maxLen) (fun m vs h => by simp only [RvL, Rv] at h; obtain ⟨_, _, rfl, ⟨_, h1⟩, _, _, rfl, ⟨_, h2⟩, _⟩ := h; exact ⟨h1, h2⟩) fun hs => ?_
  have key : p.isPrefixOf l = decide (l.take p.length = p) := by
    rw [Bool.eq_iff_iff, List.isPrefixOf_iff_prefix, decide_eq_true_eq, List.prefix_iff_eq_take]
    exact ⟨Eq.symm, Eq.symm⟩
  rw [key]
  refine pure_intro mo Tryd.func83 c83 fun H => ?_
  unfold e83 r83
  simp only [initEnv, initFrom]
  repeat' first | apply AM.seq | apply AM.block | apply AM.skip | apply AM.blkEnd | refine AM.exit rfl ?_ | (apply AM.reg []; simp only [annotate]) | apply DM.nil | refine DM.g1 rfl ?_ | refine DM.g0s (t' := true) rfl rfl ?_ | refine DM.g0s (t' := false) rfl rfl ?_ | refine DM.gus rfl ?_ | ((first | apply DM.ldm1 | apply DM.ldmA | apply DM.bxA | apply DM.al | apply DM.stE | apply DM.ixP | apply DM.lnM | apply DM.fdM | apply DM.bsl | apply DM.p); (repeat first | (change _ = _; first | exact setB_setB | (simp only [go_sem, Nat.reduceBEq, Nat.reduceAdd, Nat.reduceLeDiff, reduceIte] <;> rfl) | rfl | focus ((repeat' first | exact g_same | refine g_ne ‹_› ?_ | refine g_fresh ‹_› ?_ | refine g_T ?_ | exact t_same | refine t_ne ‹_› ?_ | refine t_fresh ‹_› ?_ | refine t_B ?_ | assumption); done)) | exact RD.r | apply RD.p | exact Nat.le_of_ble_eq_true rfl | decide); first | change DM _ _ _ _ _ _ | (intro b hb; repeat first | (refine fresh_elim hb ?_; intro _ _ hb) | (refine fresh_elimT hb ?_; intro hb))) | apply AM.condT rfl | apply AM.condF rfl | (apply DM.gbT; rfl) | (apply DM.gbF; rfl) | intro h
  · skip
    have h' : p.length ≤ l.length := by simp at h; omega
    apply DM.slSs (p := 0)
    · simp only [EOpd.ev, Env.get, Nat.reduceBEq, cond_true, cond_false, beq_self_eq_true] <;> rfl
    · rfl
    · simp only [optNat, EOpd.ev, Env.get, Nat.reduceBEq, cond_true, cond_false, beq_self_eq_true] <;> rfl
    · omega
    · exact h'
    · exact List.drop_zero
    repeat' first | apply AM.seq | apply AM.block | apply AM.skip | apply AM.blkEnd | refine AM.exit rfl ?_ | (apply AM.reg []; simp only [annotate]) | apply DM.nil | refine DM.g1 rfl ?_ | refine DM.g0s (t' := true) rfl rfl ?_ | refine DM.g0s (t' := false) rfl rfl ?_ | refine DM.gus rfl ?_ | ((first | apply DM.ldm1 | apply DM.ldmA | apply DM.bxA | apply DM.al | apply DM.stE | apply DM.ixP | apply DM.lnM | apply DM.fdM | apply DM.bsl | apply DM.p); (repeat first | (change _ = _; first | exact setB_setB | (simp only [go_sem, Nat.reduceBEq, Nat.reduceAdd, Nat.reduceLeDiff, reduceIte] <;> rfl) | rfl | focus ((repeat' first | exact g_same | refine g_ne ‹_› ?_ | refine g_fresh ‹_› ?_ | refine g_T ?_ | exact t_same | refine t_ne ‹_› ?_ | refine t_fresh ‹_› ?_ | refine t_B ?_ | assumption); done)) | exact RD.r | apply RD.p | exact Nat.le_of_ble_eq_true rfl | decide); first | change DM _ _ _ _ _ _ | (intro b hb; repeat first | (refine fresh_elim hb ?_; intro _ _ hb) | (refine fresh_elimT hb ?_; intro hb))) | apply AM.condT rfl | apply AM.condF rfl | (apply DM.gbT; rfl) | (apply DM.gbF; rfl) | intro h
    ((first | apply AM.retA | apply AM.doneA); (· first | (apply results_t; (· simp only [go_sem, Nat.reduceBEq, Nat.reduceAdd, Nat.reduceLeDiff, reduceIte] <;> rfl)) | (apply results_c; (· rfl); (· repeat' first | exact g_same | refine g_ne ‹_› ?_ | refine g_fresh ‹_› ?_ | refine g_T ?_ | assumption); (· rfl)) | (apply results_ct; (· rfl); (· repeat' first | exact g_same | refine g_ne ‹_› ?_ | refine g_fresh ‹_› ?_ | refine g_T ?_ | assumption); (· rfl); (· simp only [go_sem, Nat.reduceBEq, Nat.reduceAdd, Nat.reduceLeDiff, reduceIte] <;> rfl)) | (apply results_tt; (· simp only [go_sem, Nat.reduceBEq, Nat.reduceAdd, Nat.reduceLeDiff, reduceIte] <;> rfl); (· simp only [go_sem, Nat.reduceBEq, Nat.reduceAdd, Nat.reduceLeDiff, reduceIte] <;> rfl)) | (apply results_ttt; (· simp only [go_sem, Nat.reduceBEq, Nat.reduceAdd, Nat.reduceLeDiff, reduceIte] <;> rfl); (· simp only [go_sem, Nat.reduceBEq, Nat.reduceAdd, Nat.reduceLeDiff, reduceIte] <;> rfl); (· simp only [go_sem, Nat.reduceBEq, Nat.reduceAdd, Nat.reduceLeDiff, reduceIte] <;> rfl)) | exact results_nil); rotate_left; (· (repeat' first | exact HSub.refl _ | assumption | refine HSub.setB ?_ ‹_› | refine HSub.setT ?_ ‹_›)))
    exact AVLe.refl _
  · skip
    ((first | apply AM.retA | apply AM.doneA); (· first | (apply results_t; (· simp only [go_sem, Nat.reduceBEq, Nat.reduceAdd, Nat.reduceLeDiff, reduceIte] <;> rfl)) | (apply results_c; (· rfl); (· repeat' first | exact g_same | refine g_ne ‹_› ?_ | refine g_fresh ‹_› ?_ | refine g_T ?_ | assumption); (· rfl)) | (apply results_ct; (· rfl); (· repeat' first | exact g_same | refine g_ne ‹_› ?_ | refine g_fresh ‹_› ?_ | refine g_T ?_ | assumption); (· rfl); (· simp only [go_sem, Nat.reduceBEq, Nat.reduceAdd, Nat.reduceLeDiff, reduceIte] <;> rfl)) | (apply results_tt; (· simp only [go_sem, Nat.reduceBEq, Nat.reduceAdd, Nat.reduceLeDiff, reduceIte] <;> rfl); (· simp only [go_sem, Nat.reduceBEq, Nat.reduceAdd, Nat.reduceLeDiff, reduceIte] <;> rfl)) | (apply results_ttt; (· simp only [go_sem, Nat.reduceBEq, Nat.reduceAdd, Nat.reduceLeDiff, reduceIte] <;> rfl); (· simp only [go_sem, Nat.reduceBEq, Nat.reduceAdd, Nat.reduceLeDiff, reduceIte] <;> rfl); (· simp only [go_sem, Nat.reduceBEq, Nat.reduceAdd, Nat.reduceLeDiff, reduceIte] <;> rfl)) | exact results_nil); rotate_left; (· (repeat' first | exact HSub.refl _ | assumption | refine HSub.setB ?_ ‹_› | refine HSub.setT ?_ ‹_›)))
    have : l.take p.length ≠ p := fun e => by
      have e2 := congrArg List.length e
      rw [List.length_take] at e2
      simp at h
      omega
    refine avle_eq ?_
    rw [AV.bool.injEq, decide_eq_false this]
theorem p67 (l p : List UInt8) : Pure Tryd.prog 67 [.str l, .str p] (.bool (p.isPrefixOf l)) := by
  refine pure_intro mo Tryd.func67 c67 fun H => ?_
  unfold e67 r67
  simp only [initEnv, initFrom]
  repeat' first | apply AM.seq | apply AM.block | apply AM.skip | apply AM.blkEnd | refine AM.exit rfl ?_ | (apply AM.reg []; simp only [annotate]) | apply DM.nil | refine DM.g1 rfl ?_ | refine DM.g0s (t' := true) rfl rfl ?_ | refine DM.g0s (t' := false) rfl rfl ?_ | refine DM.gus rfl ?_ | ((first | apply DM.ldm1 | apply DM.ldmA | apply DM.bxA | apply DM.al | apply DM.stE | apply DM.ixP | apply DM.lnM | apply DM.fdM | apply DM.bsl | apply DM.p); (repeat first | (change _ = _; first | exact setB_setB | (simp only [go_sem, Nat.reduceBEq, Nat.reduceAdd, Nat.reduceLeDiff, reduceIte] <;> rfl) | rfl | focus ((repeat' first | exact g_same | refine g_ne ‹_› ?_ | refine g_fresh ‹_› ?_ | refine g_T ?_ | exact t_same | refine t_ne ‹_› ?_ | refine t_fresh ‹_› ?_ | refine t_B ?_ | assumption); done)) | exact RD.r | apply RD.p | exact Nat.le_of_ble_eq_true rfl | decide); first | change DM _ _ _ _ _ _ | (intro b hb; repeat first | (refine fresh_elim hb ?_; intro _ _ hb) | (refine fresh_elimT hb ?_; intro hb))) | apply AM.condT rfl | apply AM.condF rfl | (apply DM.gbT; rfl) | (apply DM.gbF; rfl) | intro h
  (apply DM.pcs (p83 l p); (· simp only [go_sem, Nat.reduceBEq, Nat.reduceAdd] <;> rfl); (· exact AVLes.refl _))
  repeat' first | apply AM.seq | apply AM.block | apply AM.skip | apply AM.blkEnd | refine AM.exit rfl ?_ | (apply AM.reg []; simp only [annotate]) | apply DM.nil | refine DM.g1 rfl ?_ | refine DM.g0s (t' := true) rfl rfl ?_ | refine DM.g0s (t' := false) rfl rfl ?_ | refine DM.gus rfl ?_ | ((first | apply DM.ldm1 | apply DM.ldmA | apply DM.bxA | apply DM.al | apply DM.stE | apply DM.ixP | apply DM.lnM | apply DM.fdM | apply DM.bsl | apply DM.p); (repeat first | (change _ = _; first | exact setB_setB | (simp only [go_sem, Nat.reduceBEq, Nat.reduceAdd, Nat.reduceLeDiff, reduceIte] <;> rfl) | rfl | focus ((repeat' first | exact g_same | refine g_ne ‹_› ?_ | refine g_fresh ‹_› ?_ | refine g_T ?_ | exact t_same | refine t_ne ‹_› ?_ | refine t_fresh ‹_› ?_ | refine t_B ?_ | assumption); done)) | exact RD.r | apply RD.p | exact Nat.le_of_ble_eq_true rfl | decide); first | change DM _ _ _ _ _ _ | (intro b hb; repeat first | (refine fresh_elim hb ?_; intro _ _ hb) | (refine fresh_elimT hb ?_; intro hb))) | apply AM.condT rfl | apply AM.condF rfl | (apply DM.gbT; rfl) | (apply DM.gbF; rfl) | intro h
  ((first | apply AM.retA | apply AM.doneA); (· first | (apply results_t; (· simp only [go_sem, Nat.reduceBEq, Nat.reduceAdd, Nat.reduceLeDiff, reduceIte] <;> rfl)) | (apply results_c; (· rfl); (· repeat' first | exact g_same | refine g_ne ‹_› ?_ | refine g_fresh ‹_› ?_ | refine g_T ?_ | assumption); (· rfl)) | (apply results_ct; (· rfl); (· repeat' first | exact g_same | refine g_ne ‹_› ?_ | refine g_fresh ‹_› ?_ | refine g_T ?_ | assumption); (· rfl); (· simp only [go_sem, Nat.reduceBEq, Nat.reduceAdd, Nat.reduceLeDiff, reduceIte] <;> rfl)) | (apply results_tt; (· simp only [go_sem, Nat.reduceBEq, Nat.reduceAdd, Nat.reduceLeDiff, reduceIte] <;> rfl); (· simp only [go_sem, Nat.reduceBEq, Nat.reduceAdd, Nat.reduceLeDiff, reduceIte] <;> rfl)) | (apply results_ttt; (· simp only [go_sem, Nat.reduceBEq, Nat.reduceAdd, Nat.reduceLeDiff, reduceIte] <;> rfl); (· simp only [go_sem, Nat.reduceBEq, Nat.reduceAdd, Nat.reduceLeDiff, reduceIte] <;> rfl); (· simp only [go_sem, Nat.reduceBEq, Nat.reduceAdd, Nat.reduceLeDiff, reduceIte] <;> rfl)) | exact results_nil); rotate_left; (· (repeat' first | exact HSub.refl _ | assumption | refine HSub.setB ?_ ‹_› | refine HSub.setT ?_ ‹_›)))
  exact AVLe.refl _
theorem hasPre (l p : List UInt8) (hl : l.length ≤ 1000000) (hp : p.length ≤ 1000000) (w : World) : Calls Tryd.prog 67 #[.string ⟨⟨l⟩⟩, .string ⟨⟨p⟩⟩] w fun e w' => e = .returned (.bool (p.isPrefixOf l)) ∧ Below w.heap.size w w' := by
  refine (calls_plain (p67 l p) w [.string ⟨⟨l⟩⟩, .string ⟨⟨p⟩⟩] (fun m => by simp only [RvL, Rv]; exact ⟨_, _, rfl, ⟨rfl, by unfold maxLen; omega⟩, _, _, rfl, ⟨rfl, by unfold maxLen; omega⟩, rfl⟩)).mono ?_
  rintro e w' ⟨⟨v, rfl, m, hv⟩, hb⟩
  simp only [Rv] at hv
  subst hv
  exact ⟨rfl, hb⟩
theorem str_index {t : TypeId} (h : Tryd.prog.underlying t = some .string) (l : List UInt8) (i : Nat) (c : UInt8) (hc : l[i]? = some c) (w : World) : (Instr.index t (.string ⟨⟨l⟩⟩) (.int .i64 (i : Int))).run Tryd.prog w = .ok (.int .u8 (c.toNat : Int)) w := by
  obtain ⟨hi, rfl⟩ := List.getElem?_eq_some_iff.1 hc
  rw [run_index_string w t _ _ _ h, dif_pos ⟨by omega, by show (i : Int) < (l.length : Nat); omega⟩]
  rfl
theorem u8i (c : UInt8) (n : Nat) (hn : n < 256) : ((c.toNat : Int) = (n : Int)) = (c = UInt8.ofNat n) := by
  rw [eq_iff_iff, ← UInt8.toNat_inj]
  simp only [UInt8.toNat_ofNat']
  omega
open Go.Lib in
set_option maxHeartbeats 4000000 in
theorem w75 (l : List UInt8) (hl : l.length ≤ 1000000) (w : World) : Calls Tryd.prog 75 #[.string ⟨⟨l⟩⟩] w fun e w' => e = .returned (.tuple #[.string ⟨⟨(textV l).1⟩⟩, .int .i64 (textV l).2]) ∧ Below w.heap.size w w' := by
  rcases hp : [34].isPrefixOf l with _ | _
  · have ht : textV l = ([], 0) := by
      cases l with
      | nil => rfl
      | cons c r => simp [List.isPrefixOf] at hp; simp [textV, Ne.symm hp]
    rw [ht]
    go_enter Tryd.func75, Tryd.ntmps75
    go_wp2_with (go_at_call 67; refine (hasPre l [34] hl (by decide) w).mono ?_)
    rintro e w1 ⟨rfl, hb1⟩
    simp only [hp]
    go_wp2
    go_ret2
    exact ⟨rfl, hb1⟩
  · have ht : textV l = textR (l.drop 1) [] 1 ∧ 1 ≤ l.length := by
      cases l with
      | nil => simp [List.isPrefixOf] at hp
      | cons c r => simp [List.isPrefixOf] at hp; simp [textV, ← hp]
    obtain ⟨ht, h1⟩ := ht
    obtain ⟨R, hR⟩ : ∃ R, textR (l.drop 1) [] 1 = R := ⟨_, rfl⟩
    rw [ht, hR]
    go_enter Tryd.func75, Tryd.ntmps75
    go_wp2_with (go_at_call 67; refine (hasPre l [34] hl (by decide) w).mono ?_)
    rintro e w1 ⟨rfl, hb1⟩
    simp only [hp]
    go_wp2
    go_loopg [5] (l.length - 1) (fun gk p wr => ∃ (i : Nat) (acc : List UInt8), p = .int .i64 i ∧ i + gk = l.length ∧ IsBuilderF 63 5 w1.heap.size w1.heap.size (byteCells acc) wr ∧ Below w1.heap.size w1 wr ∧ textR (l.drop i) acc i = R ∧ acc.length ≤ i)
    case atStart => exact ⟨1, [], rfl, by omega, IsBuilderF.of (fresh_isBuilder 63 5 w1), (Below.refl _ w1).alloc (Nat.le_refl _) _, hR, by simp⟩
    case round =>
      obtain ⟨i, acc, rfl, hi, hI, hbw, he, hal⟩ := hrel
      have fin : Below w.heap.size w wr := hb1.trans (hbw.mono hb1.size)
      have sz : (⟨⟨l⟩⟩ : ByteArray).size = l.length := rfl
      by_cases hlt : i < l.length
      · obtain ⟨c, hc⟩ := some_of hlt
        have hx : ∀ W, (Instr.index 9 (.string ⟨⟨l⟩⟩) (.int .i64 (i : Int))).run Tryd.prog W = .ok (.int .u8 (c.toNat : Int)) W := str_index Tryd.underlying9 l i c hc
        rw [drop_of hc] at he
        by_cases h34 : c = 34
        · subst h34
          rw [textR_cons, if_pos rfl] at he
          subst he
          have hi1 : IntKind.i64.wrap ((i : Int) + 1) = ((i + 1 : Nat) : Int) := inc64 hlt (by unfold maxLen; omega)
          go_wp2_with (go_at_call 51; refine (Tryd.String w1.heap.size w1.heap.size acc _ hI (by have := hbw.size; omega)).mono ?_)
          rintro e W1 ⟨rfl, _, b1, _⟩
          go_wp2
          go_ret2
          exact ⟨rfl, fin.trans (b1.mono hb1.size)⟩
        · have n34 : ¬ (c.toNat : Int) = 34 := fun e => h34 ((u8i c 34 (by decide)).mp e)
          have hi1 : IntKind.i64.wrap ((i : Int) + 1) = ((i + 1 : Nat) : Int) := inc64 hlt (by unfold maxLen; omega)
          have hbs : w1.heap.size ≤ wr.heap.size := by have := hbw.size; omega
          rw [textR_cons, if_neg h34] at he
          by_cases h92 : c = 92
          · rw [if_pos h92] at he
            subst h92
            by_cases hlt2 : i + 1 < l.length
            · obtain ⟨d, hd⟩ := some_of hlt2
              have hx2 : ∀ W, (Instr.index 9 (.string ⟨⟨l⟩⟩) (.int .i64 ((i : Int) + 1))).run Tryd.prog W = .ok (.int .u8 (d.toNat : Int)) W := str_index Tryd.underlying9 l (i + 1) d hd
              have hi2 : IntKind.i64.wrap ((i : Int) + 1 + 1) = ((i + 1 + 1 : Nat) : Int) := inc64 hlt2 (by unfold maxLen; omega)
              have ne : ((i : Int) + 1 == (l.length : Int)) = false := by simp; omega
              rw [drop_of hd] at he
              by_cases hdd : d = 34 ∨ d = 92
              · simp only [if_pos hdd] at he
                have go1 : ∀ (W : World), IsBuilderF 63 5 w1.heap.size w1.heap.size (byteCells (acc ++ [d])) W → Below w1.heap.size w1 W → ∃ (j : Nat) (acc' : List UInt8), Value.int .i64 ((i + 1 + 1 : Nat) : Int) = .int .i64 j ∧ j + (gk - 2) = l.length ∧ IsBuilderF 63 5 w1.heap.size w1.heap.size (byteCells acc') W ∧ Below w1.heap.size w1 W ∧ textR (l.drop j) acc' j = R ∧ acc'.length ≤ j := fun W k1 k2 => ⟨i + 2, acc ++ [d], rfl, by omega, k1, k2, he, by simp; omega⟩
                rcases hdd with hdd | hdd
                all_goals (
                  subst hdd
                  go_wp2_with (go_at_call 50; refine (Tryd.WriteByte w1.heap.size w1.heap.size (byteCells acc) _ _ hI (by rw [byteCells_length]; omega) hbs).mono ?_)
                  rintro e W1 ⟨rfl, q1, b1, _⟩
                  go_wp2
                  go_roundg (gk - 2)
                  case measure => omega
                  case rel => exact go1 W1 (by rw [byteCells_append]; exact Or.inr q1) (hbw.trans b1))
              · simp only [if_neg hdd] at he
                have n1 : ((d.toNat : Int) != 34) = true := by simp only [bne_iff_ne]; exact fun e => hdd (.inl ((u8i d 34 (by decide)).mp e))
                have n2 : ((d.toNat : Int) != 92) = true := by simp only [bne_iff_ne]; exact fun e => hdd (.inr ((u8i d 92 (by decide)).mp e))
                subst he
                go_wp2
                go_ret2
                exact ⟨rfl, fin⟩
            · have e1 : ((i : Int) + 1 == (l.length : Int)) = true := by simp; omega
              rw [List.drop_eq_nil_of_le (by omega)] at he
              subst he
              go_wp2
              go_ret2
              exact ⟨rfl, fin⟩
          · have n92 : ¬ (c.toNat : Int) = 92 := fun e => h92 ((u8i c 92 (by decide)).mp e)
            rw [if_neg h92] at he
            by_cases hk : okc c = true
            · have b1 : ¬ (c.toNat : Int) < 32 := by simp [okc] at hk; omega
              have b2 : ¬ (126 : Int) < (c.toNat : Int) := by simp [okc] at hk; omega
              rw [if_pos hk] at he
              go_wp2_with (go_at_call 50; refine (Tryd.WriteByte w1.heap.size w1.heap.size (byteCells acc) _ _ hI (by rw [byteCells_length]; omega) hbs).mono ?_)
              rintro e W1 rfl q1 b1 _
              go_wp2
              go_roundg (gk - 1)
              case measure => omega
              case rel => exact ⟨i + 1, acc ++ [c], rfl, by omega, by rw [byteCells_append]; exact Or.inr q1, hbw.trans b1, he, by simp; omega⟩
            · rw [if_neg hk] at he
              have b1 : (c.toNat : Int) < 32 ∨ (126 : Int) < (c.toNat : Int) := by simp [okc] at hk; omega
              by_cases b2 : (c.toNat : Int) < 32
              · go_wp2
                go_ret2
                exact ⟨by rw [← he]; rfl, fin⟩
              · have b3 : (126 : Int) < (c.toNat : Int) := by omega
                subst he
                go_wp2
                go_ret2
                exact ⟨rfl, fin⟩
      · rw [List.drop_eq_nil_of_le (by omega)] at he
        subst he
        go_wp2
        go_ret2
        exact ⟨rfl, fin⟩
theorem textR_len : ∀ (n : Nat) (r acc : List UInt8) (i : Nat), r.length ≤ n → (textR r acc i).1.length ≤ r.length + acc.length
  | n, [], acc, i, _ => by simp [textR]
  | n + 1, c :: r, acc, i, h => by
    rw [textR_cons]
    split
    · simp only [List.length_cons]; omega
    · split
      · cases r with
        | nil => simp
        | cons d r' =>
          simp only
          split
          · have := textR_len n r' (acc ++ [d]) (i + 2) (by simp at h; omega)
            simp only [List.length_append, List.length_cons, List.length_nil] at this ⊢
            omega
          · simp
      · split
        · have := textR_len n r (acc ++ [c]) (i + 1) (by simpa using h)
          simp only [List.length_append, List.length_cons, List.length_nil] at this ⊢
          omega
        · simp
  | 0, c :: r, _, _, h => by simp at h
theorem textV_len (l : List UInt8) : (textV l).1.length ≤ l.length := by
  cases l with
  | nil => simp [textV]
  | cons c r =>
    simp only [textV]
    split
    · have := textR_len r.length r [] 1 (Nat.le_refl _)
      simp only [List.length_cons, List.length_nil] at this ⊢
      omega
    · simp
theorem p75 (l : List UInt8) (hl : l.length ≤ 1000000) : Pure Tryd.prog 75 [.str l] (.tup [.str (textV l).1, .int .i64 (textV l).2]) := by
  refine pure_of_plain fun m vs hv => ?_
  simp only [RvL, Rv] at hv
  obtain ⟨_, _, rfl, ⟨rfl, _⟩, rfl⟩ := hv
  refine (w75 l hl m.w).mono ?_
  rintro e w' ⟨rfl, hb⟩
  refine ⟨_, rfl, fun m' => ?_, hb⟩
  simp only [Rv, RvL]
  exact ⟨_, rfl, _, _, rfl, ⟨rfl, by have := textV_len l; unfold maxLen; omega⟩, _, _, rfl, rfl, rfl⟩
/-- A byte of a text as it stands in the notation. -/
def escC (c : UInt8) : List UInt8 := if c = 34 ∨ c = 92 then [92, c] else [c]
def esc (s : List UInt8) : List UInt8 := s.flatMap escC
def showT (s : List UInt8) : List UInt8 := 34 :: esc s ++ [34]
theorem esc_take {s : List UInt8} {i : Nat} {c : UInt8} (h : s[i]? = some c) : esc (s.take (i + 1)) = esc (s.take i) ++ escC c := by
  rw [List.take_add_one, h]
  simp [esc, List.flatMap_append]
theorem esc_len (s : List UInt8) : (esc s).length ≤ 2 * s.length := by
  induction s with
  | nil => simp [esc]
  | cons c s ih =>
    simp only [esc, List.flatMap_cons, List.length_append, List.length_cons] at *
    have : (escC c).length ≤ 2 := by unfold escC; split <;> simp
    omega
theorem valid_call (k n : Int) (s : List UInt8) (hs : s.length ≤ maxLen) (w : World) : Calls Tryd.prog 22 #[.agg #[.int .i64 k, .int .i64 n, .string ⟨⟨s⟩⟩]] w fun e w' => e = .returned (.bool (validV ⟨k, n, s⟩)) ∧ Below w.heap.size w w' := by
  refine (calls_plain (p22 ⟨k, n, s⟩) w [.agg ⟨[.int .i64 k, .int .i64 n, .string ⟨⟨s⟩⟩]⟩] (fun m => by simp only [RvL, Rv]; exact ⟨_, _, rfl, ⟨_, rfl, _, _, rfl, rfl, _, _, rfl, rfl, _, _, rfl, ⟨rfl, hs⟩, rfl⟩, rfl⟩)).mono ?_
  rintro e w' ⟨⟨v, rfl, m, hv⟩, hb⟩
  simp only [Rv] at hv
  subst hv
  exact ⟨rfl, hb⟩
theorem alloc_new (w : World) (o : Obj) : (w.alloc o).heap[w.heap.size]? = some o := by
  show (w.heap.push o)[w.heap.size]? = some o
  simp
open Go.Lib in
set_option maxHeartbeats 4000000 in
theorem w17 (s : List UInt8) (hv : validV ⟨2, 0, s⟩ = true) (w : World) : Calls Tryd.prog 17 #[.agg #[.int .i64 2, .int .i64 0, .string ⟨⟨s⟩⟩]] w fun e w' => e = .returned (.string ⟨⟨showT s⟩⟩) ∧ Below w.heap.size w w' := by
  have hl : s.length ≤ 40 := by simp [validV] at hv; exact hv.1
  go_enter Tryd.func17, Tryd.ntmps17
  go_wp2_with (go_at_call 22; refine (valid_call 2 0 s (by unfold maxLen; omega) _).mono ?_)
  rintro e w1 ⟨rfl, hb1⟩
  have ob : ∃ O, O = Obj.cells #[Value.int .i64 2, Value.int .i64 0, Value.string ⟨⟨s⟩⟩] 23 := ⟨_, rfl⟩
  obtain ⟨O, hO⟩ := ob
  rw [← hO] at hb1
  have box1 : w1.heap[w.heap.size]? = some O := (hb1.block _ (by simp)).trans (alloc_new w O)
  have cl : ∀ W : World, W.heap[w.heap.size]? = some O → W.cell? ⟨w.heap.size, 0, none⟩ = some (.int .i64 2) ∧ W.cell? ⟨w.heap.size, 2, none⟩ = some (.string ⟨⟨s⟩⟩) := fun W h => by
    rw [hO] at h
    exact ⟨by rw [Lib.cell_of_heap h]; rfl, by rw [Lib.cell_of_heap h]; rfl⟩
  have hw : Below w.heap.size w w1 := ((Below.refl _ w).alloc (Nat.le_refl _) O).trans (hb1.mono (by simp))
  have hsz : w.heap.size < w1.heap.size := (Array.getElem?_eq_some_iff.1 box1).1
  obtain ⟨k0, k2⟩ := cl w1 box1
  clear hO
  simp only [hv]
  have hf : IsBuilderF 63 5 w1.heap.size w1.heap.size (byteCells []) (w1.alloc (.cells #[.pointer none, .slice none 0 0] 63)) := IsBuilderF.of (fresh_isBuilder 63 5 w1)
  go_wp2_with (go_at_call 50; refine (Tryd.WriteByte w1.heap.size w1.heap.size (byteCells []) _ _ hf (by decide) (by simp)).mono ?_)
  rintro e w2 ⟨rfl, q2, b2, _⟩
  have b2' : Below w1.heap.size w1 w2 := ((Below.refl _ w1).alloc (Nat.le_refl _) _).trans b2
  have k2' : w2.cell? ⟨w.heap.size, 2, none⟩ = some (.string ⟨⟨s⟩⟩) := (cl w2 ((b2'.block _ hsz).trans box1)).2
  go_wp2
  go_loopg [20] s.length (fun gk p wr => ∃ (i : Nat), p = .int .i64 i ∧ i + gk = s.length ∧ IsBuilderF 63 5 w1.heap.size w1.heap.size (byteCells (34 :: esc (s.take i))) wr ∧ Below w1.heap.size w1 wr)
  case atStart => exact ⟨0, rfl, by omega, Or.inr q2, b2'⟩
  case round =>
    obtain ⟨i, rfl, hi, hI, hbw⟩ := hrel
    have hbs : w1.heap.size ≤ wr.heap.size := hbw.size
    have fin : Below w.heap.size w wr := hw.trans (hbw.mono (by omega))
    have g2 : wr.cell? ⟨w.heap.size, 2, none⟩ = some (.string ⟨⟨s⟩⟩) := (cl wr ((hbw.block _ hsz).trans box1)).2
    have el := esc_len (s.take i)
    rw [List.length_take] at el
    by_cases hlt : i < s.length
    · obtain ⟨c, hc⟩ := some_of hlt
      have hx : ∀ W, (Instr.index 9 (.string ⟨⟨s⟩⟩) (.int .i64 (i : Int))).run Tryd.prog W = .ok (.int .u8 (c.toNat : Int)) W := str_index Tryd.underlying9 s i c hc
      have hi1 : IntKind.i64.wrap ((i : Int) + 1) = ((i + 1 : Nat) : Int) := inc64 hlt (by unfold maxLen; omega)
      have et := esc_take hc
      by_cases hcc : c = 34 ∨ c = 92
      · have ec : escC c = [92, c] := by simp [escC, hcc]
        have tt : ((c.toNat : Int) == 34) = true ∨ ((c.toNat : Int) == 34) = false ∧ ((c.toNat : Int) == 92) = true := by
          rcases hcc with rfl | rfl
          · exact .inl rfl
          · exact .inr ⟨rfl, rfl⟩
        rcases tt with tt | ⟨tt, tt2⟩
        all_goals (
          go_wp2_with (go_at_call 50; refine (Tryd.WriteByte w1.heap.size w1.heap.size (byteCells (34 :: esc (s.take i))) _ _ hI (by rw [byteCells_length, List.length_cons]; omega) hbs).mono ?_)
          rintro e w3 ⟨rfl, q3, b3, _⟩
          have b3' : Below w1.heap.size w1 w3 := hbw.trans b3
          have g3 : w3.cell? ⟨w.heap.size, 2, none⟩ = some (.string ⟨⟨s⟩⟩) := (cl w3 ((b3'.block _ hsz).trans box1)).2
          go_wp2_with (go_at_call 50; refine (Tryd.WriteByte w1.heap.size w1.heap.size (byteCells (34 :: esc (s.take i)) ++ [.int .u8 92]) _ _ (Or.inr q3) (by rw [List.length_append, byteCells_length, List.length_cons, List.length_cons, List.length_nil]; omega) b3'.size).mono ?_)
          rintro e w4 ⟨rfl, q4, b4, _⟩
          go_wp2
          go_roundg (gk - 1)
          case measure => omega
          case rel => exact ⟨i + 1, rfl, by omega, by rw [et, ec, ← List.cons_append, byteCells_append]; rw [List.append_assoc] at q4; exact Or.inr q4, b3'.trans b4⟩)
      · have ec : escC c = [c] := by simp [escC, hcc]
        have t1 : ((c.toNat : Int) == 34) = false := by
          simp only [beq_eq_false_iff_ne, ne_eq]; exact fun e => hcc (.inl ((u8i c 34 (by decide)).mp e))
        have t2 : ((c.toNat : Int) == 92) = false := by
          simp only [beq_eq_false_iff_ne, ne_eq]; exact fun e => hcc (.inr ((u8i c 92 (by decide)).mp e))
        go_wp2_with (go_at_call 50; refine (Tryd.WriteByte w1.heap.size w1.heap.size (byteCells (34 :: esc (s.take i))) _ _ hI (by rw [byteCells_length, List.length_cons]; omega) hbs).mono ?_)
        rintro e w3 ⟨rfl, q3, b3, _⟩
        go_wp2
        go_roundg (gk - 1)
        case measure => omega
        case rel => exact ⟨i + 1, rfl, by omega, by rw [et, ec, ← List.cons_append, byteCells_append]; exact Or.inr q3, hbw.trans b3⟩
    · have hi' : i = s.length := by omega
      subst hi'
      rw [List.take_length] at hI el
      go_wp2_with (go_at_call 50; refine (Tryd.WriteByte w1.heap.size w1.heap.size (byteCells (34 :: esc s)) _ _ hI (by rw [byteCells_length, List.length_cons]; omega) hbs).mono ?_)
      rintro e w3 ⟨rfl, q3, b3, _⟩
      have b3' : Below w1.heap.size w1 w3 := hbw.trans b3
      have q3' : IsBuilderF 63 5 w1.heap.size w1.heap.size (byteCells (showT s)) w3 := by
        have e : byteCells (showT s) = byteCells (34 :: esc s) ++ [.int .u8 34] := by unfold showT; rw [byteCells_append]; rfl
        rw [e]
        exact Or.inr q3
      go_wp2_with (go_at_call 51; refine (Tryd.String w1.heap.size w1.heap.size (showT s) _ q3' b3'.size).mono ?_)
      rintro e w4 ⟨rfl, _, b4, _⟩
      go_wp2
      go_ret
      exact ⟨rfl, hw.trans ((b3'.trans b4).mono (by omega))⟩
end Go.Aw.T

