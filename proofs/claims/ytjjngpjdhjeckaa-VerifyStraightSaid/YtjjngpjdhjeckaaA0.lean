/- Part of a proof; own work. -/
import Derived.Test.YtjjngpjdhjeckaaProg
import Derived.Tactics
import Derived.Tactics2
import Derived.Recover
import Derived.KernelRfl
import Derived.Laws.Pointers
import Derived.Laws.Rows
namespace Go.Proofs
set_option maxRecDepth 100000
set_option linter.unusedSimpArgs false
theorem ta_hit (v : Value) (w : World) : (Instr.typeAssert (.iface 162 v) 20 162 true).run Try.prog w = .ok (.tuple #[v, .bool true]) w := by
 simp [Instr.typeAssert, run_underlying Try.underlying162]
theorem ta_nil (w : World) : (Instr.typeAssert .nilIface 20 162 true).run Try.prog w = .ok (.tuple #[.agg #[.int .i64 0], .bool false]) w := by
 have hz : (Try.prog.info? 162).bind (·.zero) = some (.agg #[.int .i64 0]) := by kernel_rfl
 cases hi : Try.prog.info? 162 with
 | none => rw [hi] at hz; cases hz
 | some i =>
  rw [hi] at hz
  simp at hz
  simp [Instr.typeAssert, run_underlying Try.underlying162, zeroValue, typeInfo, hi, hz]
set_option maxHeartbeats 4000000
theorem catch_pan (b : Nat) (e0 ec : Int) (w : World) (hb : w.heap[b]? = some (.cells #[.int .i64 e0] 33 (0, 0))) :
  CallsD Try.prog 73 #[.pointer (some ⟨b, 0, none⟩)] (.panicking [{ v := .iface 162 (.agg #[.int .i64 ec]), recovered := false }]) w fun e u' w' =>
   e = .returned (.tuple #[]) ∧ u' = .panicking [{ v := .iface 162 (.agg #[.int .i64 ec]), recovered := true }] ∧ w' = (((w.alloc (.cells #[.int .i64 0] 162)).setCell ⟨w.heap.size, 0, none⟩ (.int .i64 ec)).setCell ⟨b, 0, none⟩ (.int .i64 ec)) := by
 have hlt : b < w.heap.size := (Array.getElem?_eq_some_iff.1 hb).1
 have hb1 : (w.alloc (.cells #[.int .i64 0] 162)).heap[b]? = some (.cells #[.int .i64 e0] 33 (0, 0)) := by
  show (w.heap.push _)[b]? = _
  rw [Array.getElem?_push, if_neg (by omega)]
  exact hb
 have hb2 : ((w.alloc (.cells #[.int .i64 0] 162)).setCell ⟨w.heap.size, 0, none⟩ (.int .i64 ec)).heap[b]? = some (.cells #[.int .i64 e0] 33 (0, 0)) := by
  rw [heap_setCell_other _ _ _ _ (by simp; omega)]
  exact hb1
 have hc := cell_of_row _ b 0 _ _ _ hb2
 have hz := frozen_of_row _ b 0 _ _ hb1
 simp only [List.getElem?_toArray, List.getElem?_cons_zero] at hc
 refine callsD_of_wpS Try.func73 rfl fun c₀ cs hu => ?_
 apply wpS_seq
 apply wpS_region
 simp [wpOpsS, go_sem, recoverD, hu, Try.ntmps73, Exit.thenS, ta_hit, ta_nil]
 apply wpS_seq
 apply wpS_region
 simp [wpOpsS, go_sem, Exit.thenS]
 refine wpS_cond (t := true) (by simp [Act.eval, Array.replicate]) ?_
 simp only [if_true]
 apply wpS_region
 simp [wpOpsS, go_sem, hc, hz, bodyPostS, results, Try.results73]
theorem catch_idle (b : Nat) (w : World) :
  CallsD Try.prog 73 #[.pointer (some ⟨b, 0, none⟩)] .returning w fun e u' w' => e = .returned (.tuple #[]) ∧ u' = .returning ∧ w' = ((w.alloc (.cells #[.int .i64 0] 162)).setCell ⟨w.heap.size, 0, none⟩ (.int .i64 0)) := by
 refine callsD_of_wpS Try.func73 rfl fun c₀ cs hu => ?_
 apply wpS_seq
 apply wpS_region
 simp [wpOpsS, go_sem, recoverD, hu, Try.ntmps73, Exit.thenS, ta_hit, ta_nil]
 apply wpS_seq
 apply wpS_region
 simp [wpOpsS, go_sem, Exit.thenS]
 refine wpS_cond (t := false) (by simp [Act.eval, Array.replicate]) ?_
 simp only [Bool.false_eq_true, if_false]
 refine wpS_of_wp (wp_skip ?_)
 cases c₀
 simp_all [bodyPostS, results, Try.results73]
end Go.Proofs
