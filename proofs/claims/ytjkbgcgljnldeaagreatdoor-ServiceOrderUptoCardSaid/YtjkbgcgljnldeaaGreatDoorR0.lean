/- Part of a proof; own work. -/
import Derived.Test.YtjkbgcgljnldeaaGreatDoorProg
import Derived.Tactics
import Derived.Tactics2
import Derived.Recover
import Derived.KernelRfl
import Derived.Laws.Pointers
import Derived.Laws.Rows
set_option linter.unusedVariables false
set_option linter.unusedSimpArgs false
set_option maxHeartbeats 4000000
namespace Go.Proofs
set_option maxRecDepth 100000
theorem aJ1 (w:World):(Instr.typeAssert .nilIface 20 79 true).run Tryz.prog w= .ok (.tuple #[.agg #[.int .i64 0,.int .i64 0],.bool false]) w:=by
 have aB:(Tryz.prog.info? 79).bind (·.zero)=some (.agg #[.int .i64 0,.int .i64 0]):=by kernel_rfl
 cases ai:Tryz.prog.info? 79 with
 |none=>rw[ai]at aB; cases aB
 |some i=>
  rw[ai]at aB
  simp at aB
  simp [Instr.typeAssert,run_underlying Tryz.underlying79,zeroValue,typeInfo,ai,aB]
theorem aa4 (p q r:Value) (w:World):
  CallsD Tryz.prog 31 #[p,q,r] .returning w fun e q9 w'=>e= .returned (.tuple #[])∧q9= .returning∧w'.os=w.os∧w'.tape=w.tape∧w'.output=w.output∧w'.heap.size=w.heap.size+1∧∀b,b<w.heap.size→w'.heap[b]? =w.heap[b]? :=by
 refine callsD_of_wpS Tryz.func31 rfl fun Ih cs hu=> ?_
 apply wpS_seq
 apply wpS_region
 simp [wpOpsS,go_sem,recoverD,hu,Tryz.ntmps31,Exit.thenS,aJ1]
 apply wpS_seq
 apply wpS_region
 simp [wpOpsS,go_sem,Exit.thenS]
 refine wpS_cond (t:=false) (by simp [Act.eval,Array.replicate]) ?_
 simp only[Bool.false_eq_true,if_false]
 refine wpS_of_wp (wp_skip ?_)
 cases Ih
 simp_all [bodyPostS,results,Tryz.results31]
 refine⟨rfl,rfl,fun b hb=> ?_⟩
 rw[heap_setCell_other _ _ _ _ (by simp; omega),heap_setCell_other _ _ _ _ (by simp; omega)]
 show (w.heap.push _)[b]? = _
 rw[Array.getElem?_push,if_neg (by omega)]
 exact Array.getElem?_eq_getElem hb
end Go.Proofs
