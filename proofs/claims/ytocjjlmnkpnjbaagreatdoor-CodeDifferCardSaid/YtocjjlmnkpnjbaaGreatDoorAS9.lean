/- Part of a proof; own work. -/
import Derived.Test.YtocjjlmnkpnjbaaGreatDoorRows
import Derived.ProofKit
import Derived.LaidMore
import Derived.OpenShut
import Derived.Stop.Joined
import Derived.LaidLaws
import Derived.Lib.ItoaNum
import Derived.Lib.LaidTab
import Derived.Stop.LaidErr
import Derived.MakeChecks
import Derived.HandedShaped
import Derived.Test.YtocjjlmnkpnjbaaGreatDoorAS8
namespace Go.Proofs.YtocjjlmnkpnjbaaGreatDoor
open Go.ChangeShapes Go.WideShapes Go.ChangeAt Go.RowKit
def laidL := Rows.codeValidRow.laid
theorem door_met (os : Os) (args : Array Value) : laidMetH Tryz.prog laidL ((World.doorLaid Tryz.prog 4000 os).forCall (fun _ _ => 0) ⟨#[], args, []⟩).memory :=
 laidMetH_of_parts3 (fuel := 8) (laidMet_of_run' 8 (by kernel_rfl) (by kernel_rfl)) (by kernel_rfl) (by kernel_rfl)
section
variable {H : Type} {enc : TypeId × Value → H}
theorem returns_laid_shaped {a : Assume} {C : Checked} {os : Os} {f : FuncId} {fn : Func} {s : ChangeSpec} {conds : List PathCond} {apart fresh handsOn again : Bool} {X : World → Array Value → Prop}
  (hX : ∀ (w w' : World) (args : Array Value), w.heap = w'.heap → X w args → X w' args)
  (own : ownKnob C.prog.godebug = none) (started : os.Started) (noInit : C.prog.inits.idxOf? f = none) (hfn : C.prog.funcs[f]? = some fn)
  (witness : ∃ (w : World) (tape : Tape) (i : Input), w.os = os ∧ (w.forCall tape i).Shaped C.prog ∧ i.vars = [] ∧ Input.okWide C.prog (w.forCall tape i) .any w.heap.size f i ∧
   ((s.pre enc C.prog fn conds apart (w.forCall tape i).memory i.args ∧ X (w.forCall tape i).memory i.args) ∧ sizedMet enc C.prog fn (OpenSpec.ofChange s) apart (w.forCall tape i).memory i.args) ∧ a.holds C.prog (lone (Frame.enter C.prog f i.args .normal) [] (w.forCall tape i)))
  (contract : ∀ (W : World) (base : Nat) (args : Array Value) (ds gs : List (DataW H)) (before : List MemPlace),
   (∀ (j : Nat) t v, fn.params[j]? = some t → args[j]? = some v → Value.okWide C.prog W .any base t v) →
   DataW.Whole enc C.prog fn.params.toList s.vars apart W args.toList ds gs before →
   X W args → W.ShapedOpen C.prog →
   Calls C.prog f args W fun e W' => ∃ v, e = .returned v ∧ s.post enc C.prog fn apart fresh handsOn again W args v W') :
  ReturnsInHanded a C os f .any (fun w args => (s.pre enc C.prog fn conds apart w args ∧ X w args) ∧ sizedMet enc C.prog fn (OpenSpec.ofChange s) apart w args) (s.post enc C.prog fn apart fresh handsOn again) := by
 refine returnsInHanded_of_calls own started noInit witness ?_
 intro w tape i _ hsh _ hok hpre _
 obtain ⟨_, _, _, fn', hfn', _, _, _, _, hval⟩ := hok
 obtain rfl : fn' = fn := Option.some.inj (hfn'.symm.trans hfn)
 obtain ⟨⟨⟨ds, gs, before, hw, _⟩, hx⟩, _⟩ := hpre
 have hw' := DataW.Whole.of_heap (w' := w.forCall tape i) (by rfl) hw
 refine (contract (w.forCall tape i) w.heap.size i.args ds gs before hval hw' (hX _ _ _ (by rfl) hx) hsh).mono fun e W' ⟨v, he, hp⟩ => ?_
 subst he
 exact ChangeSpec.post_blind hp
end
theorem gTab : Tryz.prog.globalNamed "internal/strconv.uint64pow10" = some 3 := by kernel_rfl
theorem gRan : Tryz.prog.globalNamed "strconv.ErrRange" = some 2 := by kernel_rfl
theorem gSyn : Tryz.prog.globalNamed "strconv.ErrSyntax" = some 1 := by kernel_rfl
theorem gTabT : (Tryz.prog.globals[3]?).map (·.type) = some 183 := by kernel_rfl
theorem gRanT : (Tryz.prog.globals[2]?).map (·.type) = some 97 := by kernel_rfl
theorem gSynT : (Tryz.prog.globals[1]?).map (·.type) = some 97 := by kernel_rfl
theorem cells183 : Tryz.prog.cellsOf 183 = 20 := by kernel_rfl
theorem cells144 : Tryz.prog.cellsOf 144 = 1 := by kernel_rfl
theorem cells192 : Tryz.prog.cellsOf 192 = 1 := by kernel_rfl
theorem cells9' : Tryz.prog.cellsOf 9 = 1 := by kernel_rfl
theorem starE : "*" ++ "errors.errorString" = "*errors.errorString" := by decide
theorem row190 (u : TypeId) (h : Tryz.prog.typeName? 3 u = some "*errors.errorString") : u = 190 :=
 typeName_ptr_named (nm := "errors.errorString") (by rw [starE]; kernel_rfl) (by kernel_rfl) (by decide) u (by rw [starE]; exact h)
theorem row1 : (((begin Tryz.prog (fun _ _ => 0) default).world.heap[1]?).bind Obj.row?).map (·.2) = some 97 := by kernel_rfl
theorem row2 : (((begin Tryz.prog (fun _ _ => 0) default).world.heap[2]?).bind Obj.row?).map (·.2) = some 97 := by kernel_rfl
theorem row3 : (((begin Tryz.prog (fun _ _ => 0) default).world.heap[3]?).bind Obj.row?).map (·.2) = some 183 := by kernel_rfl
theorem gsz : 3 < Tryz.prog.globals.size := of_decide_eq_true (by kernel_rfl)
theorem block_of {W : World} {g t : Nat} (hs : W.ShapedOpen Tryz.prog) (hg : g < Tryz.prog.globals.size) (h : (((begin Tryz.prog (fun _ _ => 0) default).world.heap[g]?).bind Obj.row?).map (·.2) = some t) {name : String} (hn : Tryz.prog.globalNamed name = some g) {cs : Array Value} (hv : W.var? Tryz.prog name = some cs) : W.heap[g]? = some (.cells cs t) := by
 obtain ⟨⟨zero, t'⟩, h1, h2⟩ := Option.map_eq_some_iff.1 h
 simp only at h2
 subst h2
 obtain ⟨cs', h3, _⟩ := hs.1 g zero t' hg h1
 unfold World.var? at hv
 rw [hn] at hv
 simp only [Option.bind_some, h3, Option.some.injEq] at hv
 rw [h3, hv]
theorem globW_of {W : World} (hs : W.ShapedOpen Tryz.prog) (h : laidMetH Tryz.prog laidL W) : Go.Aw.GlobW W := by
 rw [MakeChecks.laidMetH_plain _ _ _ (by kernel_rfl)] at h
 have h2 : laidMet Tryz.prog (("internal/strconv.uint64pow10", Lib.tabData .u64 Lib.pow10Tab) :: [("strconv.ErrRange", Rows.laid_strconv_ErrRange), ("strconv.ErrSyntax", Rows.laid_strconv_ErrSyntax)]) W := h.tail.tail
 have v3 : Lib.TabIs Tryz.prog W "internal/strconv.uint64pow10" .u64 Lib.pow10Tab := Lib.tabIs_of_head gTab gTabT Tryz.underlying183 Tryz.underlying144 cells144 cells183 h2
 have h3 : laidMet Tryz.prog (("strconv.ErrRange", .iface "*errors.errorString" (.ptr (.agg [.lit (.string [118, 97, 108, 117, 101, 32, 111, 117, 116, 32, 111, 102, 32, 114, 97, 110, 103, 101])]))) :: [("strconv.ErrSyntax", Rows.laid_strconv_ErrSyntax)]) W := h2.tail
 obtain ⟨a2, s2, v2, _⟩ := laid_sentinel h3 gRan gRanT Tryz.underlying97 row190 Tryz.underlying190 Tryz.underlying192 rfl rfl Tryz.underlying9 cells192 cells9'
 have h4 : laidMet Tryz.prog (("strconv.ErrSyntax", .iface "*errors.errorString" (.ptr (.agg [.lit (.string [105, 110, 118, 97, 108, 105, 100, 32, 115, 121, 110, 116, 97, 120])]))) :: []) W := h3.tail
 obtain ⟨a1, s1, v1, _⟩ := laid_sentinel h4 gSyn gSynT Tryz.underlying97 row190 Tryz.underlying190 Tryz.underlying192 rfl rfl Tryz.underlying9 cells192 cells9'
 have b3 := block_of hs gsz row3 gTab v3
 have b2 := block_of hs (Nat.lt_trans (by decide) gsz) row2 gRan v2
 have b1 := block_of hs (Nat.lt_trans (by decide) gsz) row1 gSyn v1
 intro p hp
 simp only [Go.Aw.globs, List.mem_cons, List.not_mem_nil, or_false] at hp
 rcases hp with rfl | rfl | rfl
 ·exact ⟨_, b3, 183, _, rfl⟩
 ·exact ⟨_, b2, _, _, 97, _, rfl⟩
 ·exact ⟨_, b1, _, _, 97, _, rfl⟩
end Go.Proofs.YtocjjlmnkpnjbaaGreatDoor
