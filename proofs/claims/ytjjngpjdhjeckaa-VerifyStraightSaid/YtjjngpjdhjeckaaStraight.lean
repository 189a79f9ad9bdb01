/- 'Rows.VerifyStraightSaid': for all inputs the law returns true. No condition. -/
import Derived.Test.YtjjngpjdhjeckaaRows
import Derived.WalkKit
import Derived.ProofKit
import Derived.OpenShut
import Derived.ShutString
import Derived.ChangeMaps5
import Derived.ChangeOld
import Derived.Below
import Derived.Test.YtjjngpjdhjeckaaAS7
namespace Go.Proofs.Ytjjngpjdhjeckaa.verifyStraightDone
open Go.ChangeShapes Go.WideShapes Go.ChangeAt Go.RowKit
open Go.ChangeMaps (open_string shut_string)
set_option linter.unusedVariables false
set_option linter.unusedSimpArgs false
theorem own : ownKnob Try.prog.godebug = none := by kernel_rfl
theorem laidOut : laidOutB Try.prog = true := by kernel_rfl
theorem walk (q0 : Go.Aw.T.Prog) (v0 : Value) (xs1 : List Go.Aw.T.Val) (v1 : Value) (xs2 : List Int) (v2 : Value) (w : World) (R0 : ∀ m : Go.Aw.Mem, m.w = w → m.H = Go.Aw.AHeap.none → Go.Aw.Rv m (q0.av) v0) (R1 : ∀ m : Go.Aw.Mem, m.w = w → m.H = Go.Aw.AHeap.none → Go.Aw.Rv m (.vs 3 (xs1.map Go.Aw.T.Val.row)) v1) (R2 : ∀ m : Go.Aw.Mem, m.w = w → m.H = Go.Aw.AHeap.none → Go.Aw.Rv m (.vs 1 (xs2.map Go.Aw.T.irow)) v2) : Calls Try.prog 13 #[v0, v1, v2] w fun e w' => e = .returned (.bool true) ∧ Below w.heap.size w w' := by
 refine (Go.Aw.calls_at (Go.Aw.T.p13 Go.Aw.T.repeatOk q0 xs1 xs2) w [v0, v1, v2] (fun m hw hH => ?_)).mono ?_
 ·simp only [Go.Aw.RvL]
  exact ⟨_, _, rfl, R0 m hw hH, _, _, rfl, R1 m hw hH, _, _, rfl, R2 m hw hH, rfl⟩
 rintro e w' ⟨⟨v, rfl, m, hv⟩, hb⟩
 simp only [Go.Aw.Rv] at hv
 subst hv
 exact ⟨rfl, hb⟩
set_option maxRecDepth 100000 in
theorem lifted (os : Os) (started : os.Started) (H : Type) (enc : TypeId × Value → H) :
  ReturnsInHanded {} Try.checked os 13 .any (Rows.verifyStraightSpec.pre6 enc Try.prog Try.f13 Rows.verifyStraightRow.domain false) (Rows.verifyStraightSpec.post enc Try.prog Try.f13 false true false false) := by
 refine returnsInHanded_of_change (C := Try.checked) own started (by kernel_rfl) Try.func13
  (ChangeSpec.witness6 (enc := enc) (C := Try.checked) false ⟨#[], #[.agg #[.string ByteArray.empty, .int .i64 0, .slice none 0 0, .slice none 0 0, .slice none 0 0, .slice none 0 0], .slice none 0 0, .slice none 0 0], []⟩ 8 (by kernel_rfl) (by kernel_rfl) (by kernel_rfl) (by kernel_rfl)) ?_
 intro W base args ds gs before hval0 hW hcnd _
 have hval : ∀ (j : Nat) t v, Try.f13.params[j]? = some t → args[j]? = some v → Value.okWide Try.prog W .any base t v := hval0
 have hW' := hW
 obtain ⟨p, q, hA0, hV, rfl, hfz, hnd⟩ := hW
 have hA : DataW.TrodAll enc Try.prog W 0 (fun _ => true) true Try.f13.params.toList args.toList ds p := hA0
 rw [Try.params13] at hA hval
 obtain ⟨v0, vs0, d0, ds0, p0, q0, hargs, rfl, rfl, h0, r0⟩ := trodAll_cons hA
 obtain ⟨v1, vs1, d1, ds1, p1, q1, rfl, rfl, rfl, h1, r1⟩ := trodAll_cons r0
 obtain ⟨v2, vs2, d2, ds2, p2, q2, rfl, rfl, rfl, h2, r2⟩ := trodAll_cons r1
 obtain ⟨rfl, rfl, rfl⟩ := trodAll_nil r2
 obtain rfl : args = #[v0, v1, v2] := by cases args; simp_all
 obtain ⟨rfl, rfl⟩ := trodVars_none hV
 have k0 := h0
 have lt0 : ∀ x ∈ p0, x.block < W.heap.size := by obtain ⟨m, hm⟩ := k0; exact DataW.trod_lt m _ _ _ hm
 obtain ⟨q0, R0⟩ := Go.Aw.T.open27 (hval 0 27 v0 rfl rfl) h0
 have k1 := h1
 have lt1 : ∀ x ∈ p1, x.block < W.heap.size := by obtain ⟨m, hm⟩ := k1; exact DataW.trod_lt m _ _ _ hm
 obtain ⟨xs1, R1⟩ := Go.Aw.T.open54 (hval 1 54 v1 rfl rfl) h1
 have k2 := h2
 have lt2 : ∀ x ∈ p2, x.block < W.heap.size := by obtain ⟨m, hm⟩ := k2; exact DataW.trod_lt m _ _ _ hm
 obtain ⟨xs2, R2⟩ := Go.Aw.T.open28 (hval 2 28 v2 rfl rfl) h2
 clear hA0 hval0
 simp only [List.append_nil] at hW'
 refine (walk q0 v0 xs1 v1 xs2 v2 W R0 R1 R2).mono fun e W' ⟨he, bel⟩ => ?_
 subst he
 exact ⟨_, rfl, _, _, _, [], _, [], hW', trodAll_mk1 (shut_bool Try.underlying4 _), (trodAll_cons_mk (Below.trod laidOut (by kernel_rfl) (of_decide_eq_true (by kernel_rfl)) k0 bel lt0) (trodAll_cons_mk (Below.trod laidOut (by kernel_rfl) (of_decide_eq_true (by kernel_rfl)) k1 bel lt1) (trodAll_cons_mk (Below.trod laidOut (by kernel_rfl) (of_decide_eq_true (by kernel_rfl)) k2 bel lt2) trodAll_mk0))), rfl, bel.frame _, fun h => by cases h⟩
theorem over : Rows.verifyStraightRow.holds Try.pinned (OpenSpec.ofChange Rows.verifyStraightSpec) :=
 OpenClaim.holds_of_wide 13 Try.f13 rfl rfl rfl rfl rfl rfl rfl ⟨rfl, rfl, rfl, rfl, rfl⟩ rfl rfl rfl rfl rfl (by kernel_rfl) Try.func13 (by kernel_rfl)
  (of_decide_eq_true (by kernel_rfl)) (by unfold Func.isWrapper; first | (rw [if_pos (by decide +kernel)]; kernel_rfl) | (rw [if_neg (by decide +kernel)]; exact ⟨rfl, rfl⟩))
  (fun os started H enc _ => lifted os started H enc)
theorem proved : Rows.VerifyStraightSaid := over
#print axioms proved
end Go.Proofs.Ytjjngpjdhjeckaa.verifyStraightDone
