/- 'Rows.ServicePrecedenceCardSaid': for all inputs the law returns true; the listed variables are tied to the program's text. No other condition. -/
import Derived.Test.YtjkbgcgljnldeaaGreatDoorRows
import Derived.Test.YtjkbgcgljnldeaaGreatDoorTie
import Derived.Test.YtjkbgcgljnldeaaGreatDoorCards
import Derived.SevenTiedAt
import Derived.WalkKit
import Derived.ProofKit
import Derived.OpenShut
import Derived.ShutString
import Derived.ChangeMaps5
import Derived.ChangeOld
import Derived.ChangeSame
import Derived.LaidMore
import Derived.Stop.Joined
import Derived.Below
import Derived.Test.YtjkbgcgljnldeaaGreatDoorPS12
namespace Go.Proofs.YtjkbgcgljnldeaaGreatDoor.servicePrecedenceDone
open Go.ChangeShapes Go.WideShapes Go.ChangeAt Go.RowKit
open Go.ChangeMaps (open_string shut_string)
set_option linter.unusedVariables false
set_option linter.unusedSimpArgs false
theorem own : ownKnob Tryz.prog.godebug = none := by kernel_rfl
theorem walk (a0 : Int) (a1 : Int) (a2 : Bool) (w : World) (hg : Go.Aw.GlobW w) (w0 : (Lit.int .u8 a0).wf = true) (w1 : (Lit.int .u8 a1).wf = true)  : Calls Tryz.prog 6 #[.int .u8 a0, .int .u8 a1, .bool a2] w fun e w' => e = .returned (.bool true) ∧ Below w.heap.size w w' := by
 refine (Go.Aw.calls_at (Go.Aw.T.N.q6I a0 a1 a2 w0 w1) w [.int .u8 a0, .int .u8 a1, .bool a2] hg (fun m hw hH => ?_)).mono ?_
 ·simp only [Go.Aw.RvL]
  exact ⟨_, _, rfl, by simp only [Go.Aw.Rv], _, _, rfl, by simp only [Go.Aw.Rv], _, _, rfl, by simp only [Go.Aw.Rv], rfl⟩
 rintro e w' ⟨⟨v, rfl, m, hv⟩, hb⟩
 simp only [Go.Aw.Rv] at hv
 subst hv
 exact ⟨rfl, hb⟩
set_option maxRecDepth 100000 in
theorem lifted (os : Os) (started : os.Started) (H : Type) (enc : TypeId × Value → H) :
  ReturnsInHanded {} Tryz.checked os 6 .any (fun w args => (Rows.servicePrecedenceSpec.pre enc Tryz.prog Tryz.f6 [] false w args ∧ laidMetH Tryz.prog laidL w) ∧ sizedMet enc Tryz.prog Tryz.f6 (OpenSpec.ofChange Rows.servicePrecedenceSpec) false w args)
   (Rows.servicePrecedenceSpec.post enc Tryz.prog Tryz.f6 false true false false) := by
 refine returns_laid_sized (C := Tryz.checked) (X := fun w _ => laidMetH Tryz.prog laidL w) (fun _ _ _ hh h => h.of_heap hh) own started (by kernel_rfl) Tryz.func6
  (ChangeSpec.witness_shaped (enc := enc) (C := Tryz.checked) (os := os) (X := fun w _ => laidMetH Tryz.prog laidL w) false (World.laidAll Tryz.prog os laidL) #[.int .u8 0, .int .u8 0, .bool false] 8 (World.laidAll_os _ _ _) (World.shaped_of_ZipB (by kernel_rfl) (by kernel_rfl)) (by kernel_rfl) (by kernel_rfl) (by kernel_rfl) (door_met os _)) ?_
 intro W base args ds gs before hval0 hW hZ hL hSh
 have hval : ∀ (j : Nat) t v, Tryz.f6.params[j]? = some t → args[j]? = some v → Value.okWide Tryz.prog W .any base t v := hval0
 have hW' := hW
 obtain ⟨p, q, hA0, hV, rfl, hfz, hnd⟩ := hW
 have hA : DataW.TrodAll enc Tryz.prog W 0 (fun _ => true) true Tryz.f6.params.toList args.toList ds p := hA0
 have hpr : Tryz.f6.params.toList = [5, 5, 4] := by rw [Tryz.params6]
 have hZ' : (DataW.weightsEach Tryz.prog (Tryz.f6.params.toList ++ Rows.servicePrecedenceSpec.plain.varTypes Tryz.prog) (ds ++ gs)).all (· ≤ reachBytes) = true := hZ
 rw [Tryz.params6] at hA hval
 obtain ⟨v0, vs0, d0, ds0, p0, q0, hargs, rfl, rfl, h0, r0⟩ := trodAll_cons hA
 obtain ⟨v1, vs1, d1, ds1, p1, q1, rfl, rfl, rfl, h1, r1⟩ := trodAll_cons r0
 obtain ⟨v2, vs2, d2, ds2, p2, q2, rfl, rfl, rfl, h2, r2⟩ := trodAll_cons r1
 obtain ⟨rfl, rfl, rfl⟩ := trodAll_nil r2
 obtain rfl : args = #[v0, v1, v2] := by cases args; simp_all
 obtain ⟨rfl, rfl⟩ := trodVars_none hV
 have hsz := fun n hn => of_decide_eq_true (List.all_eq_true.1 hZ' n hn)
 obtain ⟨a0, rfl, rfl, rfl, w0⟩ := open_int Tryz.underlying5 (hval 0 5 v0 rfl rfl) h0
 obtain ⟨a1, rfl, rfl, rfl, w1⟩ := open_int Tryz.underlying5 (hval 1 5 v1 rfl rfl) h1
 obtain ⟨a2, rfl, rfl, rfl⟩ := open_bool Tryz.underlying4 (hval 2 4 v2 rfl rfl) h2
 clear hA0 hval0
 simp only [List.append_nil] at hW'
 refine (walk a0 a1 a2 W (globW_of hSh hL) w0 w1).mono fun e W' ⟨he, bel⟩ => ?_
 subst he
 exact ⟨_, rfl, _, _, _, [], _, [], hW', trodAll_mk1 (shut_bool Tryz.underlying4 _), (trodAll_cons_mk (shut_int Tryz.underlying5 w0) (trodAll_cons_mk (shut_int Tryz.underlying5 w1) (trodAll_cons_mk (shut_bool Tryz.underlying4 a2) trodAll_mk0))), rfl, bel.frame _, fun h => by cases h⟩
theorem over : Rows.servicePrecedenceRow.holds Tryz.pinned (OpenSpec.ofChange Rows.servicePrecedenceSpec) :=
 OpenClaim.holds_of_wide 6 Tryz.f6 rfl rfl rfl rfl rfl rfl rfl ⟨rfl, rfl, rfl, rfl, rfl⟩ rfl rfl rfl rfl rfl (by kernel_rfl) Tryz.func6 (by kernel_rfl)
  (of_decide_eq_true (by kernel_rfl)) (by unfold Func.isWrapper; first | (rw [if_pos (by decide +kernel)]; kernel_rfl) | (rw [if_neg (by decide +kernel)]; exact ⟨rfl, rfl⟩))
  (fun os started H enc _ => lifted os started H enc)
set_option maxRecDepth 1000000 in
theorem proved : Rows.ServicePrecedenceCardSaid :=
 Claim7.holds_tied_plain_at .later [] [.data, .data, .data, .data, .pinned] true (true, "b18f9cdbc4b8fdf7debfa3439e6aac50da26924336a3cc5c01cdde5858bb05e5") true
  over (fun _ h => by cases h) (by kernel_rfl) (fun _ h => by cases h) servicePrecedence_row_tie rfl ⟨rfl, rfl⟩ (by kernel_rfl) rfl
  (fun f fn hf hfn => by
   obtain rfl : f = 6 := Option.some.inj ((show Tryz.prog.funcNamed "farandole/farandolelaw33.ServicePrecedence" = some 6 by kernel_rfl).symm.trans hf) |>.symm
   obtain rfl : fn = Tryz.f6 := (Option.some.inj (Tryz.func6.symm.trans hfn)).symm
   refine ⟨by kernel_rfl, fun j t ht => ?_⟩
   rw [Tryz.params6] at ht
   rcases j with _ | _ | _ | _ | j <;> simp at ht <;> subst ht <;> exact (by kernel_rfl))
  (by kernel_rfl)
#print axioms proved
end Go.Proofs.YtjkbgcgljnldeaaGreatDoor.servicePrecedenceDone
