/- 'Rows.ServiceEqualCardSaid': for all inputs the law returns true; the listed variables are tied to the program's text. No other condition. -/
import Derived.Test.YtjkbgcgljnldeaaGreatDoorRows
import Derived.Test.YtjkbgcgljnldeaaGreatDoorTie
import Derived.Test.YtjkbgcgljnldeaaGreatDoorCards
import Derived.SevenTiedAt
import Derived.WalkKit
import Derived.ProofKit
import Derived.OpenShut
import Derived.ShutString
import Derived.ChangeMaps5
import Derived.ChangeOld
import Derived.ChangeSame
import Derived.LaidMore
import Derived.Stop.Joined
import Derived.Below
import Derived.Test.YtjkbgcgljnldeaaGreatDoorAS9
namespace Go.Proofs.YtjkbgcgljnldeaaGreatDoor.serviceEqualDone
open Go.ChangeShapes Go.WideShapes Go.ChangeAt Go.RowKit
open Go.ChangeMaps (open_string shut_string)
set_option linter.unusedVariables false
set_option linter.unusedSimpArgs false
theorem own : ownKnob Tryz.prog.godebug = none := by kernel_rfl
theorem laidOut : laidOutB Tryz.prog = true := by kernel_rfl
theorem walk (q0 : Go.Aw.Sv) (v0 : Value) (q1 : Go.Aw.Sv) (v1 : Value) (w : World) (hg : Go.Aw.GlobW w) (R0 : ∀ m : Go.Aw.Mem, m.w = w → m.H = Go.Aw.AHeap.none → Go.Aw.Rv m (q0.av) v0) (K0 : q0.ok reachBytes) (R1 : ∀ m : Go.Aw.Mem, m.w = w → m.H = Go.Aw.AHeap.none → Go.Aw.Rv m (q1.av) v1) (K1 : q1.ok reachBytes) : Calls Tryz.prog 5 #[v0, v1] w fun e w' => e = .returned (.bool true) ∧ Below w.heap.size w w' := by
 refine (Go.Aw.calls_at (Go.Aw.T.N.q5 (R := reachBytes) (by decide) Go.Aw.T.N.h11 q0 q1 K0 K1) w [v0, v1] hg (fun m hw hH => ?_)).mono ?_
 ·simp only [Go.Aw.RvL]
  exact ⟨_, _, rfl, R0 m hw hH, _, _, rfl, R1 m hw hH, rfl⟩
 rintro e w' ⟨⟨v, rfl, m, hv⟩, hb⟩
 simp only [Go.Aw.Rv] at hv
 subst hv
 exact ⟨rfl, hb⟩
set_option maxRecDepth 100000 in
theorem lifted (os : Os) (started : os.Started) (H : Type) (enc : TypeId × Value → H) :
  ReturnsInHanded {} Tryz.checked os 5 .any (fun w args => (Rows.serviceEqualSpec.pre enc Tryz.prog Tryz.f5 [] false w args ∧ laidMetH Tryz.prog laidL w) ∧ sizedMet enc Tryz.prog Tryz.f5 (OpenSpec.ofChange Rows.serviceEqualSpec) false w args)
   (Rows.serviceEqualSpec.post enc Tryz.prog Tryz.f5 false true false false) := by
 refine returns_laid_sized (C := Tryz.checked) (X := fun w _ => laidMetH Tryz.prog laidL w) (fun _ _ _ hh h => h.of_heap hh) own started (by kernel_rfl) Tryz.func5
  (ChangeSpec.witness_shaped (enc := enc) (C := Tryz.checked) (os := os) (X := fun w _ => laidMetH Tryz.prog laidL w) false (World.laidAll Tryz.prog os laidL) #[.agg #[.string ByteArray.empty, .string ByteArray.empty, .string ByteArray.empty, .slice none 0 0, .slice none 0 0, .slice none 0 0], .agg #[.string ByteArray.empty, .string ByteArray.empty, .string ByteArray.empty, .slice none 0 0, .slice none 0 0, .slice none 0 0]] 8 (World.laidAll_os _ _ _) (World.shaped_of_ZipB (by kernel_rfl) (by kernel_rfl)) (by kernel_rfl) (by kernel_rfl) (by kernel_rfl) (door_met os _)) ?_
 intro W base args ds gs before hval0 hW hZ hL hSh
 have hval : ∀ (j : Nat) t v, Tryz.f5.params[j]? = some t → args[j]? = some v → Value.okWide Tryz.prog W .any base t v := hval0
 have hW' := hW
 obtain ⟨p, q, hA0, hV, rfl, hfz, hnd⟩ := hW
 have hA : DataW.TrodAll enc Tryz.prog W 0 (fun _ => true) true Tryz.f5.params.toList args.toList ds p := hA0
 have hpr : Tryz.f5.params.toList = [35, 35] := by rw [Tryz.params5]
 have hZ' : (DataW.weightsEach Tryz.prog (Tryz.f5.params.toList ++ Rows.serviceEqualSpec.plain.varTypes Tryz.prog) (ds ++ gs)).all (· ≤ reachBytes) = true := hZ
 rw [Tryz.params5] at hA hval
 obtain ⟨v0, vs0, d0, ds0, p0, q0, hargs, rfl, rfl, h0, r0⟩ := trodAll_cons hA
 obtain ⟨v1, vs1, d1, ds1, p1, q1, rfl, rfl, rfl, h1, r1⟩ := trodAll_cons r0
 obtain ⟨rfl, rfl, rfl⟩ := trodAll_nil r1
 obtain rfl : args = #[v0, v1] := by cases args; simp_all
 obtain ⟨rfl, rfl⟩ := trodVars_none hV
 have hsz := fun n hn => of_decide_eq_true (List.all_eq_true.1 hZ' n hn)
 have k0 := h0
 have lt0 : ∀ x ∈ p0, x.block < W.heap.size := by obtain ⟨m, hm⟩ := k0; exact DataW.trod_lt m _ _ _ hm
 obtain ⟨q0, K0, R0⟩ := Go.Aw.T.N.open35 (R := reachBytes) (fun n hn => hsz n (by simp only [hpr, List.cons_append, List.nil_append, List.append_nil, DataW.weightsEach, List.mem_append]; exact (.inl hn))) (hval 0 35 v0 rfl rfl) h0
 have k1 := h1
 have lt1 : ∀ x ∈ p1, x.block < W.heap.size := by obtain ⟨m, hm⟩ := k1; exact DataW.trod_lt m _ _ _ hm
 obtain ⟨q1, K1, R1⟩ := Go.Aw.T.N.open35 (R := reachBytes) (fun n hn => hsz n (by simp only [hpr, List.cons_append, List.nil_append, List.append_nil, DataW.weightsEach, List.mem_append]; exact (.inr (.inl hn)))) (hval 1 35 v1 rfl rfl) h1
 clear hA0 hval0
 simp only [List.append_nil] at hW'
 refine (walk q0 v0 q1 v1 W (globW_of hSh hL) R0 K0.1 R1 K1.1).mono fun e W' ⟨he, bel⟩ => ?_
 subst he
 exact ⟨_, rfl, _, _, _, [], _, [], hW', trodAll_mk1 (shut_bool Tryz.underlying4 _), (trodAll_cons_mk (Below.trod laidOut (by kernel_rfl) (of_decide_eq_true (by kernel_rfl)) k0 bel lt0) (trodAll_cons_mk (Below.trod laidOut (by kernel_rfl) (of_decide_eq_true (by kernel_rfl)) k1 bel lt1) trodAll_mk0)), rfl, bel.frame _, fun h => by cases h⟩
theorem over : Rows.serviceEqualRow.holds Tryz.pinned (OpenSpec.ofChange Rows.serviceEqualSpec) :=
 OpenClaim.holds_of_wide 5 Tryz.f5 rfl rfl rfl rfl rfl rfl rfl ⟨rfl, rfl, rfl, rfl, rfl⟩ rfl rfl rfl rfl rfl (by kernel_rfl) Tryz.func5 (by kernel_rfl)
  (of_decide_eq_true (by kernel_rfl)) (by unfold Func.isWrapper; first | (rw [if_pos (by decide +kernel)]; kernel_rfl) | (rw [if_neg (by decide +kernel)]; exact ⟨rfl, rfl⟩))
  (fun os started H enc _ => lifted os started H enc)
set_option maxRecDepth 1000000 in
theorem proved : Rows.ServiceEqualCardSaid :=
 Claim7.holds_tied_plain_at .later [] [.data, .data, .data, .data, .pinned] true (true, "b18f9cdbc4b8fdf7debfa3439e6aac50da26924336a3cc5c01cdde5858bb05e5") true
  over (fun _ h => by cases h) (by kernel_rfl) (fun _ h => by cases h) serviceEqual_row_tie rfl ⟨rfl, rfl⟩ (by kernel_rfl) rfl
  (fun f fn hf hfn => by
   obtain rfl : f = 5 := Option.some.inj ((show Tryz.prog.funcNamed "farandole/farandolelaw33.ServiceEqual" = some 5 by kernel_rfl).symm.trans hf) |>.symm
   obtain rfl : fn = Tryz.f5 := (Option.some.inj (Tryz.func5.symm.trans hfn)).symm
   refine ⟨by kernel_rfl, fun j t ht => ?_⟩
   rw [Tryz.params5] at ht
   rcases j with _ | _ | _ | j <;> simp at ht <;> subst ht <;> exact (by kernel_rfl))
  (by kernel_rfl)
#print axioms proved
end Go.Proofs.YtjkbgcgljnldeaaGreatDoor.serviceEqualDone
