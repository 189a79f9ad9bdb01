/- Part of a proof; own work. -/
import Derived.Test.YtjjngpjdhjeckaaAS5
namespace Go.Aw.T
open Go Go.Aw Go.Proofs Go.RowKit
set_option maxRecDepth 100000
attribute [local irreducible] Go.Aw.DM Go.Aw.AHeap.setB Go.Aw.AHeap.setT
attribute [local go_sem] peval EOpd.ev Env.get binInt binStr binBool buildParts AV.cells AV.okc setRange minmaxAV AV.one AV.ofCells eqCells eqCell bslRows cond_true cond_false beq_self_eq_true Bool.not_true Bool.not_false beq_true beq_false eq_self if_true Option.some.injEq List.length_cons List.length_nil List.take_succ_cons List.take_zero List.drop_succ_cons List.drop_zero List.set_cons_succ List.set_cons_zero List.nil_append List.cons_append List.append_nil and_self Option.map_some List.map_cons List.map_nil Bool.false_eq_true if_false Nat.zero_add Nat.add_zero true_and and_true Bool.and_true Bool.true_and List.getElem?_cons_zero List.getElem?_cons_succ Nat.zero_le Nat.le_refl
set_option linter.unusedSimpArgs false
set_option linter.unusedVariables false
theorem rvC_le {m : Mem} : ∀ {az bs : List AV} {b o : Nat}, AVLes az bs → RvC m az b o → RvC m bs b o
 | [], bs, _, _, h, _ => by simp only [AVLes] at h; subst h; simp only [RvC]
 | a :: az, _, b, o, h, k => by
  obtain ⟨c, cs, rfl, h1, h2⟩ := h
  simp only [RvC] at k ⊢
  obtain ⟨⟨v, g1, g2, g3, g4⟩, g5⟩ := k
  exact ⟨⟨v, g1, g2, g3, h1 _ _ g4⟩, rvC_le h2 g5⟩
theorem avles_len : ∀ {az bs : List AV}, AVLes az bs → bs.length = az.length
 | [], _, h => by simp only [AVLes] at h; subst h; rfl
 | _ :: _, _, h => by obtain ⟨c, cs, rfl, _, h2⟩ := h; simp [avles_len h2]
def AVLr : List (List AV) → List (List AV) → Prop
 | [], l => l = []
 | r :: rs, l => ∃ r' rs', l = r' :: rs' ∧ AVLes r r' ∧ AVLr rs rs'
theorem avlr_nil : AVLr [] [] := rfl
theorem avlr_cons {r r' : List AV} {rs rs' : List (List AV)} (h : AVLes r r') (k : AVLr rs rs') : AVLr (r :: rs) (r' :: rs') := ⟨r', rs', rfl, h, k⟩
theorem avlr_len : ∀ {az bs : List (List AV)}, AVLr az bs → bs.length = az.length
 | [], _, h => by simp only [AVLr] at h; subst h; rfl
 | _ :: _, _, h => by obtain ⟨c, cs, rfl, _, h2⟩ := h; simp [avlr_len h2]
theorem rvR_le {m : Mem} {n : Nat} : ∀ {az bs : List (List AV)} {b o : Nat}, AVLr az bs → RvR m n az b o → RvR m n bs b o
 | [], bs, _, _, h, _ => by simp only [AVLr] at h; subst h; simp only [RvR]
 | a :: az, _, b, o, h, k => by
  obtain ⟨c, cs, rfl, h1, h2⟩ := h
  simp only [RvR] at k ⊢
  exact ⟨(avles_len h1).trans k.1, rvC_le h1 k.2.1, rvR_le h2 k.2.2⟩
theorem avle_vs {n : Nat} {az bs : List (List AV)} (h : AVLr az bs) : AVLe (.vs n az) (.vs n bs) := fun m v k => by
 have e := avlr_len h
 simp only [Rv] at k ⊢
 obtain ⟨a, len, cap, h1, h2, h3, h4⟩ := k
 refine ⟨a, len, cap, h1, h2.trans e.symm, h3, ?_⟩
 rcases h4 with h4 | ⟨b, o, g1, g2⟩
 ·exact .inl (e.trans h4)
 ·exact .inr ⟨b, o, g1, rvR_le h g2⟩
def pA : Prog := ⟨[115], 0, [⟨[110], ⟨1, 0, 9⟩, ⟨1, 0, []⟩⟩], [], [⟨1, 0, -1, 0⟩], [⟨3, 0, []⟩, ⟨24, 0, []⟩]⟩
def qA : Prog := ⟨[115], 0, [⟨[110], ⟨1, 0, 9⟩, ⟨1, 0, []⟩⟩], [], [⟨1, 0, -1, 0⟩], [⟨2, 0, [97]⟩, ⟨11, 0, []⟩, ⟨24, 0, []⟩]⟩
def dsA : List Decl_ := [⟨[109], [⟨[120], ⟨1, 0, 9⟩⟩], 0, [], []⟩]
theorem checkA : checkP pA dsA = (0, 0) := by decide +kernel
theorem checkB : checkP qA dsA = (1, 11) := by decide +kernel
theorem costA : costP pA 0 [] [1] = (2, 0, 0) := by decide +kernel
theorem le_dsA : AVLe (.vs 5 [[.str [109], .vs 4 [[.str [120], .int .i64 1, .int .i64 0, .int .i64 9]], .int .i64 0, .nilS, .nilS]]) (.vs 5 (dsA.map Decl_.row)) :=
 avle_vs (avlr_cons (avles_cons (AVLe.refl _) (avles_cons (AVLe.refl _) (avles_cons (AVLe.refl _) (avles_cons AVLe.nil (avles_cons AVLe.nil avles_nil))))) avlr_nil)
theorem le_prog {nm : List UInt8} {rl : Int} {vs : List Var_} {os : List Of_} {cs : List Ins_} : AVLe (.agg [.str nm, .int .i64 rl, .vs 7 (vs.map Var_.row), .nilS, .vs 4 (os.map Of_.row), .vs 3 (cs.map Ins_.row)]) (Prog.av ⟨nm, rl, vs, [], os, cs⟩) :=
 avle_agg (avles_cons (AVLe.refl _) (avles_cons (AVLe.refl _) (avles_cons (AVLe.refl _) (avles_cons AVLe.nil (avles_cons (AVLe.refl _) (avles_cons (AVLe.refl _) avles_nil))))))
set_option maxHeartbeats 4000000 in
theorem p15 : Pure Try.prog 15 [] (.bool true) := by
 have hd : ∀ d ∈ dsA, d.fields.length ≤ 1000 := fun d h => by simp [dsA] at h; subst h; simp
 have c1 := p21 pA dsA hd
 have c2 := p21 qA dsA hd
 have c3 := p17 pA 0 [] [1] (by simp)
 rw [checkA] at c1
 rw [checkB] at c2
 rw [costA] at c3
 refine pure_intro mo Try.func15 c15 fun H => ?_
 unfold e15 r15
 simp only [initEnv, initFrom]
 repeat' first|(apply Sp.go;·constructor<;>first|exact ss|(change _=_;first|(simp only[go_sem,Nat.reduceBEq,Nat.reduceAdd,Nat.reduceLeDiff,reduceIte]<;>rfl)|rfl)|exact Nat.le_of_ble_eq_true rfl|decide|(repeat' first|(apply Lk.go;constructor)|assumption|exact nb ‹_› ‹_›|exact nt ‹_› ‹_›))|(intro b hb;repeat first|(refine fe hb ?_;intro _ _ hb)|(refine fT hb ?_;intro hb))|refine gA rfl ?_|refine gB rfl ?_|apply cT rfl|apply cF rfl|(apply DM.gbT;rfl)|(apply DM.gbF;rfl)|intro h
 (refine AM.reg [.agg [.int .i64 1, .int .i64 0, .str []]] ?_; simp only [annotate, AV.rows])
 repeat' first|(apply Sp.go;·constructor<;>first|exact ss|(change _=_;first|(simp only[go_sem,Nat.reduceBEq,Nat.reduceAdd,Nat.reduceLeDiff,reduceIte]<;>rfl)|rfl)|exact Nat.le_of_ble_eq_true rfl|decide|(repeat' first|(apply Lk.go;constructor)|assumption|exact nb ‹_› ‹_›|exact nt ‹_› ‹_›))|(intro b hb;repeat first|(refine fe hb ?_;intro _ _ hb)|(refine fT hb ?_;intro hb))|refine rt ?_|refine gA rfl ?_|refine gB rfl ?_|apply cT rfl|apply cF rfl|(apply DM.gbT;rfl)|(apply DM.gbF;rfl)|(apply DM.pcRs (p29 0); (· simp only [go_sem, Nat.reduceBEq, Nat.reduceAdd] <;> rfl); (· exact AVLes.refl _))|intro h
 apply DM.pcs c1
 ·simp only [go_sem, Nat.reduceBEq, Nat.reduceAdd] <;> rfl
 ·exact avles_cons (le_prog (nm := [115]) (rl := 0) (vs := pA.vars) (os := pA.os) (cs := pA.code)) (avles_cons le_dsA avles_nil)
 repeat' first|(apply Sp.go;·constructor<;>first|exact ss|(change _=_;first|(simp only[go_sem,Nat.reduceBEq,Nat.reduceAdd,Nat.reduceLeDiff,reduceIte]<;>rfl)|rfl)|exact Nat.le_of_ble_eq_true rfl|decide|(repeat' first|(apply Lk.go;constructor)|assumption|exact nb ‹_› ‹_›|exact nt ‹_› ‹_›))|(intro b hb;repeat first|(refine fe hb ?_;intro _ _ hb)|(refine fT hb ?_;intro hb))|refine rt ?_|refine gA rfl ?_|refine gB rfl ?_|apply cT rfl|apply cF rfl|(apply DM.gbT;rfl)|(apply DM.gbF;rfl)|intro h
 apply DM.pcs c2
 ·simp only [go_sem, Nat.reduceBEq, Nat.reduceAdd] <;> rfl
 ·exact avles_cons (le_prog (nm := [115]) (rl := 0) (vs := qA.vars) (os := qA.os) (cs := qA.code)) (avles_cons le_dsA avles_nil)
 repeat' first|(apply Sp.go;·constructor<;>first|exact ss|(change _=_;first|(simp only[go_sem,Nat.reduceBEq,Nat.reduceAdd,Nat.reduceLeDiff,reduceIte]<;>rfl)|rfl)|exact Nat.le_of_ble_eq_true rfl|decide|(repeat' first|(apply Lk.go;constructor)|assumption|exact nb ‹_› ‹_›|exact nt ‹_› ‹_›))|(intro b hb;repeat first|(refine fe hb ?_;intro _ _ hb)|(refine fT hb ?_;intro hb))|refine rt ?_|refine gA rfl ?_|refine gB rfl ?_|apply cT rfl|apply cF rfl|(apply DM.gbT;rfl)|(apply DM.gbF;rfl)|intro h
 apply DM.pcs c3
 ·simp only [go_sem, Nat.reduceBEq, Nat.reduceAdd] <;> rfl
 ·exact avles_cons (le_prog (nm := [115]) (rl := 0) (vs := pA.vars) (os := pA.os) (cs := pA.code)) (avles_cons (AVLe.refl _) (avles_cons AVLe.nil (avles_cons (AVLe.refl _) avles_nil)))
 repeat' first|(apply Sp.go;·constructor<;>first|exact ss|(change _=_;first|(simp only[go_sem,Nat.reduceBEq,Nat.reduceAdd,Nat.reduceLeDiff,reduceIte]<;>rfl)|rfl)|exact Nat.le_of_ble_eq_true rfl|decide|(repeat' first|(apply Lk.go;constructor)|assumption|exact nb ‹_› ‹_›|exact nt ‹_› ‹_›))|(intro b hb;repeat first|(refine fe hb ?_;intro _ _ hb)|(refine fT hb ?_;intro hb))|refine rt ?_|refine gA rfl ?_|refine gB rfl ?_|apply cT rfl|apply cF rfl|(apply DM.gbT;rfl)|(apply DM.gbF;rfl)|intro h
 (apply Sr.go;·constructor<;>first|(apply Lk.go;constructor<;>first|exact ss|(change _=_;first|(simp only[go_sem,Nat.reduceBEq,Nat.reduceAdd,Nat.reduceLeDiff,reduceIte]<;>rfl)|rfl)|exact Nat.le_of_ble_eq_true rfl|decide|(repeat' first|(apply Lk.go;constructor)|assumption|exact nb ‹_› ‹_›|exact nt ‹_› ‹_›))|assumption)
 exact AVLe.refl _
end Go.Aw.T
namespace Go.Aw.T
open Go Go.Aw Go.Proofs Go.RowKit
set_option maxRecDepth 100000
attribute [local irreducible] Go.Aw.DM Go.Aw.AHeap.setB Go.Aw.AHeap.setT
attribute [local go_sem] peval EOpd.ev Env.get binInt binStr binBool buildParts AV.cells AV.okc setRange minmaxAV AV.one AV.ofCells eqCells eqCell bslRows cond_true cond_false beq_self_eq_true Bool.not_true Bool.not_false beq_true beq_false eq_self if_true Option.some.injEq List.length_cons List.length_nil List.take_succ_cons List.take_zero List.drop_succ_cons List.drop_zero List.set_cons_succ List.set_cons_zero List.nil_append List.cons_append List.append_nil and_self Option.map_some List.map_cons List.map_nil Bool.false_eq_true if_false Nat.zero_add Nat.add_zero true_and and_true Bool.and_true Bool.true_and List.getElem?_cons_zero List.getElem?_cons_succ Nat.zero_le Nat.le_refl
set_option linter.unusedSimpArgs false
set_option linter.unusedVariables false
def WV (v : Val) : Prop := (v.k = 1 ∧ v.s = []) ∨ (v.k = 2 ∧ v.n = 0 ∧ v.s.length ≤ 40 ∧ printable v.s = true)
theorem WV.kk {v : Val} (h : WV v) : v.k = 1 ∨ v.k = 2 := by
 rcases h with h | h
 ·exact .inl h.1
 ·exact .inr h.1
structure TS (st : List Val) (ks : List Int) : Prop where
 k : st.map (fun v => v.k) = ks
 wv : ∀ v ∈ st, WV v
abbrev FV (p : Prog) (vs : List Val) : Prop := eqF (fun (v : Var_) (x : Val) => fitsV v.sort x) p.vars vs = true
theorem TS.len {st : List Val} {ks : List Int} (h : TS st ks) : ks.length = st.length := by rw [← h.k]; simp
theorem TS.push {st : List Val} {ks : List Int} {v : Val} {k : Int} (h : TS st ks) (hk : v.k = k) (hw : WV v) : TS (st ++ [v]) (ks ++ [k]) :=
 ⟨by rw [List.map_append, h.k]; simp [hk], fun u hu => by
  rcases List.mem_append.1 hu with hu | hu
  ·exact h.wv u hu
  ·simp at hu; subst hu; exact hw⟩
theorem TS.nil {st : List Val} (h : TS st []) : st = [] := by have := h.k; simpa using this
end Go.Aw.T
namespace Go.Aw.T
open Go Go.Aw Go.Proofs Go.RowKit
set_option maxRecDepth 100000
attribute [local irreducible] Go.Aw.DM Go.Aw.AHeap.setB Go.Aw.AHeap.setT
attribute [local go_sem] peval EOpd.ev Env.get binInt binStr binBool buildParts AV.cells AV.okc setRange minmaxAV AV.one AV.ofCells eqCells eqCell bslRows cond_true cond_false beq_self_eq_true Bool.not_true Bool.not_false beq_true beq_false eq_self if_true Option.some.injEq List.length_cons List.length_nil List.take_succ_cons List.take_zero List.drop_succ_cons List.drop_zero List.set_cons_succ List.set_cons_zero List.nil_append List.cons_append List.append_nil and_self Option.map_some List.map_cons List.map_nil Bool.false_eq_true if_false Nat.zero_add Nat.add_zero true_and and_true Bool.and_true Bool.true_and List.getElem?_cons_zero List.getElem?_cons_succ Nat.zero_le Nat.le_refl
set_option linter.unusedSimpArgs false
set_option linter.unusedVariables false
theorem stepX_control {p : Prog} {ps : List Val} {x : Ins_} {M : Mach} (h : 19 ≤ x.op ∧ x.op ≤ 24) : stepX p ps x M = controlM x M := by
 have ha : ¬ isArith x.op = true := by simp [isArith]; omega
 simp only [stepX, if_neg (show ¬ x.op = 1 by omega), if_neg (show ¬ x.op = 2 by omega), if_neg (show ¬ x.op = 3 by omega), if_neg (show ¬ x.op = 4 by omega), if_neg (show ¬ x.op = 5 by omega), if_neg (show ¬ x.op = 11 by omega), if_neg (show ¬ x.op = 14 by omega), if_neg (show ¬ (x.op = 12 ∨ x.op = 17 ∨ x.op = 18) by omega), if_neg ha]
def LookOk (p : Prog) (ps rr : List Int) (S : List (Option St2)) (i : Nat) (x : Ins_) (s : St2) : Prop :=
 ∃ st lo, valuesP p ps rr x s.1 = some st ∧ loopsP p i x s.2 = some lo ∧ (¬ (x.op = 19 ∨ x.op = 24) → S[i + 1]? = some (some (st, lo))) ∧ (x.op = 19 ∨ x.op = 20 ∨ x.op = 22 → S[x.n.toNat]? = some (some (st, lo)))
def LoOk (p : Prog) (S : List (Option St2)) (j : Nat) (lo : List Int) : Prop := ∀ b ∈ lo, b < (j : Int) ∧ (∃ s, S[b.toNat + 1]? = some (some s)) ∧ ∃ x, p.code[b.toNat]? = some x ∧ x.op = 21
structure TI (p : Prog) (e : Nat) (S : List (Option St2)) : Prop where
 len : S.length = p.code.length
 ok : SOk p S
 ge : ∀ (j : Nat) (s : St2), S[j]? = some (some s) → e ≤ j
 lo : ∀ (j : Nat) (s : St2), S[j]? = some (some s) → LoOk p S j s.2
structure Grow (S S' : List (Option St2)) (i : Nat) : Prop where
 len : S'.length = S.length
 keep : ∀ (j : Nat) (s : St2), S[j]? = some (some s) → S'[j]? = some (some s)
 low : ∀ j : Nat, j ≤ i → S'[j]? = S[j]?
theorem Grow.trans {A B C : List (Option St2)} {i j : Nat} (h : Grow A B i) (k : Grow B C j) (hij : i ≤ j) : Grow A C i := ⟨k.len.trans h.len, fun a s x => k.keep a s (h.keep a s x), fun a ha => (k.low a (by omega)).trans (h.low a ha)⟩
theorem LoOk.mono {p : Prog} {S S' : List (Option St2)} {j j' : Nat} {lo : List Int} (h : LoOk p S j lo) (hj : j ≤ j') (hk : ∀ (a : Nat) (s : St2), S[a]? = some (some s) → S'[a]? = some (some s)) : LoOk p S' j' lo := fun b hb => by
 obtain ⟨h1, ⟨s, h2⟩, h3⟩ := h b hb
 exact ⟨by omega, ⟨s, hk _ _ h2⟩, h3⟩
theorem LookOk.mono {p : Prog} {ps rr : List Int} {S S' : List (Option St2)} {i : Nat} {x : Ins_} {s : St2} (h : LookOk p ps rr S i x s) (hk : ∀ (a : Nat) (t : St2), S[a]? = some (some t) → S'[a]? = some (some t)) : LookOk p ps rr S' i x s := by
 obtain ⟨st, lo, h1, h2, h3, h4⟩ := h
 exact ⟨st, lo, h1, h2, fun q => hk _ _ (h3 q), fun q => hk _ _ (h4 q)⟩
def NB (p : Prog) (b : Int) : Nat := (((p.code[b.toNat]?).map (fun x : Ins_ => x.n)).getD 0).toNat
def CO (p : Prog) (u : Nat) : List Int → List Int → Prop
 | [], [] => True
 | b :: lo, c :: cs => (-(u : Int) ≤ c ∧ c ≤ NB p b ∧ 1 ≤ NB p b) ∧ CO p u lo cs
 | _, _ => False
theorem CO.len {p : Prog} {u : Nat} : ∀ {lo cs : List Int}, CO p u lo cs → lo.length = cs.length
 | [], [], _ => rfl
 | _ :: _, _ :: _, h => by simp [CO.len h.2]
 | [], _ :: _, h => h.elim
 | _ :: _, [], h => h.elim
theorem CO.mono {p : Prog} {u : Nat} : ∀ {lo cs : List Int}, CO p u lo cs → CO p (u + 1) lo cs
 | [], [], _ => trivial
 | _ :: _, _ :: _, h => ⟨⟨by have := h.1.1; omega, h.1.2⟩, CO.mono h.2⟩
 | [], _ :: _, h => h.elim
 | _ :: _, [], h => h.elim
theorem CO.app {p : Prog} {u : Nat} : ∀ {lo cs : List Int} {b c : Int}, CO p u lo cs → CO p u [b] [c] → CO p u (lo ++ [b]) (cs ++ [c])
 | [], [], _, _, _, h => h
 | _ :: _, _ :: _, _, _, h, k => ⟨h.1, CO.app h.2 k⟩
 | [], _ :: _, _, _, h, _ => h.elim
 | _ :: _, [], _, _, h, _ => h.elim
structure MI (p : Prog) (S : List (Option St2)) (u i : Nat) (s : St2) (M : Mach) : Prop where
 tr : M.tr = false
 dn : M.dn = false
 fv : FV p M.vars
 pc : M.pc = (i : Int)
 tb : S[i]? = some (some s)
 st : TS M.stack s.1
 lo : CO p u s.2 M.loops
end Go.Aw.T
namespace Go.Aw.T
open Go Go.Aw Go.Proofs Go.RowKit
set_option maxRecDepth 100000
attribute [local irreducible] Go.Aw.DM Go.Aw.AHeap.setB Go.Aw.AHeap.setT
attribute [local go_sem] peval EOpd.ev Env.get binInt binStr binBool buildParts AV.cells AV.okc setRange minmaxAV AV.one AV.ofCells eqCells eqCell bslRows cond_true cond_false beq_self_eq_true Bool.not_true Bool.not_false beq_true beq_false eq_self if_true Option.some.injEq List.length_cons List.length_nil List.take_succ_cons List.take_zero List.drop_succ_cons List.drop_zero List.set_cons_succ List.set_cons_zero List.nil_append List.cons_append List.append_nil and_self Option.map_some List.map_cons List.map_nil Bool.false_eq_true if_false Nat.zero_add Nat.add_zero true_and and_true Bool.and_true Bool.true_and List.getElem?_cons_zero List.getElem?_cons_succ Nat.zero_le Nat.le_refl
set_option linter.unusedSimpArgs false
set_option linter.unusedVariables false
def tailC : Nat → List Ins_
 | 0 => []
 | i + 1 => ⟨22, (i : Int) + 1, []⟩ :: ⟨23, 0, []⟩ :: tailC i
def codeN (ns : List Nat) : List Ins_ := ns.map (fun n : Nat => (⟨21, (n : Int), []⟩ : Ins_)) ++ tailC ns.length ++ [⟨24, 0, []⟩]
def pN (ns : List Nat) : Prog := ⟨[115], 0, [], [], [], codeN ns⟩
def stepsN : List Nat → Nat
 | [] => 0
 | n :: ns => 1 + n * (stepsN ns + 1) + 1
def extraN (ns : List Nat) : Int × Int := ns.foldl (fun (x : Int × Int) (n : Nat) => (W (x.1 + W (x.2 * W ((n : Int) - 1))), W (x.2 * (n : Int)))) (0, 1)
def combos : Nat → List (List Nat)
 | 0 => [[]]
 | k + 1 => (List.range 6).flatMap fun a => (combos k).map fun l => (a + 1) :: l
theorem mem_combos : ∀ {ns : List Nat}, (∀ n ∈ ns, 1 ≤ n ∧ n ≤ 6) → ns ∈ combos ns.length
 | [], _ => by simp [combos]
 | n :: ns, h => by
  simp only [combos, List.length_cons]
  have h1 := h n (by simp)
  refine List.mem_flatMap.2 ⟨n - 1, List.mem_range.2 (by omega), List.mem_map.2 ⟨ns, mem_combos fun m hm => h m (by simp [hm]), ?_⟩⟩
  congr 1
  omega
def chkN (ns : List Nat) : Bool := decide ((costP (pN ns) 0 [] []).2 = (0, 0)) && decide (((stepsN ns + 1 : Nat) : Int) ≤ (costP (pN ns) 0 [] []).1) && decide (W ((costP (pN ns) 0 [] []).1 - (extraN ns).1) = ((stepsN ns + 1 : Nat) : Int)) && decide (stepsN ns ≤ 90000) && validP (pN ns)
theorem chk0 : (combos 0).all chkN = true := by decide +kernel
theorem chk1 : (combos 1).all chkN = true := by decide +kernel
theorem chk2 : (combos 2).all chkN = true := by decide +kernel
theorem chk3 : (combos 3).all chkN = true := by decide +kernel
theorem chk4 : (combos 4).all chkN = true := by decide +kernel
abbrev mL (l : List Int) (pc : Nat) : Mach := ⟨[], [], l, (pc : Int), false, false⟩
theorem tailC_len : ∀ k, (tailC k).length = 2 * k
 | 0 => rfl
 | k + 1 => by simp [tailC, tailC_len k]; omega
theorem tailC_get : ∀ {k i : Nat}, i < k → (tailC k)[2 * (k - 1 - i)]? = some ⟨22, (i : Int) + 1, []⟩ ∧ (tailC k)[2 * (k - 1 - i) + 1]? = some ⟨23, 0, []⟩
 | 0, _, h => by omega
 | k + 1, i, h => by
  by_cases e : i = k
  ·subst e
   rw [show 2 * (i + 1 - 1 - i) = 0 by omega]
   exact ⟨rfl, rfl⟩
  ·obtain ⟨h1, h2⟩ := tailC_get (k := k) (i := i) (by omega)
   rw [show 2 * (k + 1 - 1 - i) = 2 * (k - 1 - i) + 2 by omega]
   exact ⟨h1, h2⟩
theorem codeN_B {ns : List Nat} {i n : Nat} (h : ns[i]? = some n) : (codeN ns)[i]? = some ⟨21, (n : Int), []⟩ := by
 have hi := (List.getElem?_eq_some_iff.1 h).1
 unfold codeN
 rw [List.append_assoc, List.getElem?_append_left (by simpa using hi), List.getElem?_map, h]
 rfl
theorem codeN_T {ns : List Nat} {i : Nat} (h : i < ns.length) : (codeN ns)[ns.length + 2 * (ns.length - 1 - i)]? = some ⟨22, (i : Int) + 1, []⟩ ∧ (codeN ns)[ns.length + 2 * (ns.length - 1 - i) + 1]? = some ⟨23, 0, []⟩ := by
 obtain ⟨h1, h2⟩ := tailC_get h
 have hl := tailC_len ns.length
 unfold codeN
 constructor
 ·rw [List.getElem?_append_left (by simp [hl]; omega), List.getElem?_append_right (by simp), List.length_map, show ns.length + 2 * (ns.length - 1 - i) - ns.length = 2 * (ns.length - 1 - i) by omega]
  exact h1
 ·rw [List.getElem?_append_left (by simp [hl]; omega), List.getElem?_append_right (by simp; omega), List.length_map, show ns.length + 2 * (ns.length - 1 - i) + 1 - ns.length = 2 * (ns.length - 1 - i) + 1 by omega]
  exact h2
theorem codeN_E (ns : List Nat) : (codeN ns)[3 * ns.length]? = some ⟨24, 0, []⟩ := by
 have hl := tailC_len ns.length
 unfold codeN
 rw [List.getElem?_append_right (by simp [hl]; omega)]
 simp only [List.length_append, List.length_map, hl]
 rw [show 3 * ns.length - (ns.length + 2 * ns.length) = 0 by omega]
 rfl
theorem codeN_len (ns : List Nat) : (codeN ns).length = 3 * ns.length + 1 := by
 simp [codeN, tailC_len]; omega
theorem stepN {ns : List Nat} {i : Nat} {x : Ins_} {l : List Int} (h : (codeN ns)[i]? = some x) (hk : ns.length ≤ 4) : stepM (pN ns) [] (mL l i) = stepX (pN ns) [] x (mL l (i + 1)) := by
 have hi := (List.getElem?_eq_some_iff.1 h).1
 rw [codeN_len] at hi
 have hw : W ((i : Int) + 1) = ((i + 1 : Nat) : Int) := by unfold W; rw [wrap64 (by omega) (by omega)]; omega
 have : (pN ns).code[((i : Int)).toNat]? = some x := by simpa [pN] using h
 simp only [stepM, this, hw]
theorem goN {ns : List Nat} {i : Nat} {l : List Int} {M : Mach} (hi : i < 3 * ns.length + 1) (h : stepM (pN ns) [] (mL l i) = M) (ht : M.tr = false) (k u : Nat) : runF (pN ns) [] (k + 1) (mL l i) u = runF (pN ns) [] k M (u + 1) := by
 subst h
 exact runF_go rfl (by show (i : Int) < ((codeN ns).length : Int); rw [codeN_len]; omega) ht
theorem runIn {ns : List Nat} (hn : ∀ n ∈ ns, 1 ≤ n ∧ n ≤ 6) (hk : ns.length ≤ 4) : ∀ (j : Nat), j ≤ ns.length → ∀ (l : List Int), l.length = ns.length - j → ∀ (fuel u : Nat),
  runF (pN ns) [] (fuel + stepsN (ns.drop (ns.length - j))) (mL l (ns.length - j)) u = runF (pN ns) [] fuel (mL l (ns.length + 2 * j)) (u + stepsN (ns.drop (ns.length - j)))
 | 0, _, l, hl, fuel, u => by
  rw [Nat.sub_zero, List.drop_length]
  rfl
 | j + 1, hj, l, hl, fuel, u => by
  obtain ⟨n, hnn⟩ := some_of (show ns.length - (j + 1) < ns.length by omega)
  have hb := hn n (List.mem_of_getElem? hnn)
  have ih := runIn hn hk j (by omega)
  have hd : ns.drop (ns.length - (j + 1)) = n :: ns.drop (ns.length - j) := by
   have := drop_of hnn
   rw [show ns.length - (j + 1) + 1 = ns.length - j by omega] at this
   exact this
  rw [hd]
  simp only [stepsN]
  generalize stepsN (ns.drop (ns.length - j)) = g at ih ⊢
  generalize hi : ns.length - (j + 1) = i at hnn hl ⊢
  have hij : ns.length - j = i + 1 := by omega
  rw [hij] at ih
  obtain ⟨t1, t2⟩ := codeN_T (ns := ns) (i := i) (by omega)
  rw [show ns.length + 2 * (ns.length - 1 - i) = ns.length + 2 * j by omega] at t1 t2
  have sB : stepM (pN ns) [] (mL l i) = mL (l ++ [(n : Int)]) (i + 1) := by
   rw [stepN (codeN_B hnn) hk, stepX_control ⟨by show (19 : Int) ≤ 21; decide, by show (21 : Int) ≤ 24; decide⟩]
   simp only [controlM]
   rw [if_neg (by decide), if_neg (by decide), if_pos trivial, if_neg (by omega)]
  have sD : stepM (pN ns) [] (mL (l ++ [(0 : Int)]) (ns.length + 2 * j + 1)) = mL l (ns.length + 2 * (j + 1)) := by
   rw [stepN t2 hk, stepX_control ⟨by show (19 : Int) ≤ 23; decide, by show (23 : Int) ≤ 24; decide⟩]
   simp [controlM]
   omega
  have sA : ∀ c : Nat, 1 ≤ c → c ≤ 6 → stepM (pN ns) [] (mL (l ++ [(c : Int)]) (ns.length + 2 * j)) = if c = 1 then mL (l ++ [(0 : Int)]) (ns.length + 2 * j + 1) else mL (l ++ [((c - 1 : Nat) : Int)]) (i + 1) := by
   intro c h1 h2
   have hw : W ((c : Int) - 1) = ((c - 1 : Nat) : Int) := by unfold W; rw [wrap64 (by omega) (by omega)]; omega
   rw [stepN t1 hk, stepX_control ⟨by show (19 : Int) ≤ 22; decide, by show (22 : Int) ≤ 24; decide⟩]
   simp only [controlM]
   rw [if_neg (by decide), if_neg (by decide), if_neg (by decide), if_pos trivial]
   simp only [List.getLast?_append, List.getLast?_singleton, Option.some_or, List.dropLast_concat, hw]
   by_cases e : c = 1
   ·subst e
    rw [if_neg (by decide), if_pos rfl]
    rfl
   ·rw [if_pos (by omega), if_neg e]
    rfl
  have rounds : ∀ c : Nat, 1 ≤ c → c ≤ 6 → ∀ (fuel u : Nat), runF (pN ns) [] (fuel + c * (g + 1)) (mL (l ++ [(c : Int)]) (i + 1)) u = runF (pN ns) [] fuel (mL (l ++ [(0 : Int)]) (ns.length + 2 * j + 1)) (u + c * (g + 1)) := by
   intro c
   induction c with
   | zero => intro h; omega
   | succ c ihc =>
    intro h1 h2 fuel u
    have e1 : fuel + (c + 1) * (g + 1) = (fuel + c * (g + 1) + 1) + g := by rw [Nat.add_mul]; omega
    rw [e1, ih (l ++ [((c + 1 : Nat) : Int)]) (by simp; omega)]
    have ha := sA (c + 1) h1 h2
    by_cases e : c = 0
    ·subst e
     rw [if_pos rfl] at ha
     rw [goN (by omega) ha rfl]
     simp only [Nat.zero_mul, Nat.add_zero, Nat.zero_add, Nat.one_mul]
     rw [show u + g + 1 = u + (g + 1) by omega]
    ·rw [if_neg (by omega), show c + 1 - 1 = c by omega] at ha
     rw [goN (by omega) ha rfl, ihc (by omega) (by omega)]
     congr 1
     rw [Nat.add_mul]; omega
  have e2 : fuel + (1 + n * (g + 1) + 1) = ((fuel + 1) + n * (g + 1)) + 1 := by omega
  rw [e2, goN (by omega) sB rfl, rounds n hb.1 hb.2, goN (by omega) sD rfl]
  congr 1
  omega
theorem loops_run {ns : List Nat} (hn : ∀ n ∈ ns, 1 ≤ n ∧ n ≤ 6) (hk : ns.length ≤ 4) (hs : stepsN ns ≤ 90000) (hval : validP (pN ns) = true) : runP (pN ns) 0 [] [] 100000 = ⟨[], [], ((stepsN ns + 1 : Nat) : Int), 0⟩ := by
 have hsd : soundP (pN ns) [] = true := by simp only [soundP, hval, Bool.true_and]; rfl
 have hbad : badArgs (pN ns) 0 [] [] = false := by
  unfold badArgs
  rw [hsd, decide_eq_false (show ¬ (0 : Int) < 0 by omega), decide_eq_false (show ¬ (((pN ns).code.length : Int) ≤ 0) by show ¬ (((codeN ns).length : Int) ≤ 0); rw [codeN_len]; omega)]
  rfl
 have hm : mach0 [] 0 = mL [] 0 := rfl
 have ht : Int.toNat 100000 = 100000 := Int.toNat_natCast 100000
 have hr : runP (pN ns) 0 [] [] 100000 = runF (pN ns) [] 100000 (mL [] 0) 0 := by
  rw [runP, if_neg (by rw [hbad]; simp), ht, hm]
 rw [hr]
 have h := runIn hn hk ns.length (Nat.le_refl _) [] (by simp) (100000 - stepsN ns) 0
 rw [Nat.sub_self, List.drop_zero, show 100000 - stepsN ns + stepsN ns = 100000 by omega, show ns.length + 2 * ns.length = 3 * ns.length by omega] at h
 rw [h]
 obtain ⟨f, hf⟩ : ∃ f, 100000 - stepsN ns = f + 1 := ⟨100000 - stepsN ns - 1, by omega⟩
 have sE : stepM (pN ns) [] (mL [] (3 * ns.length)) = ⟨[], [], [], ((3 * ns.length + 1 : Nat) : Int), false, true⟩ := by
  rw [stepN (codeN_E ns) hk, stepX_control ⟨by show (19 : Int) ≤ 24; decide, by show (24 : Int) ≤ 24; decide⟩]
  rfl
 rw [hf, goN (by omega) sE rfl, runF_done rfl]
 simp
abbrev urow (n : Int) : List AV := [.int .u8 n]
def nsOf (rs : List Int) : List Nat := rs.map fun r => (1 + r % 6).toNat
theorem nsOf_ok (rs : List Int) : ∀ n ∈ nsOf rs, 1 ≤ n ∧ n ≤ 6 := fun n hn => by
 obtain ⟨r, _, rfl⟩ := List.mem_map.1 hn
 have := Int.emod_nonneg r (show (6 : Int) ≠ 0 by decide)
 have := Int.emod_lt_of_pos r (show (0 : Int) < 6 by decide)
 omega
def HPc (tc v : Nat) : List AV := [.str [115], .int .i64 0, .nilS, .nilS, .nilS, .ms tc v]
def HP (G : AHeap) (b tc v : Nat) (rows : List (List AV)) : AHeap := (G.setB b 41 (HPc tc v)).setT tc (.mu 88 3 v rows)
theorem hp_blk {G : AHeap} {b tc v : Nat} {rows : List (List AV)} : (HP G b tc v rows).blk b = some (41, HPc tc v) := g_T g_same
theorem hp_tok {G : AHeap} {b tc v : Nat} {rows : List (List AV)} : (HP G b tc v rows).tok tc = some (.mu 88 3 v rows) := t_same
theorem hp_step {G : AHeap} {b tc v v' : Nat} {rows rows' : List (List AV)} : ((HP G b tc v rows).setT tc (.mu 88 3 v' rows')).setB b 41 (HPc tc v') = HP G b tc v' rows' := by
 simp only [HP, AHeap.setB, AHeap.setT, AHeap.mk.injEq]
 constructor
 ·funext x; by_cases e : x = b <;> simp [e]
 ·funext x; by_cases e : x = tc <;> simp [e]
def Cb (ns : List Nat) (i : Nat) : List Ins_ := (ns.take i).map fun n : Nat => (⟨21, (n : Int), []⟩ : Ins_)
def Ct (ns : List Nat) (j : Nat) : List Ins_ := (ns.map fun n : Nat => (⟨21, (n : Int), []⟩ : Ins_)) ++ (tailC ns.length).take (2 * (ns.length - j))
theorem Ct_step {ns : List Nat} {j : Nat} (h : j < ns.length) : Ct ns j = Ct ns (j + 1) ++ [⟨22, (j : Int) + 1, []⟩, ⟨23, 0, []⟩] := by
 obtain ⟨h1, h2⟩ := tailC_get h
 rw [show 2 * (ns.length - 1 - j) = 2 * (ns.length - (j + 1)) by omega] at h1 h2
 unfold Ct
 rw [show 2 * (ns.length - j) = 2 * (ns.length - (j + 1)) + 1 + 1 by omega, List.take_add_one, List.take_add_one, h1, h2]
 simp
set_option maxHeartbeats 8000000 in
theorem p14 (hR : RepeatOk) (rs : List Int) (hrs : ∀ r ∈ rs, 0 ≤ r ∧ r ≤ 255) : Pure Try.prog 14 [.vs 1 (rs.map urow)] (.bool true) := by
 refine pure_intro mo Try.func14 c14 fun H => ?_
 unfold e14 r14
 simp only [initEnv, initFrom]
 repeat' first|(apply Sp.go;·constructor<;>first|exact ss|(change _=_;first|(simp only[go_sem,Nat.reduceBEq,Nat.reduceAdd,Nat.reduceLeDiff,reduceIte]<;>rfl)|rfl)|exact Nat.le_of_ble_eq_true rfl|decide|(repeat' first|(apply Lk.go;constructor)|assumption|exact nb ‹_› ‹_›|exact nt ‹_› ‹_›))|(intro b hb;repeat first|(refine fe hb ?_;intro _ _ hb)|(refine fT hb ?_;intro hb))|refine rt ?_|refine gA rfl ?_|refine gB rfl ?_|apply cT rfl|apply cF rfl|(apply DM.gbT;rfl)|(apply DM.gbF;rfl)|intro h
 (apply DM.pcs (p15); (· simp only [go_sem, Nat.reduceBEq, Nat.reduceAdd] <;> rfl); (· exact AVLes.refl _))
 by_cases h4 : 4 < rs.length
 ·have e1 : decide ((4 : Int) < ((rs.map urow).length : Int)) = true := decide_eq_true (by rw [List.length_map]; omega)
  repeat' first|(apply Sp.go;·constructor<;>first|exact ss|(change _=_;first|(simp only[go_sem,Nat.reduceBEq,Nat.reduceAdd,Nat.reduceLeDiff,reduceIte, e1]<;>rfl)|rfl)|exact Nat.le_of_ble_eq_true rfl|decide|(repeat' first|(apply Lk.go;constructor)|assumption|exact nb ‹_› ‹_›|exact nt ‹_› ‹_›))|(intro b hb;repeat first|(refine fe hb ?_;intro _ _ hb)|(refine fT hb ?_;intro hb))|refine rt ?_|refine gA rfl ?_|refine gB rfl ?_|apply cT rfl|apply cF rfl|(apply DM.gbT;rfl)|(apply DM.gbF;rfl)|intro h
  (apply Sr.go;·constructor<;>first|(apply Lk.go;constructor<;>first|exact ss|(change _=_;first|(simp only[go_sem,Nat.reduceBEq,Nat.reduceAdd,Nat.reduceLeDiff,reduceIte]<;>rfl)|rfl)|exact Nat.le_of_ble_eq_true rfl|decide|(repeat' first|(apply Lk.go;constructor)|assumption|exact nb ‹_› ‹_›|exact nt ‹_› ‹_›))|assumption)
  exact AVLe.refl _
 have e1 : decide ((4 : Int) < ((rs.map urow).length : Int)) = false := decide_eq_false (by rw [List.length_map]; omega)
 repeat' first|(apply Sp.go;·constructor<;>first|exact ss|(change _=_;first|(simp only[go_sem,Nat.reduceBEq,Nat.reduceAdd,Nat.reduceLeDiff,reduceIte, e1]<;>rfl)|rfl)|exact Nat.le_of_ble_eq_true rfl|decide|(repeat' first|(apply Lk.go;constructor)|assumption|exact nb ‹_› ‹_›|exact nt ‹_› ‹_›))|(intro b hb;repeat first|(refine fe hb ?_;intro _ _ hb)|(refine fT hb ?_;intro hb))|refine rt ?_|refine gA rfl ?_|refine gB rfl ?_|apply cT rfl|apply cF rfl|(apply DM.gbT;rfl)|(apply DM.gbF;rfl)|intro h
 rename Nat => b
 apply AM.ghostB b 5 88 3 (by decide) g_same rfl
 intro tc htc
 have htc0 : H.tok tc = none := freshT_setB htc
 refine AM.eqH (H2 := HP H b tc 0 []) ?_ ?_
 ·simp only [HP, HPc, AHeap.setB, AHeap.setT, AHeap.mk.injEq]
  refine ⟨?_, ?_⟩
  ·funext x; by_cases e : x = b <;> simp [e]
  ·first | trivial | (funext x; by_cases e : x = tc <;> simp [e])
 have hsP : ∀ v rows, HSub H (HP H b tc v rows) := fun v rows => HSub.setT (HSub.setB (HSub.refl _) hb) htc0
 clear htc
 have hns := nsOf_ok rs
 have hnl : (nsOf rs).length = rs.length := by simp [nsOf]
 refine AM.loopX (X := Nat) 0 (fun i => [(0, .vs 1 (rs.map urow)), (3, .ptr b 0), (4, .int .i64 i)]) (fun i H' => H' = HP H b tc i ((Cb (nsOf rs) i).map Ins_.row) ∧ i ≤ rs.length) (fun i => rs.length - i) ⟨rfl, by omega⟩ ?_ ?_
 ·(repeat first | exact envle_nil _ | (refine envle_cons ?_ ?_; · (simp only [go_sem, Nat.reduceBEq, Nat.reduceAdd]; exact AVLe.refl _)))
 ·intro i H' ⟨e, hi⟩
  subst e
  repeat' first|(apply Sp.go;·constructor<;>first|exact ss|(change _=_;first|(simp only[go_sem,Nat.reduceBEq,Nat.reduceAdd,Nat.reduceLeDiff,reduceIte]<;>rfl)|rfl)|exact Nat.le_of_ble_eq_true rfl|decide|(repeat' first|(apply Lk.go;constructor)|assumption|exact nb ‹_› ‹_›|exact nt ‹_› ‹_›))|(intro b hb;repeat first|(refine fe hb ?_;intro _ _ hb)|(refine fT hb ?_;intro hb))|refine rt ?_|refine gA rfl ?_|refine gB rfl ?_|apply cT rfl|apply cF rfl|(apply DM.gbT;rfl)|(apply DM.gbF;rfl)|intro h
  (apply AM.cond; (· rfl))
  ·intro h5
   simp at h5
   obtain ⟨r, hr⟩ := some_of h5
   have hr5 := hrs r (List.mem_of_getElem? hr)
   have hn : (nsOf rs)[i]? = some (1 + r % 6).toNat := by rw [nsOf, List.getElem?_map, hr]; rfl
   have kb := hp_blk (G := H) (b := b) (tc := tc) (v := i) (rows := (Cb (nsOf rs) i).map Ins_.row)
   have kt := hp_tok (G := H) (b := b) (tc := tc) (v := i) (rows := (Cb (nsOf rs) i).map Ins_.row)
   have hcl : (Cb (nsOf rs) i).length ≤ 4 := by simp [Cb]; omega
   have hcl0 : ((Cb (nsOf rs) i).map Ins_.row).length ≤ 4 := by rw [List.length_map]; exact hcl
   have hcv : IntKind.i64.wrap (1 + (IntKind.i64.wrap r).tmod 6) = (((1 + r % 6).toNat : Nat) : Int) := by
    have a1 := Int.emod_nonneg r (show (6 : Int) ≠ 0 by decide)
    have a2 := Int.emod_lt_of_pos r (show (0 : Int) < 6 by decide)
    rw [wrap64 (n := r) (by omega) (by omega), Int.tmod_eq_emod_of_nonneg hr5.1, wrap64 (by omega) (by omega)]
    omega
   repeat' first|(apply Sp.go;·constructor<;>first|exact ss|(change _=_;first|(simp only[go_sem,Nat.reduceBEq,Nat.reduceAdd,Nat.reduceLeDiff,reduceIte]<;>rfl)|rfl)|exact Nat.le_of_ble_eq_true rfl|decide|(repeat' first|(apply Lk.go;constructor)|assumption|exact nb ‹_› ‹_›|exact nt ‹_› ‹_›|(apply Lm.go;constructor)))|(intro b hb;repeat first|(refine fe hb ?_;intro _ _ hb)|(refine fT hb ?_;intro hb)|(refine fresh_elimM hb ?_;intro _ _ hb))|refine rt ?_|refine gA rfl ?_|refine gB rfl ?_|apply cT rfl|apply cF rfl|(apply DM.gbT;rfl)|(apply DM.gbF;rfl)|(apply DM.ixV (row := urow r) (z := (i : Int)) (by omega) (row_get urow hr); (· rfl); (· rfl))|(apply DM.remI; (· rfl); (· rfl); (· decide))|intro h
   simp only [hcv]
   repeat' first|(apply Sp.go;·constructor<;>first|exact ss|(change _=_;first|(simp only[go_sem,Nat.reduceBEq,Nat.reduceAdd,Nat.reduceLeDiff,reduceIte]<;>rfl)|rfl)|exact Nat.le_of_ble_eq_true rfl|decide|(repeat' first|(apply Lk.go;constructor)|assumption|exact nb ‹_› ‹_›|exact nt ‹_› ‹_›|(apply Lm.go;constructor)))|(intro b hb;repeat first|(refine fe hb ?_;intro _ _ hb)|(refine fT hb ?_;intro hb)|(refine fresh_elimM hb ?_;intro _ _ hb))|refine rt ?_|refine gA rfl ?_|refine gB rfl ?_|apply cT rfl|apply cF rfl|(apply DM.gbT;rfl)|(apply DM.gbF;rfl)|(apply DM.apM; (· rfl); (· repeat' first|(apply Lk.go;constructor)|assumption|exact nb ‹_› ‹_›|exact nt ‹_› ‹_›|(apply Lm.go;constructor)); (· simp only [rowsOf, if_true, eq_self, go_sem, Nat.reduceBEq, reduceIte] <;> rfl); (· (simp only [List.length_cons, List.length_nil, maxLen]; omega)); (· (simp only [List.length_cons, List.length_nil, maxLen]; omega)))|intro h
   refine AM.eqH (H2 := HP H b tc (i + 1) ((Cb (nsOf rs) (i + 1)).map Ins_.row)) ?_ ?_
   ·have : (Cb (nsOf rs) (i + 1)).map Ins_.row = (Cb (nsOf rs) i).map Ins_.row ++ [(⟨21, (((1 + r % 6).toNat : Nat) : Int), []⟩ : Ins_).row] := by
     simp [Cb, List.take_add_one, hn]
    rw [this]
    exact hp_step
   refine AM.roundX (i + 1) ⟨rfl, by omega⟩ ?_ ?_
   ·(repeat first | exact envle_nil _ | (refine envle_cons ?_ ?_; · (simp only [go_sem, Nat.reduceBEq, Nat.reduceAdd]; exact AVLe.refl _)))
    refine envle_cons ?_ ?_
    ·simp only [go_sem, Nat.reduceBEq, Nat.reduceAdd]
     refine avle_int ?_
     rw [inc64 h5 (by unfold maxLen; omega)]
    exact envle_nil _
   ·show rs.length - (i + 1) < rs.length - i
    omega
  ·intro h5
   simp at h5
   have : i = rs.length := by omega
   subst this
   have hw5 : IntKind.i64.wrap (((rs.map urow).length : Int) - 1) = ((rs.length : Int) - 1) := by rw [List.length_map, wrap64 (by omega) (by omega)]
   have hcb : Cb (nsOf rs) rs.length = Ct (nsOf rs) rs.length := by
    simp only [Cb, Ct, ← hnl, List.take_length, Nat.sub_self, Nat.mul_zero, List.take_zero, List.append_nil]
   rw [hcb]
   repeat' first|(apply Sp.go;·constructor<;>first|exact ss|(change _=_;first|(simp only[go_sem,Nat.reduceBEq,Nat.reduceAdd,Nat.reduceLeDiff,reduceIte, hw5]<;>rfl)|rfl)|exact Nat.le_of_ble_eq_true rfl|decide|(repeat' first|(apply Lk.go;constructor)|assumption|exact nb ‹_› ‹_›|exact nt ‹_› ‹_›))|(intro b hb;repeat first|(refine fe hb ?_;intro _ _ hb)|(refine fT hb ?_;intro hb))|refine rt ?_|refine gA rfl ?_|refine gB rfl ?_|apply cT rfl|apply cF rfl|(apply DM.gbT;rfl)|(apply DM.gbF;rfl)|intro h
   refine AM.loopX (X := Nat × Nat) (rs.length, rs.length) (fun x => [(0, .vs 1 (rs.map urow)), (3, .ptr b 0), (5, .int .i64 ((x.1 : Int) - 1))]) (fun x H' => H' = HP H b tc x.2 ((Ct (nsOf rs) x.1).map Ins_.row) ∧ x.1 ≤ rs.length) (fun x => x.1) ⟨rfl, by dsimp only; omega⟩ ?_ ?_
   ·simp only [hw5]
    (repeat first | exact envle_nil _ | (refine envle_cons ?_ ?_; · (simp only [go_sem, Nat.reduceBEq, Nat.reduceAdd]; exact AVLe.refl _)))
   ·rintro ⟨j, v⟩ H' ⟨e, hj⟩
    subst e
    dsimp only at hj ⊢
    have kb := hp_blk (G := H) (b := b) (tc := tc) (v := v) (rows := (Ct (nsOf rs) j).map Ins_.row)
    have kt := hp_tok (G := H) (b := b) (tc := tc) (v := v) (rows := (Ct (nsOf rs) j).map Ins_.row)
    have hcl : ((Ct (nsOf rs) j).map Ins_.row).length ≤ 12 := by simp [Ct, tailC_len, hnl]; omega
    cases j with
    | zero =>
     have d0 : decide ((0 : Int) ≤ ((0 : Nat) : Int) - 1) = false := by decide
     repeat' first|(apply Sp.go;·constructor<;>first|exact ss|(change _=_;first|(simp only[go_sem,Nat.reduceBEq,Nat.reduceAdd,Nat.reduceLeDiff,reduceIte, d0]<;>rfl)|rfl)|exact Nat.le_of_ble_eq_true rfl|decide|(repeat' first|(apply Lk.go;constructor)|assumption|exact nb ‹_› ‹_›|exact nt ‹_› ‹_›))|(intro b hb;repeat first|(refine fe hb ?_;intro _ _ hb)|(refine fT hb ?_;intro hb))|refine rt ?_|refine gA rfl ?_|refine gB rfl ?_|apply cT rfl|apply cF rfl|(apply DM.gbT;rfl)|(apply DM.gbF;rfl)|intro h
     (apply DM.apM; (· rfl); (· repeat' first|(apply Lk.go;constructor)|assumption|exact nb ‹_› ‹_›|exact nt ‹_› ‹_›|(apply Lm.go;constructor)); (· simp only [rowsOf, if_true, eq_self, go_sem, Nat.reduceBEq, reduceIte] <;> rfl); (· (simp only [List.length_cons, List.length_nil, maxLen]; omega)); (· (simp only [List.length_cons, List.length_nil, maxLen]; omega)))
     refine DM.p (v := .ptr b 5) rfl ?_
     refine DM.st1 (b := b) (o := 5) (cs := HPc tc v) (cs' := HPc tc (v + 1)) rfl (g_T hp_blk) rfl rfl rfl (by simp [HPc]) rfl rfl ?_
     refine DM.nil ?_
     have hcode : (Ct (nsOf rs) 0).map Ins_.row ++ [(⟨24, 0, []⟩ : Ins_).row] = (codeN (nsOf rs)).map Ins_.row := by
      simp only [Ct, codeN, Nat.sub_zero]
      rw [List.take_of_length_le (by rw [tailC_len]; omega)]
      simp
     refine AM.eqH (H2 := HP H b tc (v + 1) ((codeN (nsOf rs)).map Ins_.row)) ?_ ?_
     ·rw [← hcode]
      exact hp_step
     clear kb kt
     have kt := hp_tok (G := H) (b := b) (tc := tc) (v := v + 1) (rows := (codeN (nsOf rs)).map Ins_.row)
     refine AM.frzC b tc (T := 41) (Te := 3) (ver := 0) (size := 1) (rows := []) (cs := HPc tc (v + 1)) (cs' := (pN (nsOf rs)).cells) hp_blk (FrzL.cons (Frz.same (HSub.dropT _ tc)) (FrzL.cons (Frz.same (HSub.dropT _ tc)) (FrzL.cons (Frz.le (HSub.dropT _ tc) AVLe.nil) (FrzL.cons (Frz.le (HSub.dropT _ tc) AVLe.nil) (FrzL.cons (Frz.le (HSub.dropT _ tc) AVLe.nil) (FrzL.cons (Frz.ms (HSub.dropT _ tc) kt (by simp [AHeap.dropT])) FrzL.nil)))))) ?_
     refine AM.weakE [(0, .vs 1 (rs.map urow)), (3, .ptr b 0)] ?_ ?_
     ·(repeat first | exact envle_nil _ | (refine envle_cons ?_ ?_; · (simp only [go_sem, Nat.reduceBEq, Nat.reduceAdd]; exact AVLe.refl _)))
     refine AM.forget (H.setB b 41 (pN (nsOf rs)).cells) ⟨fun y z h => ?_, fun y z h => ?_⟩ ?_
     ·simp only [HP, AHeap.setB, AHeap.setT, AHeap.dropT] at h ⊢
      by_cases e : y = b <;> simp_all
     ·have hn : y ≠ tc := fun e => by subst e; simp only [AHeap.setB] at h; rw [htc0] at h; cases h
      simp only [HP, AHeap.setB, AHeap.setT, AHeap.dropT] at h ⊢
      simp [hn, h]
     have k3 : (H.setB b 41 (pN (nsOf rs)).cells).blk b = some (41, (pN (nsOf rs)).cells) := g_same
     have hsG : HSub H (H.setB b 41 (pN (nsOf rs)).cells) := HSub.setB (HSub.refl _) hb
     generalize H.setB b 41 (pN (nsOf rs)).cells = G at k3 hsG ⊢
     -- what the program costs and takes
     have hchk : chkN (nsOf rs) = true := by
      have hm := mem_combos hns
      rw [hnl] at hm
      have h5' : rs.length = 0 ∨ rs.length = 1 ∨ rs.length = 2 ∨ rs.length = 3 ∨ rs.length = 4 := by omega
      rcases h5' with q | q | q | q | q <;> rw [q] at hm
      ·exact List.all_eq_true.1 chk0 _ hm
      ·exact List.all_eq_true.1 chk1 _ hm
      ·exact List.all_eq_true.1 chk2 _ hm
      ·exact List.all_eq_true.1 chk3 _ hm
      ·exact List.all_eq_true.1 chk4 _ hm
     simp only [chkN, Bool.and_eq_true, decide_eq_true_eq] at hchk
     obtain ⟨⟨⟨⟨g1, g2⟩, g3⟩, g4⟩, g5⟩ := hchk
     have c17 := p17 (pN (nsOf rs)) 0 [] [] (by simp)
     have c26 := p26 (pN (nsOf rs)) 0 [] [] 100000 (.inl hR) (by omega)
     rw [loops_run hns (by omega) g4 g5] at c26
     rw [g1] at c17
     have hex : extraN (nsOf rs) = (nsOf rs).foldl (fun (x : Int × Int) (n : Nat) => (W (x.1 + W (x.2 * W ((n : Int) - 1))), W (x.2 * (n : Int)))) (0, 1) := rfl
     generalize (costP (pN (nsOf rs)) 0 [] []).1 = C at *
     generalize extraN (nsOf rs) = EX at *
     generalize stepsN (nsOf rs) + 1 = R at *
     have d5 : decide (C < (R : Int)) = false := decide_eq_false (by omega)
     repeat' first|(apply Sp.go;·constructor<;>first|exact ss|(change _=_;first|(simp only[go_sem,Nat.reduceBEq,Nat.reduceAdd,Nat.reduceLeDiff,reduceIte]<;>rfl)|rfl)|exact Nat.le_of_ble_eq_true rfl|decide|(repeat' first|(apply Lk.go;constructor)|assumption|exact nb ‹_› ‹_›|exact nt ‹_› ‹_›))|(intro b hb;repeat first|(refine fe hb ?_;intro _ _ hb)|(refine fT hb ?_;intro hb))|refine rt ?_|refine gA rfl ?_|refine gB rfl ?_|apply cT rfl|apply cF rfl|(apply DM.gbT;rfl)|(apply DM.gbF;rfl)|intro h
     apply DM.pcs c17
     ·simp only [go_sem, Nat.reduceBEq, Nat.reduceAdd] <;> rfl
     ·exact avles_cons (AVLe.refl _) (avles_cons (AVLe.refl _) (avles_cons AVLe.nil (avles_cons AVLe.nil avles_nil)))
     repeat' first|(apply Sp.go;·constructor<;>first|exact ss|(change _=_;first|(simp only[go_sem,Nat.reduceBEq,Nat.reduceAdd,Nat.reduceLeDiff,reduceIte]<;>rfl)|rfl)|exact Nat.le_of_ble_eq_true rfl|decide|(repeat' first|(apply Lk.go;constructor)|assumption|exact nb ‹_› ‹_›|exact nt ‹_› ‹_›))|(intro b hb;repeat first|(refine fe hb ?_;intro _ _ hb)|(refine fT hb ?_;intro hb))|refine rt ?_|refine gA rfl ?_|refine gB rfl ?_|apply cT rfl|apply cF rfl|(apply DM.gbT;rfl)|(apply DM.gbF;rfl)|intro h
     apply DM.pcs c26
     ·simp only [go_sem, Nat.reduceBEq, Nat.reduceAdd] <;> rfl
     ·exact avles_cons (AVLe.refl _) (avles_cons (AVLe.refl _) (avles_cons AVLe.nil (avles_cons AVLe.nil (avles_cons (AVLe.refl _) avles_nil))))
     repeat' first|(apply Sp.go;·constructor<;>first|exact ss|(change _=_;first|(simp only[go_sem,Nat.reduceBEq,Nat.reduceAdd,Nat.reduceLeDiff,reduceIte, d5]<;>rfl)|rfl)|exact Nat.le_of_ble_eq_true rfl|decide|(repeat' first|(apply Lk.go;constructor)|assumption|exact nb ‹_› ‹_›|exact nt ‹_› ‹_›))|(intro b hb;repeat first|(refine fe hb ?_;intro _ _ hb)|(refine fT hb ?_;intro hb))|refine rt ?_|refine gA rfl ?_|refine gB rfl ?_|apply cT rfl|apply cF rfl|(apply DM.gbT;rfl)|(apply DM.gbF;rfl)|intro h
     rename Nat => b9
     have k9 : (G.setB b9 60 [.vs 3 [], .vs 3 [], .int .i64 (R : Int)]).blk b9 = some (60, [.vs 3 [], .vs 3 [], .int .i64 (R : Int)]) := g_same
     have hs9 : HSub G (G.setB b9 60 [.vs 3 [], .vs 3 [], .int .i64 (R : Int)]) := HSub.setB (HSub.refl _) (by assumption)
     generalize G.setB b9 60 [.vs 3 [], .vs 3 [], .int .i64 (R : Int)] = F at k9 hs9 ⊢
     refine AM.loopX (X := Nat × Int × Int) (0, 0, 1) (fun x => [(0, .vs 1 (rs.map urow)), (6, .int .i64 C), (9, .ptr b9 0), (11, .int .i64 x.2.1), (12, .int .i64 x.2.2), (13, .int .i64 x.1)]) (fun x H' => H' = F ∧ x.1 ≤ rs.length ∧ EX = ((nsOf rs).drop x.1).foldl (fun (x : Int × Int) (n : Nat) => (W (x.1 + W (x.2 * W ((n : Int) - 1))), W (x.2 * (n : Int)))) x.2) (fun x => rs.length - x.1) ⟨rfl, Nat.zero_le _, hex⟩ ?_ ?_
     ·(repeat first | exact envle_nil _ | (refine envle_cons ?_ ?_; · (simp only [go_sem, Nat.reduceBEq, Nat.reduceAdd]; exact AVLe.refl _)))
     ·rintro ⟨i, e, pr⟩ H' ⟨q0, hi, he⟩
      subst q0
      dsimp only at *
      repeat' first|(apply Sp.go;·constructor<;>first|exact ss|(change _=_;first|(simp only[go_sem,Nat.reduceBEq,Nat.reduceAdd,Nat.reduceLeDiff,reduceIte]<;>rfl)|rfl)|exact Nat.le_of_ble_eq_true rfl|decide|(repeat' first|(apply Lk.go;constructor)|assumption|exact nb ‹_› ‹_›|exact nt ‹_› ‹_›))|(intro b hb;repeat first|(refine fe hb ?_;intro _ _ hb)|(refine fT hb ?_;intro hb))|refine rt ?_|refine gA rfl ?_|refine gB rfl ?_|apply cT rfl|apply cF rfl|(apply DM.gbT;rfl)|(apply DM.gbF;rfl)|intro h
      (apply AM.cond; (· rfl))
      ·intro h6
       simp at h6
       obtain ⟨r, hr⟩ := some_of h6
       have hr5 := hrs r (List.mem_of_getElem? hr)
       have hn : (nsOf rs)[i]? = some (1 + r % 6).toNat := by rw [nsOf, List.getElem?_map, hr]; rfl
       rw [drop_of hn, List.foldl_cons] at he
       have hcv : IntKind.i64.wrap (1 + (IntKind.i64.wrap r).tmod 6) = (((1 + r % 6).toNat : Nat) : Int) := by
        have a1 := Int.emod_nonneg r (show (6 : Int) ≠ 0 by decide)
        have a2 := Int.emod_lt_of_pos r (show (0 : Int) < 6 by decide)
        rw [wrap64 (n := r) (by omega) (by omega), Int.tmod_eq_emod_of_nonneg hr5.1, wrap64 (by omega) (by omega)]
        omega
       repeat' first|(apply Sp.go;·constructor<;>first|exact ss|(change _=_;first|(simp only[go_sem,Nat.reduceBEq,Nat.reduceAdd,Nat.reduceLeDiff,reduceIte]<;>rfl)|rfl)|exact Nat.le_of_ble_eq_true rfl|decide|(repeat' first|(apply Lk.go;constructor)|assumption|exact nb ‹_› ‹_›|exact nt ‹_› ‹_›))|(intro b hb;repeat first|(refine fe hb ?_;intro _ _ hb)|(refine fT hb ?_;intro hb))|refine rt ?_|refine gA rfl ?_|refine gB rfl ?_|apply cT rfl|apply cF rfl|(apply DM.gbT;rfl)|(apply DM.gbF;rfl)|(apply DM.ixV (row := urow r) (z := (i : Int)) (by omega) (row_get urow hr); (· rfl); (· rfl))|(apply DM.remI; (· rfl); (· rfl); (· decide))|intro h
       simp only [hcv]
       repeat' first|(apply Sp.go;·constructor<;>first|exact ss|(change _=_;first|(simp only[go_sem,Nat.reduceBEq,Nat.reduceAdd,Nat.reduceLeDiff,reduceIte]<;>rfl)|rfl)|exact Nat.le_of_ble_eq_true rfl|decide|(repeat' first|(apply Lk.go;constructor)|assumption|exact nb ‹_› ‹_›|exact nt ‹_› ‹_›))|(intro b hb;repeat first|(refine fe hb ?_;intro _ _ hb)|(refine fT hb ?_;intro hb))|refine rt ?_|refine gA rfl ?_|refine gB rfl ?_|apply cT rfl|apply cF rfl|(apply DM.gbT;rfl)|(apply DM.gbF;rfl)|intro h
       refine AM.roundX (i + 1, W (e + W (pr * W ((((1 + r % 6).toNat : Nat) : Int) - 1))), W (pr * (((1 + r % 6).toNat : Nat) : Int))) ⟨rfl, by dsimp only; omega, he⟩ ?_ ?_
       ·(repeat first | exact envle_nil _ | (refine envle_cons ?_ ?_; · (simp only [go_sem, Nat.reduceBEq, Nat.reduceAdd]; exact AVLe.refl _)))
        refine envle_cons ?_ ?_
        ·simp only [go_sem, Nat.reduceBEq, Nat.reduceAdd]
         refine avle_int ?_
         rw [inc64 h6 (by unfold maxLen; omega)]
        exact envle_nil _
       ·show rs.length - (i + 1) < rs.length - i
        omega
      ·intro h6
       simp at h6
       rw [List.drop_eq_nil_of_le (by omega)] at he
       simp only [List.foldl_nil] at he
       subst he
       have g3' : IntKind.i64.wrap (C - e) = (R : Int) := g3
       have dq : decide (IntKind.i64.wrap (C - e) = (R : Int)) = true := decide_eq_true g3'
       repeat' first|(apply Sp.go;·constructor<;>first|exact ss|(change _=_;first|(simp only[go_sem,Nat.reduceBEq,Nat.reduceAdd,Nat.reduceLeDiff,reduceIte, dq]<;>rfl)|rfl)|exact Nat.le_of_ble_eq_true rfl|decide|(repeat' first|(apply Lk.go;constructor)|assumption|exact nb ‹_› ‹_›|exact nt ‹_› ‹_›))|(intro b hb;repeat first|(refine fe hb ?_;intro _ _ hb)|(refine fT hb ?_;intro hb))|refine rt ?_|refine gA rfl ?_|refine gB rfl ?_|apply cT rfl|apply cF rfl|(apply DM.gbT;rfl)|(apply DM.gbF;rfl)|intro h
       exact AM.ret (v := .bool true) rfl ⟨_, rfl, AVLe.refl _, hsG.trans hs9⟩
    | succ j =>
     have d0 : decide ((0 : Int) ≤ ((j + 1 : Nat) : Int) - 1) = true := decide_eq_true (by omega)
     have hw : IntKind.i64.wrap (((j + 1 : Nat) : Int) - 1 + 1) = (j : Int) + 1 := by rw [wrap64 (by omega) (by omega)]; omega
     have hw2 : IntKind.i64.wrap (((j + 1 : Nat) : Int) - 1 - 1) = (j : Int) - 1 := by rw [wrap64 (by omega) (by omega)]; omega
     repeat' first|(apply Sp.go;·constructor<;>first|exact ss|(change _=_;first|(simp only[go_sem,Nat.reduceBEq,Nat.reduceAdd,Nat.reduceLeDiff,reduceIte, d0, hw]<;>rfl)|rfl)|exact Nat.le_of_ble_eq_true rfl|decide|(repeat' first|(apply Lk.go;constructor)|assumption|exact nb ‹_› ‹_›|exact nt ‹_› ‹_›|(apply Lm.go;constructor)))|(intro b hb;repeat first|(refine fe hb ?_;intro _ _ hb)|(refine fT hb ?_;intro hb)|(refine fresh_elimM hb ?_;intro _ _ hb))|refine rt ?_|refine gA rfl ?_|refine gB rfl ?_|apply cT rfl|apply cF rfl|(apply DM.gbT;rfl)|(apply DM.gbF;rfl)|intro h
     (apply DM.apM; (· rfl); (· repeat' first|(apply Lk.go;constructor)|assumption|exact nb ‹_› ‹_›|exact nt ‹_› ‹_›|(apply Lm.go;constructor)); (· simp only [rowsOf, if_true, eq_self, go_sem, Nat.reduceBEq, reduceIte] <;> rfl); (· (simp only [List.length_cons, List.length_nil, maxLen]; omega)); (· (simp only [List.length_cons, List.length_nil, maxLen]; omega)))
     repeat' first|(apply Sp.go;·constructor<;>first|exact ss|(change _=_;first|(simp only[go_sem,Nat.reduceBEq,Nat.reduceAdd,Nat.reduceLeDiff,reduceIte, hw2]<;>rfl)|rfl)|exact Nat.le_of_ble_eq_true rfl|decide|(repeat' first|(apply Lk.go;constructor)|assumption|exact nb ‹_› ‹_›|exact nt ‹_› ‹_›|(apply Lm.go;constructor)))|(intro b hb;repeat first|(refine fe hb ?_;intro _ _ hb)|(refine fT hb ?_;intro hb)|(refine fresh_elimM hb ?_;intro _ _ hb))|refine rt ?_|refine gA rfl ?_|refine gB rfl ?_|apply cT rfl|apply cF rfl|(apply DM.gbT;rfl)|(apply DM.gbF;rfl)|intro h
     refine AM.eqH (H2 := HP H b tc (v + 1) ((Ct (nsOf rs) j).map Ins_.row)) ?_ ?_
     ·rw [Ct_step (ns := nsOf rs) (j := j) (by omega), List.map_append]
      exact hp_step
     refine AM.roundX (j, v + 1) ⟨rfl, by dsimp only; omega⟩ ?_ (show j < j + 1 by omega)
     ·simp only [hw2]
      (repeat first | exact envle_nil _ | (refine envle_cons ?_ ?_; · (simp only [go_sem, Nat.reduceBEq, Nat.reduceAdd]; exact AVLe.refl _)))
end Go.Aw.T
