/- Part of a proof; own work. -/
import Derived.Test.YtocjjlmnkpnjbaaGreatDoorAS9
namespace Go.Aw.T
open Go Go.Aw Go.Proofs
set_option maxRecDepth 1000000
def e8 : EC :=
 (.seq
 (.region [
 ⟨(some 2), none, .box 27 (.t 0)⟩,
 ⟨(some 3), none, .box 27 (.t 1)⟩,
 ⟨(some 4), none, .mv (.c (.bool false))⟩] false)
 (.seq
 (.seq
 (.region [
 ⟨(some 7), none, .call 9 []⟩,
 ⟨(some 8), none, .not (.t 7)⟩] false)
 (.cond (.t 8)
 (.seq
 (.region [
 ⟨(some 4), none, .mv (.c (.bool false))⟩] false)
 .ret)
 .skip))
 (.seq
 (.seq
 (.region [
 ⟨(some 9), none, .load true 6 (.t 2)⟩,
 ⟨(some 10), none, .call 10 [(.t 9)]⟩,
 ⟨(some 11), none, .not (.t 10)⟩,
 ⟨(some 12), none, .mv (.t 11)⟩,
 ⟨(some 13), (some (12, false)), .load true 6 (.t 3)⟩,
 ⟨(some 14), (some (12, false)), .call 10 [(.t 13)]⟩,
 ⟨(some 15), (some (12, false)), .not (.t 14)⟩,
 ⟨(some 16), none, .pick (.t 12) (.c (.bool true)) (.t 15)⟩,
 ⟨(some 17), none, .mv (.t 16)⟩,
 ⟨(some 18), (some (17, false)), .load true 6 (.t 2)⟩,
 ⟨(some 19), (some (17, false)), .call 13 [(.t 18)]⟩,
 ⟨(some 20), (some (17, false)), .not (.t 19)⟩,
 ⟨(some 21), none, .pick (.t 17) (.c (.bool true)) (.t 20)⟩,
 ⟨(some 22), none, .mv (.t 21)⟩,
 ⟨(some 23), (some (22, false)), .load true 6 (.t 3)⟩,
 ⟨(some 24), (some (22, false)), .call 13 [(.t 23)]⟩,
 ⟨(some 25), (some (22, false)), .not (.t 24)⟩,
 ⟨(some 26), none, .pick (.t 22) (.c (.bool true)) (.t 25)⟩] false)
 (.cond (.t 26)
 (.seq
 (.region [
 ⟨(some 4), none, .mv (.c (.bool true))⟩] false)
 .ret)
 .skip))
 (.seq
 (.region [
 ⟨(some 27), none, .load true 6 (.t 2)⟩,
 ⟨(some 28), none, .pcall 12 [(.t 27)]⟩,
 ⟨(some 29), none, .load true 6 (.t 3)⟩,
 ⟨(some 30), none, .pcall 12 [(.t 29)]⟩,
 ⟨(some 5), none, .alloc 36 [.str [], .int .i64 0, .nilS, .nilS, .nilS, .nilS]⟩,
 ⟨(some 6), none, .alloc 36 [.str [], .int .i64 0, .nilS, .nilS, .nilS, .nilS]⟩,
 ⟨none, none, .store 6 (.t 5) (.t 28)⟩,
 ⟨none, none, .store 6 (.t 6) (.t 30)⟩] true)
 (.seq
 (.region [
 ⟨(some 31), none, .load true 6 (.t 5)⟩,
 ⟨(some 32), none, .pcall 27 [(.t 31)]⟩,
 ⟨(some 33), none, .load true 6 (.t 6)⟩,
 ⟨(some 34), none, .pcall 27 [(.t 33)]⟩,
 ⟨(some 35), none, .pcall 26 [(.t 32), (.t 34)]⟩,
 ⟨(some 36), none, .load true 6 (.t 2)⟩,
 ⟨(some 37), none, .load true 6 (.t 3)⟩,
 ⟨(some 38), none, .pcall 15 [(.t 36), (.t 37)]⟩,
 ⟨(some 39), none, .binB .eql (.t 35) (.t 38)⟩,
 ⟨(some 40), none, .mv (.t 39)⟩,
 ⟨(some 41), (some (40, true)), .load true 6 (.t 5)⟩,
 ⟨(some 42), (some (40, true)), .pcall 20 [(.t 41)]⟩,
 ⟨(some 43), (some (40, true)), .load true 6 (.t 6)⟩,
 ⟨(some 44), (some (40, true)), .pcall 20 [(.t 43)]⟩,
 ⟨(some 45), (some (40, true)), .pcall 22 [(.t 42), (.t 44)]⟩,
 ⟨(some 46), (some (40, true)), .load true 6 (.t 2)⟩,
 ⟨(some 47), (some (40, true)), .load true 6 (.t 3)⟩,
 ⟨(some 48), (some (40, true)), .pcall 15 [(.t 46), (.t 47)]⟩,
 ⟨(some 49), (some (40, true)), .binB .eql (.t 45) (.t 48)⟩,
 ⟨(some 50), none, .pick (.t 40) (.t 49) (.c (.bool false))⟩,
 ⟨(some 4), none, .mv (.t 50)⟩] true)
 .ret)))))
def r8 : List ERes := [.t 4]
theorem c8 : chkF Tryz.prog Tryz.f8 2 e8 r8 = true := by kernel_rfl
def e22 : EC :=
 (.seq
 (.region [
 ⟨(some 4), none, .mv (.c (.bool false))⟩] false)
 (.seq
 (.region [
 ⟨(some 5), none, .mv (.t 0)⟩,
 ⟨(some 6), none, .convS false (.t 5)⟩,
 ⟨(some 7), none, .mv (.t 1)⟩,
 ⟨(some 8), none, .convS false (.t 7)⟩,
 ⟨(some 9), none, .bin .eql (.t 6) (.t 8)⟩,
 ⟨(some 4), none, .mv (.t 9)⟩] false)
 .ret))
def r22 : List ERes := [.t 4]
theorem c22 : chkF Tryz.prog Tryz.f22 2 e22 r22 = true := by kernel_rfl
def e26 : EC :=
 (.seq
 (.region [
 ⟨(some 4), none, .mv (.c (.bool false))⟩] false)
 (.seq
 (.seq
 (.region [
 ⟨(some 6), none, .mv (.t 0)⟩,
 ⟨(some 7), none, .len (.t 6)⟩,
 ⟨(some 8), none, .mv (.t 1)⟩,
 ⟨(some 9), none, .len (.t 8)⟩,
 ⟨(some 10), none, .bin .neq (.t 7) (.t 9)⟩] false)
 (.cond (.t 10)
 (.seq
 (.region [
 ⟨(some 4), none, .mv (.c (.bool false))⟩] false)
 .ret)
 .skip))
 (.seq
 (.seq
 (.region [
 ⟨(some 5), none, .mv (.c (.int .i64 0))⟩] false)
 (.block 0
 (.loop
 (.seq
 (.seq
 (.region [
 ⟨(some 11), none, .mv (.t 5)⟩,
 ⟨(some 12), none, .mv (.t 0)⟩,
 ⟨(some 13), none, .len (.t 12)⟩,
 ⟨(some 14), none, .bin .lss (.t 11) (.t 13)⟩] false)
 (.cond (.t 14)
 .skip
 (.exit 0)))
 (.seq
 (.block 1
 (.seq
 (.region [
 ⟨(some 17), none, .mv (.t 0)⟩,
 ⟨(some 18), none, .mv (.t 5)⟩,
 ⟨(some 19), none, .iaddr 1 (.t 17) (.t 18)⟩,
 ⟨(some 20), none, .load false 1 (.t 19)⟩,
 ⟨(some 21), none, .mv (.t 1)⟩,
 ⟨(some 22), none, .mv (.t 5)⟩,
 ⟨(some 23), none, .iaddr 1 (.t 21) (.t 22)⟩,
 ⟨(some 24), none, .load false 1 (.t 23)⟩,
 ⟨(some 25), none, .bin .neq (.t 20) (.t 24)⟩] true)
 (.cond (.t 25)
 (.seq
 (.region [
 ⟨(some 4), none, .mv (.c (.bool false))⟩] false)
 .ret)
 .skip)))
 (.region [
 ⟨(some 15), none, .mv (.t 5)⟩,
 ⟨(some 16), none, .bin .add (.t 15) (.c (.int .i64 1))⟩,
 ⟨(some 5), none, .mv (.t 16)⟩] false))))))
 (.seq
 (.region [
 ⟨(some 4), none, .mv (.c (.bool true))⟩] false)
 .ret))))
def r26 : List ERes := [.t 4]
theorem c26 : chkF Tryz.prog Tryz.f26 2 e26 r26 = true := by kernel_rfl
end Go.Aw.T
namespace Go.Aw.T
open Go Go.Aw Go.Proofs Go.RowKit
set_option maxRecDepth 100000
attribute [local irreducible] Go.Aw.DM Go.Aw.AHeap.setB Go.Aw.AHeap.setT
attribute [local go_sem] peval EOpd.ev Env.get binInt binStr binBool buildParts AV.cells AV.okc setRange minmaxAV AV.one AV.ofCells eqCells eqCell bslRows cond_true cond_false beq_self_eq_true Bool.not_true Bool.not_false beq_true beq_false eq_self if_true Option.some.injEq List.length_cons List.length_nil List.take_succ_cons List.take_zero List.drop_succ_cons List.drop_zero List.set_cons_succ List.set_cons_zero List.nil_append List.cons_append List.append_nil and_self Option.map_some List.map_cons List.map_nil Bool.false_eq_true if_false Nat.zero_add Nat.add_zero true_and and_true Bool.and_true Bool.true_and List.getElem?_cons_zero List.getElem?_cons_succ Nat.zero_le Nat.le_refl
set_option linter.unusedSimpArgs false
set_option linter.unusedVariables false
theorem byteRows_brow (bs : List Nat) : byteRows (bs.map brow) = some (bs.map fun b => UInt8.ofNat b) := by
  induction bs with
  | nil => rfl
  | cons b l ih => simp only [List.map_cons, brow, byteRows, ih]; rfl
section
variable {P : Program} {d : Nat} {l : List EI} {env : Env} {H : AHeap} {K : Env → AHeap → Prop} {Rp : AV → AHeap → Prop} {x : EOpd} {rows : List (List AV)} {s : List UInt8}
theorem DM.cvS (hb : byteRows rows = some s) (hx : x.ev env = .vs 1 rows) (h : DM P l ((d, .str s) :: env) H K Rp) : DM P (⟨some d, none, .convS false x⟩ :: l) env H K Rp := by
  refine DM.de (.det (.str s)) rfl (.pure ?_) fun _ _ => h
  simp only [peval, hx, hb]
  rfl
end
theorem p22 (xs ys : List Nat) : Pure Tryz.prog 22 [.vs 1 (xs.map brow), .vs 1 (ys.map brow)] (.bool (decide (xs.map UInt8.ofNat = ys.map UInt8.ofNat))) := by
  refine pure_intro mo Tryz.func22 c22 fun H => ?_
  unfold e22 r22
  simp only [initEnv, initFrom]
  repeat' first|(apply Sp.go;·constructor<;>first|exact ss|(change _=_;first|(simp only[go_sem,Nat.reduceBEq,Nat.reduceAdd,Nat.reduceLeDiff,reduceIte]<;>rfl)|rfl)|exact Nat.le_of_ble_eq_true rfl|decide|(repeat' first|(apply Lk.go;constructor)|assumption|exact nb ‹_› ‹_›|exact nt ‹_› ‹_›))|(intro b hb;repeat first|(refine fe hb ?_;intro _ _ hb)|(refine fT hb ?_;intro hb))|refine rt ?_|refine gA rfl ?_|refine gB rfl ?_|apply cT rfl|apply cF rfl|(apply DM.gbT;rfl)|(apply DM.gbF;rfl)|intro h
  apply DM.cvS (byteRows_brow xs) (by rfl)
  repeat' first|(apply Sp.go;·constructor<;>first|exact ss|(change _=_;first|(simp only[go_sem,Nat.reduceBEq,Nat.reduceAdd,Nat.reduceLeDiff,reduceIte]<;>rfl)|rfl)|exact Nat.le_of_ble_eq_true rfl|decide|(repeat' first|(apply Lk.go;constructor)|assumption|exact nb ‹_› ‹_›|exact nt ‹_› ‹_›))|(intro b hb;repeat first|(refine fe hb ?_;intro _ _ hb)|(refine fT hb ?_;intro hb))|refine rt ?_|refine gA rfl ?_|refine gB rfl ?_|apply cT rfl|apply cF rfl|(apply DM.gbT;rfl)|(apply DM.gbF;rfl)|intro h
  apply DM.cvS (byteRows_brow ys) (by rfl)
  repeat' first|(apply Sp.go;·constructor<;>first|exact ss|(change _=_;first|(simp only[go_sem,Nat.reduceBEq,Nat.reduceAdd,Nat.reduceLeDiff,reduceIte]<;>rfl)|rfl)|exact Nat.le_of_ble_eq_true rfl|decide|(repeat' first|(apply Lk.go;constructor)|assumption|exact nb ‹_› ‹_›|exact nt ‹_› ‹_›))|(intro b hb;repeat first|(refine fe hb ?_;intro _ _ hb)|(refine fT hb ?_;intro hb))|refine rt ?_|refine gA rfl ?_|refine gB rfl ?_|apply cT rfl|apply cF rfl|(apply DM.gbT;rfl)|(apply DM.gbF;rfl)|intro h
  (apply Sr.go;·constructor<;>first|(apply Lk.go;constructor<;>first|exact ss|(change _=_;first|(simp only[go_sem,Nat.reduceBEq,Nat.reduceAdd,Nat.reduceLeDiff,reduceIte]<;>rfl)|rfl)|exact Nat.le_of_ble_eq_true rfl|decide|(repeat' first|(apply Lk.go;constructor)|assumption|exact nb ‹_› ‹_›|exact nt ‹_› ‹_›))|assumption)
  refine avle_eq ?_
  rw [AV.bool.injEq]
theorem zig_inj {a b : Int} (h : zig a = zig b) : a = b := by
  unfold zig at h
  split at h <;> split at h <;> omega
theorem enc_pf {a b : Int} {x y : List Nat} (h : enc a ++ x = enc b ++ y) : a = b ∧ x = y := by
  unfold enc at h
  split at h <;> split at h <;> simp only [List.cons_append, List.nil_append, List.cons.injEq] at h
  · exact ⟨zig_inj h.1, h.2⟩
  · omega
  · omega
  · exact ⟨zig_inj (by omega), h.2.2⟩
theorem flat_pf {α : Type} {f : α → List Nat} {P : α → Prop} (hf : ∀ a b x y, P a → P b → f a ++ x = f b ++ y → a = b ∧ x = y) : ∀ {l k : List α} {x y : List Nat}, (∀ a ∈ l, P a) → (∀ a ∈ k, P a) → l.length = k.length → l.flatMap f ++ x = k.flatMap f ++ y → l = k ∧ x = y
  | [], [], x, y, _, _, _, h => ⟨rfl, by simpa using h⟩
  | [], b :: k, _, _, _, _, e, _ => by simp at e
  | a :: l, [], _, _, _, _, e, _ => by simp at e
  | a :: l, b :: k, x, y, hl, hk, e, h => by
    rw [List.flatMap_cons, List.flatMap_cons, List.append_assoc, List.append_assoc] at h
    obtain ⟨rfl, h2⟩ := hf a b _ _ (hl a (List.mem_cons_self ..)) (hk b (List.mem_cons_self ..)) h
    obtain ⟨rfl, h3⟩ := flat_pf hf (fun z hz => hl z (List.mem_cons_of_mem _ hz)) (fun z hz => hk z (List.mem_cons_of_mem _ hz)) (by simpa using e) h2
    exact ⟨rfl, h3⟩
theorem encs_pf {l k : List Int} {x y : List Nat} (e : l.length = k.length) (h : l.flatMap enc ++ x = k.flatMap enc ++ y) : l = k ∧ x = y :=
  flat_pf (P := fun _ => True) (fun _ _ _ _ _ _ h => enc_pf h) (fun _ _ => trivial) (fun _ _ => trivial) e h
theorem encT_pf {s t : List UInt8} {x y : List Nat} (h : encT s ++ x = encT t ++ y) : s = t ∧ x = y := by
  unfold encT at h
  rw [List.append_assoc, List.append_assoc] at h
  obtain ⟨h1, h2⟩ := enc_pf h
  obtain ⟨h3, h4⟩ := List.append_inj h2 (by simp only [List.length_map]; omega)
  exact ⟨(List.map_inj_right fun a b e => UInt8.toNat_inj.1 e).1 h3, h4⟩
theorem encV_pf {v w : Val} {x y : List Nat} (hv : validV v = true) (hw : validV w = true) (h : encV v ++ x = encV w ++ y) : v = w ∧ x = y := by
  obtain ⟨k, n, s⟩ := v
  obtain ⟨k', n', s'⟩ := w
  unfold encV at h
  simp only [List.append_assoc] at h
  obtain ⟨rfl, h2⟩ := enc_pf h
  simp only [validV, Bool.or_eq_true, Bool.and_eq_true, decide_eq_true_eq] at hv hw
  by_cases h1 : k = 1
  · rw [if_pos h1, if_pos h1] at h2
    obtain ⟨rfl, h3⟩ := enc_pf h2
    have e1 : s = [] := by rcases hv with hv | hv; · exact hv.2
                           · omega
    have e2 : s' = [] := by rcases hw with hw | hw; · exact hw.2
                            · omega
    rw [e1, e2]
    exact ⟨rfl, h3⟩
  · have h2' : k = 2 := by omega
    rw [if_neg h1, if_neg h1, if_pos h2', if_pos h2'] at h2
    obtain ⟨rfl, h3⟩ := encT_pf h2
    have e1 : n = 0 := by omega
    have e2 : n' = 0 := by omega
    rw [e1, e2]
    exact ⟨rfl, h3⟩
theorem encVar_pf (v w : Var_) (x y : List Nat) (hv : validV v.init = true) (hw : validV w.init = true) (h : encVar v ++ x = encVar w ++ y) : v = w ∧ x = y := by
  unfold encVar at h
  simp only [List.append_assoc] at h
  obtain ⟨h1, h2⟩ := encT_pf h
  obtain ⟨h3, h4⟩ := encs_pf (by rfl) h2
  obtain ⟨h5, h6⟩ := encV_pf hv hw h4
  obtain ⟨nm, ⟨k, lo, hi⟩, i⟩ := v
  obtain ⟨nm', ⟨k', lo', hi'⟩, i'⟩ := w
  simp only [List.cons.injEq, and_true] at h1 h3 h5
  obtain ⟨rfl, rfl, rfl⟩ := h3
  subst h1 h5
  exact ⟨rfl, h6⟩
theorem encH_pf (v w : Hd) (x y : List Nat) (_ : True) (_ : True) (h : encH v ++ x = encH w ++ y) : v = w ∧ x = y := by
  obtain ⟨h3, h4⟩ := encs_pf (by rfl) h
  obtain ⟨a, b, c⟩ := v
  obtain ⟨a', b', c'⟩ := w
  simp only [List.cons.injEq, and_true] at h3
  obtain ⟨rfl, rfl, rfl⟩ := h3
  exact ⟨rfl, h4⟩
theorem encO_pf (v w : Of_) (x y : List Nat) (_ : True) (_ : True) (h : encO v ++ x = encO w ++ y) : v = w ∧ x = y := by
  obtain ⟨h3, h4⟩ := encs_pf (by rfl) h
  obtain ⟨a, b, c, d⟩ := v
  obtain ⟨a', b', c', d'⟩ := w
  simp only [List.cons.injEq, and_true] at h3
  obtain ⟨rfl, rfl, rfl, rfl⟩ := h3
  exact ⟨rfl, h4⟩
theorem encI_pf (v w : Ins_) (x y : List Nat) (_ : True) (_ : True) (h : encI v ++ x = encI w ++ y) : v = w ∧ x = y := by
  unfold encI at h
  simp only [List.append_assoc] at h
  obtain ⟨h3, h4⟩ := encs_pf (by rfl) h
  obtain ⟨h5, h6⟩ := encT_pf h4
  obtain ⟨a, b, s⟩ := v
  obtain ⟨a', b', s'⟩ := w
  simp only [List.cons.injEq, and_true] at h3 h5
  obtain ⟨rfl, rfl⟩ := h3
  subst h5
  exact ⟨rfl, h6⟩
theorem encP_inj {p q : Prog} (vp : VP p) (vq : VP q) (h : encP p = encP q) : p = q := by
  unfold encP encHd at h
  simp only [List.append_assoc] at h
  obtain ⟨h1, h⟩ := encT_pf h
  obtain ⟨h2, h⟩ := encs_pf (by rfl) h
  simp only [List.cons.injEq, and_true] at h2
  obtain ⟨h2, h3⟩ := h2
  obtain ⟨h4, h⟩ := flat_pf (P := fun v : Var_ => validV v.init = true) encVar_pf (fun v hv => (vp.vars v hv).2.2.2.2.2.2.2) (fun v hv => (vq.vars v hv).2.2.2.2.2.2.2) (by omega) h
  obtain ⟨h5, h⟩ := encs_pf (by rfl) h
  simp only [List.cons.injEq, and_true] at h5
  obtain ⟨h6, h⟩ := flat_pf (P := fun _ => True) encH_pf (fun _ _ => trivial) (fun _ _ => trivial) (by omega) h
  obtain ⟨h7, h⟩ := encs_pf (by rfl) h
  simp only [List.cons.injEq, and_true] at h7
  obtain ⟨h8, h⟩ := flat_pf (P := fun _ => True) encO_pf (fun _ _ => trivial) (fun _ _ => trivial) (by omega) h
  obtain ⟨h9, h⟩ := encs_pf (by rfl) h
  simp only [List.cons.injEq, and_true] at h9
  obtain ⟨h10, h⟩ := flat_pf (P := fun _ => True) (l := p.code) (k := q.code) (x := []) (y := []) encI_pf (fun _ _ => trivial) (fun _ _ => trivial) (by omega) (by rw [List.append_nil, List.append_nil]; exact h)
  cases p; cases q
  simp only at h1 h2 h4 h6 h8 h10
  subst h1 h2 h4 h6 h8 h10
  rfl
def B256 (l : List Nat) : Prop := ∀ b ∈ l, b < 256
theorem B256.app {l k : List Nat} (h : B256 l) (h' : B256 k) : B256 (l ++ k) := fun b hb => (List.mem_append.1 hb).elim (h b) (h' b)
theorem B256.flat {α : Type} {f : α → List Nat} {l : List α} (h : ∀ a ∈ l, B256 (f a)) : B256 (l.flatMap f) := fun b hb => by
  obtain ⟨a, ha, hb⟩ := List.mem_flatMap.1 hb
  exact h a ha b hb
theorem enc_256 {n : Int} (h0 : -1000 ≤ n) (h1 : n ≤ 1000) : B256 (enc n) := by
  have := zig_le h0 h1
  intro b hb
  unfold enc at hb
  split at hb
  · simp only [List.mem_cons, List.not_mem_nil, or_false] at hb; omega
  · simp only [List.mem_cons, List.not_mem_nil, or_false] at hb
    rcases hb with rfl | rfl <;> omega
theorem encs_256 {l : List Int} (h : ∀ n ∈ l, -1000 ≤ n ∧ n ≤ 1000) : B256 (l.flatMap enc) := B256.flat fun n hn => enc_256 (h n hn).1 (h n hn).2
theorem encT_256 {s : List UInt8} (h : s.length ≤ 1000) : B256 (encT s) := by
  refine B256.app (enc_256 (by omega) (by omega)) fun b hb => ?_
  obtain ⟨c, _, rfl⟩ := List.mem_map.1 hb
  exact c.toNat_lt
theorem encV_256 {v : Val} (h : validV v = true) : B256 (encV v) := by
  have f := val_facts h
  unfold encV
  refine B256.app (enc_256 (by omega) (by omega)) ?_
  split
  · exact enc_256 (by omega) (by omega)
  · split
    · exact encT_256 (by omega)
    · intro b hb; cases hb
theorem encP_256 {p : Prog} (vp : VP p) : B256 (encP p) := by
  have nv := vp.nv; have nh := vp.nh; have no := vp.no; have c0 := vp.code0; have nm := vp.name; have rl := vp.role
  unfold encP encHd
  refine B256.app (B256.app (B256.app (B256.app (B256.app (B256.app (B256.app (B256.app (encT_256 (by omega)) (encs_256 ?_)) (B256.flat fun v hv => ?_)) (encs_256 ?_)) (B256.flat fun v hv => ?_)) (encs_256 ?_)) (B256.flat fun v hv => ?_)) (encs_256 ?_)) (B256.flat fun v hv => ?_)
  · intro n hn; simp at hn; rcases hn with rfl | rfl <;> omega
  · have hv1 := vp.vars v hv
    unfold encVar
    exact B256.app (B256.app (encT_256 (by omega)) (encs_256 (by intro n hn; simp at hn; rcases hn with rfl | rfl | rfl <;> omega))) (encV_256 hv1.2.2.2.2.2.2.2)
  · intro n hn; simp at hn; subst hn; omega
  · have hv1 := vp.hs v hv
    exact encs_256 (by intro n hn; simp at hn; rcases hn with rfl | rfl | rfl <;> omega)
  · intro n hn; simp at hn; subst hn; omega
  · have hv1 := vp.os v hv
    exact encs_256 (by intro n hn; simp at hn; rcases hn with rfl | rfl | rfl | rfl <;> omega)
  · intro n hn; simp at hn; subst hn; omega
  · have hv1 := formed_facts (vp.code v hv)
    unfold encI
    exact B256.app (encs_256 (by intro n hn; simp at hn; rcases hn with rfl | rfl <;> omega)) (encT_256 (by omega))
theorem ofNat_inj : ∀ {l k : List Nat}, B256 l → B256 k → l.map UInt8.ofNat = k.map UInt8.ofNat → l = k
  | [], [], _, _, _ => rfl
  | [], _ :: _, _, _, h => by simp at h
  | _ :: _, [], _, _, h => by simp at h
  | a :: l, b :: k, ha, hb, h => by
    simp only [List.map_cons, List.cons.injEq] at h
    have h1 := congrArg UInt8.toNat h.1
    have la := ha a (List.mem_cons_self ..)
    have lb := hb b (List.mem_cons_self ..)
    rw [UInt8.toNat_ofNat', UInt8.toNat_ofNat', Nat.mod_eq_of_lt la, Nat.mod_eq_of_lt lb] at h1
    rw [h1, ofNat_inj (fun z hz => ha z (List.mem_cons_of_mem _ hz)) (fun z hz => hb z (List.mem_cons_of_mem _ hz)) h.2]
def unIt : List UInt8 → Int
  | 45 :: t => -((t.foldl (fun a c => 10 * a + (c.toNat - 48)) 0 : Nat) : Int)
  | t => ((t.foldl (fun a c => 10 * a + (c.toNat - 48)) 0 : Nat) : Int)
theorem unItN : ∀ i : Fin 2001, unIt (Lib.itoa ((i.val : Int) - 1000)) = (i.val : Int) - 1000 ∧ (Lib.itoa ((i.val : Int) - 1000)).head? ≠ some 34 := by decide +kernel
theorem unIt_eq {n : Int} (h : -1000 ≤ n ∧ n ≤ 1000) : unIt (Lib.itoa n) = n ∧ (Lib.itoa n).head? ≠ some 34 := by
  have := unItN ⟨(n + 1000).toNat, by omega⟩
  have e : (((n + 1000).toNat : Nat) : Int) - 1000 = n := by omega
  simpa only [e] using this
theorem itoa_inj {a b : Int} (ha : -1000 ≤ a ∧ a ≤ 1000) (hb : -1000 ≤ b ∧ b ≤ 1000) (h : Lib.itoa a = Lib.itoa b) : a = b := by
  have h1 := (unIt_eq ha).1
  rw [h, (unIt_eq hb).1] at h1
  exact h1.symm
theorem showV_inj {v w : Val} (hv : validV v = true) (hw : validV w = true) (h : showV v = showV w) : v = w := by
  have e1 : showV v = if v.k = 1 then Lib.itoa v.n else showT v.s := by unfold showV; rw [if_neg (by rw [hv]; simp)]
  have e2 : showV w = if w.k = 1 then Lib.itoa w.n else showT w.s := by unfold showV; rw [if_neg (by rw [hw]; simp)]
  rw [e1, e2] at h
  clear e1 e2
  have fv := val_facts hv
  have fw := val_facts hw
  obtain ⟨k, n, s⟩ := v
  obtain ⟨k', n', s'⟩ := w
  have cases2 : ∀ {k n : Int} {s : List UInt8}, validV ⟨k, n, s⟩ = true → (k = 1 ∧ s = []) ∨ (k = 2 ∧ n = 0) := fun h => by
    simp only [validV, Bool.or_eq_true, Bool.and_eq_true, decide_eq_true_eq] at h
    rcases h with h | h
    · exact .inl ⟨h.1.1.1, h.2⟩
    · exact .inr ⟨h.1.1.1, h.1.1.2⟩
  simp only at fv fw h
  rcases cases2 hv with ⟨rfl, rfl⟩ | ⟨rfl, rfl⟩ <;> rcases cases2 hw with ⟨rfl, rfl⟩ | ⟨rfl, rfl⟩
  · rw [if_pos rfl, if_pos rfl] at h
    rw [itoa_inj fv.2.1 fw.2.1 h]
  · rw [if_pos rfl, if_neg (by decide)] at h
    exact absurd (by rw [h]; rfl) (unIt_eq fv.2.1).2
  · rw [if_neg (by decide), if_pos rfl] at h
    exact absurd (by rw [← h]; rfl) (unIt_eq fw.2.1).2
  · rw [if_neg (by decide), if_neg (by decide)] at h
    have a := (parseT_show hv).2
    rw [h, (parseT_show hw).2] at a
    exact (Prod.mk.inj a).1.symm
theorem itoa_blankN : ∀ i : Fin 2001, (Lib.itoa ((i.val : Int) - 1000)).contains 32 = false := by decide +kernel
theorem itoa_blank {n : Int} (h : -1000 ≤ n ∧ n ≤ 1000) : (32 : UInt8) ∉ Lib.itoa n := by
  have := itoa_blankN ⟨(n + 1000).toNat, by omega⟩
  have e : (((n + 1000).toNat : Nat) : Int) - 1000 = n := by omega
  simp only [e] at this
  intro hm
  rw [List.contains_iff_mem.2 hm] at this
  cases this
theorem split_b {a b x y : List UInt8} (ha : (32 : UInt8) ∉ a) (hb : (32 : UInt8) ∉ b) (h : a ++ 32 :: x = b ++ 32 :: y) : a = b ∧ x = y := by
  have h1 := cutB_app (b := x) ha
  rw [h, cutB_app (b := y) hb] at h1
  simp only [Prod.mk.injEq, and_true] at h1
  exact ⟨h1.1.symm, h1.2.symm⟩
abbrev R1000 (n : Int) : Prop := -1000 ≤ n ∧ n ≤ 1000
theorem lineT_inj : ∀ {l k : List Int}, (∀ n ∈ l, R1000 n) → (∀ n ∈ k, R1000 n) → l.length = k.length → lineT l = lineT k → l = k
  | [], [], _, _, _, _ => rfl
  | [], _ :: _, _, _, e, _ => by simp at e
  | _ :: _, [], _, _, e, _ => by simp at e
  | [a], [b], ha, hb, _, h => by
    have : Lib.itoa a = Lib.itoa b := by simpa [lineT] using h
    rw [itoa_inj (ha a (by simp)) (hb b (by simp)) this]
  | [_], _ :: _ :: _, _, _, e, _ => by simp at e
  | _ :: _ :: _, [_], _, _, e, _ => by simp at e
  | a :: c :: l, b :: d :: k, ha, hb, e, h => by
    have h' : Lib.itoa a ++ 32 :: (Lib.itoa c ++ lineT l) = Lib.itoa b ++ 32 :: (Lib.itoa d ++ lineT k) := by simpa [lineT] using h
    obtain ⟨h1, h2⟩ := split_b (itoa_blank (ha a (by simp))) (itoa_blank (hb b (by simp))) h'
    have hab := itoa_inj (ha a (by simp)) (hb b (by simp)) h1
    have := lineT_inj (l := c :: l) (k := d :: k) (fun n hn => ha n (List.mem_cons_of_mem _ hn)) (fun n hn => hb n (List.mem_cons_of_mem _ hn)) (by simpa using e) (by simp only [lineT, List.flatMap_cons, List.cons_append] at h2 ⊢; rw [h2])
    rw [hab, this]
theorem name_nb {s : List UInt8} (h : isName s = true) : (32 : UInt8) ∉ s := by
  intro hm
  cases s with
  | nil => cases hm
  | cons c l =>
    simp only [isName, Bool.and_eq_true, List.all_eq_true] at h
    have := h.1.2 32 hm
    exact absurd this (by decide)
structure VPn (p : Prog) : Prop where
  name : isName p.name = true
  vars : ∀ v ∈ p.vars, isName v.name = true ∧ (v.sort.k = 1 ∨ v.sort.k = 2)
theorem VPn.of {p : Prog} (h : validP p = true) : VPn p := by
  have vp := VP.of h
  simp only [validP, Bool.and_eq_true] at h
  obtain ⟨⟨⟨⟨⟨h1, h2⟩, h3⟩, h4⟩, h5⟩, h6⟩ := h
  simp only [varsOk, Bool.and_eq_true, decide_eq_true_eq] at h4
  refine ⟨h1, fun v hv => ?_⟩
  obtain ⟨j, hj⟩ := List.getElem?_of_mem hv
  have := allI_get h4.1 (List.getElem?_eq_some_iff.1 hj).1
  simp only [okVar, hj, Bool.and_eq_true] at this
  exact ⟨this.1.1, (vp.vars v hv).2.2.2.2.2.2.1⟩
theorem kind_nb (v : Var_) : (32 : UInt8) ∉ kindS v := by
  unfold kindS
  split <;> decide
theorem varLine_inj {v w : Var_} (hv : (isName v.name = true ∧ (v.sort.k = 1 ∨ v.sort.k = 2)) ∧ R1000 v.sort.lo ∧ R1000 v.sort.hi ∧ validV v.init = true) (hw : (isName w.name = true ∧ (w.sort.k = 1 ∨ w.sort.k = 2)) ∧ R1000 w.sort.lo ∧ R1000 w.sort.hi ∧ validV w.init = true) (h : varLine v = varLine w) : v = w := by
  have e : ∀ v : Var_, varLine v = 118 :: 97 :: 114 :: 32 :: (v.name ++ 32 :: (kindS v ++ 32 :: (Lib.itoa v.sort.lo ++ 32 :: (Lib.itoa v.sort.hi ++ 32 :: showV v.init)))) := fun v => by simp [varLine, lineT]
  rw [e v, e w] at h
  simp only [List.cons.injEq, true_and] at h
  obtain ⟨h1, h⟩ := split_b (name_nb hv.1.1) (name_nb hw.1.1) h
  obtain ⟨h2, h⟩ := split_b (kind_nb v) (kind_nb w) h
  obtain ⟨h3, h⟩ := split_b (itoa_blank hv.2.1) (itoa_blank hw.2.1) h
  obtain ⟨h4, h⟩ := split_b (itoa_blank hv.2.2.1) (itoa_blank hw.2.2.1) h
  have g3 := itoa_inj hv.2.1 hw.2.1 h3
  have g4 := itoa_inj hv.2.2.1 hw.2.2.1 h4
  clear h3 h4 e
  have h5 := showV_inj hv.2.2.2 hw.2.2.2 h
  have h6 : v.sort.k = w.sort.k := by
    unfold kindS at h2
    have a := hv.1.2
    have b := hw.1.2
    split at h2 <;> split at h2
    · omega
    · simp at h2
    · simp at h2
    · omega
  obtain ⟨nm, ⟨k, lo, hi⟩, i⟩ := v
  obtain ⟨nm', ⟨k', lo', hi'⟩, i'⟩ := w
  simp only at h1 g3 g4 h5 h6
  subst h1 g3 g4 h5 h6
  rfl
theorem showI_cut (x : Ins_) (hf : formed x = true) : (x.op = 2 ∧ x.n = 0 ∧ validV ⟨2, 0, x.s⟩ = true ∧ cutB (showI x) = (opName x.op, showT x.s, true)) ∨ (¬ x.op = 2 ∧ x.s = [] ∧ (-1000 ≤ x.n ∧ x.n ≤ 1000) ∧ cutB (showI x) = (opName x.op, Lib.itoa x.n, true)) ∨ (¬ x.op = 2 ∧ x.s = [] ∧ x.n = 0 ∧ cutB (showI x) = (opName x.op, [], false)) := by
  have hnb := name_blank x.op
  unfold showI
  rw [if_neg (by rw [hf]; simp)]
  have hf2 := hf
  unfold formed at hf2
  by_cases h2 : x.op = 2
  · rw [if_pos h2] at hf2 ⊢
    simp only [Bool.and_eq_true, decide_eq_true_eq] at hf2
    refine .inl ⟨h2, hf2.1, hf2.2, ?_⟩
    have e : showV ⟨2, 0, x.s⟩ = showT x.s := by unfold showV; rw [if_neg (by rw [hf2.2]; simp), if_neg (by simp)]
    rw [e, List.append_assoc]
    exact cutB_app hnb
  · rw [if_neg h2] at hf2 ⊢
    by_cases h3 : (numd x.op).2.2 = true
    · have hr := num_range hf h2 h3
      rw [if_pos h3] at hf2 ⊢
      simp only [Bool.and_eq_true, decide_eq_true_eq] at hf2
      refine .inr (.inl ⟨h2, hf2.2, hr, ?_⟩)
      rw [List.append_assoc]
      exact cutB_app hnb
    · rw [if_neg h3] at hf2 ⊢
      simp only [Bool.and_eq_true, decide_eq_true_eq] at hf2
      exact .inr (.inr ⟨h2, hf2.2, hf2.1.2, cutB_none hnb⟩)
theorem showI_inj {x y : Ins_} (hx : formed x = true) (hy : formed y = true) (h : showI x = showI y) : x = y := by
  have cx := showI_cut x hx
  have cy := showI_cut y hy
  rw [h] at cx
  have key : opName x.op = opName y.op → x.op = y.op := fun e => by
    have a := find_name (formed_op hx)
    have b := find_name (formed_op hy)
    rw [e, b] at a
    exact a.symm
  obtain ⟨a, b, s⟩ := x
  obtain ⟨a', b', s'⟩ := y
  simp only at cx cy key
  rcases cx with ⟨x1, x2, x3, x4⟩ | ⟨x1, x2, x3, x4⟩ | ⟨x1, x2, x3, x4⟩ <;> rcases cy with ⟨y1, y2, y3, y4⟩ | ⟨y1, y2, y3, y4⟩ | ⟨y1, y2, y3, y4⟩ <;> rw [x4] at y4 <;> simp only [Prod.mk.injEq, reduceCtorEq, and_false, and_true] at y4
  · have hs : (⟨2, 0, s⟩ : Val) = ⟨2, 0, s'⟩ := showV_inj x3 y3 (by
      unfold showV
      rw [if_neg (by rw [x3]; simp), if_neg (by simp), if_neg (by rw [y3]; simp), if_neg (by simp)]
      exact y4.2)
    have hs' := (Val.mk.inj hs).2.2
    rw [key y4.1, x2, y2, hs']
  · exact absurd ((key y4.1).symm.trans x1) y1
  · exact absurd ((key y4.1).trans y1) x1
  · rw [key y4.1, itoa_inj x3 y3 y4.2, x2, y2]
  · rw [key y4, x2, y2, x3, y3]
theorem srow_get {l : List (List UInt8)} {i : Nat} {s : List UInt8} (h : l[i]? = some s) : (l.map sr)[i]? = some (sr s) := by rw [List.getElem?_map, h]; rfl
theorem p26 (l k : List (List UInt8)) (hl : l.length ≤ 1000000) (hk : k.length ≤ 1000000) : Pure Tryz.prog 26 [.vs 1 (l.map sr), .vs 1 (k.map sr)] (.bool (decide (l = k))) := by
  refine pure_intro mo Tryz.func26 c26 fun H => ?_
  unfold e26 r26
  simp only [initEnv, initFrom]
  repeat' first|(apply Sp.go;·constructor<;>first|exact ss|(change _=_;first|(simp only[go_sem,Nat.reduceBEq,Nat.reduceAdd,Nat.reduceLeDiff,reduceIte]<;>rfl)|rfl)|exact Nat.le_of_ble_eq_true rfl|decide|(repeat' first|(apply Lk.go;constructor)|assumption|exact nb ‹_› ‹_›|exact nt ‹_› ‹_›))|(intro b hb;repeat first|(refine fe hb ?_;intro _ _ hb)|(refine fT hb ?_;intro hb))|refine rt ?_|refine gA rfl ?_|refine gB rfl ?_|apply cT rfl|apply cF rfl|(apply DM.gbT;rfl)|(apply DM.gbF;rfl)|intro h
  (apply AM.cond; (· rfl))
  · intro h
    have hne : l.length ≠ k.length := by simp at h; omega
    repeat' first|(apply Sp.go;·constructor<;>first|exact ss|(change _=_;first|(simp only[go_sem,Nat.reduceBEq,Nat.reduceAdd,Nat.reduceLeDiff,reduceIte]<;>rfl)|rfl)|exact Nat.le_of_ble_eq_true rfl|decide|(repeat' first|(apply Lk.go;constructor)|assumption|exact nb ‹_› ‹_›|exact nt ‹_› ‹_›))|(intro b hb;repeat first|(refine fe hb ?_;intro _ _ hb)|(refine fT hb ?_;intro hb))|refine rt ?_|refine gA rfl ?_|refine gB rfl ?_|apply cT rfl|apply cF rfl|(apply DM.gbT;rfl)|(apply DM.gbF;rfl)|intro h
    (apply Sr.go;·constructor<;>first|(apply Lk.go;constructor<;>first|exact ss|(change _=_;first|(simp only[go_sem,Nat.reduceBEq,Nat.reduceAdd,Nat.reduceLeDiff,reduceIte]<;>rfl)|rfl)|exact Nat.le_of_ble_eq_true rfl|decide|(repeat' first|(apply Lk.go;constructor)|assumption|exact nb ‹_› ‹_›|exact nt ‹_› ‹_›))|assumption)
    refine avle_eq ?_
    rw [decide_eq_false (fun e => hne (by rw [e]))]
  intro h
  have he : l.length = k.length := by simp at h; omega
  clear h
  repeat' first|(apply Sp.go;·constructor<;>first|exact ss|(change _=_;first|(simp only[go_sem,Nat.reduceBEq,Nat.reduceAdd,Nat.reduceLeDiff,reduceIte]<;>rfl)|rfl)|exact Nat.le_of_ble_eq_true rfl|decide|(repeat' first|(apply Lk.go;constructor)|assumption|exact nb ‹_› ‹_›|exact nt ‹_› ‹_›))|(intro b hb;repeat first|(refine fe hb ?_;intro _ _ hb)|(refine fT hb ?_;intro hb))|refine rt ?_|refine gA rfl ?_|refine gB rfl ?_|apply cT rfl|apply cF rfl|(apply DM.gbT;rfl)|(apply DM.gbF;rfl)|intro h
  refine AM.loopX (X := Nat) 0 (fun i => [(0, .vs 1 (l.map sr)), (1, .vs 1 (k.map sr)), (5, .int .i64 (i : Int))]) (fun i H' => H' = H ∧ i ≤ l.length ∧ l.take i = k.take i) (fun i => l.length - i) ⟨rfl, by omega, rfl⟩ ?_ ?_
  · (repeat first | exact envle_nil _ | (refine envle_cons ?_ ?_; · (simp only [go_sem, Nat.reduceBEq, Nat.reduceAdd]; exact AVLe.refl _)))
  rintro i H' ⟨rfl, hi, ht⟩
  repeat' first|(apply Sp.go;·constructor<;>first|exact ss|(change _=_;first|(simp only[go_sem,Nat.reduceBEq,Nat.reduceAdd,Nat.reduceLeDiff,reduceIte]<;>rfl)|rfl)|exact Nat.le_of_ble_eq_true rfl|decide|(repeat' first|(apply Lk.go;constructor)|assumption|exact nb ‹_› ‹_›|exact nt ‹_› ‹_›))|(intro b hb;repeat first|(refine fe hb ?_;intro _ _ hb)|(refine fT hb ?_;intro hb))|refine rt ?_|refine gA rfl ?_|refine gB rfl ?_|apply cT rfl|apply cF rfl|(apply DM.gbT;rfl)|(apply DM.gbF;rfl)|intro h
  (apply AM.cond; (· rfl))
  · intro h3
    simp at h3
    obtain ⟨a, ha⟩ := some_of h3
    obtain ⟨b, hb⟩ := some_of (show i < k.length by omega)
    repeat' first|(apply Sp.go;·constructor<;>first|exact ss|(change _=_;first|(simp only[go_sem,Nat.reduceBEq,Nat.reduceAdd,Nat.reduceLeDiff,reduceIte]<;>rfl)|rfl)|exact Nat.le_of_ble_eq_true rfl|decide|(repeat' first|(apply Lk.go;constructor)|assumption|exact nb ‹_› ‹_›|exact nt ‹_› ‹_›))|(intro b hb;repeat first|(refine fe hb ?_;intro _ _ hb)|(refine fT hb ?_;intro hb))|refine gA rfl ?_|refine gB rfl ?_|apply cT rfl|apply cF rfl|(apply DM.gbT;rfl)|(apply DM.gbF;rfl)|intro h
    (refine AM.reg [] ?_; simp only [annotate, AV.rows])
    repeat' first|(apply Sp.go;·constructor<;>first|exact ss|(change _=_;first|(simp only[go_sem,Nat.reduceBEq,Nat.reduceAdd,Nat.reduceLeDiff,reduceIte]<;>rfl)|rfl)|exact Nat.le_of_ble_eq_true rfl|decide|(repeat' first|(apply Lk.go;constructor)|assumption|exact nb ‹_› ‹_›|exact nt ‹_› ‹_›))|(intro b hb;repeat first|(refine fe hb ?_;intro _ _ hb)|(refine fT hb ?_;intro hb))|refine rt ?_|refine gA rfl ?_|refine gB rfl ?_|apply cT rfl|apply cF rfl|(apply DM.gbT;rfl)|(apply DM.gbF;rfl)|intro h
    (apply DM.ixV (row := sr a) (z := (i : Int)) (by omega) (srow_get ha); (· rfl); (· rfl))
    repeat' first|(apply Sp.go;·constructor<;>first|exact ss|(change _=_;first|(simp only[go_sem,Nat.reduceBEq,Nat.reduceAdd,Nat.reduceLeDiff,reduceIte]<;>rfl)|rfl)|exact Nat.le_of_ble_eq_true rfl|decide|(repeat' first|(apply Lk.go;constructor)|assumption|exact nb ‹_› ‹_›|exact nt ‹_› ‹_›))|(intro b hb;repeat first|(refine fe hb ?_;intro _ _ hb)|(refine fT hb ?_;intro hb))|refine rt ?_|refine gA rfl ?_|refine gB rfl ?_|apply cT rfl|apply cF rfl|(apply DM.gbT;rfl)|(apply DM.gbF;rfl)|intro h
    (apply DM.ixV (row := sr b) (z := (i : Int)) (by omega) (srow_get hb); (· rfl); (· rfl))
    repeat' first|(apply Sp.go;·constructor<;>first|exact ss|(change _=_;first|(simp only[go_sem,Nat.reduceBEq,Nat.reduceAdd,Nat.reduceLeDiff,reduceIte]<;>rfl)|rfl)|exact Nat.le_of_ble_eq_true rfl|decide|(repeat' first|(apply Lk.go;constructor)|assumption|exact nb ‹_› ‹_›|exact nt ‹_› ‹_›))|(intro b hb;repeat first|(refine fe hb ?_;intro _ _ hb)|(refine fT hb ?_;intro hb))|refine rt ?_|refine gA rfl ?_|refine gB rfl ?_|apply cT rfl|apply cF rfl|(apply DM.gbT;rfl)|(apply DM.gbF;rfl)|intro h
    (apply AM.cond; (· rfl))
    · intro h4
      have hab : a ≠ b := by simpa using h4
      repeat' first|(apply Sp.go;·constructor<;>first|exact ss|(change _=_;first|(simp only[go_sem,Nat.reduceBEq,Nat.reduceAdd,Nat.reduceLeDiff,reduceIte]<;>rfl)|rfl)|exact Nat.le_of_ble_eq_true rfl|decide|(repeat' first|(apply Lk.go;constructor)|assumption|exact nb ‹_› ‹_›|exact nt ‹_› ‹_›))|(intro b hb;repeat first|(refine fe hb ?_;intro _ _ hb)|(refine fT hb ?_;intro hb))|refine rt ?_|refine gA rfl ?_|refine gB rfl ?_|apply cT rfl|apply cF rfl|(apply DM.gbT;rfl)|(apply DM.gbF;rfl)|intro h
      (apply Sr.go;·constructor<;>first|(apply Lk.go;constructor<;>first|exact ss|(change _=_;first|(simp only[go_sem,Nat.reduceBEq,Nat.reduceAdd,Nat.reduceLeDiff,reduceIte]<;>rfl)|rfl)|exact Nat.le_of_ble_eq_true rfl|decide|(repeat' first|(apply Lk.go;constructor)|assumption|exact nb ‹_› ‹_›|exact nt ‹_› ‹_›))|assumption)
      refine avle_eq ?_
      rw [decide_eq_false (fun e => hab (by rw [e, hb] at ha; simpa using ha.symm))]
    · intro h4
      have hab : a = b := by simpa using h4
      subst hab
      repeat' first|(apply Sp.go;·constructor<;>first|exact ss|(change _=_;first|(simp only[go_sem,Nat.reduceBEq,Nat.reduceAdd,Nat.reduceLeDiff,reduceIte]<;>rfl)|rfl)|exact Nat.le_of_ble_eq_true rfl|decide|(repeat' first|(apply Lk.go;constructor)|assumption|exact nb ‹_› ‹_›|exact nt ‹_› ‹_›))|(intro b hb;repeat first|(refine fe hb ?_;intro _ _ hb)|(refine fT hb ?_;intro hb))|refine rt ?_|refine gA rfl ?_|refine gB rfl ?_|apply cT rfl|apply cF rfl|(apply DM.gbT;rfl)|(apply DM.gbF;rfl)|intro h
      refine AM.roundX (i + 1) ⟨rfl, by omega, by rw [List.take_add_one, List.take_add_one, ha, hb, ht]⟩ ?_ (show l.length - (i + 1) < l.length - i by omega)
      (repeat first | exact envle_nil _ | (refine envle_cons ?_ ?_; · (simp only [go_sem, Nat.reduceBEq, Nat.reduceAdd]; exact AVLe.refl _)))
      refine envle_cons ?_ ?_
      · simp only [go_sem, Nat.reduceBEq, Nat.reduceAdd]
        refine avle_int ?_
        rw [inc64 h3 (show l.length ≤ maxLen by unfold maxLen; omega)]
      exact envle_nil _
  · intro h3
    simp at h3
    repeat' first|(apply Sp.go;·constructor<;>first|exact ss|(change _=_;first|(simp only[go_sem,Nat.reduceBEq,Nat.reduceAdd,Nat.reduceLeDiff,reduceIte]<;>rfl)|rfl)|exact Nat.le_of_ble_eq_true rfl|decide|(repeat' first|(apply Lk.go;constructor)|assumption|exact nb ‹_› ‹_›|exact nt ‹_› ‹_›))|(intro b hb;repeat first|(refine fe hb ?_;intro _ _ hb)|(refine fT hb ?_;intro hb))|refine rt ?_|refine gA rfl ?_|refine gB rfl ?_|apply cT rfl|apply cF rfl|(apply DM.gbT;rfl)|(apply DM.gbF;rfl)|intro h
    (apply Sr.go;·constructor<;>first|(apply Lk.go;constructor<;>first|exact ss|(change _=_;first|(simp only[go_sem,Nat.reduceBEq,Nat.reduceAdd,Nat.reduceLeDiff,reduceIte]<;>rfl)|rfl)|exact Nat.le_of_ble_eq_true rfl|decide|(repeat' first|(apply Lk.go;constructor)|assumption|exact nb ‹_› ‹_›|exact nt ‹_› ‹_›))|assumption)
    refine avle_eq ?_
    have : l = k := by
      rw [← List.take_of_length_le (show l.length ≤ i by omega), ht, List.take_of_length_le (by omega)]
    rw [decide_eq_true this]
theorem lines_len {p : Prog} (h : fewP p = true) : ((if validP p then linesP p else [])).length ≤ 1000000 := by
  simp [fewP] at h
  split
  · simp only [linesP, codeL, List.length_append, List.length_map, List.length_cons, List.length_nil, List.length_mapIdx]
    omega
  · simp
def cls (l : List UInt8) : Nat := match l with
  | 118 :: _ => 1
  | 111 :: 110 :: _ => 2
  | 111 :: 102 :: _ => 3
  | 115 :: _ => 0
  | _ => 4
theorem digN : ∀ i : Fin 1001, (match Lib.itoa (i.val : Int) with | c :: _ => decide (48 ≤ c.toNat) && decide (c.toNat ≤ 57) | [] => false) = true := by decide +kernel
theorem cls_ins {i : Nat} (hi : i ≤ 1000) (x : Ins_) : cls (insLine i x) = 4 := by
  have h := digN ⟨i, by omega⟩
  unfold insLine
  cases e : Lib.itoa (i : Int) with
  | nil => simp only [e] at h; cases h
  | cons c t =>
    simp only [e, Bool.and_eq_true, decide_eq_true_eq] at h
    simp only [List.cons_append]
    unfold cls
    split
    · rename_i heq; simp only [List.cons.injEq] at heq; rw [heq.1] at h; exact absurd h.2 (by decide)
    · rename_i heq; simp only [List.cons.injEq] at heq; rw [heq.1] at h; exact absurd h.2 (by decide)
    · rename_i heq; simp only [List.cons.injEq] at heq; rw [heq.1] at h; exact absurd h.2 (by decide)
    · rename_i heq; simp only [List.cons.injEq] at heq; rw [heq.1] at h; exact absurd h.2 (by decide)
    · rfl
theorem cls_svc (p : Prog) : cls (svcLine p) = 0 := by simp [svcLine, cls]
theorem cls_var (v : Var_) : cls (varLine v) = 1 := by simp [varLine, cls]
theorem cls_on (v : Hd) : cls (onLine v) = 2 := by simp [onLine, cls]
theorem cls_off (v : Of_) : cls (offLine v) = 3 := by simp [offLine, cls]
theorem fil_map {α : Type} {f : α → List UInt8} {l : List α} {c d : Nat} (h : ∀ a ∈ l, cls (f a) = c) : (l.map f).filter (fun s => cls s == d) = if c = d then l.map f else [] := by
  split
  · rename_i e
    subst e
    rw [List.filter_eq_self]
    intro s hs
    obtain ⟨a, ha, rfl⟩ := List.mem_map.1 hs
    simp [h a ha]
  · rename_i e
    rw [List.filter_eq_nil_iff]
    intro s hs
    obtain ⟨a, ha, rfl⟩ := List.mem_map.1 hs
    simp [h a ha, e]
theorem codeL_cls {l : List Ins_} (hl : l.length ≤ 1000) : ∀ s ∈ codeL l, cls s = 4 := by
  intro s hs
  obtain ⟨i, hi, rfl⟩ := List.mem_iff_getElem.1 hs
  simp only [codeL, List.getElem_mapIdx]
  simp only [codeL, List.length_mapIdx] at hi
  exact cls_ins (by omega) _
theorem fil_code {l : List Ins_} (hl : l.length ≤ 1000) (d : Nat) : (codeL l).filter (fun s => cls s == d) = if 4 = d then codeL l else [] := by
  have := fil_map (f := id) (l := codeL l) (c := 4) (d := d) (codeL_cls hl)
  simpa using this
theorem fil_lines {p : Prog} (hc : p.code.length ≤ 1000) (d : Nat) : (linesP p).filter (fun s => cls s == d) = (if 0 = d then [svcLine p] else []) ++ (if 1 = d then p.vars.map varLine else []) ++ (if 2 = d then p.hs.map onLine else []) ++ (if 3 = d then p.os.map offLine else []) ++ (if 4 = d then codeL p.code else []) := by
  unfold linesP
  rw [List.filter_append, List.filter_append, List.filter_append, List.filter_append, fil_map (f := varLine) (c := 1) (fun a _ => cls_var a), fil_map (f := onLine) (c := 2) (fun a _ => cls_on a), fil_map (f := offLine) (c := 3) (fun a _ => cls_off a), fil_code hc]
  have := fil_map (f := id) (l := [svcLine p]) (c := 0) (d := d) (fun a ha => by simp only [List.mem_singleton] at ha; subst ha; exact cls_svc p)
  simp only [List.map_id] at this
  rw [this]
theorem map_injP {α : Type} {f : α → List UInt8} {P : α → Prop} (hf : ∀ a b, P a → P b → f a = f b → a = b) : ∀ {l k : List α}, (∀ a ∈ l, P a) → (∀ a ∈ k, P a) → l.map f = k.map f → l = k
  | [], [], _, _, _ => rfl
  | [], _ :: _, _, _, h => by simp at h
  | _ :: _, [], _, _, h => by simp at h
  | a :: l, b :: k, ha, hb, h => by
    simp only [List.map_cons, List.cons.injEq] at h
    rw [hf a b (ha a (List.mem_cons_self ..)) (hb b (List.mem_cons_self ..)) h.1, map_injP hf (fun z hz => ha z (List.mem_cons_of_mem _ hz)) (fun z hz => hb z (List.mem_cons_of_mem _ hz)) h.2]
theorem onLine_inj (v w : Hd) (hv : ∀ n ∈ [v.peer, v.label, v.entry], R1000 n) (hw : ∀ n ∈ [w.peer, w.label, w.entry], R1000 n) (h : onLine v = onLine w) : v = w := by
  unfold onLine at h
  have := lineT_inj (l := [v.peer, v.label, v.entry]) (k := [w.peer, w.label, w.entry]) hv hw rfl (List.append_cancel_left h)
  obtain ⟨a, b, c⟩ := v
  obtain ⟨a', b', c'⟩ := w
  simp only [List.cons.injEq, and_true] at this
  obtain ⟨rfl, rfl, rfl⟩ := this
  rfl
theorem offLine_inj (v w : Of_) (hv : ∀ n ∈ [v.peer, v.label, v.cond, v.args], R1000 n) (hw : ∀ n ∈ [w.peer, w.label, w.cond, w.args], R1000 n) (h : offLine v = offLine w) : v = w := by
  unfold offLine at h
  have := lineT_inj (l := [v.peer, v.label, v.cond, v.args]) (k := [w.peer, w.label, w.cond, w.args]) hv hw rfl (List.append_cancel_left h)
  obtain ⟨a, b, c, d⟩ := v
  obtain ⟨a', b', c', d'⟩ := w
  simp only [List.cons.injEq, and_true] at this
  obtain ⟨rfl, rfl, rfl, rfl⟩ := this
  rfl
theorem code_inj {l k : List Ins_} (hl : ∀ x ∈ l, formed x = true) (hk : ∀ x ∈ k, formed x = true) (h : codeL l = codeL k) : l = k := by
  have hlen : l.length = k.length := by have := congrArg List.length h; simpa [codeL] using this
  refine List.ext_getElem hlen fun i h1 h2 => ?_
  have hi : (codeL l)[i]'(by simpa [codeL] using h1) = (codeL k)[i]'(by simpa [codeL] using h2) := by simp only [h]
  simp only [codeL, List.getElem_mapIdx, insLine] at hi
  exact showI_inj (hl _ (List.getElem_mem _)) (hk _ (List.getElem_mem _)) (List.append_cancel_left hi)
theorem linesP_inj {p q : Prog} (hp : validP p = true) (hq : validP q = true) (h : linesP p = linesP q) : p = q := by
  have vp := VP.of hp
  have vq := VP.of hq
  have np := VPn.of hp
  have nq := VPn.of hq
  have f : ∀ d, (linesP p).filter (fun s => cls s == d) = (linesP q).filter (fun s => cls s == d) := fun d => by rw [h]
  have f0 := f 0; have f1 := f 1; have f2 := f 2; have f3 := f 3; have f4 := f 4
  rw [fil_lines vp.code0.2, fil_lines vq.code0.2] at f0 f1 f2 f3 f4
  simp only [reduceIte, Nat.reduceEqDiff, List.append_nil, List.nil_append, List.cons.injEq, and_true] at f0 f1 f2 f3 f4
  have e1 : p.vars = q.vars := map_injP (P := fun v : Var_ => (isName v.name = true ∧ (v.sort.k = 1 ∨ v.sort.k = 2)) ∧ R1000 v.sort.lo ∧ R1000 v.sort.hi ∧ validV v.init = true) (fun a b ha hb => varLine_inj ha hb)
    (fun v hv => ⟨np.vars v hv, ⟨(vp.vars v hv).2.2.1, (vp.vars v hv).2.2.2.1⟩, ⟨(vp.vars v hv).2.2.2.2.1, (vp.vars v hv).2.2.2.2.2.1⟩, (vp.vars v hv).2.2.2.2.2.2.2⟩)
    (fun v hv => ⟨nq.vars v hv, ⟨(vq.vars v hv).2.2.1, (vq.vars v hv).2.2.2.1⟩, ⟨(vq.vars v hv).2.2.2.2.1, (vq.vars v hv).2.2.2.2.2.1⟩, (vq.vars v hv).2.2.2.2.2.2.2⟩) f1
  have hh : ∀ {p : Prog}, VP p → ∀ v ∈ p.hs, ∀ n ∈ [v.peer, v.label, v.entry], R1000 n := fun vp v hv n hn => by
    have := vp.hs v hv
    unfold R1000
    simp only [List.mem_cons, List.not_mem_nil, or_false] at hn
    rcases hn with rfl | rfl | rfl <;> omega
  have ho : ∀ {p : Prog}, VP p → ∀ v ∈ p.os, ∀ n ∈ [v.peer, v.label, v.cond, v.args], R1000 n := fun vp v hv n hn => by
    have := vp.os v hv
    unfold R1000
    simp only [List.mem_cons, List.not_mem_nil, or_false] at hn
    rcases hn with rfl | rfl | rfl | rfl <;> omega
  have e2 : p.hs = q.hs := map_injP (P := fun v : Hd => ∀ n ∈ [v.peer, v.label, v.entry], R1000 n) onLine_inj (hh vp) (hh vq) f2
  have e3 : p.os = q.os := map_injP (P := fun v : Of_ => ∀ n ∈ [v.peer, v.label, v.cond, v.args], R1000 n) offLine_inj (ho vp) (ho vq) f3
  have e4 : p.code = q.code := code_inj vp.code vq.code f4
  have es : ∀ p : Prog, svcLine p = [115, 101, 114, 118, 105, 99, 101, 32] ++ (p.name ++ 32 :: ([114, 111, 108, 101, 32] ++ Lib.itoa p.role)) := fun p => by simp [svcLine, lineT]
  rw [es p, es q] at f0
  obtain ⟨e5, e6⟩ := split_b (name_nb np.name) (name_nb nq.name) (List.append_cancel_left f0)
  have rp := vp.role
  have rq := vq.role
  have e7 := itoa_inj (by omega) (by omega) (List.append_cancel_left e6)
  cases p; cases q
  simp only at e1 e2 e3 e4 e5 e7
  subst e1 e2 e3 e4 e5 e7
  rfl
theorem lines_same {p q : Prog} (hp : validP p = true) (hq : validP q = true) : decide ((if validP p then linesP p else []) = (if validP q then linesP q else [])) = sameP p q := by
  rw [if_pos hp, if_pos hq, Bool.eq_iff_iff, decide_eq_true_eq, sameP_iff]
  exact ⟨linesP_inj hp hq, fun e => by rw [e]⟩
theorem enc_same {p q : Prog} (hp : validP p = true) (hq : validP q = true) : decide ((encQ p).map UInt8.ofNat = (encQ q).map UInt8.ofNat) = sameP p q := by
  rw [Bool.eq_iff_iff, decide_eq_true_eq, sameP_iff]
  refine ⟨fun h => ?_, fun e => by rw [e]⟩
  rw [show encQ p = encP p from if_pos hp, show encQ q = encP q from if_pos hq] at h
  exact encP_inj (VP.of hp) (VP.of hq) (ofNat_inj (encP_256 (VP.of hp)) (encP_256 (VP.of hq)) h)
set_option maxHeartbeats 8000000 in
theorem p8 (h9 : Pure Tryz.prog 9 [] (.bool true)) (p q : Prog) : Pure Tryz.prog 8 [p.av, q.av] (.bool true) := by
  have h10 := p10 p
  have g10 := p10 q
  have h13 := p13 p
  have g13 := p13 q
  rcases hp : fewP p with _ | _ <;> rw [hp] at h10
  · refine pure_intro mo Tryz.func8 c8 fun H => ?_
    unfold e8 r8
    simp only [initEnv, initFrom]
    repeat' first|(apply Sp.go;·constructor<;>first|exact ss|(change _=_;first|(simp only[go_sem,Nat.reduceBEq,Nat.reduceAdd,Nat.reduceLeDiff,reduceIte]<;>rfl)|rfl)|exact Nat.le_of_ble_eq_true rfl|decide|(repeat' first|(apply Lk.go;constructor)|assumption|exact nb ‹_› ‹_›|exact nt ‹_› ‹_›))|(intro b hb;repeat first|(refine fe hb ?_;intro _ _ hb)|(refine fT hb ?_;intro hb))|refine rt ?_|refine gA rfl ?_|refine gB rfl ?_|apply cT rfl|apply cF rfl|(apply DM.gbT;rfl)|(apply DM.gbF;rfl)|intro h
    (apply DM.pcs (h9); (· simp only [go_sem, Nat.reduceBEq, Nat.reduceAdd] <;> rfl); (· exact AVLes.refl _))
    repeat' first|(apply Sp.go;·constructor<;>first|exact ss|(change _=_;first|(simp only[go_sem,Nat.reduceBEq,Nat.reduceAdd,Nat.reduceLeDiff,reduceIte]<;>rfl)|rfl)|exact Nat.le_of_ble_eq_true rfl|decide|(repeat' first|(apply Lk.go;constructor)|assumption|exact nb ‹_› ‹_›|exact nt ‹_› ‹_›))|(intro b hb;repeat first|(refine fe hb ?_;intro _ _ hb)|(refine fT hb ?_;intro hb))|refine rt ?_|refine gA rfl ?_|refine gB rfl ?_|apply cT rfl|apply cF rfl|(apply DM.gbT;rfl)|(apply DM.gbF;rfl)|intro h
    (apply DM.pcs (h10); (· simp only [go_sem, Nat.reduceBEq, Nat.reduceAdd] <;> rfl); (· exact AVLes.refl _))
    repeat' first|(apply Sp.go;·constructor<;>first|exact ss|(change _=_;first|(simp only[go_sem,Nat.reduceBEq,Nat.reduceAdd,Nat.reduceLeDiff,reduceIte]<;>rfl)|rfl)|exact Nat.le_of_ble_eq_true rfl|decide|(repeat' first|(apply Lk.go;constructor)|assumption|exact nb ‹_› ‹_›|exact nt ‹_› ‹_›))|(intro b hb;repeat first|(refine fe hb ?_;intro _ _ hb)|(refine fT hb ?_;intro hb))|refine rt ?_|refine gA rfl ?_|refine gB rfl ?_|apply cT rfl|apply cF rfl|(apply DM.gbT;rfl)|(apply DM.gbF;rfl)|intro h
    (apply Sr.go;·constructor<;>first|(apply Lk.go;constructor<;>first|exact ss|(change _=_;first|(simp only[go_sem,Nat.reduceBEq,Nat.reduceAdd,Nat.reduceLeDiff,reduceIte]<;>rfl)|rfl)|exact Nat.le_of_ble_eq_true rfl|decide|(repeat' first|(apply Lk.go;constructor)|assumption|exact nb ‹_› ‹_›|exact nt ‹_› ‹_›))|assumption)
    exact AVLe.refl _
  rcases hq : fewP q with _ | _ <;> rw [hq] at g10
  · refine pure_intro mo Tryz.func8 c8 fun H => ?_
    unfold e8 r8
    simp only [initEnv, initFrom]
    repeat' first|(apply Sp.go;·constructor<;>first|exact ss|(change _=_;first|(simp only[go_sem,Nat.reduceBEq,Nat.reduceAdd,Nat.reduceLeDiff,reduceIte]<;>rfl)|rfl)|exact Nat.le_of_ble_eq_true rfl|decide|(repeat' first|(apply Lk.go;constructor)|assumption|exact nb ‹_› ‹_›|exact nt ‹_› ‹_›))|(intro b hb;repeat first|(refine fe hb ?_;intro _ _ hb)|(refine fT hb ?_;intro hb))|refine rt ?_|refine gA rfl ?_|refine gB rfl ?_|apply cT rfl|apply cF rfl|(apply DM.gbT;rfl)|(apply DM.gbF;rfl)|intro h
    (apply DM.pcs (h9); (· simp only [go_sem, Nat.reduceBEq, Nat.reduceAdd] <;> rfl); (· exact AVLes.refl _))
    repeat' first|(apply Sp.go;·constructor<;>first|exact ss|(change _=_;first|(simp only[go_sem,Nat.reduceBEq,Nat.reduceAdd,Nat.reduceLeDiff,reduceIte]<;>rfl)|rfl)|exact Nat.le_of_ble_eq_true rfl|decide|(repeat' first|(apply Lk.go;constructor)|assumption|exact nb ‹_› ‹_›|exact nt ‹_› ‹_›))|(intro b hb;repeat first|(refine fe hb ?_;intro _ _ hb)|(refine fT hb ?_;intro hb))|refine rt ?_|refine gA rfl ?_|refine gB rfl ?_|apply cT rfl|apply cF rfl|(apply DM.gbT;rfl)|(apply DM.gbF;rfl)|intro h
    (apply DM.pcs (h10); (· simp only [go_sem, Nat.reduceBEq, Nat.reduceAdd] <;> rfl); (· exact AVLes.refl _))
    repeat' first|(apply Sp.go;·constructor<;>first|exact ss|(change _=_;first|(simp only[go_sem,Nat.reduceBEq,Nat.reduceAdd,Nat.reduceLeDiff,reduceIte]<;>rfl)|rfl)|exact Nat.le_of_ble_eq_true rfl|decide|(repeat' first|(apply Lk.go;constructor)|assumption|exact nb ‹_› ‹_›|exact nt ‹_› ‹_›))|(intro b hb;repeat first|(refine fe hb ?_;intro _ _ hb)|(refine fT hb ?_;intro hb))|refine rt ?_|refine gA rfl ?_|refine gB rfl ?_|apply cT rfl|apply cF rfl|(apply DM.gbT;rfl)|(apply DM.gbF;rfl)|intro h
    (apply DM.pcs (g10); (· simp only [go_sem, Nat.reduceBEq, Nat.reduceAdd] <;> rfl); (· exact AVLes.refl _))
    repeat' first|(apply Sp.go;·constructor<;>first|exact ss|(change _=_;first|(simp only[go_sem,Nat.reduceBEq,Nat.reduceAdd,Nat.reduceLeDiff,reduceIte]<;>rfl)|rfl)|exact Nat.le_of_ble_eq_true rfl|decide|(repeat' first|(apply Lk.go;constructor)|assumption|exact nb ‹_› ‹_›|exact nt ‹_› ‹_›))|(intro b hb;repeat first|(refine fe hb ?_;intro _ _ hb)|(refine fT hb ?_;intro hb))|refine rt ?_|refine gA rfl ?_|refine gB rfl ?_|apply cT rfl|apply cF rfl|(apply DM.gbT;rfl)|(apply DM.gbF;rfl)|intro h
    (apply Sr.go;·constructor<;>first|(apply Lk.go;constructor<;>first|exact ss|(change _=_;first|(simp only[go_sem,Nat.reduceBEq,Nat.reduceAdd,Nat.reduceLeDiff,reduceIte]<;>rfl)|rfl)|exact Nat.le_of_ble_eq_true rfl|decide|(repeat' first|(apply Lk.go;constructor)|assumption|exact nb ‹_› ‹_›|exact nt ‹_› ‹_›))|assumption)
    exact AVLe.refl _
  rcases vp : validP p with _ | _ <;> rw [vp] at h13
  · refine pure_intro mo Tryz.func8 c8 fun H => ?_
    unfold e8 r8
    simp only [initEnv, initFrom]
    repeat' first|(apply Sp.go;·constructor<;>first|exact ss|(change _=_;first|(simp only[go_sem,Nat.reduceBEq,Nat.reduceAdd,Nat.reduceLeDiff,reduceIte]<;>rfl)|rfl)|exact Nat.le_of_ble_eq_true rfl|decide|(repeat' first|(apply Lk.go;constructor)|assumption|exact nb ‹_› ‹_›|exact nt ‹_› ‹_›))|(intro b hb;repeat first|(refine fe hb ?_;intro _ _ hb)|(refine fT hb ?_;intro hb))|refine rt ?_|refine gA rfl ?_|refine gB rfl ?_|apply cT rfl|apply cF rfl|(apply DM.gbT;rfl)|(apply DM.gbF;rfl)|intro h
    (apply DM.pcs (h9); (· simp only [go_sem, Nat.reduceBEq, Nat.reduceAdd] <;> rfl); (· exact AVLes.refl _))
    repeat' first|(apply Sp.go;·constructor<;>first|exact ss|(change _=_;first|(simp only[go_sem,Nat.reduceBEq,Nat.reduceAdd,Nat.reduceLeDiff,reduceIte]<;>rfl)|rfl)|exact Nat.le_of_ble_eq_true rfl|decide|(repeat' first|(apply Lk.go;constructor)|assumption|exact nb ‹_› ‹_›|exact nt ‹_› ‹_›))|(intro b hb;repeat first|(refine fe hb ?_;intro _ _ hb)|(refine fT hb ?_;intro hb))|refine rt ?_|refine gA rfl ?_|refine gB rfl ?_|apply cT rfl|apply cF rfl|(apply DM.gbT;rfl)|(apply DM.gbF;rfl)|intro h
    (apply DM.pcs (h10); (· simp only [go_sem, Nat.reduceBEq, Nat.reduceAdd] <;> rfl); (· exact AVLes.refl _))
    repeat' first|(apply Sp.go;·constructor<;>first|exact ss|(change _=_;first|(simp only[go_sem,Nat.reduceBEq,Nat.reduceAdd,Nat.reduceLeDiff,reduceIte]<;>rfl)|rfl)|exact Nat.le_of_ble_eq_true rfl|decide|(repeat' first|(apply Lk.go;constructor)|assumption|exact nb ‹_› ‹_›|exact nt ‹_› ‹_›))|(intro b hb;repeat first|(refine fe hb ?_;intro _ _ hb)|(refine fT hb ?_;intro hb))|refine rt ?_|refine gA rfl ?_|refine gB rfl ?_|apply cT rfl|apply cF rfl|(apply DM.gbT;rfl)|(apply DM.gbF;rfl)|intro h
    (apply DM.pcs (g10); (· simp only [go_sem, Nat.reduceBEq, Nat.reduceAdd] <;> rfl); (· exact AVLes.refl _))
    repeat' first|(apply Sp.go;·constructor<;>first|exact ss|(change _=_;first|(simp only[go_sem,Nat.reduceBEq,Nat.reduceAdd,Nat.reduceLeDiff,reduceIte]<;>rfl)|rfl)|exact Nat.le_of_ble_eq_true rfl|decide|(repeat' first|(apply Lk.go;constructor)|assumption|exact nb ‹_› ‹_›|exact nt ‹_› ‹_›))|(intro b hb;repeat first|(refine fe hb ?_;intro _ _ hb)|(refine fT hb ?_;intro hb))|refine rt ?_|refine gA rfl ?_|refine gB rfl ?_|apply cT rfl|apply cF rfl|(apply DM.gbT;rfl)|(apply DM.gbF;rfl)|intro h
    (apply DM.pcs (h13); (· simp only [go_sem, Nat.reduceBEq, Nat.reduceAdd] <;> rfl); (· exact AVLes.refl _))
    repeat' first|(apply Sp.go;·constructor<;>first|exact ss|(change _=_;first|(simp only[go_sem,Nat.reduceBEq,Nat.reduceAdd,Nat.reduceLeDiff,reduceIte]<;>rfl)|rfl)|exact Nat.le_of_ble_eq_true rfl|decide|(repeat' first|(apply Lk.go;constructor)|assumption|exact nb ‹_› ‹_›|exact nt ‹_› ‹_›))|(intro b hb;repeat first|(refine fe hb ?_;intro _ _ hb)|(refine fT hb ?_;intro hb))|refine rt ?_|refine gA rfl ?_|refine gB rfl ?_|apply cT rfl|apply cF rfl|(apply DM.gbT;rfl)|(apply DM.gbF;rfl)|intro h
    (apply Sr.go;·constructor<;>first|(apply Lk.go;constructor<;>first|exact ss|(change _=_;first|(simp only[go_sem,Nat.reduceBEq,Nat.reduceAdd,Nat.reduceLeDiff,reduceIte]<;>rfl)|rfl)|exact Nat.le_of_ble_eq_true rfl|decide|(repeat' first|(apply Lk.go;constructor)|assumption|exact nb ‹_› ‹_›|exact nt ‹_› ‹_›))|assumption)
    exact AVLe.refl _
  rcases vq : validP q with _ | _ <;> rw [vq] at g13
  · refine pure_intro mo Tryz.func8 c8 fun H => ?_
    unfold e8 r8
    simp only [initEnv, initFrom]
    repeat' first|(apply Sp.go;·constructor<;>first|exact ss|(change _=_;first|(simp only[go_sem,Nat.reduceBEq,Nat.reduceAdd,Nat.reduceLeDiff,reduceIte]<;>rfl)|rfl)|exact Nat.le_of_ble_eq_true rfl|decide|(repeat' first|(apply Lk.go;constructor)|assumption|exact nb ‹_› ‹_›|exact nt ‹_› ‹_›))|(intro b hb;repeat first|(refine fe hb ?_;intro _ _ hb)|(refine fT hb ?_;intro hb))|refine rt ?_|refine gA rfl ?_|refine gB rfl ?_|apply cT rfl|apply cF rfl|(apply DM.gbT;rfl)|(apply DM.gbF;rfl)|intro h
    (apply DM.pcs (h9); (· simp only [go_sem, Nat.reduceBEq, Nat.reduceAdd] <;> rfl); (· exact AVLes.refl _))
    repeat' first|(apply Sp.go;·constructor<;>first|exact ss|(change _=_;first|(simp only[go_sem,Nat.reduceBEq,Nat.reduceAdd,Nat.reduceLeDiff,reduceIte]<;>rfl)|rfl)|exact Nat.le_of_ble_eq_true rfl|decide|(repeat' first|(apply Lk.go;constructor)|assumption|exact nb ‹_› ‹_›|exact nt ‹_› ‹_›))|(intro b hb;repeat first|(refine fe hb ?_;intro _ _ hb)|(refine fT hb ?_;intro hb))|refine rt ?_|refine gA rfl ?_|refine gB rfl ?_|apply cT rfl|apply cF rfl|(apply DM.gbT;rfl)|(apply DM.gbF;rfl)|intro h
    (apply DM.pcs (h10); (· simp only [go_sem, Nat.reduceBEq, Nat.reduceAdd] <;> rfl); (· exact AVLes.refl _))
    repeat' first|(apply Sp.go;·constructor<;>first|exact ss|(change _=_;first|(simp only[go_sem,Nat.reduceBEq,Nat.reduceAdd,Nat.reduceLeDiff,reduceIte]<;>rfl)|rfl)|exact Nat.le_of_ble_eq_true rfl|decide|(repeat' first|(apply Lk.go;constructor)|assumption|exact nb ‹_› ‹_›|exact nt ‹_› ‹_›))|(intro b hb;repeat first|(refine fe hb ?_;intro _ _ hb)|(refine fT hb ?_;intro hb))|refine rt ?_|refine gA rfl ?_|refine gB rfl ?_|apply cT rfl|apply cF rfl|(apply DM.gbT;rfl)|(apply DM.gbF;rfl)|intro h
    (apply DM.pcs (g10); (· simp only [go_sem, Nat.reduceBEq, Nat.reduceAdd] <;> rfl); (· exact AVLes.refl _))
    repeat' first|(apply Sp.go;·constructor<;>first|exact ss|(change _=_;first|(simp only[go_sem,Nat.reduceBEq,Nat.reduceAdd,Nat.reduceLeDiff,reduceIte]<;>rfl)|rfl)|exact Nat.le_of_ble_eq_true rfl|decide|(repeat' first|(apply Lk.go;constructor)|assumption|exact nb ‹_› ‹_›|exact nt ‹_› ‹_›))|(intro b hb;repeat first|(refine fe hb ?_;intro _ _ hb)|(refine fT hb ?_;intro hb))|refine rt ?_|refine gA rfl ?_|refine gB rfl ?_|apply cT rfl|apply cF rfl|(apply DM.gbT;rfl)|(apply DM.gbF;rfl)|intro h
    (apply DM.pcs (h13); (· simp only [go_sem, Nat.reduceBEq, Nat.reduceAdd] <;> rfl); (· exact AVLes.refl _))
    repeat' first|(apply Sp.go;·constructor<;>first|exact ss|(change _=_;first|(simp only[go_sem,Nat.reduceBEq,Nat.reduceAdd,Nat.reduceLeDiff,reduceIte]<;>rfl)|rfl)|exact Nat.le_of_ble_eq_true rfl|decide|(repeat' first|(apply Lk.go;constructor)|assumption|exact nb ‹_› ‹_›|exact nt ‹_› ‹_›))|(intro b hb;repeat first|(refine fe hb ?_;intro _ _ hb)|(refine fT hb ?_;intro hb))|refine rt ?_|refine gA rfl ?_|refine gB rfl ?_|apply cT rfl|apply cF rfl|(apply DM.gbT;rfl)|(apply DM.gbF;rfl)|intro h
    (apply DM.pcs (g13); (· simp only [go_sem, Nat.reduceBEq, Nat.reduceAdd] <;> rfl); (· exact AVLes.refl _))
    repeat' first|(apply Sp.go;·constructor<;>first|exact ss|(change _=_;first|(simp only[go_sem,Nat.reduceBEq,Nat.reduceAdd,Nat.reduceLeDiff,reduceIte]<;>rfl)|rfl)|exact Nat.le_of_ble_eq_true rfl|decide|(repeat' first|(apply Lk.go;constructor)|assumption|exact nb ‹_› ‹_›|exact nt ‹_› ‹_›))|(intro b hb;repeat first|(refine fe hb ?_;intro _ _ hb)|(refine fT hb ?_;intro hb))|refine rt ?_|refine gA rfl ?_|refine gB rfl ?_|apply cT rfl|apply cF rfl|(apply DM.gbT;rfl)|(apply DM.gbF;rfl)|intro h
    (apply Sr.go;·constructor<;>first|(apply Lk.go;constructor<;>first|exact ss|(change _=_;first|(simp only[go_sem,Nat.reduceBEq,Nat.reduceAdd,Nat.reduceLeDiff,reduceIte]<;>rfl)|rfl)|exact Nat.le_of_ble_eq_true rfl|decide|(repeat' first|(apply Lk.go;constructor)|assumption|exact nb ‹_› ‹_›|exact nt ‹_› ‹_›))|assumption)
    exact AVLe.refl _
  have lp : p.vars.length ≤ 1000 ∧ p.hs.length ≤ 1000 ∧ p.os.length ≤ 1000 ∧ p.code.length ≤ 1000 := by simp [fewP] at hp; omega
  have lq : q.vars.length ≤ 1000 ∧ q.hs.length ≤ 1000 ∧ q.os.length ≤ 1000 ∧ q.code.length ≤ 1000 := by simp [fewP] at hq; omega
  have h27 := p27 p
  have g27 := p27 q
  have h26 := p26 _ _ (lines_len hp) (lines_len hq)
  rw [lines_same vp vq] at h26
  generalize (if validP p then linesP p else []).map sr = Lp at h26 h27
  generalize (if validP q then linesP q else []).map sr = Lq at h26 g27
  have h20 := p20 p
  have g20 := p20 q
  have h22 := p22 (encQ p) (encQ q)
  rw [enc_same vp vq] at h22
  generalize (encQ p).map brow = Bp at h20 h22
  generalize (encQ q).map brow = Bq at g20 h22
  have h15 := p15 p q
  generalize sameP p q = s at h22 h26 h15
  clear hp hq vp vq
  refine pure_intro mo Tryz.func8 c8 fun H => ?_
  unfold e8 r8
  simp only [initEnv, initFrom]
  repeat' first|(apply Sp.go;·constructor<;>first|exact ss|(change _=_;first|(simp only[go_sem,Nat.reduceBEq,Nat.reduceAdd,Nat.reduceLeDiff,reduceIte]<;>rfl)|rfl)|exact Nat.le_of_ble_eq_true rfl|decide|(repeat' first|(apply Lk.go;constructor)|assumption|exact nb ‹_› ‹_›|exact nt ‹_› ‹_›))|(intro b hb;repeat first|(refine fe hb ?_;intro _ _ hb)|(refine fT hb ?_;intro hb))|refine rt ?_|refine gA rfl ?_|refine gB rfl ?_|apply cT rfl|apply cF rfl|(apply DM.gbT;rfl)|(apply DM.gbF;rfl)|intro h
  (apply DM.pcs (h9); (· simp only [go_sem, Nat.reduceBEq, Nat.reduceAdd] <;> rfl); (· exact AVLes.refl _))
  repeat' first|(apply Sp.go;·constructor<;>first|exact ss|(change _=_;first|(simp only[go_sem,Nat.reduceBEq,Nat.reduceAdd,Nat.reduceLeDiff,reduceIte]<;>rfl)|rfl)|exact Nat.le_of_ble_eq_true rfl|decide|(repeat' first|(apply Lk.go;constructor)|assumption|exact nb ‹_› ‹_›|exact nt ‹_› ‹_›))|(intro b hb;repeat first|(refine fe hb ?_;intro _ _ hb)|(refine fT hb ?_;intro hb))|refine rt ?_|refine gA rfl ?_|refine gB rfl ?_|apply cT rfl|apply cF rfl|(apply DM.gbT;rfl)|(apply DM.gbF;rfl)|intro h
  (apply DM.pcs (h10); (· simp only [go_sem, Nat.reduceBEq, Nat.reduceAdd] <;> rfl); (· exact AVLes.refl _))
  repeat' first|(apply Sp.go;·constructor<;>first|exact ss|(change _=_;first|(simp only[go_sem,Nat.reduceBEq,Nat.reduceAdd,Nat.reduceLeDiff,reduceIte]<;>rfl)|rfl)|exact Nat.le_of_ble_eq_true rfl|decide|(repeat' first|(apply Lk.go;constructor)|assumption|exact nb ‹_› ‹_›|exact nt ‹_› ‹_›))|(intro b hb;repeat first|(refine fe hb ?_;intro _ _ hb)|(refine fT hb ?_;intro hb))|refine rt ?_|refine gA rfl ?_|refine gB rfl ?_|apply cT rfl|apply cF rfl|(apply DM.gbT;rfl)|(apply DM.gbF;rfl)|intro h
  (apply DM.pcs (g10); (· simp only [go_sem, Nat.reduceBEq, Nat.reduceAdd] <;> rfl); (· exact AVLes.refl _))
  repeat' first|(apply Sp.go;·constructor<;>first|exact ss|(change _=_;first|(simp only[go_sem,Nat.reduceBEq,Nat.reduceAdd,Nat.reduceLeDiff,reduceIte]<;>rfl)|rfl)|exact Nat.le_of_ble_eq_true rfl|decide|(repeat' first|(apply Lk.go;constructor)|assumption|exact nb ‹_› ‹_›|exact nt ‹_› ‹_›))|(intro b hb;repeat first|(refine fe hb ?_;intro _ _ hb)|(refine fT hb ?_;intro hb))|refine rt ?_|refine gA rfl ?_|refine gB rfl ?_|apply cT rfl|apply cF rfl|(apply DM.gbT;rfl)|(apply DM.gbF;rfl)|intro h
  (apply DM.pcs (h13); (· simp only [go_sem, Nat.reduceBEq, Nat.reduceAdd] <;> rfl); (· exact AVLes.refl _))
  repeat' first|(apply Sp.go;·constructor<;>first|exact ss|(change _=_;first|(simp only[go_sem,Nat.reduceBEq,Nat.reduceAdd,Nat.reduceLeDiff,reduceIte]<;>rfl)|rfl)|exact Nat.le_of_ble_eq_true rfl|decide|(repeat' first|(apply Lk.go;constructor)|assumption|exact nb ‹_› ‹_›|exact nt ‹_› ‹_›))|(intro b hb;repeat first|(refine fe hb ?_;intro _ _ hb)|(refine fT hb ?_;intro hb))|refine rt ?_|refine gA rfl ?_|refine gB rfl ?_|apply cT rfl|apply cF rfl|(apply DM.gbT;rfl)|(apply DM.gbF;rfl)|intro h
  (apply DM.pcs (g13); (· simp only [go_sem, Nat.reduceBEq, Nat.reduceAdd] <;> rfl); (· exact AVLes.refl _))
  repeat' first|(apply Sp.go;·constructor<;>first|exact ss|(change _=_;first|(simp only[go_sem,Nat.reduceBEq,Nat.reduceAdd,Nat.reduceLeDiff,reduceIte]<;>rfl)|rfl)|exact Nat.le_of_ble_eq_true rfl|decide|(repeat' first|(apply Lk.go;constructor)|assumption|exact nb ‹_› ‹_›|exact nt ‹_› ‹_›))|(intro b hb;repeat first|(refine fe hb ?_;intro _ _ hb)|(refine fT hb ?_;intro hb))|refine gA rfl ?_|refine gB rfl ?_|apply cT rfl|apply cF rfl|(apply DM.gbT;rfl)|(apply DM.gbF;rfl)|intro h
  (refine AM.reg [p.av, q.av] ?_; simp only [annotate, AV.rows])
  repeat' first|(apply Sp.go;·constructor<;>first|exact ss|(change _=_;first|(simp only[go_sem,Nat.reduceBEq,Nat.reduceAdd,Nat.reduceLeDiff,reduceIte]<;>rfl)|rfl)|exact Nat.le_of_ble_eq_true rfl|decide|(repeat' first|(apply Lk.go;constructor)|assumption|exact nb ‹_› ‹_›|exact nt ‹_› ‹_›))|(intro b hb;repeat first|(refine fe hb ?_;intro _ _ hb)|(refine fT hb ?_;intro hb))|refine rt ?_|refine gA rfl ?_|refine gB rfl ?_|apply cT rfl|apply cF rfl|(apply DM.gbT;rfl)|(apply DM.gbF;rfl)|intro h
  (apply DM.pcRs (p12 p lp); (· simp only [go_sem, Nat.reduceBEq, Nat.reduceAdd] <;> rfl); (· exact AVLes.refl _))
  repeat' first|(apply Sp.go;·constructor<;>first|exact ss|(change _=_;first|(simp only[go_sem,Nat.reduceBEq,Nat.reduceAdd,Nat.reduceLeDiff,reduceIte]<;>rfl)|rfl)|exact Nat.le_of_ble_eq_true rfl|decide|(repeat' first|(apply Lk.go;constructor)|assumption|exact nb ‹_› ‹_›|exact nt ‹_› ‹_›))|(intro b hb;repeat first|(refine fe hb ?_;intro _ _ hb)|(refine fT hb ?_;intro hb))|refine rt ?_|refine gA rfl ?_|refine gB rfl ?_|apply cT rfl|apply cF rfl|(apply DM.gbT;rfl)|(apply DM.gbF;rfl)|intro h
  (apply DM.pcRs (p12 q lq); (· simp only [go_sem, Nat.reduceBEq, Nat.reduceAdd] <;> rfl); (· exact AVLes.refl _))
  repeat' first|(apply Sp.go;·constructor<;>first|exact ss|(change _=_;first|(simp only[go_sem,Nat.reduceBEq,Nat.reduceAdd,Nat.reduceLeDiff,reduceIte]<;>rfl)|rfl)|exact Nat.le_of_ble_eq_true rfl|decide|(repeat' first|(apply Lk.go;constructor)|assumption|exact nb ‹_› ‹_›|exact nt ‹_› ‹_›))|(intro b hb;repeat first|(refine fe hb ?_;intro _ _ hb)|(refine fT hb ?_;intro hb))|refine gA rfl ?_|refine gB rfl ?_|apply cT rfl|apply cF rfl|(apply DM.gbT;rfl)|(apply DM.gbF;rfl)|intro h
  (refine AM.reg [.vs 1 Lp, .vs 1 Lq, .bool s, .bool s, .vs 1 Bp, .vs 1 Bq, .bool s, .bool s] ?_; simp only [annotate, AV.rows])
  repeat' first|(apply Sp.go;·constructor<;>first|exact ss|(change _=_;first|(simp only[go_sem,Nat.reduceBEq,Nat.reduceAdd,Nat.reduceLeDiff,reduceIte]<;>rfl)|rfl)|exact Nat.le_of_ble_eq_true rfl|decide|(repeat' first|(apply Lk.go;constructor)|assumption|exact nb ‹_› ‹_›|exact nt ‹_› ‹_›))|(intro b hb;repeat first|(refine fe hb ?_;intro _ _ hb)|(refine fT hb ?_;intro hb))|refine rt ?_|refine gA rfl ?_|refine gB rfl ?_|apply cT rfl|apply cF rfl|(apply DM.gbT;rfl)|(apply DM.gbF;rfl)|intro h
  (apply DM.pcRs (h27); (· simp only [go_sem, Nat.reduceBEq, Nat.reduceAdd] <;> rfl); (· exact AVLes.refl _))
  repeat' first|(apply Sp.go;·constructor<;>first|exact ss|(change _=_;first|(simp only[go_sem,Nat.reduceBEq,Nat.reduceAdd,Nat.reduceLeDiff,reduceIte]<;>rfl)|rfl)|exact Nat.le_of_ble_eq_true rfl|decide|(repeat' first|(apply Lk.go;constructor)|assumption|exact nb ‹_› ‹_›|exact nt ‹_› ‹_›))|(intro b hb;repeat first|(refine fe hb ?_;intro _ _ hb)|(refine fT hb ?_;intro hb))|refine rt ?_|refine gA rfl ?_|refine gB rfl ?_|apply cT rfl|apply cF rfl|(apply DM.gbT;rfl)|(apply DM.gbF;rfl)|intro h
  (apply DM.pcRs (g27); (· simp only [go_sem, Nat.reduceBEq, Nat.reduceAdd] <;> rfl); (· exact AVLes.refl _))
  repeat' first|(apply Sp.go;·constructor<;>first|exact ss|(change _=_;first|(simp only[go_sem,Nat.reduceBEq,Nat.reduceAdd,Nat.reduceLeDiff,reduceIte]<;>rfl)|rfl)|exact Nat.le_of_ble_eq_true rfl|decide|(repeat' first|(apply Lk.go;constructor)|assumption|exact nb ‹_› ‹_›|exact nt ‹_› ‹_›))|(intro b hb;repeat first|(refine fe hb ?_;intro _ _ hb)|(refine fT hb ?_;intro hb))|refine rt ?_|refine gA rfl ?_|refine gB rfl ?_|apply cT rfl|apply cF rfl|(apply DM.gbT;rfl)|(apply DM.gbF;rfl)|intro h
  (apply DM.pcRs (h26); (· simp only [go_sem, Nat.reduceBEq, Nat.reduceAdd] <;> rfl); (· exact AVLes.refl _))
  repeat' first|(apply Sp.go;·constructor<;>first|exact ss|(change _=_;first|(simp only[go_sem,Nat.reduceBEq,Nat.reduceAdd,Nat.reduceLeDiff,reduceIte]<;>rfl)|rfl)|exact Nat.le_of_ble_eq_true rfl|decide|(repeat' first|(apply Lk.go;constructor)|assumption|exact nb ‹_› ‹_›|exact nt ‹_› ‹_›))|(intro b hb;repeat first|(refine fe hb ?_;intro _ _ hb)|(refine fT hb ?_;intro hb))|refine rt ?_|refine gA rfl ?_|refine gB rfl ?_|apply cT rfl|apply cF rfl|(apply DM.gbT;rfl)|(apply DM.gbF;rfl)|intro h
  (apply DM.pcRs (h15); (· simp only [go_sem, Nat.reduceBEq, Nat.reduceAdd] <;> rfl); (· exact AVLes.refl _))
  rcases s
  all_goals (repeat' first|(apply Sp.go;·constructor<;>first|exact ss|(change _=_;first|(simp only[go_sem,Nat.reduceBEq,Nat.reduceAdd,Nat.reduceLeDiff,reduceIte]<;>rfl)|rfl)|exact Nat.le_of_ble_eq_true rfl|decide|(repeat' first|(apply Lk.go;constructor)|assumption|exact nb ‹_› ‹_›|exact nt ‹_› ‹_›))|(intro b hb;repeat first|(refine fe hb ?_;intro _ _ hb)|(refine fT hb ?_;intro hb))|refine rt ?_|refine gA rfl ?_|refine gB rfl ?_|apply cT rfl|apply cF rfl|(apply DM.gbT;rfl)|(apply DM.gbF;rfl)|intro h)
  all_goals ((apply DM.pcRs (h20); (· simp only [go_sem, Nat.reduceBEq, Nat.reduceAdd] <;> rfl); (· exact AVLes.refl _)))
  all_goals (repeat' first|(apply Sp.go;·constructor<;>first|exact ss|(change _=_;first|(simp only[go_sem,Nat.reduceBEq,Nat.reduceAdd,Nat.reduceLeDiff,reduceIte]<;>rfl)|rfl)|exact Nat.le_of_ble_eq_true rfl|decide|(repeat' first|(apply Lk.go;constructor)|assumption|exact nb ‹_› ‹_›|exact nt ‹_› ‹_›))|(intro b hb;repeat first|(refine fe hb ?_;intro _ _ hb)|(refine fT hb ?_;intro hb))|refine rt ?_|refine gA rfl ?_|refine gB rfl ?_|apply cT rfl|apply cF rfl|(apply DM.gbT;rfl)|(apply DM.gbF;rfl)|intro h)
  all_goals ((apply DM.pcRs (g20); (· simp only [go_sem, Nat.reduceBEq, Nat.reduceAdd] <;> rfl); (· exact AVLes.refl _)))
  all_goals (repeat' first|(apply Sp.go;·constructor<;>first|exact ss|(change _=_;first|(simp only[go_sem,Nat.reduceBEq,Nat.reduceAdd,Nat.reduceLeDiff,reduceIte]<;>rfl)|rfl)|exact Nat.le_of_ble_eq_true rfl|decide|(repeat' first|(apply Lk.go;constructor)|assumption|exact nb ‹_› ‹_›|exact nt ‹_› ‹_›))|(intro b hb;repeat first|(refine fe hb ?_;intro _ _ hb)|(refine fT hb ?_;intro hb))|refine rt ?_|refine gA rfl ?_|refine gB rfl ?_|apply cT rfl|apply cF rfl|(apply DM.gbT;rfl)|(apply DM.gbF;rfl)|intro h)
  all_goals ((apply DM.pcRs (h22); (· simp only [go_sem, Nat.reduceBEq, Nat.reduceAdd] <;> rfl); (· exact AVLes.refl _)))
  all_goals (repeat' first|(apply Sp.go;·constructor<;>first|exact ss|(change _=_;first|(simp only[go_sem,Nat.reduceBEq,Nat.reduceAdd,Nat.reduceLeDiff,reduceIte]<;>rfl)|rfl)|exact Nat.le_of_ble_eq_true rfl|decide|(repeat' first|(apply Lk.go;constructor)|assumption|exact nb ‹_› ‹_›|exact nt ‹_› ‹_›))|(intro b hb;repeat first|(refine fe hb ?_;intro _ _ hb)|(refine fT hb ?_;intro hb))|refine rt ?_|refine gA rfl ?_|refine gB rfl ?_|apply cT rfl|apply cF rfl|(apply DM.gbT;rfl)|(apply DM.gbF;rfl)|intro h)
  all_goals ((apply DM.pcRs (h15); (· simp only [go_sem, Nat.reduceBEq, Nat.reduceAdd] <;> rfl); (· exact AVLes.refl _)))
  all_goals (repeat' first|(apply Sp.go;·constructor<;>first|exact ss|(change _=_;first|(simp only[go_sem,Nat.reduceBEq,Nat.reduceAdd,Nat.reduceLeDiff,reduceIte]<;>rfl)|rfl)|exact Nat.le_of_ble_eq_true rfl|decide|(repeat' first|(apply Lk.go;constructor)|assumption|exact nb ‹_› ‹_›|exact nt ‹_› ‹_›))|(intro b hb;repeat first|(refine fe hb ?_;intro _ _ hb)|(refine fT hb ?_;intro hb))|refine rt ?_|refine gA rfl ?_|refine gB rfl ?_|apply cT rfl|apply cF rfl|(apply DM.gbT;rfl)|(apply DM.gbF;rfl)|intro h)
  all_goals ((apply Sr.go;·constructor<;>first|(apply Lk.go;constructor<;>first|exact ss|(change _=_;first|(simp only[go_sem,Nat.reduceBEq,Nat.reduceAdd,Nat.reduceLeDiff,reduceIte]<;>rfl)|rfl)|exact Nat.le_of_ble_eq_true rfl|decide|(repeat' first|(apply Lk.go;constructor)|assumption|exact nb ‹_› ‹_›|exact nt ‹_› ‹_›))|assumption))
  all_goals exact AVLe.refl _
theorem p8' (p q : Prog) : Pure Tryz.prog 8 [p.av, q.av] (.bool true) := p8 p9' p q
end Go.Aw.T
