/- Part of a proof; own work. -/
import Derived.Test.YtjkbgcgljnldeaaGreatDoorP0
import Derived.KernelRfl
import Derived.Test.YtjkbgcgljnldeaaGreatDoorRows
import Derived.ProofKit
import Derived.LaidMore
import Derived.OpenShut
import Derived.Stop.Joined
import Derived.LaidLaws
import Derived.Lay
import Derived.MakeChecks
import Derived.Lib.ItoaNum
import Derived.Lib.LaidTab
import Derived.Stop.LaidErr
import Derived.HandedShaped
import Derived.SizedLaws
import Derived.Test.YtjkbgcgljnldeaaGreatDoorPS11
set_option linter.unusedSimpArgs false
namespace Go.Proofs
set_option maxRecDepth 100000
theorem ta_hit31 (v : Value) (w : World) : (Instr.typeAssert (.iface 79 v) 20 79 true).run Tryz.prog w = .ok (.tuple #[v, .bool true]) w := by
 simp [Instr.typeAssert, run_underlying Tryz.underlying79]
end Go.Proofs
namespace Go.Aw.T.N
open Go Go.Aw Go.Proofs
set_option linter.unusedVariables false
set_option linter.unusedSimpArgs false
set_option maxRecDepth 100000
abbrev z31 : List AV := [.str [], .str [], .str [], .nilS, .nilS, .nilS]
def r31 : List EI := [⟨some 11, none, .build z31 []⟩, ⟨some 12, none, .faddr 0 (.t 3)⟩, ⟨some 13, none, .loadD 3 false 1 (.t 12)⟩, ⟨some 14, none, .faddr 1 (.t 3)⟩, ⟨some 15, none, .loadD 3 false 1 (.t 14)⟩, ⟨none, none, .storeD 0 [1, 2, 3] 6 (.t 0) (.t 11)⟩, ⟨none, none, .storeD 1 [0, 2, 3] 1 (.t 1) (.t 13)⟩, ⟨none, none, .storeD 2 [0, 1, 3] 1 (.t 2) (.t 15)⟩]
theorem setB_same (H : AHeap) (b : Nat) (T : TypeId) (cs : List AV) : (H.setB b T cs).blk b = some (T, cs) := if_pos rfl
theorem setB_other (H : AHeap) {b k : Nat} (T : TypeId) (cs : List AV) (h : k ≠ b) : (H.setB b T cs).blk k = H.blk k := if_neg h
theorem walk31 {H : AHeap} {b0 b1 b2 z : Nat} {p e : Int} {cs0 : List AV} {v1 v2 : AV} {env : Env} {K : Env → AHeap → Prop} {Rp : AV → AHeap → Prop} (e0 : env.get 0 = .ptr b0 0) (e1 : env.get 1 = .ptr b1 0) (e2 : env.get 2 = .ptr b2 0) (e3 : env.get 3 = .ptr z 0)
  (h0 : H.blk b0 = some (27, cs0)) (hl : cs0.length = 6) (h1 : H.blk b1 = some (3, [v1])) (h2 : H.blk b2 = some (28, [v2])) (h3 : H.blk z = some (79, [.int .i64 p, .int .i64 e])) (d01 : b0 ≠ b1) (d02 : b0 ≠ b2) (d12 : b1 ≠ b2) (d0 : b0 ≠ z) (d1 : b1 ≠ z) (d2 : b2 ≠ z)
  (hK : ∀ env', K env' (((H.setB b0 27 z31).setB b1 3 [.int .i64 p]).setB b2 28 [.int .i64 e])) : DM Tryz.prog r31 env H K Rp := by
 unfold r31
 refine DM.p (v := .agg z31) rfl ?_
 refine DM.p (v := .ptr z 0) (by simp [peval, EOpd.ev, Env.get, e3]) ?_
 refine DM.p (v := .int .i64 p) (by simp [peval, EOpd.ev, Env.get, e3, h3, AV.ofCells, AV.one]) ?_
 refine DM.p (v := .ptr z 1) (by simp [peval, EOpd.ev, Env.get, e3]) ?_
 refine DM.p (v := .int .i64 e) (by simp [peval, EOpd.ev, Env.get, e3, h3, AV.ofCells, AV.one]) ?_
 rw [DM_cons]
 simp only [GStep, wanted]
 refine .storeD (b := b0) (o := 0) (T := 27) (cs := cs0) (by simp [Env.get, e0]) (fun s hs => ?_) (by simp [EOpd.ev, Env.get, e0]) h0 rfl (by rw [hl]; decide) rfl ?_
 ·simp only [List.mem_cons, List.not_mem_nil, or_false] at hs
  rcases hs with rfl | rfl | rfl
  ·exact ⟨b1, by simp [Env.get, e1], d01.symm⟩
  ·exact ⟨b2, by simp [Env.get, e2], d02.symm⟩
  ·exact ⟨z, by simp [Env.get, e3], d0.symm⟩
 have es : setRange cs0 0 (AV.cells (EOpd.ev ((15, .int .i64 e) :: (14, .ptr z 1) :: (13, .int .i64 p) :: (12, .ptr z 0) :: (11, .agg z31) :: env) (.t 11))) = z31 := by
  show List.take 0 cs0 ++ z31 ++ cs0.drop (0 + 6) = z31
  rw [List.take_zero, List.drop_eq_nil_of_le (by omega)]
  rfl
 rw [es]
 rw [DM_cons]
 simp only [GStep, wanted]
 refine .storeD (b := b1) (o := 0) (T := 3) (cs := [v1]) (by simp [Env.get, Env.put, e1]) (fun s hs => ?_) (by simp [EOpd.ev, Env.get, Env.put, e1]) (by rw [setB_other _ _ _ d01.symm]; exact h1) rfl (Nat.le_refl _) rfl ?_
 ·simp only [List.mem_cons, List.not_mem_nil, or_false] at hs
  rcases hs with rfl | rfl | rfl
  ·exact ⟨b0, by simp [Env.get, Env.put, e0], d01⟩
  ·exact ⟨b2, by simp [Env.get, Env.put, e2], d12.symm⟩
  ·exact ⟨z, by simp [Env.get, Env.put, e3], d1.symm⟩
 rw [DM_cons]
 simp only [GStep, wanted]
 refine .storeD (b := b2) (o := 0) (T := 28) (cs := [v2]) (by simp [Env.get, Env.put, e2]) (fun s hs => ?_) (by simp [EOpd.ev, Env.get, Env.put, e2]) (by rw [setB_other _ _ _ d12.symm, setB_other _ _ _ d02.symm]; exact h2) rfl (Nat.le_refl _) rfl ?_
 ·simp only [List.mem_cons, List.not_mem_nil, or_false] at hs
  rcases hs with rfl | rfl | rfl
  ·exact ⟨b0, by simp [Env.get, Env.put, e0], d02⟩
  ·exact ⟨b1, by simp [Env.get, Env.put, e1], d12⟩
  ·exact ⟨z, by simp [Env.get, Env.put, e3], d2.symm⟩
 exact DM.nil (hK _)
theorem mo31 : Tryz.prog.follows .mixedOrders = true := by kernel_rfl
theorem chk31 : (match Tryz.f31.body with
  | some (.seq _ (.seq _ (.cond _ r _))) => chkC Tryz.prog 16 r (.region r31 true)
  | _ => false) = true := by kernel_rfl
set_option maxHeartbeats 8000000 in
theorem pan31 {m : Mem} (rh : RH m) {b0 b1 b2 : Nat} {p e : Int} {cs0 : List AV} {v1 v2 : AV} (h0 : m.H.blk b0 = some (27, cs0)) (hl : cs0.length = 6) (h1 : m.H.blk b1 = some (3, [v1])) (h2 : m.H.blk b2 = some (28, [v2])) (d01 : b0 ≠ b1) (d02 : b0 ≠ b2) (d12 : b1 ≠ b2) :
  CallsD Tryz.prog 31 #[.pointer (some ⟨b0, 0, none⟩), .pointer (some ⟨b1, 0, none⟩), .pointer (some ⟨b2, 0, none⟩)] (.panicking [{ v := .iface 79 (.agg #[.int .i64 p, .int .i64 e]), recovered := false }]) m.w fun x u' w' =>
   (∃ v, x = .returned v) ∧ u' = .panicking [{ v := .iface 79 (.agg #[.int .i64 p, .int .i64 e]), recovered := true }] ∧ ∃ H' L' T', RH ⟨w', H', L', T'⟩ ∧ Ev m ⟨w', H', L', T'⟩ ∧ H' = ((m.H.setB b0 27 z31).setB b1 3 [.int .i64 p]).setB b2 28 [.int .i64 e] := by
 have l0 := blk_lt rh h0
 have l1 := blk_lt rh h1
 have l2 := blk_lt rh h2
 obtain ⟨z, hz⟩ : ∃ z, z = m.w.heap.size := ⟨_, rfl⟩
 refine callsD_of_wpS Tryz.func31 rfl fun c₀ cs hu => ?_
 apply wpS_seq
 apply wpS_region
 simp [wpOpsS, go_sem, recoverD, hu, Tryz.ntmps31, Exit.thenS, ta_hit31]
 apply wpS_seq
 apply wpS_region
 simp [wpOpsS, go_sem, Exit.thenS]
 refine wpS_cond (t := true) (by simp [Act.eval, Array.replicate]) ?_
 simp only [if_true]
 refine wpS_of_wp ?_
 have ck := chk31
 simp only [Tryz.f31] at ck
 have rh2 : RH (m.nb 79 [.int .i64 p, .int .i64 e] [.int .i64 p, .int .i64 e]) := RH.nb rh (by simp [RvL, Rv]) (by simp [Value.oneCell'])
 have ev2 := Ev.nb m 79 [.int .i64 p, .int .i64 e] [.int .i64 p, .int .i64 e]
 refine region_sound (n := 16) (m0 := ⟨m, [], []⟩) (anns := []) (ops := r31) (env := [(0, .ptr b0 0), (1, .ptr b1 0), (2, .ptr b2 0), (3, .ptr z 0)]) (H := m.H.setB z 79 [.int .i64 p, .int .i64 e]) (K := fun _ H => H = (((m.H.setB z 79 [.int .i64 p, .int .i64 e]).setB b0 27 z31).setB b1 3 [.int .i64 p]).setB b2 28 [.int .i64 e]) (Rp := fun _ _ => False) mo31 rfl ck (fun x m' cv a h => h.elim) (fun env H a w hK hr => ?_) ?_ ⟨m.nb 79 [.int .i64 p, .int .i64 e] [.int .i64 p, .int .i64 e], ?_, by rw [hz]; rfl, rh2, ev2, fun k => ?_, ⟨rfl, fun E hE => by cases hE⟩, ?_⟩
 ·obtain ⟨m', rfl, rfl, rh', ev', _, hdf, _⟩ := hr
  have hsub : HSub (((m.H.setB b0 27 z31).setB b1 3 [AV.int IntKind.i64 p]).setB b2 28 [AV.int IntKind.i64 e]) m'.H := by
   rw [hK]
   refine ⟨fun b x hb => ?_, fun t i ht => ht⟩
   have hbz : m.H.blk z = none := by rw [hz]; exact blk_new rh
   simp only [AHeap.setB] at hb ⊢
   by_cases k2 : b = b2
   ·simpa [k2] using hb
   by_cases k1 : b = b1
   ·simpa [k2, k1] using hb
   by_cases k0 : b = b0
   ·simpa [k2, k1, k0] using hb
   simp only [k2, k1, k0, if_false] at hb ⊢
   rw [if_neg (by intro e; rw [e, hbz] at hb; cases hb)]
   exact hb
  refine ⟨hdf.1, _, rfl, .tuple #[], by simp [Go.results, Tryz.results31], ⟨_, rfl⟩, rfl, _, m'.L, m'.T, RH.forget hsub rh', Ev.forget hsub ev', rfl⟩
 ·refine walk31 rfl rfl rfl rfl (by rw [setB_other _ _ _ (by omega)]; exact h0) hl (by rw [setB_other _ _ _ (by omega)]; exact h1) (by rw [setB_other _ _ _ (by omega)]; exact h2) (setB_same _ _ _ _) d01 d02 d12 (by omega) (by omega) (by omega) fun _ => rfl
 ·rfl
 ·match k with
  | 0 => simp [Env.get, Rv, Array.replicate]
  | 1 => simp [Env.get, Rv, Array.replicate]
  | 2 => simp [Env.get, Rv, Array.replicate]
  | 3 => simp [Env.get, Rv, Array.replicate, hz]
  | k + 4 => simp [Env.get, Rv]
 ·simp
theorem d31p {c : CS} {cs0 : List AV} {v1 v2 : AV} {p e : Int} (hb0 : c.H.blk 0 = some (27, cs0)) (hl : cs0.length = 6) (hb1 : c.H.blk 1 = some (3, [v1])) (hb2 : c.H.blk 2 = some (28, [v2])) :
  DCJ Tryz.prog 31 [.ptr 0 0, .ptr 1 0, .ptr 2 0] (failV p e) c fun c2 => c2 = ((c.setB 0 27 z31).setB 1 3 [.int .i64 p]).setB 2 28 [.int .i64 e] := by
 intro H0 s caps' x' H hcaps hx hr
 simp only [RnL, Rn] at hcaps
 obtain ⟨_, _, rfl, ⟨y0, g0, rfl⟩, _, _, rfl, ⟨y1, g1, rfl⟩, _, _, rfl, ⟨y2, g2, rfl⟩, rfl⟩ := hcaps
 have hx' : x' = failV p e := (AV.flat_rn (failV p e) rfl x').1 hx
 subst hx'
 intro m vs cv hH rh hv hcv
 subst hH
 simp only [RvL, Rv, failV] at hv hcv
 obtain ⟨_, _, rfl, rfl, _, _, rfl, rfl, _, _, rfl, rfl, rfl⟩ := hv
 obtain ⟨x, rfl, l, rfl, _, _, rfl, rfl, _, _, rfl, rfl, rfl⟩ := hcv
 obtain ⟨z0, l0, k0, q0, r0⟩ := hr.blk _ _ _ hb0
 obtain ⟨z1, l1, k1, q1, r1⟩ := hr.blk _ _ _ hb1
 obtain ⟨z2, l2, k2, q2, r2⟩ := hr.blk _ _ _ hb2
 rw [g0] at k0
 rw [g1] at k1
 rw [g2] at k2
 cases k0
 cases k1
 cases k2
 have n0 := RnL.length r0
 have n1 := RnL.length r1
 have n2 := RnL.length r2
 match l1, n1, q1 with
 | [w1], _, q1 =>
 match l2, n2, q2 with
 | [w2], _, q2 =>
 refine (pan31 rh q0 (by rw [n0]; exact hl) q1 q2 (fun e => ?_) (fun e => ?_) (fun e => ?_)).mono ?_
 ·subst e; exact absurd (hr.injb _ _ _ g0 g1) (by decide)
 ·subst e; exact absurd (hr.injb _ _ _ g0 g2) (by decide)
 ·subst e; exact absurd (hr.injb _ _ _ g1 g2) (by decide)
 rintro e' u' w' ⟨h1, h2, H', L', T', h3, h4, rfl⟩
 refine ⟨h1, h2, _, L', T', h3, h4, s, _, Sg.Le.refl s, rfl, ?_⟩
 exact ((hr.setB g0 (by simp [RnL, Rn])).setB g1 (by simp [RnL, Rn])).setB g2 (by simp [RnL, Rn])
end Go.Aw.T.N
namespace Go.Aw
open Go
set_option linter.unusedVariables false
section
variable {en : Int}
theorem bind_mono {α β : Type} {R R' : PRes α} {F F' : α → List Tk → PRes β} (h1 : R ≠ .out → R' = R) (h2 : ∀ a r, R = .ok a r → F a r ≠ .out → F' a r = F a r) (h : R.bind F ≠ .out) : R'.bind F' = R.bind F := by
 cases R with
 | ok a r => rw [h1 (by intro e; cases e)]; exact h2 a r rfl h
 | err p e => rw [h1 (by intro e; cases e)]; rfl
 | out => exact absurd rfl h
theorem ite_mono {β : Type} {c : Prop} [Decidable c] {A A' B B' : PRes β} (h1 : A ≠ .out → A' = A) (h2 : B ≠ .out → B' = B) (h : (if c then A else B) ≠ .out) : (if c then A' else B') = (if c then A else B) := by
 by_cases hc : c
 ·rw [if_pos hc] at h ⊢; rw [if_pos hc]; exact h1 h
 ·rw [if_neg hc] at h ⊢; rw [if_neg hc]; exact h2 h
theorem self_mono {β : Type} {A : PRes β} (_ : A ≠ .out) : A = A := rfl
theorem pE_mono : ∀ n, (∀ l, pUn en n l ≠ .out → ∀ m, n ≤ m → pUn en m l = pUn en n l) ∧ (∀ k l, pEx en n k l ≠ .out → ∀ m, n ≤ m → pEx en m k l = pEx en n k l) ∧ (∀ k y l, pLp en n k y l ≠ .out → ∀ m, n ≤ m → pLp en m k y l = pLp en n k y l)
 | 0 => ⟨fun l h => absurd (by simp [pUn]) h, fun k l h => absurd (by simp [pEx]) h, fun k y l h => absurd (by simp [pLp]) h⟩
 | n + 1 => by
  obtain ⟨i1, i2, i3⟩ := pE_mono n
  refine ⟨fun l h m hm => ?_, fun k l h m hm => ?_, fun k y l h m hm => ?_⟩
  ·obtain ⟨m, rfl⟩ : ∃ q, m = q + 1 := ⟨m - 1, by omega⟩
   simp only [pUn] at h ⊢
   refine ite_mono (bind_mono (fun h => i2 _ _ h m (by omega)) fun a r _ h => self_mono h) (ite_mono (bind_mono self_mono fun a r _ => bind_mono (fun h => i2 _ _ h m (by omega)) fun a r _ h => self_mono h) (ite_mono (bind_mono (fun h => i1 _ h m (by omega)) fun a r _ h => self_mono h) (ite_mono (bind_mono (fun h => i1 _ h m (by omega)) fun a r _ h => self_mono h) self_mono))) h
  ·obtain ⟨m, rfl⟩ : ∃ q, m = q + 1 := ⟨m - 1, by omega⟩
   simp only [pEx] at h ⊢
   exact bind_mono (fun h => i1 _ h m (by omega)) (fun a r _ h => i3 _ _ _ h m (by omega)) h
  ·obtain ⟨m, rfl⟩ : ∃ q, m = q + 1 := ⟨m - 1, by omega⟩
   cases l with
   | nil => rfl
   | cons t l =>
    simp only [pLp] at h ⊢
    exact ite_mono (ite_mono self_mono (bind_mono (fun h => i2 _ _ h m (by omega)) fun a r _ h => i3 _ _ _ h m (by omega))) self_mono h
theorem bind_in {α β : Type} {R : PRes α} {F : α → List Tk → PRes β} (h1 : R ≠ .out) (h2 : ∀ a r, R = .ok a r → F a r ≠ .out) : R.bind F ≠ .out := by
 cases R with
 | ok a r => exact h2 a r rfl
 | err p e => intro h; cases h
 | out => exact absurd rfl h1
theorem ite_in {β : Type} {c : Prop} [Decidable c] {A B : PRes β} (h1 : c → A ≠ .out) (h2 : ¬ c → B ≠ .out) : (if c then A else B) ≠ .out := by
 by_cases hc : c
 ·rw [if_pos hc]; exact h1 hc
 ·rw [if_neg hc]; exact h2 hc
theorem ok_in {β : Type} {a : β} {r : List Tk} : PRes.ok a r ≠ .out := by intro h; cases h
theorem err_in {β : Type} {p e : Int} : (PRes.err p e : PRes β) ≠ .out := by intro h; cases h
theorem pExp_in {s : List UInt8} {l : List Tk} : pExp en s l ≠ .out := ite_in (fun _ => ok_in) fun _ => err_in
theorem pNext_in {k : Int} {l : List Tk} : pNext en k l ≠ .out := by
 cases l with
 | nil => exact err_in
 | cons t l => exact ite_in (fun _ => ok_in) fun _ => err_in
theorem pWord_in {l : List Tk} : pWord en l ≠ .out := ite_in (fun _ => bind_in pNext_in fun _ _ _ => ok_in) fun _ => err_in
theorem pSigned_in {l : List Tk} : pSigned en l ≠ .out := ite_in (fun _ => bind_in pNext_in fun _ _ _ => ok_in) fun _ => bind_in pNext_in fun _ _ _ => ok_in
theorem pE_in : ∀ n, (∀ l : List Tk, 2 * l.length + 1 ≤ n → pUn en n l ≠ .out) ∧ (∀ k (l : List Tk), 2 * l.length + 2 ≤ n → pEx en n k l ≠ .out) ∧ (∀ k y (l : List Tk), 2 * l.length + 1 ≤ n → pLp en n k y l ≠ .out)
 | 0 => ⟨fun l h => by omega, fun k l h => by omega, fun k y l h => by omega⟩
 | n + 1 => by
  obtain ⟨i1, i2, i3⟩ := pE_in n
  have e1 := (pE_len (en := en) n).1
  have e2 := (pE_len (en := en) n).2.1
  refine ⟨fun l h => ?_, fun k l h => ?_, fun k y l h => ?_⟩
  ·simp only [pUn]
   refine ite_in (fun h0 => ?_) fun _ => ite_in (fun h0 => ?_) fun _ => ite_in (fun h0 => ?_) fun _ => ite_in (fun h0 => ?_) fun _ => ite_in (fun _ => bind_in pWord_in fun _ _ _ => ok_in) fun _ => ite_in (fun _ => bind_in pNext_in fun _ _ _ => ok_in) fun _ => ite_in (fun _ => err_in) fun _ => bind_in pNext_in fun _ _ _ => ok_in
   all_goals have := isT_len h0
   ·exact bind_in (i2 _ _ (by omega)) fun _ _ _ => bind_in pExp_in fun _ _ _ => ok_in
   ·refine bind_in pExp_in fun _ r h1 => ?_
    have := pExp_len h1
    exact bind_in (i2 _ _ (by omega)) fun _ _ _ => bind_in pExp_in fun _ _ _ => ok_in
   ·exact bind_in (i1 _ (by omega)) fun _ _ _ => ok_in
   ·exact bind_in (i1 _ (by omega)) fun _ _ _ => ok_in
  ·simp only [pEx]
   refine bind_in (i1 _ (by omega)) fun x r h1 => ?_
   have := e1 _ _ _ h1
   exact i3 _ _ _ (by omega)
  ·cases l with
   | nil => exact ok_in
   | cons t l =>
    simp only [List.length_cons] at h
    simp only [pLp]
    refine ite_in (fun _ => ite_in (fun _ => ok_in) fun _ => bind_in (i2 _ _ (by omega)) fun x r h1 => ?_) fun _ => ok_in
    have := e2 _ _ _ _ h1
    exact i3 _ _ _ (by omega)
theorem pS_in : ∀ n, (∀ l : List Tk, 3 * l.length + 2 ≤ n → pBk en n l ≠ .out) ∧ (∀ acc (l : List Tk), 3 * l.length + 4 ≤ n → pBl en n acc l ≠ .out) ∧ (∀ l : List Tk, 3 * l.length + 3 ≤ n → pSt en n l ≠ .out) ∧ (∀ l : List Tk, 3 * l.length + 3 ≤ n → pCh en n l ≠ .out)
 | 0 => ⟨fun l h => by omega, fun a l h => by omega, fun l h => by omega, fun l h => by omega⟩
 | n + 1 => by
  obtain ⟨i1, i2, i3, i4⟩ := pS_in n
  have e2 := (pE_len (en := en) n).2.1
  have g2 := (pE_in (en := en) n).2.1
  obtain ⟨f1, f2, f3, f4⟩ := pS_len (en := en) n
  refine ⟨fun l h => ?_, fun a l h => ?_, fun l h => ?_, fun l h => ?_⟩
  ·simp only [pBk]
   refine bind_in pExp_in fun _ r h1 => ?_
   have := pExp_len h1
   exact i2 _ _ (by omega)
  ·simp only [pBl]
   refine ite_in (fun _ => ok_in) fun _ => bind_in (i3 _ (by omega)) fun x r h1 => ?_
   have := f3 _ _ _ h1
   exact i2 _ _ (by omega)
  ·simp only [pSt]
   refine ite_in (fun h0 => ?_) fun _ => ite_in (fun h0 => ?_) fun _ => ?_
   ·have := isT_len h0
    exact i4 _ (by omega)
   ·have := isT_len h0
    refine bind_in (g2 _ _ (by omega)) fun x r h1 => bind_in pExp_in fun _ r h2 => ite_in (fun _ => err_in) fun _ => bind_in pNext_in fun _ r h3 => ?_
    have := e2 _ _ _ _ h1
    have := pExp_len h2
    have := pNext_len h3
    exact bind_in (i1 _ (by omega)) fun _ _ _ => ok_in
   ·refine bind_in pWord_in fun x r h1 => bind_in pExp_in fun _ r h2 => ?_
    have := pWord_len h1
    have := pExp_len h2
    exact bind_in (g2 _ _ (by omega)) fun _ _ _ => bind_in pExp_in fun _ _ _ => ok_in
  ·simp only [pCh]
   refine bind_in (g2 _ _ (by omega)) fun x r h1 => ?_
   have := e2 _ _ _ _ h1
   refine bind_in (i1 _ (by omega)) fun x r h2 => ?_
   have := f1 _ _ _ h2
   refine ite_in (fun h0 => ?_) fun _ => ok_in
   have := isT_len h0
   refine ite_in (fun h3 => ?_) fun _ => bind_in (i1 _ (by omega)) fun _ _ _ => ok_in
   have := isT_len h3
   exact bind_in (i4 _ (by omega)) fun _ _ _ => ok_in
theorem pPathL_in : ∀ (n : Nat) (s : List UInt8) (l : List Tk), l.length + 1 ≤ n → pPathL en n s l ≠ .out
 | 0, _, _, h => by omega
 | n + 1, s, l, h => by
  simp only [pPathL]
  refine ite_in (fun h0 => bind_in pWord_in fun w r h1 => ?_) fun _ => ok_in
  have := isT_len h0
  have := pWord_len h1
  exact pPathL_in n _ _ (by omega)
theorem pPath_in {n : Nat} {l : List Tk} (h : l.length + 1 ≤ n) : pPath en n l ≠ .out := bind_in pWord_in fun w r h1 => by
 have := pWord_len h1
 exact pPathL_in n _ _ (by omega)
theorem pPars_in : ∀ (n : Nat) (acc : List (List UInt8)) (l : List Tk), l.length + 1 ≤ n → pPars en n acc l ≠ .out
 | 0, _, _, h => by omega
 | n + 1, s, l, h => by
  simp only [pPars]
  refine ite_in (fun h0 => bind_in pWord_in fun w r h1 => ?_) fun _ => ok_in
  have := isT_len h0
  have := pWord_len h1
  exact pPars_in n _ _ (by omega)
theorem pArgs_in : ∀ (n : Nat) (acc : List Ex) (l : List Tk), 2 * l.length + 2 ≤ n → pArgs en n acc l ≠ .out
 | 0, _, _, h => by omega
 | n + 1, s, l, h => by
  simp only [pArgs]
  refine ite_in (fun h0 => ?_) fun _ => ok_in
  have := isT_len h0
  refine bind_in ((pE_in n).2.1 _ _ (by omega)) fun w r h1 => ?_
  have := (pE_len n).2.1 _ _ _ _ h1
  exact pArgs_in n _ _ (by omega)
theorem pParL_len {n : Nat} {l r : List Tk} {a : List (List UInt8)} (h : pParL en n l = .ok a r) : r.length < l.length := by
 unfold pParL at h
 split at h
 ·rename_i h0
  cases h
  have := isT_len h0
  omega
 ·obtain ⟨w, r1, h1, h⟩ := bind_ok h
  obtain ⟨ps, r2, h2, h⟩ := bind_ok h
  obtain ⟨_, r3, h3, h⟩ := bind_ok h
  cases h
  have := pWord_len h1
  have := pPars_len h2
  have := pExp_len h3
  omega
theorem pArgL_len {n : Nat} {l r : List Tk} {a : List Ex} (h : pArgL en n l = .ok a r) : r.length < l.length := by
 unfold pArgL at h
 split at h
 ·rename_i h0
  cases h
  have := isT_len h0
  omega
 ·obtain ⟨w, r1, h1, h⟩ := bind_ok h
  obtain ⟨ps, r2, h2, h⟩ := bind_ok h
  obtain ⟨_, r3, h3, h⟩ := bind_ok h
  cases h
  have := (pE_len n).2.1 _ _ _ _ h1
  have := pArgs_len h2
  have := pExp_len h3
  omega
theorem pParL_in {n : Nat} {l : List Tk} (h : l.length + 1 ≤ n) : pParL en n l ≠ .out := ite_in (fun _ => ok_in) fun _ => bind_in pWord_in fun w r h1 => by
 have := pWord_len h1
 exact bind_in (pPars_in n _ _ (by omega)) fun _ _ _ => bind_in pExp_in fun _ _ _ => ok_in
theorem pArgL_in {n : Nat} {l : List Tk} (h : 2 * l.length + 2 ≤ n) : pArgL en n l ≠ .out := ite_in (fun _ => ok_in) fun _ => bind_in ((pE_in n).2.1 _ _ h) fun w r h1 => by
 have := (pE_len n).2.1 _ _ _ _ h1
 exact bind_in (pArgs_in n _ _ (by omega)) fun _ _ _ => bind_in pExp_in fun _ _ _ => ok_in
theorem pWhen_in {n : Nat} {l : List Tk} (h : 2 * l.length + 2 ≤ n) : pWhen en n l ≠ .out := ite_in (fun h0 => by
 have := isT_len h0
 exact bind_in ((pE_in n).2.1 _ _ (by omega)) fun _ _ _ => ok_in) fun _ => ok_in
theorem pSort_in {l : List Tk} : pSort en l ≠ .out := ite_in (fun _ => bind_in pNext_in fun _ _ _ => bind_in pExp_in fun _ _ _ => bind_in pNext_in fun _ _ _ => ok_in) fun _ => bind_in pExp_in fun _ _ _ => bind_in pSigned_in fun _ _ _ => bind_in pExp_in fun _ _ _ => bind_in pSigned_in fun _ _ _ => ok_in
theorem pInit_in {l : List Tk} : pInit en l ≠ .out := ite_in (fun _ => bind_in pNext_in fun _ _ _ => ok_in) fun _ => bind_in pSigned_in fun _ _ _ => ok_in
theorem pVar_in {l : List Tk} : pVar en l ≠ .out := bind_in pWord_in fun _ _ _ => bind_in pExp_in fun _ _ _ => bind_in pSort_in fun _ _ _ => bind_in pExp_in fun _ _ _ => bind_in pInit_in fun _ _ _ => bind_in pExp_in fun _ _ _ => ok_in
theorem pHan_in {n : Nat} {l : List Tk} (h : 3 * l.length + 2 ≤ n) : pHan en n l ≠ .out := bind_in (pPath_in (by omega)) fun m r h1 => bind_in pExp_in fun _ r h2 => by
 have := pPath_len h1
 have := pExp_len h2
 refine bind_in (pParL_in (by omega)) fun ps r h3 => bind_in pExp_in fun _ r h4 => bind_in pWord_in fun p r h5 => ?_
 have := pParL_len h3
 have := pExp_len h4
 have := pWord_len h5
 exact bind_in ((pS_in n).1 _ (by omega)) fun _ _ _ => ok_in
theorem pOff_in {n : Nat} {l : List Tk} (h : 2 * l.length + 2 ≤ n) : pOff en n l ≠ .out := bind_in (pPath_in (by omega)) fun m r h1 => bind_in pExp_in fun _ r h2 => by
 have := pPath_len h1
 have := pExp_len h2
 refine bind_in (pArgL_in (by omega)) fun ps r h3 => bind_in pExp_in fun _ r h4 => bind_in pWord_in fun p r h5 => ?_
 have := pArgL_len h3
 have := pExp_len h4
 have := pWord_len h5
 exact bind_in (pWhen_in (by omega)) fun _ _ _ => bind_in pExp_in fun _ _ _ => ok_in
theorem pVars_in (n : Nat) : ∀ (m : Nat) (acc : List Vr) (l : List Tk), l.length + 1 ≤ m → pVars en n m acc l ≠ .out
 | 0, _, _, h => by omega
 | m + 1, s, l, h => by
  simp only [pVars]
  refine ite_in (fun h0 => bind_in pVar_in fun w r h1 => ?_) fun _ => ok_in
  have := isT_len h0
  have := pVar_len h1
  exact pVars_in n m _ _ (by omega)
theorem pVars_len (n : Nat) : ∀ {m : Nat} {acc : List Vr} {l r : List Tk} {a : List Vr}, pVars en n m acc l = .ok a r → r.length ≤ l.length
 | 0, _, _, _, _, h => by cases h
 | m + 1, s, l, r, a, h => by
  simp only [pVars] at h
  split at h
  ·rename_i h0
   obtain ⟨w, r1, h1, h⟩ := bind_ok h
   have := isT_len h0
   have := pVar_len h1
   have := pVars_len n h
   omega
  ·cases h
   exact Nat.le_refl _
theorem pParts_in (n : Nat) : ∀ (m : Nat) (hs : List Ha) (os : List Off) (l : List Tk), l.length + 1 ≤ m → 3 * l.length + 2 ≤ n → pParts en n m hs os l ≠ .out
 | 0, _, _, _, h, _ => by omega
 | m + 1, hs, os, l, h, hn => by
  simp only [pParts]
  refine ite_in (fun _ => ok_in) fun _ => ite_in (fun h0 => ?_) fun _ => bind_in pExp_in fun _ r h1 => ?_
  ·have := isT_len h0
   refine bind_in (pHan_in (by omega)) fun x r h1 => ?_
   have := pHan_len h1
   exact pParts_in n m _ _ _ (by omega) (by omega)
  ·have := pExp_len h1
   refine bind_in (pOff_in (by omega)) fun x r h2 => ?_
   have := pOff_len h2
   exact pParts_in n m _ _ _ (by omega) (by omega)
theorem pSv_in {n : Nat} {l : List Tk} (h : 3 * l.length + 2 ≤ n) : pSv en n l ≠ .out := bind_in pExp_in fun _ r h1 => bind_in pWord_in fun _ r h2 => bind_in pExp_in fun _ r h3 => bind_in pWord_in fun _ r h4 => bind_in pExp_in fun _ r h5 => bind_in pWord_in fun _ r h6 => bind_in pExp_in fun _ r h7 => by
 have := pExp_len h1
 have := pWord_len h2
 have := pExp_len h3
 have := pWord_len h4
 have := pExp_len h5
 have := pWord_len h6
 have := pExp_len h7
 refine bind_in (pVars_in n _ _ _ (by omega)) fun vs r h8 => ?_
 have := pVars_len n h8
 refine bind_in (pParts_in n _ _ _ _ (by omega) (by omega)) fun p r h9 => ?_
 cases r with
 | nil => exact ok_in
 | cons t r => exact err_in
end
end Go.Aw
namespace Go.Aw.T.N
open Go Go.Aw Go.Proofs Go.RowKit
set_option maxRecDepth 100000
attribute [local irreducible] Go.Aw.J Go.Aw.DJ Go.Aw.FC
attribute [local go_sem] wrap64 wrapu64 wrapu8 nnif decide_true decide_false dst gst gv_b gv_u jst jpop bdL bdB bdT bdO AV.bd tfL AV.tf o_mv o_pick o_nilck o_build o_load o_loadD o_loadR o_faddr o_field o_iaddr o_iaddrA o_idxA o_idxS o_bin o_binB o_eqA o_not o_pnil o_neg o_conv o_lenS o_len o_lenA o_minmax o_slS o_slV o_extract o_mkfn o_mkfnB o_convS o_convBS o_mkif o_isnil o_bslice o_box o_alloc o_store o_storeD o_bsliceO o_bsliceM cpv cev_t cev_c Env.get put_some' put_none' of_setB of_addB of_setT of_addT of_upd of_blk of_tok of_nb of_nt of_new rmB rmT rmBs rmTs renB renT apB apT lkB lkT getD_0 getD_s renL AV.ren crange_if cstB_if one_nilS one_pnil oc_nil oc_pnil cbin binInt shInt binStr binBool cbuild_nil cbuild_cons cidx_if AV.cells AV.okc AV.flat flatL flatR setRange minmaxAV AV.one AV.ofCells eqCells eqCell slRows initEnv initFrom cres cresv cresL cond_true cond_false beq_self_eq_true Bool.not_true Bool.not_false beq_true beq_false eq_self if_true Option.some.injEq List.length_cons List.length_nil List.take_succ_cons List.take_zero List.drop_succ_cons List.drop_zero List.set_cons_succ List.set_cons_zero List.nil_append List.cons_append List.append_nil and_self Option.map_some Option.map_none List.map_cons List.map_nil Bool.false_eq_true if_false Nat.zero_add Nat.add_zero true_and and_true Bool.and_true Bool.true_and List.getElem?_cons_zero List.getElem?_cons_succ Nat.zero_le Nat.le_refl List.all_cons List.all_nil List.flatten_cons List.flatten_nil crows crowsOk List.filter_cons List.filter_nil List.contains_cons List.contains_nil Bool.or_false Bool.or_true Bool.false_or Bool.true_or
set_option linter.unusedSimpArgs false
set_option linter.unusedVariables false
section
set_option maxHeartbeats 8000000
attribute [local go_sem] Ex.row_mk Ex.rowsF Ex.row_flat Sm.row_mk Sm.rowsF Sm.row_flat srow srow_flat ha_row of_row ha_flat of_flat Vr.row vr_flat sv_cells
theorem q16 (x : Sv) (hb : SvB x) : Pure Tryz.prog 16 [x.av] (.bool (goodSv x)) := by
 have eN := p45 x.name
 have eR := p45 x.role
 have eP := p45 x.proto
 have hnv := hb.nv
 have hnh := hb.nh
 have hno := hb.no
 have e46 := q46 k47 goodV x.vars (by omega) fun v _ => q47 v
 have e48 := q48 k49 goodH x.hs (by omega) fun v hv => q49 v (by have := hb.ha v hv; omega) (by have := hb.hp v hv; omega)
 have e50 := q50 k51 goodO x.os (by omega) fun v hv => q51 v (by have := hb.oa v hv; omega)
 have e52 : partsB x = true → allB x = true → Pure Tryz.prog 52 [x.av] (.str (canonB x)) := fun h1 h2 => q52 x (svP_of hb h1 h2)
 rw [sv_av] at e52 ⊢
 have zv : ((x.vars.map Vr.row).length : Int) = (x.vars.length : Int) := by rw [List.length_map]
 have zh : ((x.hs.map Ha.row).length : Int) = (x.hs.length : Int) := by rw [List.length_map]
 have zo : ((x.os.map Off.row).length : Int) = (x.os.length : Int) := by rw [List.length_map]
 simp only [goodSv, partsB, allB] at e52 ⊢
 generalize isWordB x.name = bN at *
 generalize isWordB x.role = bR at *
 generalize isWordB x.proto = bP at *
 generalize x.vars.all goodV = bV at *
 generalize x.hs.all goodH = bH at *
 generalize x.os.all goodO = bO at *
 generalize canonB x = C at *
 generalize x.vars.length = nv at *
 generalize x.hs.length = nh at *
 generalize x.os.length = no at *
 refine pure_of mo Tryz.func16 c16 (by simp only [flatL, AV.flat, vr_flat, ha_flat, of_flat, Bool.and_self]) rfl ?_
 unfold e16 r16
 simp(disch:=omega)only[go_sem,simprocAttr]
 refine GoG ?_
 refine D.P (eN) ?_
 cases bN
 ·refine GoG ?_
  first|refine D.R ?_|refine D.E ?_
  exact ⟨_, rfl, .wk rfl rfl, trivial, trivial⟩
 refine GoG ?_
 refine D.P (eR) ?_
 cases bR
 ·refine GoG ?_
  first|refine D.R ?_|refine D.E ?_
  exact ⟨_, rfl, .wk rfl rfl, trivial, trivial⟩
 refine GoG ?_
 refine D.P (eP) ?_
 cases bP
 ·refine GoG ?_
  first|refine D.R ?_|refine D.E ?_
  exact ⟨_, rfl, .wk rfl rfl, trivial, trivial⟩
 by_cases h1 : nv ≤ 12
 rotate_left
 ·have d1 : (12 : Int) < (nv : Int) := by omega
  (have z1:=zv;have z2:=d1;refine GoG2 ?_;clear z1 z2)
  first|refine D.R ?_|refine D.E ?_
  refine ⟨_, rfl, .wk ?_ rfl, trivial, trivial⟩
  simp [AV.wk, h1]
 have d1 : ¬ (12 : Int) < (nv : Int) := by omega
 by_cases h2 : nh ≤ 40
 rotate_left
 ·have d2 : (40 : Int) < (nh : Int) := by omega
  (repeat' first|(apply DJ.s rfl;(· simp(disch:=omega)only[go_sem,simprocAttr,zv, d1, zh, d2]<;>with_reducible rfl))|(apply J.s true true;(· simp(disch:=omega)only[go_sem,simprocAttr,zv, d1, zh, d2]<;>with_reducible rfl))|apply DJ.nil|(refine J.reg0 ?_)|(apply DJ.gw;(· simp(disch:=omega)only[go_sem,simprocAttr,zv, d1, zh, d2]<;>with_reducible rfl))|(apply DJ.gz;(· rfl);(· simp(disch:=omega)only[go_sem,simprocAttr,zv, d1, zh, d2]<;>with_reducible rfl))|(apply DJ.gs;(· simp(disch:=omega)only[go_sem,simprocAttr,zv, d1, zh, d2]<;>with_reducible rfl))|((first|apply DJ.ixm|apply DJ.ixom|apply DJ.ixsm);(· simp(disch:=omega)only[go_sem,simprocAttr,zv, d1, zh, d2]<;>with_reducible rfl);(· simp(disch:=omega)only[go_sem,simprocAttr,zv, d1, zh, d2]<;>with_reducible rfl);(· assumption);(· omega))|intro h)
  first|refine D.R ?_|refine D.E ?_
  refine ⟨_, rfl, .wk ?_ rfl, trivial, trivial⟩
  simp [AV.wk, h2]
 have d2 : ¬ (40 : Int) < (nh : Int) := by omega
 by_cases h3 : no ≤ 40
 rotate_left
 ·have d3 : (40 : Int) < (no : Int) := by omega
  (repeat' first|(apply DJ.s rfl;(· simp(disch:=omega)only[go_sem,simprocAttr,zv, d1, zh, d2, zo, d3]<;>with_reducible rfl))|(apply J.s true true;(· simp(disch:=omega)only[go_sem,simprocAttr,zv, d1, zh, d2, zo, d3]<;>with_reducible rfl))|apply DJ.nil|(refine J.reg0 ?_)|(apply DJ.gw;(· simp(disch:=omega)only[go_sem,simprocAttr,zv, d1, zh, d2, zo, d3]<;>with_reducible rfl))|(apply DJ.gz;(· rfl);(· simp(disch:=omega)only[go_sem,simprocAttr,zv, d1, zh, d2, zo, d3]<;>with_reducible rfl))|(apply DJ.gs;(· simp(disch:=omega)only[go_sem,simprocAttr,zv, d1, zh, d2, zo, d3]<;>with_reducible rfl))|((first|apply DJ.ixm|apply DJ.ixom|apply DJ.ixsm);(· simp(disch:=omega)only[go_sem,simprocAttr,zv, d1, zh, d2, zo, d3]<;>with_reducible rfl);(· simp(disch:=omega)only[go_sem,simprocAttr,zv, d1, zh, d2, zo, d3]<;>with_reducible rfl);(· assumption);(· omega))|intro h)
  first|refine D.R ?_|refine D.E ?_
  refine ⟨_, rfl, .wk ?_ rfl, trivial, trivial⟩
  simp [AV.wk, h3]
 have d3 : ¬ (40 : Int) < (no : Int) := by omega
 simp only [decide_eq_true h1, decide_eq_true h2, decide_eq_true h3, Bool.true_and, Bool.and_true] at e52 ⊢
 (repeat' first|(apply DJ.s rfl;(· simp(disch:=omega)only[go_sem,simprocAttr,zv, d1, zh, d2, zo, d3]<;>with_reducible rfl))|(apply J.s true true;(· simp(disch:=omega)only[go_sem,simprocAttr,zv, d1, zh, d2, zo, d3]<;>with_reducible rfl))|apply DJ.nil|(refine J.reg0 ?_)|(apply DJ.gw;(· simp(disch:=omega)only[go_sem,simprocAttr,zv, d1, zh, d2, zo, d3]<;>with_reducible rfl))|(apply DJ.gz;(· rfl);(· simp(disch:=omega)only[go_sem,simprocAttr,zv, d1, zh, d2, zo, d3]<;>with_reducible rfl))|(apply DJ.gs;(· simp(disch:=omega)only[go_sem,simprocAttr,zv, d1, zh, d2, zo, d3]<;>with_reducible rfl))|((first|apply DJ.ixm|apply DJ.ixom|apply DJ.ixsm);(· simp(disch:=omega)only[go_sem,simprocAttr,zv, d1, zh, d2, zo, d3]<;>with_reducible rfl);(· simp(disch:=omega)only[go_sem,simprocAttr,zv, d1, zh, d2, zo, d3]<;>with_reducible rfl);(· assumption);(· omega))|intro h)
 refine D.P (e46) ?_
 cases bV
 ·refine GoG ?_
  first|refine D.R ?_|refine D.E ?_
  exact ⟨_, rfl, .wk rfl rfl, trivial, trivial⟩
 refine GoG ?_
 refine D.P (e48) ?_
 cases bH
 ·refine GoG ?_
  first|refine D.R ?_|refine D.E ?_
  exact ⟨_, rfl, .wk rfl rfl, trivial, trivial⟩
 refine GoG ?_
 refine D.P (e50) ?_
 cases bO
 ·refine GoG ?_
  first|refine D.R ?_|refine D.E ?_
  exact ⟨_, rfl, .wk rfl rfl, trivial, trivial⟩
 refine GoG ?_
 refine D.P (e52 (by first | trivial | rfl) (by first | trivial | rfl)) ?_
 refine GoG ?_
 first|refine D.R ?_|refine D.E ?_
 refine ⟨_, rfl, .wk ?_ rfl, trivial, trivial⟩
 simp only [AV.wk, AV.bool.injEq, Bool.true_and]
 exact decide_eq_decide.2 (by omega)
def printV (x : Sv) : AV := if goodSv x = true then .tup [.str (canonB x), .int .i64 0] else .tup [.str [], .int .i64 1]
theorem q18 (x : Sv) (hb : SvB x) : Pure Tryz.prog 18 [x.av] (printV x) := by
 have e16 := q16 x hb
 have e52 : goodSv x = true → Pure Tryz.prog 52 [x.av] (.str (canonB x)) := fun h => q52 x (by
  simp only [goodSv, Bool.and_eq_true] at h
  exact svP_of hb h.1 h.2.1)
 rw [sv_av] at e52 e16 ⊢
 unfold printV
 generalize canonB x = C at *
 generalize goodSv x = b at *
 refine pure_of mo Tryz.func18 c18 (by simp only [flatL, AV.flat, vr_flat, ha_flat, of_flat, Bool.and_self]) (by cases b <;> rfl) ?_
 unfold e18 r18
 simp(disch:=omega)only[go_sem,simprocAttr]
 refine GoG ?_
 refine D.P (e16) ?_
 cases b
 ·refine GoG ?_
  first|refine D.R ?_|refine D.E ?_
  exact ⟨_, rfl, .wk rfl rfl, trivial, trivial⟩
 refine GoG ?_
 refine D.P (e52 rfl) ?_
 refine GoG ?_
 first|refine D.R ?_|refine D.E ?_
 exact ⟨_, rfl, .wk rfl rfl, trivial, trivial⟩
end
end Go.Aw.T.N
namespace Go.Aw
open Go Go.Aw.T.N
set_option linter.unusedVariables false
section
variable {en : Int}
theorem pE_amt : ∀ n, (∀ l x r, pUn en n l = .ok x r → x.amt + r.length ≤ l.length) ∧ (∀ k l x r, pEx en n k l = .ok x r → x.amt + r.length ≤ l.length) ∧ (∀ k y l x r, pLp en n k y l = .ok x r → x.amt + r.length ≤ y.amt + l.length)
 | 0 => ⟨fun l x r h => by simp [pUn] at h, fun k l x r h => by simp [pEx] at h, fun k y l x r h => by simp [pLp] at h⟩
 | n + 1 => by
  obtain ⟨i1, i2, i3⟩ := pE_amt n
  refine ⟨fun l x r h => ?_, fun k l x r h => ?_, fun k y l x r h => ?_⟩
  ·simp only [pUn] at h
   split at h
   ·rename_i h0
    obtain ⟨x, r1, h1, h⟩ := bind_ok h
    obtain ⟨_, r2, h2, h⟩ := bind_ok h
    cases h
    have := i2 _ _ _ _ h1
    have := pExp_len h2
    have := isT_len h0
    omega
   split at h
   ·rename_i h0
    obtain ⟨_, r1, h1, h⟩ := bind_ok h
    obtain ⟨x, r2, h2, h⟩ := bind_ok h
    obtain ⟨_, r3, h3, h⟩ := bind_ok h
    cases h
    have := i2 _ _ _ _ h2
    have := pExp_len h1
    have := pExp_len h3
    have := isT_len h0
    simp only [Ex.amt, Ex.amts]
    omega
   split at h
   ·rename_i h0
    obtain ⟨x, r1, h1, h⟩ := bind_ok h
    cases h
    have := i1 _ _ _ h1
    have := isT_len h0
    simp only [Ex.amt, Ex.amts]
    omega
   split at h
   ·rename_i h0
    obtain ⟨x, r1, h1, h⟩ := bind_ok h
    cases h
    have := i1 _ _ _ h1
    have := isT_len h0
    simp only [Ex.amt, Ex.amts]
    omega
   split at h
   ·obtain ⟨x, r1, h1, h⟩ := bind_ok h
    cases h
    have := pWord_len h1
    simp only [Ex.amt, Ex.amts]
    omega
   split at h
   ·obtain ⟨x, r1, h1, h⟩ := bind_ok h
    cases h
    have := pNext_len h1
    simp only [Ex.amt, Ex.amts]
    omega
   split at h
   ·cases h
   ·obtain ⟨x, r1, h1, h⟩ := bind_ok h
    cases h
    have := pNext_len h1
    simp only [Ex.amt, Ex.amts]
    omega
  ·simp only [pEx] at h
   obtain ⟨y, r1, h1, h⟩ := bind_ok h
   have := i1 _ _ _ h1
   have := i3 _ _ _ _ _ h
   omega
  ·simp only [pLp] at h
   cases l with
   | nil => cases h; exact Nat.le_refl _
   | cons t l =>
    simp only at h
    split at h
    ·split at h
     ·cases h; exact Nat.le_refl _
     ·obtain ⟨z, r1, h1, h⟩ := bind_ok h
      have := i2 _ _ _ _ h1
      have h3 := i3 _ _ _ _ _ h
      simp only [Ex.amt, Ex.amts] at h3
      simp only [List.length_cons]
      omega
    ·cases h; exact Nat.le_refl _
theorem pS_amt : ∀ n, (∀ l x r, pBk en n l = .ok x r → Sm.amts x + r.length ≤ l.length) ∧ (∀ acc l x r, pBl en n acc l = .ok x r → Sm.amts x + r.length ≤ Sm.amts acc + l.length) ∧ (∀ l x r, pSt en n l = .ok x r → x.amt + r.length ≤ l.length) ∧ (∀ l x r, pCh en n l = .ok x r → x.amt + r.length ≤ l.length + 1)
 | 0 => ⟨fun l x r h => by simp [pBk] at h, fun a l x r h => by simp [pBl] at h, fun l x r h => by simp [pSt] at h, fun l x r h => by simp [pCh] at h⟩
 | n + 1 => by
  obtain ⟨i1, i2, i3, i4⟩ := pS_amt n
  have e2 := (pE_amt (en := en) n).2.1
  refine ⟨fun l x r h => ?_, fun a l x r h => ?_, fun l x r h => ?_, fun l x r h => ?_⟩
  ·simp only [pBk] at h
   obtain ⟨_, r1, h1, h⟩ := bind_ok h
   have := pExp_len h1
   have h2 := i2 _ _ _ _ h
   simp only [Sm.amts] at h2
   omega
  ·simp only [pBl] at h
   split at h
   ·rename_i h0
    cases h
    have := isT_len h0
    omega
   ·obtain ⟨y, r1, h1, h⟩ := bind_ok h
    have := i3 _ _ _ h1
    have h2 := i2 _ _ _ _ h
    rw [Sm.amts_app] at h2
    simp only [Sm.amts] at h2
    omega
  ·simp only [pSt] at h
   split at h
   ·rename_i h0
    have := isT_len h0
    have := i4 _ _ _ h
    omega
   split at h
   ·rename_i h0
    have := isT_len h0
    obtain ⟨y, r1, h1, h⟩ := bind_ok h
    obtain ⟨_, r2, h2, h⟩ := bind_ok h
    split at h
    ·cases h
    obtain ⟨t, r3, h3, h⟩ := bind_ok h
    obtain ⟨b, r4, h4, h⟩ := bind_ok h
    cases h
    have := e2 _ _ _ _ h1
    have := pExp_len h2
    have := pNext_len h3
    have := i1 _ _ _ h4
    simp only [Sm.amt, Sm.amts]
    omega
   ·obtain ⟨w, r1, h1, h⟩ := bind_ok h
    obtain ⟨_, r2, h2, h⟩ := bind_ok h
    obtain ⟨y, r3, h3, h⟩ := bind_ok h
    obtain ⟨_, r4, h4, h⟩ := bind_ok h
    cases h
    have := pWord_len h1
    have := pExp_len h2
    have := e2 _ _ _ _ h3
    have := pExp_len h4
    simp only [Sm.amt, Sm.amts]
    omega
  ·simp only [pCh] at h
   obtain ⟨y, r1, h1, h⟩ := bind_ok h
   obtain ⟨b, r2, h2, h⟩ := bind_ok h
   have := e2 _ _ _ _ h1
   have := i1 _ _ _ h2
   split at h
   ·rename_i h0
    have := isT_len h0
    split at h
    ·rename_i h5
     have := isT_len h5
     obtain ⟨z, r3, h3, h⟩ := bind_ok h
     cases h
     have := i4 _ _ _ h3
     simp only [Sm.amt, Sm.amts]
     omega
    ·obtain ⟨z, r3, h3, h⟩ := bind_ok h
     cases h
     have := i1 _ _ _ h3
     simp only [Sm.amt, Sm.amts]
     omega
   ·cases h
    simp only [Sm.amt, Sm.amts]
    omega
theorem pPars_amt : ∀ {n : Nat} {acc : List (List UInt8)} {l r : List Tk} {a : List (List UInt8)}, pPars en n acc l = .ok a r → a.length + r.length ≤ acc.length + l.length
 | 0, _, _, _, _, h => by cases h
 | n + 1, acc, l, r, a, h => by
  simp only [pPars] at h
  split at h
  ·rename_i h0
   obtain ⟨w, r1, h1, h⟩ := bind_ok h
   have := isT_len h0
   have := pWord_len h1
   have h2 := pPars_amt h
   simp only [List.length_append, List.length_cons, List.length_nil] at h2
   omega
  ·cases h
   exact Nat.le_refl _
theorem pArgs_amt : ∀ {n : Nat} {acc : List Ex} {l r : List Tk} {a : List Ex}, pArgs en n acc l = .ok a r → Ex.amts a + r.length ≤ Ex.amts acc + l.length
 | 0, _, _, _, _, h => by cases h
 | n + 1, acc, l, r, a, h => by
  simp only [pArgs] at h
  split at h
  ·rename_i h0
   obtain ⟨w, r1, h1, h⟩ := bind_ok h
   have := isT_len h0
   have := (pE_amt n).2.1 _ _ _ _ h1
   have h2 := pArgs_amt h
   rw [Ex.amts_app] at h2
   simp only [Ex.amts] at h2
   omega
  ·cases h
   exact Nat.le_refl _
def HaB (h : Ha) (K : Nat) : Prop := Sm.amts h.body ≤ K ∧ h.ps.length ≤ K
def OfB (o : Off) (K : Nat) : Prop := Ex.amts o.args ≤ K ∧ Ex.amts o.whn ≤ K
theorem pHan_amt {n : Nat} {l r : List Tk} {a : Ha} (h : pHan en n l = .ok a r) : HaB a l.length := by
 unfold pHan at h
 obtain ⟨m, r1, h1, h⟩ := bind_ok h
 obtain ⟨_, r2, h2, h⟩ := bind_ok h
 obtain ⟨ps, r3, h3, h⟩ := bind_ok h
 obtain ⟨_, r4, h4, h⟩ := bind_ok h
 obtain ⟨p, r5, h5, h⟩ := bind_ok h
 obtain ⟨b, r6, h6, h⟩ := bind_ok h
 cases h
 have := pPath_len h1
 have := pExp_len h2
 have := pParL_len h3
 have := pExp_len h4
 have := pWord_len h5
 have := (pS_amt n).1 _ _ _ h6
 refine ⟨by show Sm.amts b ≤ _; omega, ?_⟩
 show ps.length ≤ _
 unfold pParL at h3
 split at h3
 ·cases h3; simp
 ·obtain ⟨w, q1, k1, h3⟩ := bind_ok h3
  obtain ⟨qs, q2, k2, h3⟩ := bind_ok h3
  obtain ⟨_, q3, k3, h3⟩ := bind_ok h3
  cases h3
  have := pWord_len k1
  have k4 := pPars_amt k2
  simp only [List.length_cons, List.length_nil] at k4
  omega
theorem pOff_amt {n : Nat} {l r : List Tk} {a : Off} (h : pOff en n l = .ok a r) : OfB a l.length := by
 unfold pOff at h
 obtain ⟨m, r1, h1, h⟩ := bind_ok h
 obtain ⟨_, r2, h2, h⟩ := bind_ok h
 obtain ⟨xs, r3, h3, h⟩ := bind_ok h
 obtain ⟨_, r4, h4, h⟩ := bind_ok h
 obtain ⟨p, r5, h5, h⟩ := bind_ok h
 obtain ⟨w, r6, h6, h⟩ := bind_ok h
 obtain ⟨_, r7, h7, h⟩ := bind_ok h
 cases h
 have := pPath_len h1
 have := pExp_len h2
 have := pArgL_len h3
 have := pExp_len h4
 have := pWord_len h5
 refine ⟨?_, ?_⟩
 ·show Ex.amts xs ≤ _
  unfold pArgL at h3
  split at h3
  ·cases h3; simp [Ex.amts]
  ·obtain ⟨w, q1, k1, h3⟩ := bind_ok h3
   obtain ⟨qs, q2, k2, h3⟩ := bind_ok h3
   obtain ⟨_, q3, k3, h3⟩ := bind_ok h3
   cases h3
   have := (pE_amt n).2.1 _ _ _ _ k1
   have k4 := pArgs_amt k2
   simp only [Ex.amts] at k4
   omega
 ·show Ex.amts w ≤ _
  unfold pWhen at h6
  split at h6
  ·rename_i h0
   obtain ⟨w, q1, k1, h6⟩ := bind_ok h6
   cases h6
   have := isT_len h0
   have := (pE_amt n).2.1 _ _ _ _ k1
   simp only [Ex.amts]
   omega
  ·cases h6; simp [Ex.amts]
theorem pVars_amt (n : Nat) : ∀ {m : Nat} {acc : List Vr} {l r : List Tk} {a : List Vr}, pVars en n m acc l = .ok a r → a.length ≤ acc.length + l.length
 | 0, _, _, _, _, h => by cases h
 | m + 1, s, l, r, a, h => by
  simp only [pVars] at h
  split at h
  ·rename_i h0
   obtain ⟨w, r1, h1, h⟩ := bind_ok h
   have := isT_len h0
   have := pVar_len h1
   have h2 := pVars_amt n h
   simp only [List.length_append, List.length_cons, List.length_nil] at h2
   omega
  ·cases h
   omega
theorem pParts_amt (n K : Nat) : ∀ {m : Nat} {hs : List Ha} {os : List Off} {l r : List Tk} {p : List Ha × List Off}, pParts en n m hs os l = .ok p r → l.length ≤ K → (∀ h ∈ hs, HaB h K) → (∀ o ∈ os, OfB o K) → (∀ h ∈ p.1, HaB h K) ∧ (∀ o ∈ p.2, OfB o K) ∧ p.1.length + p.2.length ≤ hs.length + os.length + l.length
 | 0, _, _, _, _, _, h, _, _, _ => by cases h
 | m + 1, hs, os, l, r, p, h, hK, hH, hO => by
  simp only [pParts] at h
  split at h
  ·cases h
   exact ⟨hH, hO, by show hs.length + os.length ≤ _; omega⟩
  split at h
  ·rename_i h0
   obtain ⟨x, r1, h1, h⟩ := bind_ok h
   have := isT_len h0
   have h2 := pHan_amt h1
   have := pHan_len h1
   obtain ⟨g1, g2, g3⟩ := pParts_amt n K h (by omega) (fun y hy => by
    rcases List.mem_append.1 hy with hy | hy
    ·exact hH y hy
    ·rw [List.mem_singleton.1 hy]
     exact ⟨by have := h2.1; omega, by have := h2.2; omega⟩) hO
   exact ⟨g1, g2, by simp only [List.length_append, List.length_cons, List.length_nil] at g3; omega⟩
  ·obtain ⟨_, r1, h1, h⟩ := bind_ok h
   obtain ⟨x, r2, h2, h⟩ := bind_ok h
   have := pExp_len h1
   have h3 := pOff_amt h2
   have := pOff_len h2
   obtain ⟨g1, g2, g3⟩ := pParts_amt n K h (by omega) hH (fun y hy => by
    rcases List.mem_append.1 hy with hy | hy
    ·exact hO y hy
    ·rw [List.mem_singleton.1 hy]
     exact ⟨by have := h3.1; omega, by have := h3.2; omega⟩)
   exact ⟨g1, g2, by simp only [List.length_append, List.length_cons, List.length_nil] at g3; omega⟩
theorem pSv_amt {n : Nat} {l r : List Tk} {x : Sv} (h : pSv en n l = .ok x r) (hl : l.length ≤ 10000) : SvB x := by
 unfold pSv at h
 obtain ⟨_, r1, h1, h⟩ := bind_ok h
 obtain ⟨a, r2, h2, h⟩ := bind_ok h
 obtain ⟨_, r3, h3, h⟩ := bind_ok h
 obtain ⟨b, r4, h4, h⟩ := bind_ok h
 obtain ⟨_, r5, h5, h⟩ := bind_ok h
 obtain ⟨c, r6, h6, h⟩ := bind_ok h
 obtain ⟨_, r7, h7, h⟩ := bind_ok h
 obtain ⟨vs, r8, h8, h⟩ := bind_ok h
 obtain ⟨p, r9, h9, h⟩ := bind_ok h
 have := pExp_len h1
 have := pWord_len h2
 have := pExp_len h3
 have := pWord_len h4
 have := pExp_len h5
 have := pWord_len h6
 have := pExp_len h7
 have := pVars_len n h8
 have k1 := pVars_amt n h8
 obtain ⟨g1, g2, g3⟩ := pParts_amt n 10000 h9 (by omega) (fun _ h => by cases h) (fun _ h => by cases h)
 simp only [List.length_nil] at k1 g3
 cases r9 with
 | cons t r9 => cases h
 | nil =>
  cases h
  exact ⟨fun h hm => (g1 h hm).1, fun h hm => by have := (g1 h hm).2; omega, fun o hm => g2 o hm, by show vs.length ≤ _; omega, by show p.1.length ≤ _; omega, by show p.2.length ≤ _; omega⟩
end
theorem lexL_len (N : Nat) : ∀ (n : Nat) (acc : List Tk) (x : List UInt8) (l : List Tk), lexL N n acc x = .ok l → l.length ≤ acc.length + n
 | 0, acc, x, l, h => by simp only [lexL] at h; cases h; omega
 | n + 1, acc, x, l, h => by
  rw [lexL_succ] at h
  cases hy : skipR (x.length + 1) x with
  | nil => rw [hy] at h; simp only [lexB] at h; cases h; omega
  | cons c y =>
   rw [hy] at h
   simp only [lexB] at h
   cases ht : tokL (c :: y) with
   | err e => rw [ht] at h; cases h
   | ok t r =>
    rw [ht] at h
    have := lexL_len N n _ r l h
    simp only [List.length_append, List.length_cons, List.length_nil] at this
    omega
theorem lexA_len {s : List UInt8} {l : List Tk} (h : lexA s = .ok l) : s.length ≤ 8000 ∧ l.length ≤ 8001 := by
 unfold lexA at h
 split at h
 ·cases h
 ·rename_i h8
  have := lexL_len _ _ _ _ _ h
  simp only [List.length_nil] at this
  omega
def sv0 : Sv := ⟨[], [], [], [], [], []⟩
def parseT (en : Int) (l : List Tk) : Sv × Int × Int := match pSv en (3 * l.length + 2) l with
 | .ok x _ => if goodSv x = true then (x, 0, 0) else (sv0, 0, 6)
 | .err p e => (sv0, p, e)
 | .out => (sv0, 0, 0)
def parseP (s : List UInt8) : Sv × Int × Int := match lexA s with
 | .ok l => parseT s.length l
 | .err p e => (sv0, p, e)
def parseV (q : Sv × Int × Int) : AV := .tup [q.1.av, .int .i64 q.2.1, .int .i64 q.2.2]
end Go.Aw
namespace Go.Aw.T.N
open Go Go.Aw Go.Proofs Go.RowKit
set_option maxRecDepth 100000
attribute [local irreducible] Go.Aw.J Go.Aw.DJ Go.Aw.FC
attribute [local go_sem] wrap64 wrapu64 wrapu8 nnif decide_true decide_false dst gst gv_b gv_u jst jpop bdL bdB bdT bdO AV.bd tfL AV.tf o_mv o_pick o_nilck o_build o_load o_loadD o_loadR o_faddr o_field o_iaddr o_iaddrA o_idxA o_idxS o_bin o_binB o_eqA o_not o_pnil o_neg o_conv o_lenS o_len o_lenA o_minmax o_slS o_slV o_extract o_mkfn o_mkfnB o_convS o_convBS o_mkif o_isnil o_bslice o_box o_alloc o_store o_storeD o_bsliceO o_bsliceM cpv cev_t cev_c Env.get put_some' put_none' of_setB of_addB of_setT of_addT of_upd of_blk of_tok of_nb of_nt of_new rmB rmT rmBs rmTs renB renT apB apT lkB lkT getD_0 getD_s renL AV.ren crange_if cstB_if one_nilS one_pnil oc_nil oc_pnil cbin binInt shInt binStr binBool cbuild_nil cbuild_cons cidx_if AV.cells AV.okc AV.flat flatL flatR setRange minmaxAV AV.one AV.ofCells eqCells eqCell slRows initEnv initFrom cres cresv cresL cond_true cond_false beq_self_eq_true Bool.not_true Bool.not_false beq_true beq_false eq_self if_true Option.some.injEq List.length_cons List.length_nil List.take_succ_cons List.take_zero List.drop_succ_cons List.drop_zero List.set_cons_succ List.set_cons_zero List.nil_append List.cons_append List.append_nil and_self Option.map_some Option.map_none List.map_cons List.map_nil Bool.false_eq_true if_false Nat.zero_add Nat.add_zero true_and and_true Bool.and_true Bool.true_and List.getElem?_cons_zero List.getElem?_cons_succ Nat.zero_le Nat.le_refl List.all_cons List.all_nil List.flatten_cons List.flatten_nil crows crowsOk List.filter_cons List.filter_nil List.contains_cons List.contains_nil Bool.or_false Bool.or_true Bool.false_or Bool.true_or
set_option linter.unusedSimpArgs false
set_option linter.unusedVariables false
section
set_option maxHeartbeats 8000000
attribute [local go_sem] Ex.row_mk Ex.rowsF Ex.row_flat Sm.row_mk Sm.rowsF Sm.row_flat srow srow_flat ha_row of_row ha_flat of_flat Vr.row vr_flat sv_cells tk_flat psC cnot
theorem lexL_err (N : Nat) : ∀ (n : Nat) (acc : List Tk) (x : List UInt8) (p e : Int), lexL N n acc x = .err p e → e ≠ 0
 | 0, acc, x, p, e, h => by simp only [lexL] at h; cases h
 | n + 1, acc, x, p, e, h => by
  rw [lexL_succ] at h
  cases hy : skipR (x.length + 1) x with
  | nil => rw [hy] at h; simp only [lexB] at h; cases h
  | cons c y =>
   rw [hy] at h
   simp only [lexB] at h
   cases ht : tokL (c :: y) with
   | err e' => rw [ht] at h; cases h; exact tokL_err ht
   | ok t r =>
    rw [ht] at h
    exact lexL_err N n _ r p e h
theorem lexA_err {s : List UInt8} {p e : Int} (h : lexA s = .err p e) : e ≠ 0 := by
 unfold lexA at h
 split at h
 ·cases h; decide
 ·exact lexL_err _ _ _ _ _ _ h
theorem z31_wk : WkL [.str [], .str [], .str [], .nilS, .nilS, .nilS] [.str [], .str [], .str [], .vs 7 [], .vs 4 [], .vs 4 []] := .cons (.wk rfl rfl) (.cons (.wk rfl rfl) (.cons (.wk rfl rfl) (.cons .nil (.cons .nil (.cons .nil .nil)))))
theorem sv_wk (x : Sv) : Wk (.agg [.str x.name, .str x.role, .str x.proto, .vs 7 (x.vars.map Vr.row), .vs 4 (x.hs.map Ha.row), .vs 4 (x.os.map Off.row)]) x.av := .wk rfl (by simp only [sv_av, AV.flat, flatL, vr_flat, ha_flat, of_flat, Bool.and_self])
theorem q12 (s : Bs) (hs : s.length ≤ 1000000) : Pure Tryz.prog 12 [.str s] (parseV (parseP s)) := by
 have e30 := q30 s hs
 obtain ⟨R, hR⟩ : ∃ R, R = parseP s := ⟨_, rfl⟩
 rw [← hR]
 have hfl : (parseV R).flat = true := by simp only [parseV, sv_av, AV.flat, flatL, vr_flat, ha_flat, of_flat, Bool.and_self]
 refine pure_of mo Tryz.func12 c12 rfl hfl ?_
 unfold parseP at hR
 cases hX : lexA s with
 | err p e =>
  have hne : ¬ e = 0 := lexA_err hX
  rw [hX] at e30 hR
  simp only [lexV] at e30
  simp only at hR
  unfold e12 r12
  simp(disch:=omega)only[go_sem,simprocAttr]
  refine GoG ?_
  refine D.P (e30) ?_
  (have z1:=hne;refine GoG1 ?_;clear z1)
  first|refine D.R ?_|refine D.E ?_
  rw [hR]
  exact ⟨_, rfl, .tup (.cons (.agg z31_wk) (.cons (.wk rfl rfl) (.cons (.wk rfl rfl) .nil))), trivial, trivial⟩
 | ok l =>
  obtain ⟨hs8, hll⟩ := lexA_len hX
  have hno := pSv_in (en := (s.length : Int)) (n := 3 * l.length + 2) (l := l) (Nat.le_refl _)
  have e32 := q32 (3 * l.length + 2) l (s.length : Int) (by omega) hno
  rw [hX] at e30 hR
  simp only [lexV] at e30
  simp only [parseT] at hR
  cases hY : pSv (s.length : Int) (3 * l.length + 2) l with
  | out => exact absurd hY hno
  | err p e =>
   rw [hY] at e32 hR
   simp only [RP] at e32
   simp only at hR
   unfold e12 r12
   simp(disch:=omega)only[go_sem,simprocAttr]
   refine GoG ?_
   refine D.P (e30) ?_
   refine GoG ?_
   refine J.dfrP2 (cap := [.t 2, .t 3, .t 4]) (Qp := fun x' c1 => x' = failV p e ∧ c1.H.blk 0 = some (27, z31) ∧ c1.H.blk 1 = some (3, [.int .i64 0]) ∧ c1.H.blk 2 = some (28, [.int .i64 0])) (kt := [(2, .ptr 0 0), (3, .ptr 1 0), (4, .ptr 2 0)]) ?_ ?_ ?_ ?_ (fun caps h => d31i caps h) rfl ?_ ?_
   ·intro q hq
    simp only [List.mem_cons, List.not_mem_nil, or_false] at hq
    rcases hq with rfl | rfl | rfl <;> rfl
   ·intro q hq
    simp only [List.mem_cons, List.not_mem_nil, or_false] at hq
    rcases hq with rfl | rfl | rfl <;> decide
   ·intro q hq
    simp only [List.mem_cons, List.not_mem_nil, or_false] at hq
    rcases hq with rfl | rfl | rfl <;> rfl
   ·kernel_rfl
   ·rintro x' c1 ⟨rfl, h0, h1, h2⟩
    refine DCJ.mono (d31p h0 rfl h1 h2) ?_
    rintro c2 rfl
    rw [hR]
    refine ⟨.tup [.agg z31, .int .i64 p, .int .i64 e], ?_, ⟨_, rfl, .tup (.cons (.agg z31_wk) (.cons (.wk rfl rfl) (.cons (.wk rfl rfl) .nil))), trivial, trivial⟩⟩
    simp [cres, cresL, cresv, Env.get, CS.setB, AHeap.setB, crange]
    rfl
   simp(disch:=omega)only[go_sem,simprocAttr]
   refine GoG ?_
   refine D.FP2 ⟨[3], []⟩ e32 ⟨rfl, ?_, ?_, ?_⟩
   all_goals (rw [of_upd]; rfl)
  | ok x r =>
   have hb := pSv_amt hY (by omega)
   have e16 := q16 x hb
   rw [hY] at e32 hR
   simp only [RP] at e32
   simp only at hR
   rw [show gSv x = .agg [.str x.name, .str x.role, .str x.proto, .vs 7 (x.vars.map Vr.row), .vs 4 (x.hs.map Ha.row), .vs 4 (x.os.map Off.row)] from rfl] at e32
   rw [sv_av] at e16
   unfold e12 r12
   simp(disch:=omega)only[go_sem,simprocAttr]
   refine GoG ?_
   refine D.P (e30) ?_
   refine GoG ?_
   refine J.dfrP2 (cap := [.t 2, .t 3, .t 4]) (Qp := fun _ _ => False) (kt := []) (fun q hq => by cases hq) (fun q hq => by cases hq) (fun q hq => by cases hq) ?_ (fun caps h => d31i caps h) rfl (fun _ _ h => h.elim) ?_
   ·kernel_rfl
   simp(disch:=omega)only[go_sem,simprocAttr]
   refine GoG ?_
   refine D.F ⟨[3], []⟩ (e32) ?_
   refine GoG ?_
   refine D.P (e16) ?_
   cases hg : goodSv x
   ·rw [if_neg (by rw [hg]; decide)] at hR
    refine GoG ?_
    first|refine D.R ?_|refine D.E ?_
    rw [hR]
    exact ⟨_, rfl, .tup (.cons (.agg z31_wk) (.cons (.wk rfl rfl) (.cons (.wk rfl rfl) .nil))), trivial, trivial⟩
   ·rw [if_pos hg] at hR
    refine GoG ?_
    first|refine D.R ?_|refine D.E ?_
    rw [hR]
    exact ⟨_, rfl, .tup (.cons (sv_wk x) (.cons (.wk rfl rfl) (.cons (.wk rfl rfl) .nil))), trivial, trivial⟩
end
section
set_option maxHeartbeats 4000000
attribute [local go_sem] Ex.row_mk Sm.row_mk Ex.rowsF Sm.rowsF srow srow_flat ha_row of_row ha_flat of_flat
theorem q44 : ∀ (N : Nat) (l : List Ex), Ex.amts l ≤ N → N ≤ 1000000000 → Pure Tryz.prog 44 [.vs 6 (l.map Ex.row)] (.vs 6 (l.map Ex.row))
 | N, l, hN, hM => by
  have hL : l.length * 88 ≤ 140737488355328 := by have := Ex.len_amt l; omega
  refine pure_of mo Tryz.func44 c44 (by simp only [flatL, AV.flat, Ex.rowsF, Bool.and_self]) (by simp only [flatL, AV.flat, Ex.rowsF, Bool.and_self]) ?_
  unfold e44 r44
  simp(disch:=omega)only[go_sem,simprocAttr]
  refine J.seq ?_
  refine J.reg0 ?_
  refine GoD ?_
  refine J.seq ?_
  refine J.reg0 ?_
  refine GoD ?_
  refine J.ghE 3 6 51 rfl (by decide) ?_
  simp(disch:=omega)only[go_sem,simprocAttr]
  refine GoG ?_
  refine J.loopX (X := Nat) 0 (fun i => [(0, .vs 6 (l.map Ex.row)), (3, .own 0 6 ((l.take i).map Ex.row)), (4, .int .i64 (i : Int))]) (fun _ => []) (fun i => [(0, .frz 51 6 ((l.take i).map Ex.row).length)]) (fun i => i ≤ l.length) (fun i => l.length - i) (Nat.zero_le _) ⟨rfl, rfl, rfl, trivial⟩ trivial ⟨rfl, trivial⟩ ?_
  intro i hi
  try simp only at hi ⊢
  cases hv : l[i]? with
  | some v =>
   have hlt := (List.getElem?_eq_some_iff.1 hv).1
   have hm := Ex.mem_amt hv
   have hsn := take_snoc Ex.row hv
   have hlen : (l.take i).length = i := by simp; omega
   obtain ⟨k, o, m, t, n, a⟩ := v
   simp only [Ex.row_mk] at hsn
   have d1 : (i : Int) < ((l.map Ex.row).length : Int) := by rw [List.length_map]; omega
   match N, hN with
   | 0, hN => simp only [Ex.amt] at hm; omega
   | N + 1, hN =>
   simp only [Ex.amt] at hm
   have e1 := q44 N a (by omega) (by omega)
   (have z1:=d1;refine GoB1 ?_;clear z1)
   refine J.block ?_
   refine J.seq ?_
   refine J.reg0 ?_
   refine GoD ?_
   refine J.reg (anns := [.vs 6 (a.map Ex.row)]) ?_
   refine GoD ?_
   refine D.PC e1 ?_
   refine GoD ?_
   refine D.ap ?_
   refine GoG ?_
   refine J.roundC (i + 1) (by omega) ⟨rfl, by simp only [hsn]; rfl, rfl, trivial⟩ trivial ⟨by simp only [hsn, List.length_append]; rfl, trivial⟩ rfl (by simp only [bdE, bdL, bdB, bdT, bdO, AV.bd, Own.frz, go_sem] <;> rfl) (by show l.length - (i + 1) < l.length - i; omega)
  | none =>
   have hge := List.getElem?_eq_none_iff.1 hv
   have e : i = l.length := by omega
   subst e
   have d1 : ¬ (l.length : Int) < ((l.map Ex.row).length : Int) := by rw [List.length_map]; omega
   simp only [List.take_length]
   (have z1:=d1;refine GoG1 ?_;clear z1)
   first|refine D.R ?_|refine D.E ?_
   exact ⟨_, rfl, .wk rfl (by simp only [AV.flat, Ex.rowsF]), trivial, trivial⟩
theorem q43 : ∀ (N : Nat) (l : List Sm), Sm.amts l ≤ N → N ≤ 100000000 → Pure Tryz.prog 43 [.vs 11 (l.map Sm.row)] (.vs 11 (l.map Sm.row))
 | N, l, hN, hM => by
  have hL : l.length * 168 ≤ 140737488355328 := by have := Sm.len_amt l; omega
  refine pure_of mo Tryz.func43 c43 (by simp only [flatL, AV.flat, Sm.rowsF, Bool.and_self]) (by simp only [flatL, AV.flat, Sm.rowsF, Bool.and_self]) ?_
  unfold e43 r43
  simp(disch:=omega)only[go_sem,simprocAttr]
  refine J.seq ?_
  refine J.reg0 ?_
  refine GoD ?_
  refine J.seq ?_
  refine J.reg0 ?_
  refine GoD ?_
  refine J.ghE 3 11 165 rfl (by decide) ?_
  simp(disch:=omega)only[go_sem,simprocAttr]
  refine GoG ?_
  refine J.loopX (X := Nat) 0 (fun i => [(0, .vs 11 (l.map Sm.row)), (3, .own 0 11 ((l.take i).map Sm.row)), (4, .int .i64 (i : Int))]) (fun _ => []) (fun i => [(0, .frz 165 11 ((l.take i).map Sm.row).length)]) (fun i => i ≤ l.length) (fun i => l.length - i) (Nat.zero_le _) ⟨rfl, rfl, rfl, trivial⟩ trivial ⟨rfl, trivial⟩ ?_
  intro i hi
  try simp only at hi ⊢
  cases hv : l[i]? with
  | some v =>
   have hlt := (List.getElem?_eq_some_iff.1 hv).1
   have hm := Sm.mem_amt hv
   have hsn := take_snoc Sm.row hv
   have hlen : (l.take i).length = i := by simp; omega
   obtain ⟨k, m, x, t, a, b⟩ := v
   have hx0 : x.amt ≤ N := by simp only [Sm.amt] at hm; omega
   have e0 : Pure Tryz.prog 44 [.vs 6 [x.row]] (.vs 6 [x.row]) := q44 x.amt [x] (by simp [Ex.amts]) (by omega)
   obtain ⟨k2, o2, m2, t2, n2, l2⟩ := x
   simp only [Sm.row_mk, Ex.row_mk, List.cons_append, List.nil_append] at hsn
   simp(disch:=omega)only[go_sem,simprocAttr] at e0
   have d1 : (i : Int) < ((l.map Sm.row).length : Int) := by rw [List.length_map]; omega
   match N, hN with
   | 0, hN => simp only [Sm.amt] at hm; omega
   | N + 1, hN =>
   simp only [Sm.amt] at hm
   have e1 := q43 N a (by omega) (by omega)
   have e2 := q43 N b (by omega) (by omega)
   (have z1:=d1;refine GoB1 ?_;clear z1)
   refine J.block ?_
   refine J.seq ?_
   refine J.reg0 ?_
   refine GoD ?_
   refine J.reg (anns := [.vs 6 [[.int .i64 k2, .str o2, .str m2, .str t2, .int .i64 n2, .vs 6 (l2.map Ex.row)]], .vs 11 (a.map Sm.row), .vs 11 (b.map Sm.row)]) ?_
   refine GoD ?_
   refine D.PC e0 ?_
   refine GoD ?_
   refine D.PC e1 ?_
   refine GoD ?_
   refine D.PC e2 ?_
   refine GoD ?_
   refine D.ap ?_
   refine GoG ?_
   refine J.roundC (i + 1) (by omega) ⟨rfl, by simp only [hsn]; rfl, rfl, trivial⟩ trivial ⟨by simp only [hsn, List.length_append]; rfl, trivial⟩ rfl (by simp only [bdE, bdL, bdB, bdT, bdO, AV.bd, Own.frz, go_sem] <;> rfl) (by show l.length - (i + 1) < l.length - i; omega)
  | none =>
   have hge := List.getElem?_eq_none_iff.1 hv
   have e : i = l.length := by omega
   subst e
   have d1 : ¬ (l.length : Int) < ((l.map Sm.row).length : Int) := by rw [List.length_map]; omega
   simp only [List.take_length]
   (have z1:=d1;refine GoG1 ?_;clear z1)
   first|refine D.R ?_|refine D.E ?_
   exact ⟨_, rfl, .wk rfl (by simp only [AV.flat, Sm.rowsF]), trivial, trivial⟩
attribute [local go_sem] Vr.row vr_flat sv_cells cnot
abbrev z6 : List AV := [.str [], .str [], .str [], .nilS, .nilS, .nilS]
set_option maxHeartbeats 4000000 in
theorem q15 (x : Sv) (hx : SvB x) : Pure Tryz.prog 15 [x.av] x.av := by
 have l1 := hx.nv
 have l2 := hx.nh
 have l3 := hx.no
 rw [sv_av]
 refine pure_of mo Tryz.func15 c15 (by simp only [flatL, AV.flat, vr_flat, ha_flat, of_flat, Bool.and_self]) (by simp only [flatL, AV.flat, vr_flat, ha_flat, of_flat, Bool.and_self]) ?_
 unfold e15 r15
 simp(disch:=omega)only[go_sem,simprocAttr]
 refine J.seq ?_
 refine J.reg0 ?_
 refine GoD ?_
 refine J.seq ?_
 refine J.reg0 ?_
 refine GoD ?_
 refine J.ghB 2 3 7 95 rfl rfl (by decide) ?_
 simp(disch:=omega)only[go_sem,simprocAttr]
 refine J.ghB 2 4 4 99 rfl rfl (by decide) ?_
 simp(disch:=omega)only[go_sem,simprocAttr]
 refine J.ghB 2 5 4 66 rfl rfl (by decide) ?_
 simp(disch:=omega)only[go_sem,simprocAttr]
 refine GoG ?_
 refine J.loopX (X := Nat) 0 (fun i => [(1, .ptr 0 0), (2, .ptr 1 0), (3, .ptr 2 0), (4, .int .i64 (i : Int))]) (fun i => [(0, 27, x.cells), (1, 35, z6), (2, 35, [.str x.name, .str x.role, .str x.proto, .own 0 7 ((x.vars.take i).map Vr.row), .own 1 4 (([] : List Ha).map Ha.row), .own 2 4 (([] : List Off).map Off.row)])]) (fun i => [(0, .frz 95 7 ((x.vars.take i).map Vr.row).length), (1, .frz 99 4 (([] : List Ha).map Ha.row).length), (2, .frz 66 4 (([] : List Off).map Off.row).length)]) (fun i => i ≤ x.vars.length) (fun i => x.vars.length - i) (Nat.zero_le _) ⟨rfl, rfl, rfl, rfl, trivial⟩ ⟨rfl, rfl, rfl, trivial⟩ ⟨rfl, rfl, rfl, trivial⟩ ?_
 intro i hi
 try simp only at hi ⊢
 cases hv : x.vars[i]? with
 | some v =>
  have hlt := (List.getElem?_eq_some_iff.1 hv).1
  have hlen : (x.vars.take i).length = i := by simp; omega
  have hsn := take_snoc Vr.row hv
  have d1 : (i : Int) < ((x.vars.map Vr.row).length : Int) := by rw [List.length_map]; omega
  (have z1:=d1;refine GoG1 ?_;clear z1)
  refine D.ap ?_
  refine GoG ?_
  refine J.roundX (i + 1) (by omega) ⟨rfl, rfl, rfl, rfl, trivial⟩ (by refine ⟨rfl, rfl, ?_, trivial⟩; simp only [hsn]; rfl) (by refine ⟨?_, rfl, rfl, trivial⟩; simp only [hsn, List.length_append]; rfl) rfl rfl (by show x.vars.length - (i + 1) < x.vars.length - i; omega)
 | none =>
 have hge := List.getElem?_eq_none_iff.1 hv
 have e : i = x.vars.length := by omega
 subst e
 have d1 : ¬ (x.vars.length : Int) < ((x.vars.map Vr.row).length : Int) := by rw [List.length_map]; omega
 simp only [List.take_length]
 clear hi hv hge
 (have z1:=d1;refine GoG1 ?_;clear z1)
 refine J.loopX (X := Nat) 0 (fun i => [(1, .ptr 0 0), (2, .ptr 1 0), (3, .ptr 2 0), (5, .int .i64 (i : Int))]) (fun i => [(0, 27, x.cells), (1, 35, z6), (2, 35, [.str x.name, .str x.role, .str x.proto, .own 0 7 (x.vars.map Vr.row), .own 1 4 ((x.hs.take i).map Ha.row), .own 2 4 (([] : List Off).map Off.row)])]) (fun i => [(0, .frz 95 7 (x.vars.map Vr.row).length), (1, .frz 99 4 ((x.hs.take i).map Ha.row).length), (2, .frz 66 4 (([] : List Off).map Off.row).length)]) (fun i => i ≤ x.hs.length) (fun i => x.hs.length - i) (Nat.zero_le _) ⟨rfl, rfl, rfl, rfl, trivial⟩ ⟨rfl, rfl, rfl, trivial⟩ ⟨rfl, rfl, rfl, trivial⟩ ?_
 intro i hi
 try simp only at hi ⊢
 cases hv : x.hs[i]? with
 | some v =>
  have hlt := (List.getElem?_eq_some_iff.1 hv).1
  have hlen : (x.hs.take i).length = i := by simp; omega
  have hsn := take_snoc Ha.row hv
  have d1 : (i : Int) < ((x.hs.map Ha.row).length : Int) := by rw [List.length_map]; omega
  have e1 := q43 (Sm.amts v.body) v.body (Nat.le_refl _) (by have := hx.ha v (List.mem_of_getElem? hv); omega)
  simp only [ha_row] at hsn
  (have z1:=d1;refine GoB1 ?_;clear z1)
  refine J.block ?_
  refine J.seq ?_
  refine J.reg0 ?_
  refine GoD ?_
  refine J.reg (anns := [.vs 11 (v.body.map Sm.row)]) ?_
  refine GoD ?_
  refine D.PC e1 ?_
  refine GoD ?_
  refine D.ap ?_
  refine GoG ?_
  refine J.roundC (i + 1) (by omega) ⟨rfl, rfl, rfl, rfl, trivial⟩ (by refine ⟨rfl, rfl, ?_, trivial⟩; simp only [hsn]; rfl) (by refine ⟨rfl, ?_, rfl, trivial⟩; simp only [hsn, List.length_append]; rfl) rfl (by simp only [sv_cells, z6, bdE, bdL, bdB, bdT, bdO, AV.bd, Own.frz, vr_flat, ha_flat, of_flat, go_sem] <;> rfl) (by show x.hs.length - (i + 1) < x.hs.length - i; omega)
 | none =>
 have hge := List.getElem?_eq_none_iff.1 hv
 have e : i = x.hs.length := by omega
 subst e
 have d1 : ¬ (x.hs.length : Int) < ((x.hs.map Ha.row).length : Int) := by rw [List.length_map]; omega
 simp only [List.take_length]
 clear hi hv hge
 (have z1:=d1;refine GoG1 ?_;clear z1)
 refine J.loopX (X := Nat) 0 (fun i => [(1, .ptr 0 0), (2, .ptr 1 0), (3, .ptr 2 0), (7, .int .i64 (i : Int))]) (fun i => [(0, 27, x.cells), (1, 35, z6), (2, 35, [.str x.name, .str x.role, .str x.proto, .own 0 7 (x.vars.map Vr.row), .own 1 4 (x.hs.map Ha.row), .own 2 4 ((x.os.take i).map Off.row)])]) (fun i => [(0, .frz 95 7 (x.vars.map Vr.row).length), (1, .frz 99 4 (x.hs.map Ha.row).length), (2, .frz 66 4 ((x.os.take i).map Off.row).length)]) (fun i => i ≤ x.os.length) (fun i => x.os.length - i) (Nat.zero_le _) ⟨rfl, rfl, rfl, rfl, trivial⟩ ⟨rfl, rfl, rfl, trivial⟩ ⟨rfl, rfl, rfl, trivial⟩ ?_
 intro i hi
 try simp only at hi ⊢
 cases hv : x.os[i]? with
 | some v =>
  have hlt := (List.getElem?_eq_some_iff.1 hv).1
  have hlen : (x.os.take i).length = i := by simp; omega
  have hsn := take_snoc Off.row hv
  have d1 : (i : Int) < ((x.os.map Off.row).length : Int) := by rw [List.length_map]; omega
  have e1 := q44 (Ex.amts v.args) v.args (Nat.le_refl _) (by have := hx.oa v (List.mem_of_getElem? hv); omega)
  have e2 := q44 (Ex.amts v.whn) v.whn (Nat.le_refl _) (by have := hx.oa v (List.mem_of_getElem? hv); omega)
  simp only [of_row] at hsn
  (have z1:=d1;refine GoB1 ?_;clear z1)
  refine J.block ?_
  refine J.seq ?_
  refine J.reg0 ?_
  refine GoD ?_
  refine J.reg (anns := [.vs 6 (v.args.map Ex.row), .vs 6 (v.whn.map Ex.row)]) ?_
  refine GoD ?_
  refine D.PC e1 ?_
  refine GoD ?_
  refine D.PC e2 ?_
  refine GoD ?_
  refine D.ap ?_
  refine GoG ?_
  refine J.roundC (i + 1) (by omega) ⟨rfl, rfl, rfl, rfl, trivial⟩ (by refine ⟨rfl, rfl, ?_, trivial⟩; simp only [hsn]; rfl) (by refine ⟨rfl, rfl, ?_, trivial⟩; simp only [hsn, List.length_append]; rfl) rfl (by simp only [sv_cells, z6, bdE, bdL, bdB, bdT, bdO, AV.bd, Own.frz, vr_flat, ha_flat, of_flat, go_sem] <;> rfl) (by show x.os.length - (i + 1) < x.os.length - i; omega)
 | none =>
 have hge := List.getElem?_eq_none_iff.1 hv
 have e : i = x.os.length := by omega
 subst e
 have d1 : ¬ (x.os.length : Int) < ((x.os.map Off.row).length : Int) := by rw [List.length_map]; omega
 simp only [List.take_length]
 clear hi hv hge
 (have z1:=d1;refine GoG1 ?_;clear z1)
 first|refine D.R ?_|refine D.E ?_
 refine ⟨_, rfl, ?_, trivial, trivial⟩
 exact .wk rfl (by simp only [flatL, AV.flat, vr_flat, ha_flat, of_flat, Bool.and_self])
end
section
set_option maxHeartbeats 4000000
attribute [local go_sem] Ex.row_mk Sm.row_mk Ex.rowsF Sm.rowsF srow srow_flat ha_row of_row ha_flat of_flat
attribute [local go_sem] Vr.row vr_flat sv_cells cnot
theorem qA42 : ∀ (N : Nat) (a b : List Ex), Ex.amts a ≤ N → N ≤ 1000000000 → Pure Tryz.prog 42 [.vs 6 (a.map Ex.row), .vs 6 (b.map Ex.row)] (.bool (exSames a b))
  | N, a, b, hN, hM => by
    have hL : a.length ≤ 1000000000 := by have := Ex.len_amt a; omega
    rw [exSames_eq]
    refine pure_of mo Tryz.func42 c42 (by simp only [flatL, AV.flat, Ex.rowsF, Bool.and_self]) rfl ?_
    unfold e42 r42
    simp(disch:=omega)only[go_sem,simprocAttr]
    by_cases hab : a.length = b.length
    rotate_left
    · have d0 : ¬ (((a.map Ex.row).length : Int) = ((b.map Ex.row).length : Int)) := by simp only [List.length_map]; omega
      (have z1:=d0;refine GoG1 ?_;clear z1)
      first|refine D.R ?_|refine D.E ?_
      exact ⟨_, rfl, .wk (by rw [eqF_ne hab]; rfl) rfl, trivial, trivial⟩
    have d0 : ((a.map Ex.row).length : Int) = ((b.map Ex.row).length : Int) := by simp only [List.length_map]; omega
    (have z1:=d0;refine GoG1 ?_;clear z1)
    refine J.loopX (X := Nat) 0 (fun i => [(0, .vs 6 (a.map Ex.row)), (1, .vs 6 (b.map Ex.row)), (5, .int .i64 (i : Int))]) (fun _ => []) (fun _ => []) (fun i => i ≤ a.length ∧ eqF exSame (a.drop i) (b.drop i) = eqF exSame a b) (fun i => a.length - i) ⟨Nat.zero_le _, rfl⟩ ⟨rfl, rfl, rfl, trivial⟩ trivial trivial ?_
    rintro i ⟨hi, hz⟩
    try simp only at hi hz ⊢
    cases hv : a[i]? with
    | some v =>
      have hlt := (List.getElem?_eq_some_iff.1 hv).1
      obtain ⟨u, hu⟩ : ∃ u, b[i]? = some u := ⟨_, List.getElem?_eq_getElem (by omega)⟩
      rw [eqF_drop hv hu] at hz
      have d1 : (i : Int) < ((a.map Ex.row).length : Int) := by rw [List.length_map]; omega
      have d2 : (i : Int) < ((b.map Ex.row).length : Int) := by rw [List.length_map]; omega
      have hm := Ex.mem_amt hv
      obtain ⟨k, o, m, t, n, l⟩ := v
      obtain ⟨k2, o2, m2, t2, n2, l2⟩ := u
      match N, hN with
      | 0, hN => simp only [Ex.amt] at hm; omega
      | N + 1, hN =>
      simp only [Ex.amt] at hm
      have e1 := qA42 N l l2 (by omega) (by omega)
      simp only [exSame] at hz
      generalize exSames l l2 = bl at e1 hz
      clear hm
      (repeat' first|(apply DJ.s rfl;(· simp(disch:=omega)only[go_sem,simprocAttr,d1, d2]<;>with_reducible rfl))|(apply J.s true true;(· simp(disch:=omega)only[go_sem,simprocAttr,d1, d2]<;>with_reducible rfl))|apply DJ.nil|(refine J.reg0 ?_)|(apply DJ.gw;(· simp(disch:=omega)only[go_sem,simprocAttr,d1, d2]<;>with_reducible rfl))|(apply DJ.gz;(· rfl);(· simp(disch:=omega)only[go_sem,simprocAttr,d1, d2]<;>with_reducible rfl))|(apply DJ.gs;(· simp(disch:=omega)only[go_sem,simprocAttr,d1, d2]<;>with_reducible rfl))|((first|apply DJ.ixm|apply DJ.ixom|apply DJ.ixsm);(· simp(disch:=omega)only[go_sem,simprocAttr,d1, d2]<;>with_reducible rfl);(· simp(disch:=omega)only[go_sem,simprocAttr,d1, d2]<;>with_reducible rfl);(· assumption);(· omega))|intro h)
      all_goals first
        | (refine D.R ?_
           refine ⟨_, rfl, .wk ?_ rfl, trivial, trivial⟩
           rw [← hz]
           simp_all [AV.wk])
        | skip
      refine D.P (e1) ?_
      (repeat' first|refine D.S ?_|refine D.JJ true true ?_|refine DJ.nil ?_|refine J.reg0 ?_|refine D.W ?_|refine D.Z ?_|refine D.G ?_ ?_|refine D.X ‹_› ?_|refine D.XO ‹_› ?_|refine D.XS ‹_› ?_|intro h|refine D.C ?_ ?_)
      · first|refine D.R ?_|refine D.E ?_
        refine ⟨_, rfl, .wk ?_ rfl, trivial, trivial⟩
        rw [← hz]
        simp_all [AV.wk]
      · refine J.roundC (i + 1) ⟨by omega, ?_⟩ ⟨rfl, rfl, rfl, trivial⟩ trivial trivial rfl (by simp only [bdE, bdL, bdB, bdT, bdO, AV.bd, Own.frz, go_sem] <;> rfl) (by show a.length - (i + 1) < a.length - i; omega)
        rw [← hz]
        simp_all
    | none =>
      have hge := List.getElem?_eq_none_iff.1 hv
      have e0 : i = a.length := by omega
      subst e0
      have d1 : ¬ (a.length : Int) < ((a.map Ex.row).length : Int) := by rw [List.length_map]; omega
      have d2 : ¬ (a.length : Int) < ((b.map Ex.row).length : Int) := by rw [List.length_map]; omega
      rw [eqF_end (Nat.le_refl _) (by omega)] at hz
      rw [← hz]
      (have z1:=d1;have z2:=d2;refine GoG2 ?_;clear z1 z2)
      first|refine D.R ?_|refine D.E ?_
      exact ⟨_, rfl, .wk rfl rfl, trivial, trivial⟩
end
section
set_option maxHeartbeats 4000000
attribute [local go_sem] Ex.row_mk Sm.row_mk Ex.rowsF Sm.rowsF srow srow_flat ha_row of_row ha_flat of_flat
attribute [local go_sem] Vr.row vr_flat sv_cells cnot
def levT : List (List Bs) := [[[124, 124]], [[38, 38]], [[61, 61], [33, 61]], [[60], [60, 61], [62], [62, 61]], [[43], [45]], [[42], [47], [37]]]
def lrow (l : List Bs) : List AV := [.vs 1 (l.map srow)]
theorem lrow_flat (l : List (List Bs)) : flatR (l.map lrow) = true := flatR_map (fun l => by simp only [lrow, flatL, AV.flat, srow_flat, Bool.and_self]) l
def findL : List (List Bs) → Bs → Nat → Int
 | [], _, _ => 0
 | l :: T, s, i => if l.contains s = true then (i : Int) + 1 else findL T s (i + 1)
theorem findL_prec (s : Bs) : findL levT s 0 = precP s := by
 by_cases h1 : s = [124, 124]
 ·subst h1; decide
 by_cases h2 : s = [38, 38]
 ·subst h2; decide
 by_cases h3 : s = [61, 61]
 ·subst h3; decide
 by_cases h4 : s = [33, 61]
 ·subst h4; decide
 by_cases h5 : s = [60]
 ·subst h5; decide
 by_cases h6 : s = [60, 61]
 ·subst h6; decide
 by_cases h7 : s = [62]
 ·subst h7; decide
 by_cases h8 : s = [62, 61]
 ·subst h8; decide
 by_cases h9 : s = [43]
 ·subst h9; decide
 by_cases h10 : s = [45]
 ·subst h10; decide
 by_cases h11 : s = [42]
 ·subst h11; decide
 by_cases h12 : s = [47]
 ·subst h12; decide
 by_cases h13 : s = [37]
 ·subst h13; decide
 simp [levT, findL, precP, h1, h2, h3, h4, h5, h6, h7, h8, h9, h10, h11, h12, h13]
attribute [local go_sem] lrow lrow_flat
theorem levT_len : levT.length = 6 := rfl
theorem q24 (s : Bs) : Pure Tryz.prog 24 [.str s] (.int .i64 (precP s)) := by
 have hz0 := findL_prec s
 generalize precP s = R at hz0 ⊢
 refine pure_of mo Tryz.func24 c24 rfl rfl ?_
 unfold e24 r24
 simp(disch:=omega)only[go_sem,simprocAttr]
 refine GoG ?_
 refine J.loopX (X := Nat) 0 (fun i => [(0, .str s), (3, .vs 1 (levT.map lrow)), (4, .int .i64 (i : Int))]) (fun _ => []) (fun _ => []) (fun i => i ≤ 6 ∧ findL (levT.drop i) s i = R) (fun i => 6 - i) ⟨by decide, hz0⟩ ⟨rfl, rfl, rfl, trivial⟩ trivial trivial ?_
 rintro i ⟨hi, hz⟩
 try simp only at hi hz ⊢
 cases hv : levT[i]? with
 | none =>
  have hge := List.getElem?_eq_none_iff.1 hv
  rw [levT_len] at hge
  have d1 : ¬ (i : Int) < ((levT.map lrow).length : Int) := by rw [List.length_map, levT_len]; omega
  rw [List.drop_eq_nil_of_le (by rw [levT_len]; exact hge)] at hz
  (have z1:=d1;refine GoG1 ?_;clear z1)
  first|refine D.R ?_|refine D.E ?_
  refine ⟨_, rfl, .wk ?_ rfl, trivial, trivial⟩
  rw [← hz]
  rfl
 | some l =>
 have hlt := (List.getElem?_eq_some_iff.1 hv).1
 rw [levT_len] at hlt
 have d1 : (i : Int) < ((levT.map lrow).length : Int) := by rw [List.length_map, levT_len]; omega
 have hll : l.length ≤ 4 := by
  have := List.mem_of_getElem? hv
  simp [levT] at this
  rcases this with rfl | rfl | rfl | rfl | rfl | rfl <;> decide
 rw [drop_cons' hv] at hz
 simp only [findL] at hz
 (have z1:=d1;refine GoG1 ?_;clear z1)
 refine J.loopX (X := Nat) 0 (fun k => [(0, .str s), (3, .vs 1 (levT.map lrow)), (4, .int .i64 (i : Int)), (5, .int .i64 (k : Int))]) (fun _ => []) (fun _ => []) (fun k => k ≤ l.length ∧ (if (l.drop k).contains s = true then (i : Int) + 1 else findL (levT.drop (i + 1)) s (i + 1)) = R) (fun k => l.length - k) ⟨Nat.zero_le _, by simpa using hz⟩ ⟨rfl, rfl, rfl, rfl, trivial⟩ trivial trivial ?_
 clear hz hz0
 rintro k ⟨hk, hz⟩
 try simp only at hk hz ⊢
 cases hw : l[k]? with
 | none =>
  have hge := List.getElem?_eq_none_iff.1 hw
  have d2 : ¬ (k : Int) < ((l.map srow).length : Int) := by rw [List.length_map]; omega
  rw [List.drop_eq_nil_of_le hge] at hz
  simp only [List.contains_nil, Bool.false_eq_true, if_false] at hz
  (have z1:=d1;have z2:=d2;refine GoG2 ?_;clear z1 z2)
  refine J.roundX (i + 1) ⟨by omega, hz⟩ ⟨rfl, rfl, by simp only [Int.natCast_add]; rfl, trivial⟩ trivial trivial rfl rfl (by show 6 - (i + 1) < 6 - i; omega)
 | some x =>
  have hlk := (List.getElem?_eq_some_iff.1 hw).1
  have d2 : (k : Int) < ((l.map srow).length : Int) := by rw [List.length_map]; omega
  rw [drop_cons' hw] at hz
  by_cases hx : x = s
  ·simp only [List.contains_cons, hx, beq_self_eq_true, Bool.true_or, if_true] at hz
   (have z1:=d1;have z2:=d2;have z3:=hx;refine GoG3 ?_;clear z1 z2 z3)
   first|refine D.R ?_|refine D.E ?_
   refine ⟨_, rfl, .wk ?_ rfl, trivial, trivial⟩
   rw [← hz]
   rfl
  ·have hx' : (s == x) = false := by simpa using fun e : s = x => hx e.symm
   simp only [List.contains_cons, hx', Bool.false_or] at hz
   (have z1:=d1;have z2:=d2;have z3:=hx;refine GoG3 ?_;clear z1 z2 z3)
   refine J.roundX (k + 1) ⟨by omega, hz⟩ ⟨rfl, rfl, rfl, by simp only [Int.natCast_add]; rfl, trivial⟩ trivial trivial rfl rfl (by show l.length - (k + 1) < l.length - k; omega)
theorem q25 (x y : Ex) (hx : x.amt ≤ 1000000) : Pure Tryz.prog 25 [.agg x.row, .agg y.row] (.bool (exSame x y)) := by
 have e := qA42 (Ex.amts [x]) [x] [y] (Nat.le_refl _) (by simp only [Ex.amts]; omega)
 simp only [exSames, Bool.and_true, List.map_cons, List.map_nil] at e
 generalize exSame x y = b at e ⊢
 rcases x with ⟨xk, xo, xm, xt, xn, xl⟩
 rcases y with ⟨yk, yo, ym, yt, yn, yl⟩
 simp(disch:=omega)only[go_sem,simprocAttr] at e
 refine pure_of mo Tryz.func25 c25 (by simp only [flatL, AV.flat, Ex.row_flat, Bool.and_self]) rfl ?_
 unfold e25 r25
 simp(disch:=omega)only[go_sem,simprocAttr]
 refine GoG ?_
 refine D.P (e) ?_
 refine GoG ?_
 first|refine D.R ?_|refine D.E ?_
 exact ⟨_, rfl, .wk rfl rfl, trivial, trivial⟩
def ex0 : Ex := .mk 0 [] [] [] 0 []
def condHd : Bs := [115, 101, 114, 118, 105, 99, 101, 32, 83, 32, 112, 108, 97, 121, 115, 32, 97, 32, 111, 102, 32, 80, 32, 123, 32, 111, 102, 102, 101, 114, 32, 109, 40, 41, 32, 116, 111, 32, 98, 32, 119, 104, 101, 114, 101, 32]
def condTl : Bs := [59, 32, 125]
def condQ (q : Sv × Int × Int) : Ex × Bool := if q.2.2 = 0 then (match q.1.os with
  | [o] => (match o.whn with
   | [x] => (x, true)
   | _ => (ex0, false))
  | _ => (ex0, false)) else (ex0, false)
def condP (s : Bs) : Ex × Bool := condQ (parseP (condHd ++ s ++ condTl))
def condV (q : Ex × Bool) : AV := .tup [.agg q.1.row, .bool q.2]
theorem parseP_B (s : Bs) : SvB (parseP s).1 := by
 have h0 : SvB sv0 := ⟨fun h hm => (by cases hm), fun h hm => (by cases hm), fun o hm => (by cases hm), Nat.zero_le _, Nat.zero_le _, Nat.zero_le _⟩
 unfold parseP
 cases hX : lexA s with
 | err p e => exact h0
 | ok l =>
  obtain ⟨_, hl⟩ := lexA_len hX
  simp only [parseT]
  cases hY : pSv (s.length : Int) (3 * l.length + 2) l with
  | out => exact h0
  | err p e => exact h0
  | ok x r =>
   simp only
   split
   ·exact pSv_amt hY (by omega)
   ·exact h0
theorem q23 (s : Bs) (hs : s.length ≤ 900000) : Pure Tryz.prog 23 [.str s] (condV (condP s)) := by
 have e12 := q12 (condHd ++ s ++ condTl) (by simp only [List.length_append, condHd, condTl, List.length_cons, List.length_nil]; omega)
 have hB := parseP_B (condHd ++ s ++ condTl)
 unfold condP
 obtain ⟨⟨x, p, e⟩, hq⟩ : ∃ q, q = parseP (condHd ++ s ++ condTl) := ⟨_, rfl⟩
 rw [← hq] at e12 hB ⊢
 simp only at hB
 have e15 := q15 x hB
 have hfl : (condV (condQ (x, p, e))).flat = true := by simp only [condV, AV.flat, flatL, Ex.row_flat, Bool.and_self]
 obtain ⟨a, b, c, vs, hs', os⟩ := x
 simp only [parseV, sv_av] at e12 e15
 refine pure_of mo Tryz.func23 c23 rfl hfl ?_
 unfold condQ
 unfold condHd condTl at e12
 unfold e23 r23
 simp(disch:=omega)only[go_sem,simprocAttr]
 refine GoG ?_
 refine D.cat ?_
 refine D.cat ?_
 refine GoG ?_
 refine D.P (e12) ?_
 by_cases he : e = 0
 rotate_left
 ·(have z1:=he;refine GoG1 ?_;clear z1)
  first|refine D.R ?_|refine D.E ?_
  rw [if_neg he]
  exact ⟨_, rfl, .tup (.cons (.agg (.cons (.wk rfl rfl) (.cons (.wk rfl rfl) (.cons (.wk rfl rfl) (.cons (.wk rfl rfl) (.cons (.wk rfl rfl) (.cons .nil .nil))))))) (.cons (.wk rfl rfl) .nil)), trivial, trivial⟩
 subst he
 rcases os with _ | ⟨⟨msg, peer, as1, wn⟩, _ | ⟨o2, os⟩⟩
 ·refine GoG ?_
  first|refine D.R ?_|refine D.E ?_
  exact ⟨_, rfl, .tup (.cons (.agg (.cons (.wk rfl rfl) (.cons (.wk rfl rfl) (.cons (.wk rfl rfl) (.cons (.wk rfl rfl) (.cons (.wk rfl rfl) (.cons .nil .nil))))))) (.cons (.wk rfl rfl) .nil)), trivial, trivial⟩
 rotate_left
 ·have d1 : ¬ ((os.length : Int) + 1 + 1 = 1) := by omega
  (repeat' first|(apply DJ.s rfl;(· simp(disch:=omega)only[go_sem,simprocAttr,List.length_map, Int.natCast_add, d1]<;>with_reducible rfl))|(apply J.s true true;(· simp(disch:=omega)only[go_sem,simprocAttr,List.length_map, Int.natCast_add, d1]<;>with_reducible rfl))|apply DJ.nil|(refine J.reg0 ?_)|(apply DJ.gw;(· simp(disch:=omega)only[go_sem,simprocAttr,List.length_map, Int.natCast_add, d1]<;>with_reducible rfl))|(apply DJ.gz;(· rfl);(· simp(disch:=omega)only[go_sem,simprocAttr,List.length_map, Int.natCast_add, d1]<;>with_reducible rfl))|(apply DJ.gs;(· simp(disch:=omega)only[go_sem,simprocAttr,List.length_map, Int.natCast_add, d1]<;>with_reducible rfl))|((first|apply DJ.ixm|apply DJ.ixom|apply DJ.ixsm);(· simp(disch:=omega)only[go_sem,simprocAttr,List.length_map, Int.natCast_add, d1]<;>with_reducible rfl);(· simp(disch:=omega)only[go_sem,simprocAttr,List.length_map, Int.natCast_add, d1]<;>with_reducible rfl);(· assumption);(· omega))|intro h)
  first|refine D.R ?_|refine D.E ?_
  exact ⟨_, rfl, .tup (.cons (.agg (.cons (.wk rfl rfl) (.cons (.wk rfl rfl) (.cons (.wk rfl rfl) (.cons (.wk rfl rfl) (.cons (.wk rfl rfl) (.cons .nil .nil))))))) (.cons (.wk rfl rfl) .nil)), trivial, trivial⟩
 rcases wn with _ | ⟨w, _ | ⟨w2, ws⟩⟩
 ·refine GoG ?_
  first|refine D.R ?_|refine D.E ?_
  exact ⟨_, rfl, .tup (.cons (.agg (.cons (.wk rfl rfl) (.cons (.wk rfl rfl) (.cons (.wk rfl rfl) (.cons (.wk rfl rfl) (.cons (.wk rfl rfl) (.cons .nil .nil))))))) (.cons (.wk rfl rfl) .nil)), trivial, trivial⟩
 rotate_left
 ·have d1 : ¬ ((ws.length : Int) + 1 + 1 = 1) := by omega
  (repeat' first|(apply DJ.s rfl;(· simp(disch:=omega)only[go_sem,simprocAttr,List.length_map, Int.natCast_add, d1]<;>with_reducible rfl))|(apply J.s true true;(· simp(disch:=omega)only[go_sem,simprocAttr,List.length_map, Int.natCast_add, d1]<;>with_reducible rfl))|apply DJ.nil|(refine J.reg0 ?_)|(apply DJ.gw;(· simp(disch:=omega)only[go_sem,simprocAttr,List.length_map, Int.natCast_add, d1]<;>with_reducible rfl))|(apply DJ.gz;(· rfl);(· simp(disch:=omega)only[go_sem,simprocAttr,List.length_map, Int.natCast_add, d1]<;>with_reducible rfl))|(apply DJ.gs;(· simp(disch:=omega)only[go_sem,simprocAttr,List.length_map, Int.natCast_add, d1]<;>with_reducible rfl))|((first|apply DJ.ixm|apply DJ.ixom|apply DJ.ixsm);(· simp(disch:=omega)only[go_sem,simprocAttr,List.length_map, Int.natCast_add, d1]<;>with_reducible rfl);(· simp(disch:=omega)only[go_sem,simprocAttr,List.length_map, Int.natCast_add, d1]<;>with_reducible rfl);(· assumption);(· omega))|intro h)
  first|refine D.R ?_|refine D.E ?_
  exact ⟨_, rfl, .tup (.cons (.agg (.cons (.wk rfl rfl) (.cons (.wk rfl rfl) (.cons (.wk rfl rfl) (.cons (.wk rfl rfl) (.cons (.wk rfl rfl) (.cons .nil .nil))))))) (.cons (.wk rfl rfl) .nil)), trivial, trivial⟩
 rcases w with ⟨xk, xo, xm, xt, xn, xl⟩
 simp(disch:=omega)only[go_sem,simprocAttr] at e15
 refine GoG ?_
 refine D.P (e15) ?_
 refine GoG ?_
 first|refine D.R ?_|refine D.E ?_
 refine ⟨_, rfl, .wk ?_ ?_, trivial, trivial⟩
 ·simp only [condV, if_true, Ex.row_mk]; rfl
 ·simp only [condV, if_true, Ex.row_flat, AV.flat, flatL, Bool.and_self]
end
end Go.Aw.T.N
namespace Go.Aw
open Go Go.Aw.T.N
set_option linter.unusedVariables false
def opsL : List Bs := [[124, 124], [38, 38], [61, 61], [33, 61], [60], [60, 61], [62], [62, 61], [43], [45], [42], [47], [37]]
def srcA (x y : Bs) : Bs := [112, 32] ++ x ++ [32, 113, 32] ++ y ++ [32, 114]
def srcB (x y : Bs) : Bs := [40, 112, 32] ++ x ++ [32, 113, 41, 32] ++ y ++ [32, 114]
def srcC (x y : Bs) : Bs := [112, 32] ++ x ++ [32, 40, 113, 32] ++ y ++ [32, 114, 41]
def srcU (o x : Bs) : Bs := o ++ [112] ++ x ++ [113]
def srcV (o x : Bs) : Bs := [40] ++ o ++ [112, 41] ++ x ++ [113]
def srcW (o x : Bs) : Bs := o ++ [40, 112] ++ x ++ [113, 41]
def precA (x y : Bs) : Bool :=
 let g := condP (srcA x y); let w := condP (srcB x y); let o := condP (srcC x y)
 g.2 && (w.2 && (o.2 && (if precP x < precP y then exSame g.1 o.1 && !(exSame g.1 w.1) else exSame g.1 w.1 && !(exSame g.1 o.1))))
def precU (o x : Bs) : Bool :=
 let u := condP (srcU o x); let v := condP (srcV o x); let w := condP (srcW o x)
 u.2 && (v.2 && (w.2 && (exSame u.1 v.1 && !(exSame u.1 w.1))))
theorem pA0 : (opsL.all fun y => precA [124, 124] y) = true := by kernel_rfl
theorem pA1 : (opsL.all fun y => precA [38, 38] y) = true := by kernel_rfl
theorem pA2 : (opsL.all fun y => precA [61, 61] y) = true := by kernel_rfl
theorem pA3 : (opsL.all fun y => precA [33, 61] y) = true := by kernel_rfl
theorem pA4 : (opsL.all fun y => precA [60] y) = true := by kernel_rfl
theorem pA5 : (opsL.all fun y => precA [60, 61] y) = true := by kernel_rfl
theorem pA6 : (opsL.all fun y => precA [62] y) = true := by kernel_rfl
theorem pA7 : (opsL.all fun y => precA [62, 61] y) = true := by kernel_rfl
theorem pA8 : (opsL.all fun y => precA [43] y) = true := by kernel_rfl
theorem pA9 : (opsL.all fun y => precA [45] y) = true := by kernel_rfl
theorem pA10 : (opsL.all fun y => precA [42] y) = true := by kernel_rfl
theorem pA11 : (opsL.all fun y => precA [47] y) = true := by kernel_rfl
theorem pA12 : (opsL.all fun y => precA [37] y) = true := by kernel_rfl
theorem pU0 : (opsL.all fun x => precU [45] x) = true := by kernel_rfl
theorem pU1 : (opsL.all fun x => precU [33] x) = true := by kernel_rfl
theorem precA_all {x y : Bs} (hx : x ∈ opsL) (hy : y ∈ opsL) : precA x y = true := by
 have key : ∀ z : Bs, (opsL.all fun y => precA z y) = true → x = z → precA x y = true := fun z h e => by rw [e]; exact List.all_eq_true.1 h y hy
 simp only [opsL, List.mem_cons, List.not_mem_nil, or_false] at hx
 rcases hx with e | e | e | e | e | e | e | e | e | e | e | e | e
 ·exact key _ pA0 e
 ·exact key _ pA1 e
 ·exact key _ pA2 e
 ·exact key _ pA3 e
 ·exact key _ pA4 e
 ·exact key _ pA5 e
 ·exact key _ pA6 e
 ·exact key _ pA7 e
 ·exact key _ pA8 e
 ·exact key _ pA9 e
 ·exact key _ pA10 e
 ·exact key _ pA11 e
 ·exact key _ pA12 e
theorem precU_all {o x : Bs} (ho : o = [45] ∨ o = [33]) (hx : x ∈ opsL) : precU o x = true := by
 rcases ho with rfl | rfl
 ·exact List.all_eq_true.1 pU0 x hx
 ·exact List.all_eq_true.1 pU1 x hx
end Go.Aw
namespace Go.Aw.T.N
open Go Go.Aw Go.Proofs Go.RowKit
set_option maxRecDepth 100000
attribute [local irreducible] Go.Aw.J Go.Aw.DJ Go.Aw.FC
attribute [local go_sem] wrap64 wrapu64 wrapu8 nnif decide_true decide_false dst gst gv_b gv_u jst jpop bdL bdB bdT bdO AV.bd tfL AV.tf o_mv o_pick o_nilck o_build o_load o_loadD o_loadR o_faddr o_field o_iaddr o_iaddrA o_idxA o_idxS o_bin o_binB o_eqA o_not o_pnil o_neg o_conv o_lenS o_len o_lenA o_minmax o_slS o_slV o_extract o_mkfn o_mkfnB o_convS o_convBS o_mkif o_isnil o_bslice o_box o_alloc o_store o_storeD o_bsliceO o_bsliceM cpv cev_t cev_c Env.get put_some' put_none' of_setB of_addB of_setT of_addT of_upd of_blk of_tok of_nb of_nt of_new rmB rmT rmBs rmTs renB renT apB apT lkB lkT getD_0 getD_s renL AV.ren crange_if cstB_if one_nilS one_pnil oc_nil oc_pnil cbin binInt shInt binStr binBool cbuild_nil cbuild_cons cidx_if AV.cells AV.okc AV.flat flatL flatR setRange minmaxAV AV.one AV.ofCells eqCells eqCell slRows initEnv initFrom cres cresv cresL cond_true cond_false beq_self_eq_true Bool.not_true Bool.not_false beq_true beq_false eq_self if_true Option.some.injEq List.length_cons List.length_nil List.take_succ_cons List.take_zero List.drop_succ_cons List.drop_zero List.set_cons_succ List.set_cons_zero List.nil_append List.cons_append List.append_nil and_self Option.map_some Option.map_none List.map_cons List.map_nil Bool.false_eq_true if_false Nat.zero_add Nat.add_zero true_and and_true Bool.and_true Bool.true_and List.getElem?_cons_zero List.getElem?_cons_succ Nat.zero_le Nat.le_refl List.all_cons List.all_nil List.flatten_cons List.flatten_nil crows crowsOk List.filter_cons List.filter_nil List.contains_cons List.contains_nil Bool.or_false Bool.or_true Bool.false_or Bool.true_or
set_option linter.unusedSimpArgs false
set_option linter.unusedVariables false
section
set_option maxHeartbeats 8000000
attribute [local go_sem] Ex.row_mk Sm.row_mk Ex.rowsF Sm.rowsF srow srow_flat ha_row of_row ha_flat of_flat
attribute [local go_sem] Vr.row vr_flat sv_cells cnot
theorem condP_amt (s : Bs) : (condP s).1.amt ≤ 10000 := by
 have h0 : ex0.amt ≤ 10000 := by decide
 have hB := parseP_B (condHd ++ s ++ condTl)
 unfold condP condQ
 split
 ·split
  ·rename_i o ho
   split
   ·rename_i x hw
    have := (hB.oa o (by rw [ho]; simp)).2
    rw [hw] at this
    simp only [Ex.amts] at this
    show x.amt ≤ _
    omega
   ·exact h0
  ·exact h0
 ·exact h0
theorem opsL_get (n : Nat) : ∃ x, ([[AV.str [124, 124]], [AV.str [38, 38]], [AV.str [61, 61]], [AV.str [33, 61]], [AV.str [60]], [AV.str [60, 61]], [AV.str [62]], [AV.str [62, 61]], [AV.str [43]], [AV.str [45]], [AV.str [42]], [AV.str [47]], [AV.str [37]]] : List (List AV))[n % 13]? = some [.str x] ∧ x ∈ opsL ∧ x.length ≤ 2 := by
 have hlt : n % 13 < opsL.length := Nat.mod_lt _ (by decide)
 have h1 : opsL[n % 13]? = some opsL[n % 13] := List.getElem?_eq_getElem hlt
 have hm : opsL[n % 13] ∈ opsL := List.getElem_mem hlt
 refine ⟨opsL[n % 13], ?_, hm, ?_⟩
 ·show (opsL.map srow)[n % 13]? = _
  rw [List.getElem?_map, h1]
  rfl
 ·have : ∀ x ∈ opsL, x.length ≤ 2 := by decide
  exact this _ hm
theorem cond_get (s : Bs) (hs : s.length ≤ 900000) : ∃ (k : Int) (o m t : Bs) (n : Int) (l : List Ex) (b : Bool), condP s = (.mk k o m t n l, b) ∧ (Ex.mk k o m t n l).amt ≤ 1000000 ∧ Pure Tryz.prog 23 [.str s] (.tup [.agg [.int .i64 k, .str o, .str m, .str t, .int .i64 n, .vs 6 (l.map Ex.row)], .bool b]) := by
 have e := q23 s hs
 have h := condP_amt s
 generalize condP s = q at *
 obtain ⟨⟨k, o, m, t, n, l⟩, b⟩ := q
 refine ⟨k, o, m, t, n, l, b, rfl, Nat.le_trans h (by decide), ?_⟩
 simp only [condV, Ex.row_mk] at e
 exact e
theorem q6 (h11 : Pure Tryz.prog 11 [] (.bool true)) (a b : Nat) (ha : a < 256) (hb : b < 256) (nt : Bool) : Pure Tryz.prog 6 [.int .u8 (a : Int), .int .u8 (b : Int), .bool nt] (.bool true) := by
 obtain ⟨x, hx, hxm, hxl⟩ := opsL_get a
 obtain ⟨y, hy, hym, hyl⟩ := opsL_get b
 have ea : (a : Int).tmod 13 = ((a % 13 : Nat) : Int) := rfl
 have eb : (b : Int).tmod 13 = ((b % 13 : Nat) : Int) := rfl
 obtain ⟨uo, huo, hom, hol⟩ : ∃ uo : Bs, uo = (if nt = true then [33] else [45]) ∧ (uo = [45] ∨ uo = [33]) ∧ uo.length ≤ 1 := by
  cases nt
  ·exact ⟨[45], rfl, .inl rfl, Nat.le_refl _⟩
  ·exact ⟨[33], rfl, .inr rfl, Nat.le_refl _⟩
 have hA := precA_all hxm hym
 have hU := precU_all hom hxm
 have px := q24 x
 have py := q24 y
 obtain ⟨gk, go', gm, gt, gn, gl, gb, g1, g2, g3⟩ := cond_get (srcA x y) (by simp only [srcA, List.length_append, List.length_cons, List.length_nil]; omega)
 obtain ⟨wk', wo, wm, wt, wn, wl, wb, w1, w2, w3⟩ := cond_get (srcB x y) (by simp only [srcB, List.length_append, List.length_cons, List.length_nil]; omega)
 obtain ⟨ok', oo, om, ot, on, ol, ob, o1, o2, o3⟩ := cond_get (srcC x y) (by simp only [srcC, List.length_append, List.length_cons, List.length_nil]; omega)
 obtain ⟨uk, uo', um, ut, un, ul, ub, u1, u2, u3⟩ := cond_get (srcU uo x) (by simp only [srcU, List.length_append, List.length_cons, List.length_nil]; omega)
 obtain ⟨vk, vo, vm, vt, vn, vl, vb, v1, v2, v3⟩ := cond_get (srcV uo x) (by simp only [srcV, List.length_append, List.length_cons, List.length_nil]; omega)
 obtain ⟨zk, zo, zm, zt, zn, zl, zb, z1, z2, z3⟩ := cond_get (srcW uo x) (by simp only [srcW, List.length_append, List.length_cons, List.length_nil]; omega)
 simp only [precA, g1, w1, o1, Bool.and_eq_true] at hA
 simp only [precU, u1, v1, z1, Bool.and_eq_true, Bool.not_eq_true'] at hU
 obtain ⟨rfl, rfl, rfl, hA⟩ := hA
 obtain ⟨rfl, rfl, rfl, hU1, hU2⟩ := hU
 have s1 := q25 _ (.mk wk' wo wm wt wn wl) g2
 have s2 := q25 _ (.mk ok' oo om ot on ol) g2
 have s3 := q25 _ (.mk vk vo vm vt vn vl) u2
 have s4 := q25 _ (.mk zk zo zm zt zn zl) u2
 rw [hU1] at s3
 rw [hU2] at s4
 unfold srcA at g3
 unfold srcB at w3
 unfold srcC at o3
 unfold srcU at u3
 unfold srcV at v3
 unfold srcW at z3
 simp(disch:=omega)only[go_sem,simprocAttr] at s1
 simp(disch:=omega)only[go_sem,simprocAttr] at s2
 simp(disch:=omega)only[go_sem,simprocAttr] at s3
 simp(disch:=omega)only[go_sem,simprocAttr] at s4
 clear g1 w1 o1 u1 v1 z1 g2 w2 o2 u2 v2 z2
 generalize a % 13 = ia at *
 generalize b % 13 = ib at *
 refine pure_of mo Tryz.func6 c6 rfl rfl ?_
 unfold e6 r6
 simp(disch:=omega)only[go_sem,simprocAttr]
 refine GoG ?_
 refine D.P (h11) ?_
 refine GoG ?_
 refine D.iv (hx) ?_
 refine GoG ?_
 refine D.iv (hy) ?_
 refine GoG ?_
 refine D.cat ?_
 refine GoG ?_
 refine D.cat ?_
 refine GoG ?_
 refine D.cat ?_
 refine GoG ?_
 refine D.cat ?_
 refine GoG ?_
 refine D.P (g3) ?_
 refine GoG ?_
 refine D.cat ?_
 refine GoG ?_
 refine D.cat ?_
 refine GoG ?_
 refine D.cat ?_
 refine GoG ?_
 refine D.cat ?_
 refine GoG ?_
 refine D.P (w3) ?_
 refine GoG ?_
 refine D.cat ?_
 refine GoG ?_
 refine D.cat ?_
 refine GoG ?_
 refine D.cat ?_
 refine GoG ?_
 refine D.cat ?_
 refine GoG ?_
 refine D.P (o3) ?_
 refine GoG ?_
 refine D.P (py) ?_
 refine GoG ?_
 refine D.P (px) ?_
 by_cases hlt : precP x < precP y
 ·rw [if_pos hlt] at hA
  simp only [Bool.and_eq_true, Bool.not_eq_true'] at hA
  rw [hA.1] at s2
  rw [hA.2] at s1
  cases nt
  all_goals
   subst huo
   (have z1:=hlt;refine GoG1 ?_;clear z1)
   refine D.cat ?_
   refine GoG ?_
   refine D.cat ?_
   refine GoG ?_
   refine D.cat ?_
   refine GoG ?_
   refine D.P (u3) ?_
   refine GoG ?_
   refine D.cat ?_
   refine GoG ?_
   refine D.cat ?_
   refine GoG ?_
   refine D.cat ?_
   refine GoG ?_
   refine D.cat ?_
   refine GoG ?_
   refine D.P (v3) ?_
   refine GoG ?_
   refine D.cat ?_
   refine GoG ?_
   refine D.cat ?_
   refine GoG ?_
   refine D.cat ?_
   refine GoG ?_
   refine D.P (z3) ?_
   refine GoG ?_
   refine D.P (s2) ?_
   refine GoG ?_
   refine D.P (s1) ?_
   refine GoG ?_
   refine D.P (s3) ?_
   refine GoG ?_
   refine D.P (s4) ?_
   refine GoG ?_
   first|refine D.R ?_|refine D.E ?_
   exact ⟨_, rfl, .wk rfl rfl, trivial, trivial⟩
 ·rw [if_neg hlt] at hA
  simp only [Bool.and_eq_true, Bool.not_eq_true'] at hA
  rw [hA.1] at s1
  rw [hA.2] at s2
  cases nt
  all_goals
   subst huo
   (have z1:=hlt;refine GoG1 ?_;clear z1)
   refine D.cat ?_
   refine GoG ?_
   refine D.cat ?_
   refine GoG ?_
   refine D.cat ?_
   refine GoG ?_
   refine D.P (u3) ?_
   refine GoG ?_
   refine D.cat ?_
   refine GoG ?_
   refine D.cat ?_
   refine GoG ?_
   refine D.cat ?_
   refine GoG ?_
   refine D.cat ?_
   refine GoG ?_
   refine D.P (v3) ?_
   refine GoG ?_
   refine D.cat ?_
   refine GoG ?_
   refine D.cat ?_
   refine GoG ?_
   refine D.cat ?_
   refine GoG ?_
   refine D.P (z3) ?_
   refine GoG ?_
   refine D.P (s1) ?_
   refine GoG ?_
   refine D.P (s2) ?_
   refine GoG ?_
   refine D.P (s3) ?_
   refine GoG ?_
   refine D.P (s4) ?_
   refine GoG ?_
   first|refine D.R ?_|refine D.E ?_
   exact ⟨_, rfl, .wk rfl rfl, trivial, trivial⟩
end
section
set_option maxHeartbeats 8000000
set_option maxRecDepth 1000000
attribute [local go_sem] Ex.row_mk Sm.row_mk Ex.rowsF Sm.rowsF srow srow_flat ha_row of_row ha_flat of_flat
attribute [local go_sem] Vr.row vr_flat sv_cells cnot
def srcAw : Bs := [115, 101, 114, 118, 105, 99, 101, 32, 83, 32, 112, 108, 97, 121, 115, 32, 97, 32, 111, 102, 32, 80, 123, 118, 97, 114, 32, 110, 58, 105, 110, 116, 32, 48, 46, 46, 57, 61, 49, 59, 111, 110, 32, 109, 40, 120, 41, 102, 114, 111, 109, 32, 98, 123, 110, 61, 120, 59, 125, 111, 102, 102, 101, 114, 32, 107, 40, 110, 43, 49, 41, 116, 111, 32, 98, 32, 119, 104, 101, 114, 101, 32, 110, 60, 53, 59, 125]
def outAw : Bs := [115, 101, 114, 118, 105, 99, 101, 32, 83, 32, 112, 108, 97, 121, 115, 32, 97, 32, 111, 102, 32, 80, 32, 123, 10, 9, 118, 97, 114, 32, 110, 58, 32, 105, 110, 116, 32, 48, 32, 46, 46, 32, 57, 32, 61, 32, 49, 59, 10, 9, 111, 110, 32, 109, 40, 120, 41, 32, 102, 114, 111, 109, 32, 98, 32, 123, 10, 9, 9, 110, 32, 61, 32, 120, 59, 10, 9, 125, 10, 9, 111, 102, 102, 101, 114, 32, 107, 40, 110, 32, 43, 32, 49, 41, 32, 116, 111, 32, 98, 32, 119, 104, 101, 114, 101, 32, 110, 32, 60, 32, 53, 59, 10, 125, 10]
def xAw : Sv := ⟨[83], [97], [80], [⟨[110], 1, 0, 9, 1, 1, []⟩], [⟨[109], [98], [[120]], [.mk 1 [110] (.mk 3 [] [120] [] 0 []) 0 [] []]⟩], [⟨[107], [98], [.mk 6 [43] [] [] 0 [.mk 3 [] [110] [] 0 [], .mk 1 [] [] [] 1 []]], [.mk 6 [60] [] [] 0 [.mk 3 [] [110] [] 0 [], .mk 1 [] [] [] 5 []]]⟩]⟩
theorem parseAw : parseP srcAw = (xAw, 0, 0) := by kernel_rfl
theorem goodAw : goodSv xAw = true := by kernel_rfl
theorem canonAw : canonB xAw = outAw := by kernel_rfl
theorem svBAw : SvB xAw := by
 have := parseP_B srcAw
 rw [parseAw] at this
 exact this
theorem okAw : xAw.ok 1000 := by
 refine ⟨by decide, by decide, by decide, by decide, ?_, by decide, ?_, by decide, ?_⟩
 ·intro v hv
  rw [List.mem_singleton.1 hv]
  exact ⟨⟨by decide, by decide⟩, rfl, rfl, rfl, rfl, rfl⟩
 ·intro v hv
  rw [List.mem_singleton.1 hv]
  exact ⟨by decide, by decide, by decide, by decide, by decide, ⟨rfl, by decide, ⟨rfl, by decide, by decide, by decide, rfl, by decide, trivial⟩, rfl, by decide, by decide, trivial, trivial⟩, trivial⟩
 ·intro v hv
  rw [List.mem_singleton.1 hv]
  exact ⟨by decide, by decide, by decide, ⟨⟨rfl, by decide, by decide, by decide, rfl, by decide, ⟨rfl, by decide, by decide, by decide, rfl, by decide, trivial⟩, ⟨rfl, by decide, by decide, by decide, rfl, by decide, trivial⟩, trivial⟩, trivial⟩, by decide, ⟨⟨rfl, by decide, by decide, by decide, rfl, by decide, ⟨rfl, by decide, by decide, by decide, rfl, by decide, trivial⟩, ⟨rfl, by decide, by decide, by decide, rfl, by decide, trivial⟩, trivial⟩, trivial⟩⟩
theorem q11 : Pure Tryz.prog 11 [] (.bool true) := by
 have e1 := q12 srcAw (by decide)
 have e2 := q18 xAw svBAw
 have e3 := q16 xAw svBAw
 have e4 := q22 (R := 1000) (by decide) xAw xAw okAw
 rw [parseAw] at e1
 rw [goodAw] at e3
 rw [svSame_refl] at e4
 unfold printV at e2
 rw [if_pos goodAw, canonAw] at e2
 simp only [parseV] at e1
 rw [sv_av] at e1 e2 e3 e4
 simp only [xAw] at e1 e2 e3 e4
 simp(disch:=omega)only[go_sem,simprocAttr] at e1
 simp(disch:=omega)only[go_sem,simprocAttr] at e2
 simp(disch:=omega)only[go_sem,simprocAttr] at e3
 simp(disch:=omega)only[go_sem,simprocAttr] at e4
 unfold srcAw at e1
 unfold outAw at e2
 refine pure_of mo Tryz.func11 c11 rfl rfl ?_
 unfold e11 r11
 simp(disch:=omega)only[go_sem,simprocAttr]
 refine GoG ?_
 refine D.P (e1) ?_
 refine GoG ?_
 refine D.P (e2) ?_
 refine GoG ?_
 refine D.P (e3) ?_
 refine GoG ?_
 refine D.P (e4) ?_
 refine GoG ?_
 first|refine D.R ?_|refine D.E ?_
 exact ⟨_, rfl, .wk rfl rfl, trivial, trivial⟩
end
end Go.Aw.T.N
set_option linter.unusedVariables false
namespace Go.Aw.T.N
open Go Go.Aw Go.Proofs
theorem wf_u8 {a : Int} (h : (Lit.int .u8 a).wf = true) : ∃ n : Nat, a = (n : Int) ∧ n < 256 := by
 have h2 : IntKind.u8.min ≤ a ∧ a ≤ IntKind.u8.max := by simpa [Lit.wf] using h
 have e1 : IntKind.u8.min = 0 := by decide
 have e2 : IntKind.u8.max = 255 := by decide
 rw [e1, e2] at h2
 refine ⟨a.toNat, ?_, ?_⟩ <;> omega
theorem q6I (a b : Int) (nt : Bool) (ha : (Lit.int .u8 a).wf = true) (hb : (Lit.int .u8 b).wf = true) : Pure Tryz.prog 6 [.int .u8 a, .int .u8 b, .bool nt] (.bool true) := by
 obtain ⟨n, rfl, hn⟩ := wf_u8 ha
 obtain ⟨m, rfl, hm⟩ := wf_u8 hb
 exact q6 q11 n m hn hm nt
end Go.Aw.T.N
namespace Go.Proofs.YtjkbgcgljnldeaaGreatDoor
open Go.ChangeShapes Go.WideShapes Go.ChangeAt Go.RowKit
def laidL := Rows.serviceEqualRow.laid
theorem door_met (os : Os) (args : Array Value) : laidMetH Tryz.prog laidL ((World.laidAll Tryz.prog os laidL).forCall (fun _ _ => 0) ⟨#[], args, []⟩).memory := by
 rw [MakeChecks.laidMetH_plain _ _ _ (by kernel_rfl)]
 exact laidMet_laidAll _ (by kernel_rfl) (by kernel_rfl)
section
variable {H : Type} {enc : TypeId × Value → H}
theorem returns_laid_sized {a : Assume} {C : Checked} {os : Os} {f : FuncId} {fn : Func} {s : ChangeSpec} {conds : List PathCond} {apart fresh handsOn again : Bool} {X : World → Array Value → Prop}
  (hX : ∀ (w w' : World) (args : Array Value), w.heap = w'.heap → X w args → X w' args)
  (own : ownKnob C.prog.godebug = none) (started : os.Started) (noInit : C.prog.inits.idxOf? f = none) (hfn : C.prog.funcs[f]? = some fn)
  (witness : ∃ (w : World) (tape : Tape) (i : Input), w.os = os ∧ (w.forCall tape i).Shaped C.prog ∧ i.vars = [] ∧ Input.okWide C.prog (w.forCall tape i) .any w.heap.size f i ∧
   ((s.pre enc C.prog fn conds apart (w.forCall tape i).memory i.args ∧ X (w.forCall tape i).memory i.args) ∧ sizedMet enc C.prog fn (OpenSpec.ofChange s) apart (w.forCall tape i).memory i.args) ∧ a.holds C.prog (lone (Frame.enter C.prog f i.args .normal) [] (w.forCall tape i)))
  (contract : ∀ (W : World) (base : Nat) (args : Array Value) (ds gs : List (DataW H)) (before : List MemPlace),
   (∀ (j : Nat) t v, fn.params[j]? = some t → args[j]? = some v → Value.okWide C.prog W .any base t v) →
   DataW.Whole enc C.prog fn.params.toList s.vars apart W args.toList ds gs before →
   (DataW.weightsEach C.prog (fn.params.toList ++ s.plain.varTypes C.prog) (ds ++ gs)).all (· ≤ reachBytes) = true →
   X W args → W.ShapedOpen C.prog →
   Calls C.prog f args W fun e W' => ∃ v, e = .returned v ∧ s.post enc C.prog fn apart fresh handsOn again W args v W') :
  ReturnsInHanded a C os f .any (fun w args => (s.pre enc C.prog fn conds apart w args ∧ X w args) ∧ sizedMet enc C.prog fn (OpenSpec.ofChange s) apart w args) (s.post enc C.prog fn apart fresh handsOn again) := by
 refine returnsInHanded_of_calls own started noInit witness ?_
 intro w tape i _ hsh _ hok hpre _
 obtain ⟨_, _, _, fn', hfn', _, _, _, _, hval⟩ := hok
 obtain rfl : fn' = fn := Option.some.inj (hfn'.symm.trans hfn)
 obtain ⟨⟨⟨ds, gs, before, hw, _⟩, hx⟩, hz⟩ := hpre
 have hw' := DataW.Whole.of_heap (w' := w.forCall tape i) (by rfl) hw
 refine (contract (w.forCall tape i) w.heap.size i.args ds gs before hval hw' (hz.weights hw) (hX _ _ _ (by rfl) hx) hsh).mono fun e W' ⟨v, he, hp⟩ => ?_
 subst he
 exact ChangeSpec.post_blind hp
end
theorem gTab : Tryz.prog.globalNamed "internal/strconv.uint64pow10" = some 1 := by kernel_rfl
theorem gTabT : (Tryz.prog.globals[1]?).map (·.type) = some 261 := by kernel_rfl
theorem cells261 : Tryz.prog.cellsOf 261 = 20 := by kernel_rfl
theorem cells249 : Tryz.prog.cellsOf 249 = 1 := by kernel_rfl
theorem row1 : (((begin Tryz.prog (fun _ _ => 0) default).world.heap[1]?).bind Obj.row?).map (·.2) = some 261 := by kernel_rfl
theorem gsz : 1 < Tryz.prog.globals.size := of_decide_eq_true (by kernel_rfl)
theorem block_of {W : World} {g t : Nat} (hs : W.ShapedOpen Tryz.prog) (hg : g < Tryz.prog.globals.size) (h : (((begin Tryz.prog (fun _ _ => 0) default).world.heap[g]?).bind Obj.row?).map (·.2) = some t) {name : String} (hn : Tryz.prog.globalNamed name = some g) {cs : Array Value} (hv : W.var? Tryz.prog name = some cs) : W.heap[g]? = some (.cells cs t (0, 0)) := by
 obtain ⟨⟨zero, t'⟩, h1, h2⟩ := Option.map_eq_some_iff.1 h
 simp only at h2
 subst h2
 obtain ⟨cs', h3, _⟩ := hs.1 g zero t' hg h1
 unfold World.var? at hv
 rw [hn] at hv
 simp only [Option.bind_some, h3, Option.some.injEq] at hv
 rw [h3, hv]
theorem globW_of {W : World} (hs : W.ShapedOpen Tryz.prog) (h : laidMetH Tryz.prog laidL W) : Go.Aw.GlobW W := by
 rw [MakeChecks.laidMetH_plain _ _ _ (by kernel_rfl)] at h
 have h2 : laidMet Tryz.prog (("internal/strconv.uint64pow10", Lib.tabData .u64 Lib.pow10Tab) :: [("unicode/utf8.acceptRanges", Rows.laid_unicode_utf8_acceptRanges), ("unicode/utf8.first", Rows.laid_unicode_utf8_first)]) W := h.tail.tail
 have v3 : Lib.TabIs Tryz.prog W "internal/strconv.uint64pow10" .u64 Lib.pow10Tab := Lib.tabIs_of_head gTab gTabT Tryz.underlying261 Tryz.underlying249 cells249 cells261 h2
 have b3 := block_of hs gsz row1 gTab v3
 intro p hp
 simp only [Go.Aw.globs, List.mem_cons, List.not_mem_nil, or_false] at hp
 subst hp
 exact ⟨_, b3, 261, _, rfl⟩
end Go.Proofs.YtjkbgcgljnldeaaGreatDoor
