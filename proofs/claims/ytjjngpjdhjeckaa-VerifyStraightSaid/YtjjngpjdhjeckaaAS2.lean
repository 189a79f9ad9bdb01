/- Part of a proof; own work. -/
import Derived.Orders
import Derived.Test.YtjjngpjdhjeckaaAS1
namespace Go.Aw
open Go
set_option linter.unusedVariables false
set_option linter.unusedSimpArgs false
def HFin (H : AHeap) : Prop := ∃ N, ∀ n, N ≤ n → H.blk n = none ∧ H.tok n = none
theorem fin_fresh {H : AHeap} (h : HFin H) (M : Nat) (x : X) : ∃ n, M < n ∧ x.fresh n H := by
 obtain ⟨N, hN⟩ := h
 refine ⟨max N (M + 1), by omega, ?_⟩
 have := hN (max N (M + 1)) (by omega)
 cases x with
 | d e => cases e <;> simp [X.fresh, D.fresh, this]
 | app => trivial
theorem hle_heap {H : AHeap} {x : X} {n : Nat} (h : x.fresh n H) : HLe H (x.heap H n) := by
 intro b y hb
 cases x with
 | d e =>
  cases e with
  | det => exact hb
  | nt => exact hb
  | nblk T cs =>
   simp only [X.fresh, D.fresh] at h
   simp only [X.heap, D.heap, AHeap.setB]
   rw [if_neg (fun e => by subst e; rw [h] at hb; cases hb)]
   exact hb
 | app => exact hb
theorem blk_heap {H : AHeap} {x : X} {n b : Nat} (h : b < n) : (x.heap H n).blk b = H.blk b := by
 cases x with
 | d e =>
  cases e with
  | det => rfl
  | nt => rfl
  | nblk T cs =>
   simp only [X.heap, D.heap, AHeap.setB]
   rw [if_neg (by omega)]
 | app => rfl
theorem fresh_down {H : AHeap} {x y : X} {n k : Nat} (hk : y.fresh k H) (h : x.fresh n (y.heap H k)) : x.fresh n H := by
 cases x with
 | d e =>
  cases e with
  | det => trivial
  | nblk T cs =>
   simp only [X.fresh, D.fresh] at h ⊢
   cases y with
   | d f =>
    cases f with
    | det => exact h
    | nt => exact h
    | nblk =>
     simp only [X.heap, D.heap, AHeap.setB] at h
     split at h
     ·cases h
     ·exact h
   | app => exact h
  | nt o v =>
   simp only [X.fresh, D.fresh] at h ⊢
   cases y with
   | d f =>
    cases f with
    | det => exact h
    | nblk => exact h
    | nt =>
     simp only [X.heap, D.heap, AHeap.setT] at h
     split at h
     ·cases h
     ·exact h
   | app =>
    simp only [X.heap, AHeap.setT] at h
    split at h
    ·cases h
    ·exact h
 | app => trivial
theorem fresh_swap {H : AHeap} {x y : X} {n k : Nat} (hx : x.ok H) (hk : y.fresh k H) (h : x.fresh n (y.heap H k)) : y.fresh k (x.heap H n) := by
 cases y with
 | d f =>
  cases f with
  | det => trivial
  | nblk T cs =>
   simp only [X.fresh, D.fresh] at hk ⊢
   cases x with
   | d e =>
    cases e with
    | det => exact hk
    | nt => exact hk
    | nblk =>
     simp only [X.fresh, D.fresh, X.heap, D.heap, AHeap.setB] at h ⊢
     by_cases e : k = n
     ·subst e; simp at h
     ·rw [if_neg e]; exact hk
   | app => exact hk
  | nt o v =>
   simp only [X.fresh, D.fresh] at hk ⊢
   cases x with
   | d e =>
    cases e with
    | det => exact hk
    | nblk => exact hk
    | nt =>
     simp only [X.fresh, D.fresh, X.heap, D.heap, AHeap.setT] at h ⊢
     by_cases e : k = n
     ·subst e; simp at h
     ·rw [if_neg e]; exact hk
   | app t T' s' rows new =>
    simp only [X.heap, AHeap.setT]
    simp only [X.ok] at hx
    rw [if_neg (fun e => by subst e; rw [hk] at hx; cases hx)]
    exact hk
 | app => trivial
theorem setB_comm {H : AHeap} {a b : Nat} {T U : TypeId} {c d : List AV} (h : a ≠ b) : (H.setB a T c).setB b U d = (H.setB b U d).setB a T c := by
 simp only [AHeap.setB, AHeap.mk.injEq, and_true]
 funext x
 by_cases e : x = b
 ·subst e; simp [Ne.symm h]
 ·simp [e]
theorem setT_comm {H : AHeap} {a b : Nat} {c d : Own} (h : a ≠ b) : (H.setT a c).setT b d = (H.setT b d).setT a c := by
 simp only [AHeap.setT, AHeap.mk.injEq, true_and]
 funext x
 by_cases e : x = b
 ·subst e; simp [Ne.symm h]
 ·simp [e]
theorem heap_swap {H : AHeap} {x y : X} {n k : Nat} (hx : x.ok H) (hy : y.ok H) (hk : y.fresh k H) (h : x.fresh n (y.heap H k)) (hn : x.fresh n H) (h2 : ∀ t T s r w t' T' s' r' w', x = .app t T s r w → y = .app t' T' s' r' w' → False) : x.heap (y.heap H k) n = y.heap (x.heap H n) k := by
 cases x with
 | d e =>
  cases e with
  | det => rfl
  | nblk T cs =>
   cases y with
   | d f =>
    cases f with
    | det => rfl
    | nt => rfl
    | nblk =>
     simp only [X.fresh, D.fresh, X.heap, D.heap, AHeap.setB] at h
     have hne : k ≠ n := fun e => by subst e; simp at h
     exact setB_comm hne
   | app => rfl
  | nt o v =>
   cases y with
   | d f =>
    cases f with
    | det => rfl
    | nblk => rfl
    | nt =>
     simp only [X.fresh, D.fresh, X.heap, D.heap, AHeap.setT] at h
     have hne : k ≠ n := fun e => by subst e; simp at h
     exact setT_comm hne
   | app t T' s' rows new =>
    simp only [X.ok] at hy
    simp only [X.fresh, D.fresh] at hn
    have hne : t ≠ n := fun e => by subst e; rw [hn] at hy; cases hy
    exact setT_comm hne
 | app t T s rows new =>
  cases y with
  | d f =>
   cases f with
   | det => rfl
   | nblk => rfl
   | nt =>
    simp only [X.ok] at hx
    simp only [X.fresh, D.fresh] at hk
    have hne : k ≠ t := fun e => by subst e; rw [hk] at hx; cases hx
    exact setT_comm hne
  | app => exact (h2 _ _ _ _ _ _ _ _ _ _ rfl rfl).elim
theorem get_put_ne {env : Env} {d : Option Nat} {v : AV} {k : Nat} (h : ∀ x, d = some x → x ≠ k) : (env.put d v).get k = env.get k := by
 cases d with
 | none => rfl
 | some x =>
  have := h x rfl
  simp only [Env.put, Env.get]
  have hb : (x == k) = false := by simpa using this
  simp [hb]
theorem put_comm {env : Env} {d e : Option Nat} {v u : AV} (h : ∀ x, d = some x → e ≠ some x) : EnvEq ((env.put d v).put e u) ((env.put e u).put d v) := by
 intro k
 cases d with
 | none => rfl
 | some x =>
  cases e with
  | none => rfl
  | some y =>
   have hne : y ≠ x := fun e => h x rfl (by rw [e])
   simp only [Env.put, Env.get]
   by_cases e1 : x = k
   ·subst e1
    have hb : (y == x) = false := by simpa using hne
    simp [hb]
   ·have hb : (x == k) = false := by simpa using e1
    simp [hb]
theorem indep_parts {i j : EI} (h : indep i j = true) : (∀ x, i.dst = some x → x ∉ j.reads ∧ j.dst ≠ some x) ∧ (∀ x, j.dst = some x → x ∉ i.reads) ∧ ((i.op.quiet = true ∧ j.op.quiet = true) ∨ (i.op.tokq = true ∧ j.op.blkOnly = true) ∨ i.op.rank = 0 ∨ (i.op.live = true ∧ j.op.rank = 0) ∨ stD i j = true ∨ (i.op.rank = 3 ∧ j.total = true) ∨ (i.op.rank ≤ 2 ∧ j.op.rank ≤ 2 ∧ ¬ (i.op.rank = 2 ∧ j.op.rank = 2))) := by
 simp only [indep, Bool.and_eq_true, Bool.or_eq_true, Bool.not_eq_true', decide_eq_true_eq, beq_iff_eq, Bool.and_eq_false_iff, beq_eq_false_iff_ne] at h
 obtain ⟨⟨h1, h2⟩, h3⟩ := h
 refine ⟨fun x hx => ?_, fun x hx => ?_, ?_⟩
 ·rw [hx] at h1
  simp at h1
  exact ⟨h1.1, h1.2⟩
 ·rw [hx] at h2
  simpa using h2
 ·rcases h3 with (((((h3 | h3) | h3) | h3) | h3) | h3) | h3
  ·exact .inr (.inr (.inl h3))
  ·exact .inl h3
  ·exact .inr (.inl h3)
  ·exact .inr (.inr (.inr (.inl h3)))
  ·exact .inr (.inr (.inr (.inr (.inl h3))))
  ·exact .inr (.inr (.inr (.inr (.inr (.inl h3)))))
  ·refine .inr (.inr (.inr (.inr (.inr (.inr ⟨h3.1.1, h3.1.2, fun e => ?_⟩)))))
   rcases h3.2 with e' | e'
   ·exact e' e.1
   ·exact e' e.2
theorem agree_put {i : EI} {env : Env} {d : Option Nat} {v : AV} (h : ∀ x, d = some x → x ∉ i.reads) : Agree i env (env.put d v) :=
 agree_of_reads fun k hk => (get_put_ne fun x hx e => h x hx (e ▸ hk)).symm
theorem Agree.symm {i : EI} {e e' : Env} (h : Agree i e e') : Agree i e' e := ⟨fun x hx => (h.1 x hx).symm, fun j w hg => (h.2 j w hg).symm⟩
theorem descX_app {P : Program} {i : EI} {env : Env} {H : AHeap} {t T s : Nat} {r w : List (List AV)} (h : DescX P i env H (.app t T s r w)) : i.op.rank = 2 := by
 cases h with
 | app h1 ho => simp [ho, EOp.rank]
theorem descX_ref {P : Program} {i : EI} {env : Env} {H : AHeap} {t T s : Nat} {r w : List (List AV)} (h : DescX P i env H (.app t T s r w)) : refOf i.op env = t := by
 cases h with
 | app h1 ho hx => simp [ho, refOf, hx]
theorem rank0_det {P : Program} {i : EI} {env : Env} {H : AHeap} {x : X} (hr : i.op.rank = 0) (h : DescX P i env H x) : ∃ v, x = .d (.det v) ∧ ∀ H', DescX P i env H' x := by
 cases h with
 | skip hw => exact ⟨_, rfl, fun H' => .skip hw⟩
 | app hw ho => simp [ho, EOp.rank] at hr
 | d hw hd =>
  rename_i d
  have hdet : ∃ v, d = .det v := by
   generalize i.op = op at hd hr
   cases hd <;> first
    | exact ⟨_, rfl⟩
    | (simp [EOp.rank] at hr; done)
  obtain ⟨v, rfl⟩ := hdet
  refine ⟨v, rfl, fun H' => .d hw ?_⟩
  have hle : ∀ H1 H2 : AHeap, Desc P i.op env H1 (.det v) → Desc P i.op env H2 (.det v) := by
   intro H1 H2 hd
   generalize i.op = op at hd hr
   cases hd with
   | pure hp =>
    refine .pure ?_
    cases op <;> first
     | exact hp
     | (simp [EOp.rank] at hr; done)
   | quo a b c => exact .quo a b c
   | rem a b c => exact .rem a b c
   | cat a b c => exact .cat a b c
   | idxV a b c d => exact .idxV a b c d
   | idxO a b c d => exact .idxO a b c d
   | idxM a b c d => exact .idxM a b c d
   | idxP a b c d => exact .idxP a b c d
   | idxR a b c d => exact .idxR a b c d
   | idxA a b c d e f => exact .idxA a b c d e f
   | idxS a b c d => exact .idxS a b c d
   | slS a b c d e => exact .slS a b c d e
   | slV a b c d e => exact .slV a b c d e
   | bsliceV a b c => exact .bsliceV a b c
   | pcall a b => exact .pcall a b
   | pcallv a b c d => exact .pcallv a b c d
   | lenM => simp [EOp.rank] at hr
   | isnilT => simp [EOp.rank] at hr
   | isnilF => simp [EOp.rank] at hr
   | faddrM => simp [EOp.rank] at hr
   | iaddrM => simp [EOp.rank] at hr
   | loadM => simp [EOp.rank] at hr
   | pcall' a b => exact .pcall' a b
   | pcallv' a b c d => exact .pcallv' a b c d
  exact hle H H' hd
theorem total_step {P : Program} {j : EI} (h : j.total = true) (env : Env) (H : AHeap) : ∃ v, DescX P j env H (.d (.det v)) ∧ ∀ env', Agree j env env' → ∀ H', DescX P j env' H' (.d (.det v)) := by
 simp only [EI.total, Bool.and_eq_true, Option.isNone_iff_eq_none] at h
 obtain ⟨h1, h2⟩ := h
 have hw : ∀ env, wanted j env = some true := fun env => by simp [wanted, h1]
 have hv : ∃ v, ∀ H, peval j.op env H = some v := by
  split at h2 <;> first
   | (rename_i e; rw [e]; exact ⟨_, fun _ => rfl⟩)
   | cases h2
 obtain ⟨v, hv⟩ := hv
 exact ⟨v, .d (hw env) (.pure (hv H)), fun env' ha H' => .d (hw env') (.pure ((peval_congr H' ha.1).symm.trans (hv H')))⟩
theorem fin_heap {H : AHeap} {x : X} {n : Nat} (h : HFin H) : HFin (x.heap H n) := by
 obtain ⟨N, hN⟩ := h
 cases x with
 | d e =>
  cases e with
  | det => exact ⟨N, hN⟩
  | nblk T cs =>
   refine ⟨max N (n + 1), fun k hk => ?_⟩
   have := hN k (by omega)
   simp only [X.heap, D.heap, AHeap.setB]
   rw [if_neg (by omega)]
   exact this
  | nt o v =>
   refine ⟨max N (n + 1), fun k hk => ?_⟩
   have := hN k (by omega)
   simp only [X.heap, D.heap, AHeap.setT]
   rw [if_neg (by omega)]
   exact this
 | app t T s r w =>
  refine ⟨max N (t + 1), fun k hk => ?_⟩
  have := hN k (by omega)
  simp only [X.heap, AHeap.setT]
  rw [if_neg (by omega)]
  exact this
theorem live_out {P : Program} {i : EI} {env : Env} {H : AHeap} {K Rp : AV → AHeap → Prop} (hl : i.op.live = true) (hF : HFin H) (h : GStep P i env H K Rp) : ∃ O : AV → AHeap → Prop, (∃ v H', O v H' ∧ HFin H') ∧ (∀ v H', O v H' → K v H') ∧ ∀ env', Agree i env env' → ∀ K' : AV → AHeap → Prop, (∀ v H', O v H' → K' v H') → GStep P i env' H K' Rp := by
 unfold GStep at h
 split at h
 ·rename_i hw
  have key : ∀ {op : EOp}, op.live = true → IStep P op env H K Rp → ∃ O : AV → AHeap → Prop, (∃ v H', O v H' ∧ HFin H') ∧ (∀ v H', O v H' → K v H') ∧ ∀ K' : AV → AHeap → Prop, (∀ v H', O v H' → K' v H') → IStep P op env H K' Rp := by
   intro op hl h
   cases h with
   | sw d hd hh =>
    obtain ⟨n, _, hn⟩ := fin_fresh hF 0 (.d d)
    exact ⟨fun v H' => ∃ x, d.fresh x H ∧ v = d.val x ∧ H' = d.heap H x, ⟨_, _, ⟨n, hn, rfl, rfl⟩, fin_heap (x := .d d) hF⟩, fun v H' ⟨x, h1, h2, h3⟩ => by subst h2; subst h3; exact hh x h1, fun K' hk => .sw d hd fun x hx => hk _ _ ⟨x, hx, rfl, rfl⟩⟩
   | store ha hb hn hl' ho hh =>
    rename_i n a v b o T cs
    exact ⟨fun v' H' => v' = .undef ∧ H' = H.setB b T (setRange cs o (v.ev env).cells), ⟨_, _, ⟨rfl, rfl⟩, fin_heap (x := .d (.nblk T _)) (n := b) hF⟩, fun v' H' ⟨h1, h2⟩ => by subst h1; subst h2; exact hh, fun K' hk => .store ha hb hn hl' ho (hk _ _ ⟨rfl, rfl⟩)⟩
   | appendM hx ht hy hb hm hh =>
    rename_i T size bytes x y t ver rows new
    exact ⟨fun v' H' => v' = .ms t (ver + 1) ∧ H' = H.setT t (.mu T size (ver + 1) (rows ++ new)), ⟨_, _, ⟨rfl, rfl⟩, fin_heap (x := .d (.nt _ fun _ => .top)) (n := t) hF⟩, fun v' H' ⟨h1, h2⟩ => by subst h1; subst h2; exact hh, fun K' hk => .appendM hx ht hy hb hm (hk _ _ ⟨rfl, rfl⟩)⟩
   | slM hx ht hl' hh' h1 hh =>
    rename_i size x lo hi t ver T rows h
    exact ⟨fun v' H' => v' = .ms t (ver + 1) ∧ H' = H.setT t (.mu T size (ver + 1) (rows.take h)), ⟨_, _, ⟨rfl, rfl⟩, fin_heap (x := .d (.nt _ fun _ => .top)) (n := t) hF⟩, fun v' H' ⟨h1, h2⟩ => by subst h1; subst h2; exact hh, fun K' hk => .slM hx ht hl' hh' h1 (hk _ _ ⟨rfl, rfl⟩)⟩
   | storeD hme hoth ha hb hn hl' ho hh =>
    rename_i me others n a v b o T cs
    exact ⟨fun v' H' => v' = .undef ∧ H' = H.setB b T (setRange cs o (v.ev env).cells), ⟨_, _, ⟨rfl, rfl⟩, fin_heap (x := .d (.nblk T _)) (n := b) hF⟩, fun v' H' ⟨h1, h2⟩ => by subst h1; subst h2; exact hh, fun K' hk => .storeD hme hoth ha hb hn hl' ho (hk _ _ ⟨rfl, rfl⟩)⟩
   | storeM ha ht hn hl' ho hf hr hlen hh =>
    rename_i n a v t ver k T size rows rows'
    exact ⟨fun v' H' => v' = .undef ∧ H' = H.setT t (.mu T size ver rows'), ⟨_, _, ⟨rfl, rfl⟩, fin_heap (x := .d (.nt _ fun _ => .top)) (n := t) hF⟩, fun v' H' ⟨h1, h2⟩ => by subst h1; subst h2; exact hh, fun K' hk => .storeM ha ht hn hl' ho hf hr hlen (hk _ _ ⟨rfl, rfl⟩)⟩
   | isnilU => simp [EOp.live] at hl
   | append => simp [EOp.live] at hl
   | call => simp [EOp.live] at hl
   | callv => simp [EOp.live] at hl
   | panic => simp [EOp.live] at hl
  obtain ⟨O, h1, h2, h3⟩ := key hl h
  refine ⟨O, h1, h2, fun env' ha K' hk => ?_⟩
  unfold GStep
  rw [← wanted_congr ha, hw]
  exact istep_congr ha.1 (fun _ _ h => h) (fun _ _ h => h) (h3 K' hk)
 ·rename_i hw
  refine ⟨fun v H' => v = .undef ∧ H' = H, ⟨_, _, ⟨rfl, rfl⟩, hF⟩, fun v H' ⟨h1, h2⟩ => by subst h1; subst h2; exact h, fun env' ha K' hk => ?_⟩
  unfold GStep
  rw [← wanted_congr ha, hw]
  exact hk _ _ ⟨rfl, rfl⟩
 ·exact h.elim
theorem stInfo_of {i : EI} {me : Nat} {o : List Nat} (h : i.stInfo = some (true, me, o)) : i.guard = none ∧ ∃ n a v, i.op = .storeD me o n a v := by
 unfold EI.stInfo at h
 split at h
 ·rename_i hg ho
  simp at h
  obtain ⟨rfl, rfl⟩ := h
  exact ⟨hg, _, _, _, ho⟩
 ·simp at h
 ·cases h
theorem ldInfo_of {i : EI} {me : Nat} {o : List Nat} (h : i.stInfo = some (false, me, o)) : i.guard = none ∧ ∃ g n a, i.op = .loadD me g n a := by
 unfold EI.stInfo at h
 split at h
 ·simp at h
 ·rename_i hg ho
  simp at h
  obtain ⟨rfl, rfl⟩ := h
  exact ⟨hg, _, _, _, ho⟩
 ·cases h
theorem stD_swap {P : Program} {i j : EI} {env : Env} {H : AHeap} {C : Env → AHeap → Prop} {Rp : AV → AHeap → Prop} (hC : ∀ e e' H, EnvEq e e' → C e H → C e' H) (hF : HFin H) (p1 : ∀ x, i.dst = some x → x ∉ j.reads ∧ j.dst ≠ some x) (p2 : ∀ x, j.dst = some x → x ∉ i.reads) (hs : stD i j = true)
  (h : GStep P i env H (fun v H1 => HFin H1 → GStep P j (env.put i.dst v) H1 (fun u H2 => HFin H2 → C ((env.put i.dst v).put j.dst u) H2) Rp) Rp) :
  GStep P j env H (fun u H1 => HFin H1 → GStep P i (env.put j.dst u) H1 (fun v H2 => HFin H2 → C ((env.put j.dst u).put i.dst v) H2) Rp) Rp := by
 have aj : ∀ v, Agree j env (env.put i.dst v) := fun v => agree_put fun x hx => (p1 x hx).1
 have ai : ∀ v, Agree i env (env.put j.dst v) := fun v => agree_put p2
 have pc : ∀ v u, EnvEq ((env.put i.dst v).put j.dst u) ((env.put j.dst u).put i.dst v) := fun v u => put_comm fun x hx => (p1 x hx).2
 unfold stD at hs
 split at hs
 ·rename_i m1 o1 m2 o2 e1 e2
  obtain ⟨g1, n1, a1, v1, q1⟩ := stInfo_of e1
  obtain ⟨g2, n2, a2, v2, q2⟩ := stInfo_of e2
  have wi : ∀ env, wanted i env = some true := fun env => by simp [wanted, g1]
  have wj : ∀ env, wanted j env = some true := fun env => by simp [wanted, g2]
  simp only [GStep, wi, q1] at h
  cases h with
  | sw d hd _ => cases hd with
   | pure hp => simp [peval] at hp
  | storeD hme hoth ha hb hn hl ho hh =>
   rename_i b o T cs
   obtain ⟨b', hb1, hb2⟩ := hoth m2 (by simpa using hs)
   have hF1 : HFin (H.setB b T (setRange cs o (v1.ev env).cells)) := fin_heap (x := .d (.nblk T _)) (n := b) hF
   have h2 := hh hF1
   simp only [GStep, wj, q2] at h2
   have hag : ∀ x ∈ (EOp.storeD m2 o2 n2 a2 v2).opds, x.ev env = x.ev (env.put i.dst .undef) := fun x hx => (aj .undef).1 x (by rw [q2]; exact hx)
   cases h2 with
   | sw d hd _ => cases hd with
    | pure hp => simp [peval] at hp
   | storeD hme2 hoth2 ha2 hbb2 hn2 hl2 ho2 hh2 =>
    rename_i c oc Tc csc
    have ec := (hag (.t m2) (by simp [EOp.opds])).trans hme2
    simp only [EOpd.ev] at ec
    rw [hb1] at ec
    have hcb : b' = c := by simpa using ec
    subst hcb
    have hvx := hag v2 (by simp [EOp.opds])
    have hblk : H.blk b' = some (Tc, csc) := by
     simp only [AHeap.setB] at hbb2
     rwa [if_neg hb2] at hbb2
    simp only [GStep, wj, q2]
    refine .storeD hb1 (fun s hs' => ?_) ((hag a2 (by simp [EOp.opds])).trans ha2) hblk (by rw [hvx]; exact hn2) hl2 (by rw [hvx]; exact ho2) fun hf => ?_
    ·obtain ⟨y, y1, y2⟩ := hoth2 s hs'
     exact ⟨y, (hag (.t s) (by simp [EOp.opds]; exact .inr (.inr (.inr hs')))).trans y1, y2⟩
    ·have hai : ∀ x ∈ (EOp.storeD m1 o1 n1 a1 v1).opds, x.ev env = x.ev (env.put j.dst .undef) := fun x hx => (ai .undef).1 x (by rw [q1]; exact hx)
     have hvy := hai v1 (by simp [EOp.opds])
     simp only [GStep, wi, q1]
     refine .storeD ((hai (.t m1) (by simp [EOp.opds])).symm.trans hme) (fun s hs' => ?_) ((hai a1 (by simp [EOp.opds])).symm.trans ha) (T := T) (cs := cs) ?_ (by rw [← hvy]; exact hn) hl (by rw [← hvy]; exact ho) fun hf' => ?_
     ·obtain ⟨y, y1, y2⟩ := hoth s hs'
      exact ⟨y, (hai (.t s) (by simp [EOp.opds]; exact .inr (.inr (.inr hs')))).symm.trans y1, y2⟩
     ·simp only [AHeap.setB]
      rw [if_neg (Ne.symm hb2)]
      exact hb
     ·refine hC _ _ _ (pc .undef .undef) ?_
      rw [← hvy, hvx, setB_comm hb2]
      rw [hvx, ← hvy, setB_comm hb2] at hf'
      exact hh2 (by rw [← hvx]; rw [← hvx] at hf'; rw [setB_comm (Ne.symm hb2)] at hf'; rw [setB_comm (Ne.symm hb2)]; exact hf')
 ·rename_i m1 o1 m2 o2 e1 e2
  obtain ⟨g1, ag, n1, a1, q1⟩ := ldInfo_of e1
  obtain ⟨g2, n2, a2, v2, q2⟩ := stInfo_of e2
  have wi : ∀ env, wanted i env = some true := fun env => by simp [wanted, g1]
  have wj : ∀ env, wanted j env = some true := fun env => by simp [wanted, g2]
  simp only [GStep, wi, q1] at h
  cases h with
  | sw d hd hh => cases hd with
   | pure hp =>
    rename_i r
    have h2 := hh 0 trivial hF
    simp only [D.val, D.heap, GStep, wj, q2] at h2
    obtain ⟨hp1, b, o, hm, hx⟩ := peval_loadD hp
    have hag : ∀ x ∈ (EOp.storeD m2 o2 n2 a2 v2).opds, x.ev env = x.ev (env.put i.dst r) := fun x hx => (aj r).1 x (by rw [q2]; exact hx)
    cases h2 with
    | sw d hd _ => cases hd with
     | pure hp => simp [peval] at hp
    | storeD hme hoth ha hb hn hl ho hh2 =>
     rename_i c oc Tc csc
     have hvx := hag v2 (by simp [EOp.opds])
     simp only [GStep, wj, q2]
     have hbc : c ≠ b := by
      obtain ⟨y, y1, y2⟩ := hoth m1 (by simpa using hs)
      have e := (hag (.t m1) (by simp [EOp.opds]; exact .inr (.inr (.inr (by simpa using hs))))).trans y1
      simp only [EOpd.ev] at e
      rw [hm] at e
      have : b = y := by simpa using e
      subst this
      exact Ne.symm y2
     refine .storeD ((hag (.t m2) (by simp [EOp.opds])).trans hme) (fun s hs' => ?_) ((hag a2 (by simp [EOp.opds])).trans ha) hb (by rw [hvx]; exact hn) hl (by rw [hvx]; exact ho) fun hf => ?_
     ·obtain ⟨y, y1, y2⟩ := hoth s hs'
      exact ⟨y, (hag (.t s) (by simp [EOp.opds]; exact .inr (.inr (.inr hs')))).trans y1, y2⟩
     ·have hai : ∀ x ∈ (EOp.loadD m1 ag n1 a1).opds, x.ev env = x.ev (env.put j.dst .undef) := fun x hx => (ai .undef).1 x (by rw [q1]; exact hx)
      simp only [GStep, wi, q1]
      refine .sw (.det r) (.pure ?_) fun n _ hf' => ?_
      ·have e1 := hai (.t m1) (by simp [EOp.opds])
       have e2 := hai a1 (by simp [EOp.opds])
       refine peval_loadD' ?_ (e1.symm.trans hm) (e2.symm.trans hx)
       simp only [peval, hx] at hp1
       simp only [peval, e2.symm.trans hx, AHeap.setB]
       rw [if_neg (Ne.symm hbc)]
       exact hp1
      ·refine hC _ _ _ (pc r .undef) ?_
       rw [hvx]
       exact hh2 (by rw [← hvx]; exact hf)
 ·cases hs
theorem quiet_out {P : Program} {op : EOp} {env : Env} {H : AHeap} {K Rp : AV → AHeap → Prop} (hq : op.quiet = true) (h : IStep P op env H K Rp) : ∃ v, Desc P op env H (.det v) ∧ K v H := by
 cases h with
 | sw d hd hh =>
  cases hd with
  | pure h => exact ⟨_, .pure h, hh 0 trivial⟩
  | lenM a b => exact ⟨_, .lenM a b, hh 0 trivial⟩
  | faddrM a b => exact ⟨_, .faddrM a b, hh 0 trivial⟩
  | iaddrM a b c d e => exact ⟨_, .iaddrM a b c d e, hh 0 trivial⟩
  | loadM a b c d => exact ⟨_, .loadM a b c d, hh 0 trivial⟩
  | quo a b c => exact ⟨_, .quo a b c, hh 0 trivial⟩
  | rem a b c => exact ⟨_, .rem a b c, hh 0 trivial⟩
  | cat a b c => exact ⟨_, .cat a b c, hh 0 trivial⟩
  | idxV a b c d => exact ⟨_, .idxV a b c d, hh 0 trivial⟩
  | idxO a b c d => exact ⟨_, .idxO a b c d, hh 0 trivial⟩
  | idxM a b c d => exact ⟨_, .idxM a b c d, hh 0 trivial⟩
  | idxP a b c d => exact ⟨_, .idxP a b c d, hh 0 trivial⟩
  | idxR a b c d => exact ⟨_, .idxR a b c d, hh 0 trivial⟩
  | idxA a b c d e f => exact ⟨_, .idxA a b c d e f, hh 0 trivial⟩
  | idxS a b c d => exact ⟨_, .idxS a b c d, hh 0 trivial⟩
  | slS a b c d e => exact ⟨_, .slS a b c d e, hh 0 trivial⟩
  | slV a b c d e => exact ⟨_, .slV a b c d e, hh 0 trivial⟩
  | _ => simp [EOp.quiet, EOp.rank] at hq
 | _ => simp [EOp.quiet, EOp.rank] at hq
theorem gquiet {P : Program} {i : EI} {env : Env} {H : AHeap} {K Rp : AV → AHeap → Prop} (hq : i.op.quiet = true) (h : GStep P i env H K Rp) : ∃ v, K v H ∧ ∀ env', Agree i env env' → ∀ K' : AV → AHeap → Prop, K' v H → GStep P i env' H K' Rp := by
 unfold GStep at h
 split at h
 ·rename_i hw
  obtain ⟨v, h1, h2⟩ := quiet_out hq h
  refine ⟨v, h2, fun env' ha K' hk => ?_⟩
  unfold GStep
  rw [← wanted_congr ha, hw]
  exact istep_congr ha.1 (fun _ _ h => h) (fun _ _ h => h) (.sw (.det v) h1 fun _ _ => hk)
 ·rename_i hw
  refine ⟨_, h, fun env' ha K' hk => ?_⟩
  unfold GStep
  rw [← wanted_congr ha, hw]
  exact hk
 ·exact h.elim
theorem desc_tok {P : Program} {op : EOp} {env : Env} {H H' : AHeap} {d : D} (hq : op.tokq = true) (h : Desc P op env H d) (ht : H'.tok = H.tok) : Desc P op env H' d := by
 cases h with
 | lenM a b => exact .lenM a (by rw [ht]; exact b)
 | faddrM a b => exact .faddrM a (by rw [ht]; exact b)
 | iaddrM a b c d e => exact .iaddrM a (by rw [ht]; exact b) c d e
 | loadM a b c d => exact .loadM a (by rw [ht]; exact b) c d
 | pure h =>
  cases op with
  | lenM => simp [peval] at h
  | iaddrM => simp [peval] at h
  | loadM => simp [peval] at h
  | faddrM => simp [peval] at h
  | _ => simp [EOp.tokq] at hq
 | _ => simp [EOp.tokq] at hq
theorem gtokq {P : Program} {i : EI} {env : Env} {H : AHeap} {K Rp : AV → AHeap → Prop} (hq : i.op.tokq = true) (h : GStep P i env H K Rp) : ∃ v, K v H ∧ ∀ env' H', Agree i env env' → H'.tok = H.tok → ∀ K' : AV → AHeap → Prop, K' v H' → GStep P i env' H' K' Rp := by
 have hq2 : i.op.quiet = true := by
  cases ho : i.op <;> rw [ho] at hq <;> simp [EOp.tokq] at hq <;> simp [EOp.quiet]
 unfold GStep at h
 split at h
 ·rename_i hw
  obtain ⟨v, h1, h2⟩ := quiet_out hq2 h
  refine ⟨v, h2, fun env' H' ha ht K' hk => ?_⟩
  unfold GStep
  rw [← wanted_congr ha, hw]
  exact istep_congr ha.1 (fun _ _ h => h) (fun _ _ h => h) (.sw (.det v) (desc_tok hq h1 ht) fun _ _ => hk)
 ·rename_i hw
  refine ⟨_, h, fun env' H' ha ht K' hk => ?_⟩
  unfold GStep
  rw [← wanted_congr ha, hw]
  exact hk
 ·exact h.elim
theorem blk_out {P : Program} {i : EI} {env : Env} {H : AHeap} {K Rp : AV → AHeap → Prop} (hl : i.op.blkOnly = true) (h : GStep P i env H K Rp) : ∃ O : AV → AHeap → Prop, (∀ v H', O v H' → K v H' ∧ H'.tok = H.tok) ∧ ∀ env', Agree i env env' → ∀ K' : AV → AHeap → Prop, (∀ v H', O v H' → K' v H') → GStep P i env' H K' Rp := by
 unfold GStep at h
 split at h
 ·rename_i hw
  have key : ∀ {op : EOp}, op.blkOnly = true → IStep P op env H K Rp → ∃ O : AV → AHeap → Prop, (∀ v H', O v H' → K v H' ∧ H'.tok = H.tok) ∧ ∀ K' : AV → AHeap → Prop, (∀ v H', O v H' → K' v H') → IStep P op env H K' Rp := by
   intro op hl h
   cases h with
   | sw d hd hh =>
    refine ⟨fun v H' => ∃ x, d.fresh x H ∧ v = d.val x ∧ H' = d.heap H x, fun v H' ⟨x, h1, h2, h3⟩ => ?_, fun K' hk => .sw d hd fun x hx => hk _ _ ⟨x, hx, rfl, rfl⟩⟩
    subst h2
    subst h3
    refine ⟨hh x h1, ?_⟩
    cases hd with
    | alloc => rfl
    | pure h => rfl
    | _ => simp [EOp.blkOnly] at hl
   | storeD hme hoth ha hb hn hl' ho hh =>
    rename_i me others n a v b o T cs
    exact ⟨fun v' H' => v' = .undef ∧ H' = H.setB b T (setRange cs o (v.ev env).cells), fun v' H' ⟨h1, h2⟩ => by subst h1; subst h2; exact ⟨hh, rfl⟩, fun K' hk => .storeD hme hoth ha hb hn hl' ho (hk _ _ ⟨rfl, rfl⟩)⟩
   | _ => simp [EOp.blkOnly] at hl
  obtain ⟨O, h1, h2⟩ := key hl h
  refine ⟨O, h1, fun env' ha K' hk => ?_⟩
  unfold GStep
  rw [← wanted_congr ha, hw]
  exact istep_congr ha.1 (fun _ _ h => h) (fun _ _ h => h) (h2 K' hk)
 ·rename_i hw
  refine ⟨fun v H' => v = .undef ∧ H' = H, fun v H' ⟨h1, h2⟩ => by subst h1; subst h2; exact ⟨h, rfl⟩, fun env' ha K' hk => ?_⟩
  unfold GStep
  rw [← wanted_congr ha, hw]
  exact hk _ _ ⟨rfl, rfl⟩
 ·exact h.elim
theorem gswap {P : Program} {i j : EI} {env : Env} {H : AHeap} {C : Env → AHeap → Prop} {Rp : AV → AHeap → Prop} (hC : ∀ e e' H, EnvEq e e' → C e H → C e' H) (hF : HFin H) (hi : indep i j = true)
  (h : GStep P i env H (fun v H1 => HFin H1 → GStep P j (env.put i.dst v) H1 (fun u H2 => HFin H2 → C ((env.put i.dst v).put j.dst u) H2) Rp) Rp) :
  GStep P j env H (fun u H1 => HFin H1 → GStep P i (env.put j.dst u) H1 (fun v H2 => HFin H2 → C ((env.put j.dst u).put i.dst v) H2) Rp) Rp := by
 obtain ⟨p1, p2, p3⟩ := indep_parts hi
 have aj : ∀ v, Agree j env (env.put i.dst v) := fun v => agree_put fun x hx => (p1 x hx).1
 have ai : ∀ v, Agree i env (env.put j.dst v) := fun v => agree_put p2
 have pc : ∀ v u, EnvEq ((env.put i.dst v).put j.dst u) ((env.put j.dst u).put i.dst v) := fun v u => put_comm fun x hx => (p1 x hx).2
 rcases p3 with ⟨q1, q2⟩ | p3
 ·obtain ⟨v, k1, k2⟩ := gquiet q1 h
  obtain ⟨u, k3, k4⟩ := gquiet q2 (k1 hF)
  exact k4 _ (aj v).symm _ fun _ => k2 _ (ai u) _ fun _ => hC _ _ _ (pc v u) (k3 hF)
 rcases p3 with ⟨q1, q2⟩ | p3
 ·obtain ⟨v, k1, k2⟩ := gtokq q1 h
  obtain ⟨O, k3, k4⟩ := blk_out q2 (k1 hF)
  exact k4 _ (aj v).symm _ fun u H' ho _ => k2 _ H' (ai u) (k3 u H' ho).2 _ fun hf => hC _ _ _ (pc v u) ((k3 u H' ho).1 hf)
 rcases p3 with p3 | ⟨p3, p4⟩ | p3 | p3 | ⟨p3, p4, p5⟩
 rotate_left
 rotate_left
 ·exact stD_swap hC hF p1 p2 p3 h
 rotate_right
 ·obtain ⟨O, ⟨v0, H0, o1, o2⟩, o3, o4⟩ := live_out p3 hF h
  obtain ⟨x, d1, d2, d3⟩ := (gstep_iff (by omega)).1 (o3 _ _ o1 o2)
  obtain ⟨u, rfl, dd⟩ := rank0_det p4 d1
  refine (gstep_iff (by omega)).2 ⟨_, descX_congr (aj v0).symm (dd H), trivial, fun n _ hf => ?_⟩
  refine o4 _ (ai _) _ fun v H' ho hf' => ?_
  obtain ⟨y, e1, e2, e3⟩ := (gstep_iff (by omega)).1 (o3 _ _ ho hf')
  have := descX_unique (by omega) (descX_congr (aj v).symm e1) (descX_congr (aj v0).symm (dd H'))
  subst this
  exact hC _ _ _ (pc v u) (e3 0 trivial hf')
 rotate_right
 ·obtain ⟨x, d1, d2, d3⟩ := (gstep_iff (by omega)).1 h
  obtain ⟨v, rfl, dd⟩ := rank0_det p3 d1
  have h1 := d3 0 trivial hF
  refine gstep_congr (aj v).symm (fun u H' hh hf => ?_) (fun _ _ h => h) h1
  refine (gstep_iff (by omega)).2 ⟨_, descX_congr (ai u) (dd H'), trivial, fun n _ hf2 => ?_⟩
  exact hC _ _ _ (pc v u) (hh hf)
 ·obtain ⟨u, t1, t2⟩ := total_step p3.2 env H
  have hr : j.op.rank ≤ 2 := by
   have := p3.2
   simp only [EI.total, Bool.and_eq_true] at this
   have h2 := this.2
   split at h2 <;> first
    | (rename_i e; rw [e]; simp [EOp.rank])
    | cases h2
  refine (gstep_iff hr).2 ⟨_, t1, trivial, fun n _ hf0 => ?_⟩
  refine gstep_congr (ai u) (fun v H' hh hf => ?_) (fun _ _ h => h) h
  obtain ⟨y, e1, e2, e3⟩ := (gstep_iff hr).1 (hh hf)
  have := descX_unique hr e1 (t2 _ (aj v) H')
  subst this
  exact hC _ _ _ (pc v u) (e3 0 trivial hf)
 ·obtain ⟨x, d1, d2, d3⟩ := (gstep_iff p3).1 h
  obtain ⟨n0, hn0, hf0⟩ := fin_fresh hF (refOf j.op env) x
  have g0 := d3 n0 hf0 (fin_heap hF)
  obtain ⟨y, e1, e2, e3⟩ := (gstep_iff p4).1 g0
  have e1' := descX_congr (aj (x.val n0)).symm e1
  have e4 : DescX P j env H y := descX_down p4 (blk_heap hn0) e1'
  have notboth : ∀ t T s r w t' T' s' r' w', x = .app t T s r w → y = .app t' T' s' r' w' → False := by
   rintro t T s r w t' T' s' r' w' rfl rfl
   exact p5 ⟨descX_app d1, descX_app e4⟩
  have hy : y.ok H := by
   cases y with
   | d e => trivial
   | app t T s r w =>
    have hr := descX_ref e4
    simp only [X.ok] at e2 ⊢
    cases x with
    | d f =>
     cases f with
     | det => exact e2
     | nblk => exact e2
     | nt =>
      simp only [X.heap, D.heap, AHeap.setT] at e2
      rw [if_neg (by omega)] at e2
      exact e2
    | app => exact (notboth _ _ _ _ _ _ _ _ _ _ rfl rfl).elim
  refine (gstep_iff p4).2 ⟨y, e4, hy, fun k hk hfk => ?_⟩
  have d1' := descX_up p3 (hle_heap hk) (descX_congr (ai (y.val k)) d1)
  have hx' : x.ok (y.heap H k) := by
   cases x with
   | d e => trivial
   | app t T s r w =>
    simp only [X.ok] at d2 ⊢
    cases y with
    | d f =>
     cases f with
     | det => exact d2
     | nblk => exact d2
     | nt =>
      simp only [X.fresh, D.fresh] at hk
      simp only [X.heap, D.heap, AHeap.setT]
      rw [if_neg (fun e => by subst e; rw [hk] at d2; cases d2)]
      exact d2
    | app => exact (notboth _ _ _ _ _ _ _ _ _ _ rfl rfl).elim
  refine (gstep_iff p3).2 ⟨x, d1', hx', fun n hn hfn => ?_⟩
  have hn' := fresh_down hk hn
  have g1 := d3 n hn' (fin_heap hF)
  obtain ⟨y', f1, f2, f3⟩ := (gstep_iff p4).1 g1
  have f1' := descX_congr (aj (x.val n)).symm f1
  have := descX_unique p4 f1' (descX_up p4 (hle_heap hn') e4)
  subst this
  rw [heap_swap d2 hy hk hn hn' notboth] at hfn ⊢
  exact hC _ _ _ (pc _ _) (f3 k (fresh_swap d2 hk hn) hfn)
def DMf (P : Program) : List EI → Env → AHeap → (Env → AHeap → Prop) → (AV → AHeap → Prop) → Prop
 | [], env, H, K, _ => K env H
 | i :: l, env, H, K, Rp => GStep P i env H (fun v H' => HFin H' → DMf P l (env.put i.dst v) H' K Rp) Rp
theorem dmf_of_dm {P : Program} {K : Env → AHeap → Prop} {Rp : AV → AHeap → Prop} : ∀ (l : List EI) {env : Env} {H : AHeap}, DM P l env H K Rp → DMf P l env H K Rp
 | [], _, _, h => by simpa only [DMf, DM] using h
 | i :: l, env, H, h => by
  rw [DM_cons] at h
  exact gstep_congr (agree_of_eq fun _ => rfl) (fun v H' hh _ => dmf_of_dm l hh) (fun _ _ h => h) h
theorem dmf_congr {P : Program} {K : Env → AHeap → Prop} {Rp : AV → AHeap → Prop} (hK : ∀ e e' H, EnvEq e e' → K e H → K e' H) : ∀ (l : List EI) {e e' : Env} {H : AHeap}, EnvEq e e' → DMf P l e H K Rp → DMf P l e' H K Rp
 | [], e, e', H, h, hd => by simp only [DMf] at hd ⊢; exact hK e e' H h hd
 | i :: l, e, e', H, h, hd => by
  simp only [DMf] at hd ⊢
  exact gstep_congr (agree_of_eq h) (fun v H' hh hf => dmf_congr hK l (put_get_eq h i.dst v) (hh hf)) (fun _ _ h => h) hd
theorem dmf_mono {P : Program} {K K' : Env → AHeap → Prop} {Rp : AV → AHeap → Prop} (hK : ∀ e H, K e H → K' e H) : ∀ (l : List EI) {e : Env} {H : AHeap}, DMf P l e H K Rp → DMf P l e H K' Rp
 | [], e, H, hd => by simp only [DMf] at hd ⊢; exact hK e H hd
 | i :: l, e, H, hd => by
  simp only [DMf] at hd ⊢
  exact gstep_congr (agree_of_eq fun _ => rfl) (fun v H' hh hf => dmf_mono hK l (hh hf)) (fun _ _ h => h) hd
theorem dmf_front {P : Program} {K : Env → AHeap → Prop} {Rp : AV → AHeap → Prop} (hK : ∀ e e' H, EnvEq e e' → K e H → K e' H) {i : EI} {T2 : List EI} : ∀ (T1 : List EI) {env : Env} {H : AHeap}, HFin H → (∀ y ∈ T1, indep y i = true) → DMf P (T1 ++ i :: T2) env H K Rp → DMf P (i :: (T1 ++ T2)) env H K Rp
 | [], _, _, _, _, h => h
 | y :: T1, env, H, hF, hi, h => by
  simp only [List.cons_append, DMf] at h
  have h2 : GStep P y env H (fun v H1 => HFin H1 → GStep P i (env.put y.dst v) H1 (fun u H2 => HFin H2 → DMf P (T1 ++ T2) ((env.put y.dst v).put i.dst u) H2 K Rp) Rp) Rp :=
   gstep_congr (agree_of_eq fun _ => rfl) (fun v H1 hh hf => dmf_front hK T1 hf (fun z hz => hi z (by simp [hz])) (hh hf)) (fun _ _ h => h) h
  exact gswap (C := fun e H => DMf P (T1 ++ T2) e H K Rp) (fun e e' H he hd => dmf_congr hK _ he hd) hF (hi y (by simp)) h2
section
variable {P : Program} {n : Nat} {m0 : MD} {ops : Array Oper} {Q : Exit → Act → World → Prop}
theorem rh_fin {m : Mem} (rh : RH m) : HFin m.H := by
 refine ⟨max m.w.heap.size m.T, fun k hk => ⟨?_, ?_⟩⟩
 ·cases h : m.H.blk k with
  | none => rfl
  | some x => have := blk_lt rh (T := x.1) (cs := x.2) h; omega
 ·cases h : m.H.tok k with
  | none => rfl
  | some i => have := (rh.tok k i h).1; omega
def PanOk (n : Nat) (m0 : MD) (Rp : AV → AHeap → Prop) (Q : Exit → Act → World → Prop) : Prop :=
 ∀ (x : AV) (m' : Mem) (cv : Value) (a : Act), Rp x m'.H → RH m' → Ev m0.m m' → Rv m' x cv → (a.defers = m0.D ∧ ∀ E ∈ m0.kt, RvE m' E a.tmps) → a.tmps.size = n → Q (.panic [{ v := cv, recovered := false }]) a m'.w
theorem gstep_wp {o : Oper} {i : EI} {idx : Nat} {env : Env} {H : AHeap} {a : Act} {w : World} {K Rp : AV → AHeap → Prop} {Kc : Act → World → Prop} (ho : ops[idx]? = some o) (hc : chkI P n ops o i = true) (hfr : m0.free i) (hr : Rel n m0 env H a w) (hp : PanOk n m0 Rp Q) (hs : GStep P i env H K Rp)
  (h : ∀ v H' a' w', K v H' → HFin H' → Rel n m0 (env.put i.dst v) H' a' w' → Kc a' w') : wpOp P ops Q idx Kc a w := by
 obtain ⟨m, rfl, rfl, rh, e0, he, hdf, hsz⟩ := hr
 obtain ⟨c1, c2, c3, c4, c5⟩ := chkI_parts hc
 unfold wpOp
 simp only [ho]
 unfold GStep at hs
 split at hs
 ·rename_i hw
  have hwant := wanted_rv c3 he hw (fun j w hg => by rw [hsz]; exact c5 j w hg)
  rw [hwant]
  simp only [if_true]
  refine .inl (istep_wp hs c4 rh he (fun x m' v hk r1 r2 r3 => ?_) (fun x m' v hk r1 r2 r3 => hp x m' v a hk r1 (e0.trans r2) r3 ⟨hdf.1, fun E hE k => Rv.ev r2 _ _ (hdf.2 E hE k)⟩ hsz))
  rw [c1]
  exact h x m'.H _ _ hk (rh_fin r1) (rel_put he e0 r2 r1 r3 hdf hsz c2 hfr)
 ·rename_i hw
  have hwant := wanted_rv c3 he hw (fun j w hg => by rw [hsz]; exact c5 j w hg)
  rw [hwant]
  simp only [Bool.false_eq_true, if_false]
  rw [c1]
  exact h _ _ _ _ hs (rh_fin rh) (rel_put he e0 (Ev.refl m) rh (by simp only [Rv]) hdf hsz c2 hfr)
 ·exact hs.elim
def ei0 : EI := ⟨none, none, .lenA 0⟩
def nth (is : List EI) (k : Nat) : EI := is.getD k ei0
theorem chkIs_get : ∀ {os : List Oper} {is : List EI}, chkIs P n ops os is = true → os.length = is.length ∧ ∀ k o, os[k]? = some o → chkI P n ops o (nth is k) = true
 | [], [], _ => ⟨rfl, fun k o h => by simp at h⟩
 | [], _ :: _, h => by simp [chkIs] at h
 | _ :: _, [], h => by simp [chkIs] at h
 | o :: os, i :: is, h => by
  simp only [chkIs, Bool.and_eq_true] at h
  obtain ⟨e1, e2⟩ := chkIs_get h.2
  refine ⟨by simp [e1], fun k o' hk => ?_⟩
  cases k with
  | zero => simp at hk; subst hk; exact h.1
  | succ k => simp at hk; have := e2 k o' hk; simpa [nth] using this
theorem dmf_wp {is : List EI} {K : Env → AHeap → Prop} {Rp : AV → AHeap → Prop} (hc : ∀ k o, ops[k]? = some o → chkI P n ops o (nth is k) = true) (hfr : ∀ k, m0.free (nth is k)) (hp : PanOk n m0 Rp Q) (hk : ∀ env H a w, K env H → Rel n m0 env H a w → Q .normal a w) :
  ∀ (L : List Nat) {env : Env} {H : AHeap} {a : Act} {w : World}, (∀ k ∈ L, k < ops.size) → DMf P (L.map (nth is)) env H K Rp → Rel n m0 env H a w → wpOps P ops Q L a w
 | [], env, H, a, w, _, h, hr => by
  simp only [List.map_nil, DMf] at h
  exact hk _ _ _ _ h hr
 | k :: L, env, H, a, w, hl, h, hr => by
  rw [wpOps_cons]
  have hlt := hl k (by simp)
  have ho : ops[k]? = some ops[k] := Array.getElem?_eq_getElem hlt
  simp only [List.map_cons, DMf] at h
  exact gstep_wp ho (hc k _ ho) (hfr k) hr hp h fun v H' a' w' hh hf hr' => dmf_wp hc hfr hp hk L (fun x hx => hl x (by simp [hx])) (hh hf) hr'
theorem range_map_nth {is : List EI} : (List.range is.length).map (nth is) = is := by
 apply List.ext_getElem?
 intro k
 by_cases hk : k < is.length
 ·simp [nth, hk]
 ·simp [List.getElem?_eq_none (Nat.le_of_not_lt hk), hk]
end
section
variable {P : Program} {n : Nat} {m0 : MD} {ops : Array Oper} {Q : Exit → Act → World → Prop}
def Closed (ops : Array Oper) (listed : Array Bool) : Prop := ∀ i o, ops[i]? = some o → listed.getD i false = true → ∀ e ∈ o.after, Region.binds .any e = true → listed.getD e.on false = true
theorem anc_step (acc : List Nat) (l : List Edge) (s k : Nat) : (l.foldl (fun s e => if Region.binds .any e then s ||| 2 ^ e.on ||| acc.getD e.on 0 else s) s).testBit k = true → s.testBit k = true ∨ ∃ e ∈ l, Region.binds .any e = true ∧ (k = e.on ∨ (acc.getD e.on 0).testBit k = true) := by
 induction l generalizing s with
 | nil => intro h; exact .inl h
 | cons e l ih =>
  intro h
  simp only [List.foldl_cons] at h
  rcases ih _ h with h | ⟨e', he', hb, hk⟩
  ·split at h
   ·rename_i hb
    simp only [Nat.testBit_or, Bool.or_eq_true] at h
    rcases h with (h | h) | h
    ·exact .inl h
    ·refine .inr ⟨e, by simp, hb, .inl ?_⟩
     rw [Nat.testBit_two_pow] at h
     exact (by simpa using h : e.on = k).symm
    ·exact .inr ⟨e, by simp, hb, .inr h⟩
   ·exact .inl h
  ·exact .inr ⟨e', by simp [he'], hb, hk⟩
theorem ancs_listed {listed : Array Bool} (hc : Closed ops listed) (hb : ∀ i o, ops[i]? = some o → ∀ e ∈ o.after, Region.binds .any e = true → e.on < i) :
  ∀ (os : List Oper) (acc : List Nat), (∀ j o, os[j]? = some o → ops[acc.length + j]? = some o) →
   (∀ i, i < acc.length → (∀ o, ops[i]? = some o → ∀ e ∈ o.after, Region.binds .any e = true → listed.getD e.on false = true) → ∀ k, (acc.getD i 0).testBit k = true → listed.getD k false = true) →
   ∀ i, i < acc.length + os.length → (∀ o, ops[i]? = some o → ∀ e ∈ o.after, Region.binds .any e = true → listed.getD e.on false = true) →
    ∀ k, ((os.foldl (fun acc o => acc ++ [o.after.foldl (fun s e => if Region.binds .any e then s ||| 2 ^ e.on ||| acc.getD e.on 0 else s) 0]) acc).getD i 0).testBit k = true → listed.getD k false = true
 | [], acc, _, h, i, hi, hr, k, hk => h i (by simpa using hi) hr k hk
 | o :: os, acc, hos, h, i, hi, hr, k, hk => by
  simp only [List.foldl_cons] at hk
  refine ancs_listed hc hb os _ (fun j o' hj => ?_) (fun i' hi' hr' k' hk' => ?_) i (by simp at hi ⊢; omega) hr k hk
  ·have := hos (j + 1) o' (by simpa using hj)
   simpa [Nat.add_assoc, Nat.add_comm 1 j] using this
  ·simp only [List.length_append, List.length_singleton] at hi'
   by_cases hlt : i' < acc.length
   ·refine h i' hlt hr' k' ?_
    rw [List.getD_eq_getElem?_getD, List.getElem?_append_left hlt, ← List.getD_eq_getElem?_getD] at hk'
    exact hk'
   ·have hie : i' = acc.length := by omega
    subst hie
    have ho : ops[acc.length]? = some o := by have := hos 0 o rfl; simpa using this
    rw [List.getD_eq_getElem?_getD, List.getElem?_append_right (Nat.le_refl _)] at hk'
    simp only [Nat.sub_self, List.getElem?_cons_zero, Option.getD_some] at hk'
    rw [← Array.foldl_toList] at hk'
    rcases anc_step acc o.after.toList 0 k' hk' with h0 | ⟨e, he, hbe, hke⟩
    ·simp at h0
    ·have he' : e ∈ o.after := by simpa using he
     have hl := hr' o ho e he' hbe
     rcases hke with rfl | hke
     ·exact hl
     ·have hlt := hb _ o ho e he' hbe
      refine h e.on hlt (fun o2 ho2 e2 he2 hb2 => hc e.on o2 ho2 hl e2 he2 hb2) k' hke
theorem okDraw_parts {os : List Oper} {is : List EI} (h : okDraw os is = true) : (∀ (i : Nat) (o : Oper), os[i]? = some o → ∀ e ∈ o.after, Region.binds .any e = true → e.on < i) ∧ (∀ i j, i < j → j < is.length → ((ancs os).getD j 0).testBit i = true ∨ indep (nth is i) (nth is j) = true) := by
 simp only [okDraw, Bool.and_eq_true, List.all_eq_true] at h
 obtain ⟨h1, h2⟩ := h
 refine ⟨fun i o ho e he hb => ?_, fun i j hij hj => ?_⟩
 ·have := h1 (o, i) (by rw [List.mem_zipIdx_iff_getElem?]; exact ho)
  simp only [Array.all_eq_true_iff_forall_mem] at this
  have := this e he
  simp only [hb, Bool.not_true, Bool.false_or, Nat.blt_eq] at this
  exact this
 ·have hi : i < is.length := by omega
  have := h2 (nth is j, j) (by rw [List.mem_zipIdx_iff_getElem?]; simp [nth, hj]) (nth is i, i) (by rw [List.mem_zipIdx_iff_getElem?]; simp [nth, hi])
  simp only [Bool.or_eq_true, Bool.not_eq_true'] at this
  rcases this with (this | this) | this
  ·have hlt : Nat.blt i j = true := by rw [Nat.blt_eq]; exact hij
   rw [hlt] at this
   cases this
  ·exact .inl this
  ·exact .inr this
theorem draw_wp {is : List EI} {K : Env → AHeap → Prop} {Rp : AV → AHeap → Prop} (hlen : ops.size = is.length) (hok : okDraw ops.toList is = true) (hc : ∀ k o, ops[k]? = some o → chkI P n ops o (nth is k) = true) (hfr : ∀ k, m0.free (nth is k)) (hp : PanOk n m0 Rp Q) (hK : ∀ e e' H, EnvEq e e' → K e H → K e' H) (hk : ∀ env H a w, K env H → Rel n m0 env H a w → Q .normal a w) :
  ∀ (fuel : Nat) (T : List Nat) (listed : Array Bool) {env : Env} {H : AHeap} {a : Act} {w : World}, listed.size = ops.size → T.Pairwise (· < ·) → (∀ k, k ∈ T ↔ k < ops.size ∧ listed.getD k true = false) → T.length = fuel → Closed ops listed →
   DMf P (T.map (nth is)) env H K Rp → Rel n m0 env H a w → wpAny P .any ops Q fuel listed a w := by
 obtain ⟨hb, hin⟩ := okDraw_parts hok
 have hb' : ∀ (i : Nat) (o : Oper), ops[i]? = some o → ∀ e ∈ o.after, Region.binds .any e = true → e.on < i := fun i o ho => hb i o (by simpa using ho)
 have ready : ∀ (listed : Array Bool) i, i ∈ Region.ready .any ops listed ↔ i < ops.size ∧ listed.getD i true = false ∧ ∀ o, ops[i]? = some o → ∀ e ∈ o.after, Region.binds .any e = true → listed.getD e.on false = true := by
  intro listed i
  simp only [Region.ready, List.mem_filter, List.mem_range, Bool.and_eq_true, Bool.not_eq_true']
  constructor
  ·rintro ⟨h1, h2, h3⟩
   refine ⟨h1, h2, fun o ho e he hbe => ?_⟩
   rw [ho] at h3
   simp only [Option.map_some, Option.getD_some, Array.all_eq_true_iff_forall_mem] at h3
   have := h3 e he
   simpa [hbe] using this
  ·rintro ⟨h1, h2, h3⟩
   refine ⟨h1, h2, ?_⟩
   have ho : ops[i]? = some ops[i] := Array.getElem?_eq_getElem h1
   rw [ho]
   simp only [Option.map_some, Option.getD_some, Array.all_eq_true_iff_forall_mem]
   intro e he
   by_cases hbe : Region.binds .any e = true
   ·simp [hbe, h3 _ ho e he hbe]
   ·simp [hbe]
 intro fuel
 induction fuel with
 | zero =>
  intro T listed env H a w hsz hs hT hl hcl h hr
  have : T = [] := List.eq_nil_of_length_eq_zero hl
  subst this
  refine ⟨?_, hk _ _ _ _ h hr⟩
  rw [List.eq_nil_iff_forall_not_mem]
  intro i hi
  obtain ⟨h1, h2, _⟩ := (ready listed i).1 hi
  have := (hT i).2 ⟨h1, h2⟩
  cases this
 | succ fuel ih =>
  intro T listed env H a w hsz hs hT hl hcl h hr
  refine ⟨fun hnil => ?_, fun i hi => ?_⟩
  ·-- the first that is left is ready
   match T, hl with
   | t :: T, _ =>
    have ht := (hT t).1 (by simp)
    have : t ∈ Region.ready .any ops listed := by
     refine (ready listed t).2 ⟨ht.1, ht.2, fun o ho e he hbe => ?_⟩
     have hlt := hb' t o ho e he hbe
     cases hq : listed.getD e.on true with
     | true =>
      have : e.on < listed.size := by omega
      simp [Array.getD_eq_getD_getElem?, this] at hq ⊢
      exact hq
     | false =>
      have hm := (hT e.on).2 ⟨by omega, hq⟩
      rcases List.mem_cons.1 hm with e1 | e1
      ·omega
      ·have := List.rel_of_pairwise_cons hs e1
       omega
    rw [hnil] at this
    cases this
  ·obtain ⟨h1, h2, h3⟩ := (ready listed i).1 hi
   have hiT := (hT i).2 ⟨h1, h2⟩
   obtain ⟨T1, T2, rfl⟩ := List.append_of_mem hiT
   have ho : ops[i]? = some ops[i] := Array.getElem?_eq_getElem h1
   have hanc := ancs_listed hcl hb' ops.toList [] (fun j o hj => by simpa using hj) (fun i hi => by simp at hi) i (by simpa using h1) h3
   have hind : ∀ y ∈ T1.map (nth is), indep y (nth is i) = true := by
    intro y hy
    obtain ⟨k, hkm, rfl⟩ := List.mem_map.1 hy
    have hki : k < i := by
     rw [List.pairwise_append] at hs
     exact hs.2.2 k hkm i (by simp)
    rcases hin k i hki (by omega) with hbit | hind
    ·have hlk := hanc k hbit
     have hk0 := (hT k).1 (by simp [hkm])
     have : k < listed.size := by omega
     simp [Array.getD_eq_getD_getElem?, this] at hlk hk0
     rw [hlk] at hk0
     simp at hk0
    ·exact hind
   have hF : HFin H := by
    obtain ⟨m, rfl, rfl, rh, _⟩ := hr
    exact rh_fin rh
   have hfront := dmf_front hK (i := nth is i) (T1.map (nth is)) hF hind (by simpa using h)
   simp only [DMf] at hfront
   refine gstep_wp ho (hc i _ ho) (hfr i) hr hp hfront fun v H' a' w' hh hf hr' => ?_
   refine ih (T1 ++ T2) _ (by simpa using hsz) ?_ (fun k => ?_) (by simp at hl ⊢; omega) ?_ (by simpa using hh hf) hr'
   ·rw [List.pairwise_append, List.pairwise_cons] at hs
    rw [List.pairwise_append]
    exact ⟨hs.1, hs.2.1.2, fun a ha b hb => hs.2.2 a ha b (by simp [hb])⟩
   ·have hdis : i ∉ T1 ∧ i ∉ T2 := by
     rw [List.pairwise_append, List.pairwise_cons] at hs
     exact ⟨fun hm => by have := hs.2.2 i hm i (by simp); omega, fun hm => by have := hs.2.1.1 i hm; omega⟩
    have := hT k
    by_cases e : k = i
    ·subst e
     simp only [List.mem_append, hdis.1, hdis.2, or_self, false_iff, not_and]
     intro _
     have : k < listed.size := by omega
     simp [Array.getD_eq_getD_getElem?, this]
    ·have hne : (listed.setIfInBounds i true).getD k true = listed.getD k true := by
      simp [Array.getD_eq_getD_getElem?, Array.getElem?_setIfInBounds_ne (Ne.symm e)]
     rw [hne, ← this]
     simp [e]
   ·intro j o hj hlj e he hbe
    by_cases hji : j = i
    ·subst hji
     have := h3 o hj e he hbe
     by_cases hei : e.on = j
     ·have := hb' j o hj e he hbe
      omega
     ·simp only [Array.getD_eq_getD_getElem?, Array.getElem?_setIfInBounds_ne (Ne.symm hei)] at this ⊢
      exact this
    ·have hlj' : listed.getD j false = true := by
      simp only [Array.getD_eq_getD_getElem?, Array.getElem?_setIfInBounds_ne (Ne.symm hji)] at hlj ⊢
      exact hlj
     have := hcl j o hj hlj' e he hbe
     by_cases hei : e.on = i
     ·rw [hei]
      have : i < listed.size := by omega
      simp [Array.getD_eq_getD_getElem?, this]
     ·simp only [Array.getD_eq_getD_getElem?, Array.getElem?_setIfInBounds_ne (Ne.symm hei)] at this ⊢
      exact this
end
theorem load_run {P : Program} {m : Mem} {env : Env} {t : TypeId} {agg : Bool} {n : Nat} {y : EOpd} {r : AV} {pv : Value} (rh : RH m) (h1 : ldT P t agg n = true) (hc : Rv m (y.ev env) pv) (hp : peval (.load agg n y) env m.H = some r) :
  ∃ ad v, pv = .pointer (some ad) ∧ (loadVar t ad).run P m.w = .ok v m.w ∧ Rv m r v := by
 simp only [peval] at hp
 have fin : ∀ b p (l : List Value) (cs : List AV), pv = .pointer (some ⟨b, p, none⟩) → AV.ofCells agg cs = some r → RvL m cs l → l.length = n → (∀ (j : Nat) (v : Value), l[j]? = some v → m.w.cell? ⟨b, p + j, none⟩ = some v) → ∃ ad v, pv = .pointer (some ad) ∧ (loadVar t ad).run P m.w = .ok v m.w ∧ Rv m r v := by
  intro b p l cs e1 e2 e3 e4 e5
  refine ⟨_, _, e1, run_loadVar_cells h1 b p l e4 e5, ?_⟩
  rcases ofCells_rv e2 e3 with ⟨rfl, h⟩ | ⟨rfl, v, rfl, h⟩
  ·exact h
  ·exact h
 split at hp
 ·rename_i b p e
  rw [e] at hc
  split at hp
  ·rename_i T cs hb
   split at hp
   ·rename_i hle
    obtain ⟨l, g1, g2, g3⟩ := rh.blk b _ cs hb
    refine fin b p ((l.drop p).take n) _ (rv_ptr hc) hp (RvL.take n (RvL.drop p g2)) ?_ fun j v hj => ?_
    ·have := RvL.length g2
     simp; omega
    ·rw [cell_of_row m.w b _ _ _ _ g1]
     rw [List.getElem?_take] at hj
     split at hj
     ·rw [List.getElem?_drop] at hj
      simpa using hj
     ·cases hj
   ·cases hp
  ·cases hp
 ·rename_i row p e
  rw [e] at hc
  obtain ⟨b, q, e1, e2⟩ := rv_rp hc
  split at hp
  ·rename_i hle
   obtain ⟨l, g1, g2⟩ := RvC.vals e2
   refine fin b (q + p) ((l.drop p).take n) _ e1 hp (RvL.take n (RvL.drop p g1)) ?_ fun j v hj => ?_
   ·have := RvL.length g1
    simp; omega
   ·rw [List.getElem?_take] at hj
    split at hj
    ·rw [List.getElem?_drop] at hj
     rw [Nat.add_assoc]
     exact (g2 _ v hj).1
    ·cases hj
  ·cases hp
 ·cases hp
def resOne (tmps : Array Value) (x : ResultVar) : Sem Value :=
 match x with
 | .tmp t => pure (tmps.getD t undef)
 | .cell a t => do loadVar t (← asAddr (tmps.getD a undef))
theorem eres_run {P : Program} {m : Mem} {env : Env} {tmps : Array Value} {x : ResultVar} {e : ERes} {r : AV} (he : RvE m env tmps) (rh : RH m) (hc : chkR P [x] [e] = true) (hr : e.ev env m.H = some r) :
  ∃ v, (resOne tmps x).run P m.w = .ok v m.w ∧ Rv m r v := by
 cases x with
 | tmp t =>
  cases e with
  | t k =>
   simp [chkR] at hc
   subst hc
   simp only [ERes.ev, Option.some.injEq] at hr
   subst hr
   exact ⟨_, rfl, he t⟩
  | cell => simp [chkR] at hc
 | cell a ty =>
  cases e with
  | t k => simp [chkR] at hc
  | cell agg k a' =>
   simp [chkR] at hc
   obtain ⟨rfl, h2⟩ := hc
   simp only [ERes.ev] at hr
   obtain ⟨ad, v, e1, e2, e3⟩ := load_run (y := .t a) rh h2 (he a) hr
   refine ⟨v, ?_, e3⟩
   simp only [resOne, Sem.run_bind, e1, asAddr, Sem.run_pure, Result.andThen_ok, e2]
theorem chkR_cons {P : Program} {x : ResultVar} {xs : List ResultVar} {e : ERes} {es : List ERes} (h : chkR P (x :: xs) (e :: es) = true) : chkR P [x] [e] = true ∧ chkR P xs es = true := by
 cases x <;> cases e <;> simp [chkR] at h ⊢
 ·exact h
 ·exact h
theorem results_list {P : Program} {m : Mem} {env : Env} {tmps : Array Value} (he : RvE m env tmps) (rh : RH m) : ∀ {xs : List ResultVar} {es : List ERes} {rs : List AV}, chkR P xs es = true → es.mapM (ERes.ev env m.H) = some rs →
  ∃ vs, (xs.mapM (resOne tmps)).run P m.w = .ok vs m.w ∧ RvL m rs vs
 | [], [], rs, _, h => by
  simp at h
  subst h
  exact ⟨[], by simp, by simp only [RvL]⟩
 | [], _ :: _, _, h, _ => by simp [chkR] at h
 | _ :: _, [], _, h, _ => by simp [chkR] at h
 | x :: xs, e :: es, rs, hc, h => by
  obtain ⟨h1, h2⟩ := chkR_cons hc
  simp only [List.mapM_cons, Option.bind_eq_bind, Option.pure_def] at h
  cases hr : e.ev env m.H with
  | none => simp [hr] at h
  | some r =>
   cases hrs : es.mapM (ERes.ev env m.H) with
   | none => simp [hr, hrs] at h
   | some rs' =>
    simp [hr, hrs] at h
    subst h
    obtain ⟨v, g1, g2⟩ := eres_run he rh h1 hr
    obtain ⟨vs, g3, g4⟩ := results_list he rh h2 hrs
    refine ⟨v :: vs, ?_, by simp only [RvL]; exact ⟨v, vs, rfl, g2, g4⟩⟩
    rw [List.mapM_cons]
    simp only [Sem.run_bind, g1, Result.andThen_ok, g3, Sem.run_pure]
theorem results_run {P : Program} {m : Mem} {env : Env} {tmps : Array Value} {fn : Func} {rs : List ERes} {r : AV} (he : RvE m env tmps) (rh : RH m) (hc : chkR P fn.results.toList rs = true) (hr : Aw.results rs env m.H = some r) :
  ∃ v, (Go.results fn tmps).run P m.w = .ok v m.w ∧ Rv m r v := by
 have key : ∀ es : List AV, rs.mapM (ERes.ev env m.H) = some es → ∃ vs, (Go.results fn tmps).run P m.w = .ok (if h : vs.toArray.size = 1 then vs.toArray[0] else .tuple vs.toArray) m.w ∧ RvL m es vs := by
  intro es hes
  obtain ⟨vs, g1, g2⟩ := results_list he rh hc hes
  refine ⟨vs, ?_, g2⟩
  show ((fn.results.mapM (resOne tmps)) >>= fun vs => pure (if h : vs.size = 1 then vs[0] else .tuple vs)).run P m.w = _
  rw [Array.mapM_eq_mapM_toList]
  simp only [Sem.run_bind, Sem.run_map, g1, Result.andThen_ok, Sem.run_pure]
 unfold Aw.results at hr
 split at hr
 ·rename_i e
  obtain ⟨vs, g1, g2⟩ := key [r] (by simp [hr])
  simp only [RvL] at g2
  obtain ⟨v, _, rfl, g2, rfl⟩ := g2
  exact ⟨v, by simpa using g1, g2⟩
 ·rename_i hne
  cases hes : rs.mapM (ERes.ev env m.H) with
  | none => simp [hes] at hr
  | some es =>
   simp [hes] at hr
   subst hr
   obtain ⟨vs, g1, g2⟩ := key es hes
   have hl : rs.length = es.length := by
    have : ∀ (l : List ERes) (es : List AV), l.mapM (ERes.ev env m.H) = some es → l.length = es.length := by
     intro l
     induction l with
     | nil => intro es h; simp at h; subst h; rfl
     | cons x l ih =>
      intro es h
      simp only [List.mapM_cons, Option.bind_eq_bind, Option.pure_def] at h
      cases hx : x.ev env m.H with
      | none => simp [hx] at h
      | some y =>
       cases hl : l.mapM (ERes.ev env m.H) with
       | none => simp [hx, hl] at h
       | some ys => simp [hx, hl] at h; subst h; simp [ih ys hl]
    exact this rs es hes
   have hne1 : vs.length ≠ 1 := by
    rw [RvL.length g2, ← hl]
    intro e
    obtain ⟨x, hx⟩ := List.length_eq_one_iff.1 e
    exact hne x hx
   rw [dif_neg (by simpa using hne1)] at g1
   exact ⟨_, g1, by simp only [Rv]; exact ⟨vs, rfl, g2⟩⟩
end Go.Aw
namespace Go.Aw
open Go
set_option linter.unusedVariables false
set_option linter.unusedSimpArgs false
inductive CItem where
 | c (c : Code)
 | blk (id : Nat)
 | round (J : Act → World → Prop)
def post (P : Program) (B : Exit → Act → World → Prop) : List CItem → Exit → Act → World → Prop
 | [], e, a, w => B e a w
 | .c code :: k, e, a, w => match e with
  | .normal => code.wp P (post P B k) a w
  | e => post P B k e a w
 | .blk id :: k, e, a, w => match e with
  | .exit id' => if id' = id then post P B k .normal a w else post P B k (.exit id') a w
  | e => post P B k e a w
 | .round J :: k, e, a, w => match e with
  | .normal => J a w
  | e => post P B k e a w
def IM (P : Program) (n : Nat) (m0 : MD) : List Item → List CItem → Prop
 | [], l => l = []
 | .c e :: k, l => ∃ c l', l = .c c :: l' ∧ (chkC P n c e = true ∧ ∀ E ∈ m0.kt, ∀ p ∈ E, e.noW p.1 = true) ∧ IM P n m0 k l'
 | .blk id :: k, l => ∃ l', l = .blk id :: l' ∧ IM P n m0 k l'
 | .round I m :: k, l => ∃ J l', l = .round J :: l' ∧ (∀ a w, (∃ m' env H, I m' env H ∧ m' < m ∧ Rel n m0 env H a w) → J a w) ∧ IM P n m0 k l'
section
variable {P : Program} {B : Exit → Act → World → Prop}
theorem post_ret : ∀ (l : List CItem) (a : Act) (w : World), B .ret a w → post P B l .ret a w
 | [], _, _, h => h
 | .c _ :: l, a, w, h => post_ret l a w h
 | .blk _ :: l, a, w, h => post_ret l a w h
 | .round _ :: l, a, w, h => post_ret l a w h
theorem post_panic : ∀ (l : List CItem) (ch : List PanicEntry) (a : Act) (w : World), B (.panic ch) a w → post P B l (.panic ch) a w
 | [], _, _, _, h => h
 | .c _ :: l, ch, a, w, h => post_panic l ch a w h
 | .blk _ :: l, ch, a, w, h => post_panic l ch a w h
 | .round _ :: l, ch, a, w, h => post_panic l ch a w h
theorem post_exit {n : Nat} {m0 : MD} {id : Nat} : ∀ (k : List Item) (l : List CItem) (k' : List Item), IM P n m0 k l → popTo id k = some k' → ∃ l', IM P n m0 k' l' ∧ ∀ a w, post P B l' .normal a w → post P B l (.exit id) a w
 | [], _, _, _, h => by simp [popTo] at h
 | .c e :: k, l, k', hi, h => by
  simp only [IM] at hi
  obtain ⟨c, l', rfl, _, hi⟩ := hi
  simp only [popTo] at h
  obtain ⟨l2, g1, g2⟩ := post_exit k l' k' hi h
  exact ⟨l2, g1, fun a w hh => g2 a w hh⟩
 | .blk j :: k, l, k', hi, h => by
  simp only [IM] at hi
  obtain ⟨l', rfl, hi⟩ := hi
  simp only [popTo] at h
  split at h
  ·rename_i e
   subst e
   simp at h
   subst h
   exact ⟨l', hi, fun a w hh => by simp only [post, if_pos]; exact hh⟩
  ·rename_i e
   obtain ⟨l2, g1, g2⟩ := post_exit k l' k' hi h
   exact ⟨l2, g1, fun a w hh => by simp only [post]; rw [if_neg (Ne.symm e)]; exact g2 a w hh⟩
 | .round I m :: k, l, k', hi, h => by
  simp only [IM] at hi
  obtain ⟨J, l', rfl, _, hi⟩ := hi
  simp only [popTo] at h
  obtain ⟨l2, g1, g2⟩ := post_exit k l' k' hi h
  exact ⟨l2, g1, fun a w hh => g2 a w hh⟩
theorem post_then {c : Code} {l : List CItem} : Exit.then (c.wp P (post P B l)) (post P B l) = post P B (.c c :: l) := by
 funext e a w
 cases e <;> rfl
theorem post_blk {id : Nat} {l : List CItem} : Exit.inBlock id (post P B l) = post P B (.blk id :: l) := by
 funext e a w
 cases e <;> rfl
end
theorem annotate_chk {P : Program} {n : Nat} {ops : Array Oper} : ∀ {os : List Oper} {is : List EI} (anns : List AV), chkIs P n ops os is = true → chkIs P n ops os (annotate is anns) = true
 | [], [], _, h => by simpa [annotate] using h
 | [], _ :: _, _, h => by simp [chkIs] at h
 | _ :: _, [], _, h => by simp [chkIs] at h
 | o :: os, ⟨d, g, op⟩ :: is, anns, h => by
  simp only [chkIs, Bool.and_eq_true] at h
  cases op with
  | pcall f args =>
   cases anns with
   | nil => simp only [annotate, chkIs, Bool.and_eq_true]; exact ⟨h.1, annotate_chk [] h.2⟩
   | cons r rs =>
    simp only [annotate, chkIs, Bool.and_eq_true]
    refine ⟨?_, annotate_chk rs h.2⟩
    have h1 := h.1
    simp only [chkI, Bool.and_eq_true] at h1 ⊢
    refine ⟨h1.1, ?_⟩
    have := h1.2
    cases ho : o.op <;> rw [ho] at this <;> first
     | (simp [chkOp] at this; done)
     | skip
    rename_i c
    obtain ⟨callee, cargs, at'⟩ := c
    cases callee <;> first
     | exact this
     | (rename_i b; cases b <;> exact this)
  | pcallv x args =>
   cases anns with
   | nil => simp only [annotate, chkIs, Bool.and_eq_true]; exact ⟨h.1, annotate_chk [] h.2⟩
   | cons r rs =>
    simp only [annotate, chkIs, Bool.and_eq_true]
    refine ⟨?_, annotate_chk rs h.2⟩
    have h1 := h.1
    simp only [chkI, Bool.and_eq_true] at h1 ⊢
    refine ⟨h1.1, ?_⟩
    have := h1.2
    cases ho : o.op <;> rw [ho] at this <;> first
     | (simp [chkOp] at this; done)
     | skip
    rename_i c
    obtain ⟨callee, cargs, at'⟩ := c
    cases callee <;> first
     | exact this
     | (rename_i b; cases b <;> exact this)
  | pcallM T size f args =>
   cases anns with
   | nil => simp only [annotate, chkIs, Bool.and_eq_true]; exact ⟨h.1, annotate_chk [] h.2⟩
   | cons r rs =>
    simp only [annotate, chkIs, Bool.and_eq_true]
    refine ⟨?_, annotate_chk rs h.2⟩
    have h1 := h.1
    simp only [chkI, Bool.and_eq_true] at h1 ⊢
    refine ⟨h1.1, ?_⟩
    have := h1.2
    cases ho : o.op <;> rw [ho] at this <;> first
     | (simp [chkOp] at this; done)
     | skip
    rename_i c
    obtain ⟨callee, cargs, at'⟩ := c
    cases callee <;> first
     | exact this
     | (rename_i b; cases b <;> exact this)
  | _ => simp only [annotate, chkIs, Bool.and_eq_true]; exact ⟨h.1, annotate_chk anns h.2⟩
theorem annotate_nth : ∀ (is : List EI) (anns : List AV) (k : Nat), (nth (annotate is anns) k).dst = (nth is k).dst ∧ (nth (annotate is anns) k).reads = (nth is k).reads ∧ (nth (annotate is anns) k).op.rank = (nth is k).op.rank ∧ (nth (annotate is anns) k).total = (nth is k).total ∧ (nth (annotate is anns) k).op.live = (nth is k).op.live ∧ (nth (annotate is anns) k).stInfo = (nth is k).stInfo
 | [], anns, k => by simp [annotate]
 | ⟨d, g, op⟩ :: is, anns, k => by
  cases op with
  | pcall f args =>
   cases anns with
   | nil =>
    cases k with
    | zero => exact ⟨rfl, rfl, rfl, rfl, rfl, by first | rfl | (cases g <;> rfl)⟩
    | succ k => exact annotate_nth is [] k
   | cons r rs =>
    cases k with
    | zero => exact ⟨rfl, rfl, rfl, rfl, rfl, by first | rfl | (cases g <;> rfl)⟩
    | succ k => exact annotate_nth is rs k
  | pcallv f args =>
   cases anns with
   | nil =>
    cases k with
    | zero => exact ⟨rfl, rfl, rfl, rfl, rfl, by first | rfl | (cases g <;> rfl)⟩
    | succ k => exact annotate_nth is [] k
   | cons r rs =>
    cases k with
    | zero => exact ⟨rfl, rfl, rfl, rfl, rfl, by first | rfl | (cases g <;> rfl)⟩
    | succ k => exact annotate_nth is rs k
  | pcallM T size f args =>
   cases anns with
   | nil =>
    cases k with
    | zero => exact ⟨rfl, rfl, rfl, rfl, rfl, by first | rfl | (cases g <;> rfl)⟩
    | succ k => exact annotate_nth is [] k
   | cons r rs =>
    cases k with
    | zero => exact ⟨rfl, rfl, rfl, rfl, rfl, by first | rfl | (cases g <;> rfl)⟩
    | succ k => exact annotate_nth is rs k
  | _ =>
   cases k with
   | zero => exact ⟨rfl, rfl, rfl, rfl, rfl, by first | rfl | (cases g <;> rfl)⟩
   | succ k => exact annotate_nth is anns k
theorem annotate_quiet : ∀ (is : List EI) (anns : List AV) (k : Nat), (nth (annotate is anns) k).op.quiet = (nth is k).op.quiet ∧ (nth (annotate is anns) k).op.tokq = (nth is k).op.tokq ∧ (nth (annotate is anns) k).op.blkOnly = (nth is k).op.blkOnly
 | [], anns, k => by simp [annotate]
 | ⟨d, g, op⟩ :: is, anns, k => by
  cases op with
  | pcall f args =>
   cases anns with
   | nil =>
    cases k with
    | zero => exact ⟨rfl, rfl, rfl⟩
    | succ k => exact annotate_quiet is [] k
   | cons r rs =>
    cases k with
    | zero => exact ⟨rfl, rfl, rfl⟩
    | succ k => exact annotate_quiet is rs k
  | pcallv f args =>
   cases anns with
   | nil =>
    cases k with
    | zero => exact ⟨rfl, rfl, rfl⟩
    | succ k => exact annotate_quiet is [] k
   | cons r rs =>
    cases k with
    | zero => exact ⟨rfl, rfl, rfl⟩
    | succ k => exact annotate_quiet is rs k
  | pcallM T size f args =>
   cases anns with
   | nil =>
    cases k with
    | zero => exact ⟨rfl, rfl, rfl⟩
    | succ k => exact annotate_quiet is [] k
   | cons r rs =>
    cases k with
    | zero => exact ⟨rfl, rfl, rfl⟩
    | succ k => exact annotate_quiet is rs k
  | _ =>
   cases k with
   | zero => exact ⟨rfl, rfl, rfl⟩
   | succ k => exact annotate_quiet is anns k
theorem annotate_len : ∀ (is : List EI) (anns : List AV), (annotate is anns).length = is.length
 | [], _ => rfl
 | ⟨d, g, op⟩ :: is, anns => by
  cases op with
  | pcall f args => cases anns <;> simp [annotate, annotate_len is]
  | pcallv f args => cases anns <;> simp [annotate, annotate_len is]
  | pcallM T size f args => cases anns <;> simp [annotate, annotate_len is]
  | _ => simp [annotate, annotate_len is]
theorem annotate_okDraw {os : List Oper} {is : List EI} {anns : List AV} (h : okDraw os is = true) : okDraw os (annotate is anns) = true := by
 simp only [okDraw, Bool.and_eq_true, List.all_eq_true] at h ⊢
 refine ⟨h.1, fun ⟨y, j⟩ hy ⟨x, i⟩ hx => ?_⟩
 rw [List.mem_zipIdx_iff_getElem?] at hy hx
 have hj : j < is.length := by rw [← annotate_len is anns]; exact (List.getElem?_eq_some_iff.1 hy).1
 have hi : i < is.length := by rw [← annotate_len is anns]; exact (List.getElem?_eq_some_iff.1 hx).1
 have ey : nth (annotate is anns) j = y := by simp only [nth, List.getD_eq_getElem?_getD]; rw [hy]; rfl
 have ex : nth (annotate is anns) i = x := by simp only [nth, List.getD_eq_getElem?_getD]; rw [hx]; rfl
 have := h.2 (nth is j, j) (by rw [List.mem_zipIdx_iff_getElem?]; simp [nth, hj]) (nth is i, i) (by rw [List.mem_zipIdx_iff_getElem?]; simp [nth, hi])
 have e : indep x y = indep (nth is i) (nth is j) := by
  obtain ⟨a1, a2, a3, a4, a5, a6⟩ := annotate_nth is anns i
  obtain ⟨b1, b2, b3, b4, b5, b6⟩ := annotate_nth is anns j
  rw [ey] at b1 b2 b3 b4 b5 b6
  rw [ex] at a1 a2 a3 a4 a5 a6
  obtain ⟨a7, a8, a9⟩ := annotate_quiet is anns i
  obtain ⟨b7, b8, b9⟩ := annotate_quiet is anns j
  rw [ey] at b7 b8 b9
  rw [ex] at a7 a8 a9
  unfold indep stD
  rw [a7, b7, a8, b9, a1, a2, a3, a5, a6, b1, b2, b3, b4, b6]
 simp only [e]
 exact this
theorem rel_weak {n : Nat} {m0 : MD} {env env' : Env} {H : AHeap} {a : Act} {w : World} (h : ∀ j, AVLe (env.get j) (env'.get j)) (hr : Rel n m0 env H a w) : Rel n m0 env' H a w := by
 obtain ⟨m, h1, h2, h3, h4, h5, h6⟩ := hr
 exact ⟨m, h1, h2, h3, h4, fun k => h k _ _ (h5 k), h6⟩
def RQ (m0 : Mem) (R : Out → AHeap → Prop) (e : Ending) (w' : World) : Prop :=
 ∃ o H' L' T', RH ⟨w', H', L', T'⟩ ∧ Ev m0 ⟨w', H', L', T'⟩ ∧ RvOut ⟨w', H', L', T'⟩ o e ∧ R o H'
structure HB (P : Program) (fn : Func) (n : Nat) (rs : List ERes) (Q : Ending → World → Prop) (R : Out → AHeap → Prop) (m0 : MD) : Prop where
 ret : ∀ env H v a w, Aw.results rs env H = some v → R (.ret v) H → Rel n m0 env H a w → Leaves P fn a.tmps Q a.defers .returning w
 pan : ∀ (x : AV) (m' : Mem) (cv : Value) (a : Act), R (.pan x) m'.H → RH m' → Ev m0.m m' → Rv m' x cv → (a.defers = m0.D ∧ ∀ E ∈ m0.kt, RvE m' E a.tmps) → a.tmps.size = n → Leaves P fn a.tmps Q a.defers (.panicking [{ v := cv, recovered := false }]) m'.w
theorem hb_base {P : Program} {fn : Func} {n : Nat} {m0 : Mem} {rs : List ERes} {R : Out → AHeap → Prop} (hres : chkR P fn.results.toList rs = true) : HB P fn n rs (RQ m0 R) R ⟨m0, [], []⟩ where
 ret := fun env H v a w hv hR hr => by
  obtain ⟨m, rfl, rfl, rh, e0, he, hdf, _⟩ := hr
  obtain ⟨cv, g1, g2⟩ := results_run (fn := fn) he rh hres hv
  rw [hdf.1]
  exact ⟨cv, g1, .ret v, m.H, m.L, m.T, rh, e0, ⟨cv, rfl, g2⟩, hR⟩
 pan := fun x m' cv a hR rh ev hv hdf _ => by
  rw [hdf.1]
  exact ⟨.pan x, m'.H, m'.L, m'.T, rh, ev, ⟨cv, rfl, hv⟩, hR⟩
theorem hb_dfr {P : Program} {fn : Func} {n : Nat} {rs : List ERes} {Q : Ending → World → Prop} {R R' : Out → AHeap → Prop} {m0 : MD} {m1 : Mem} {f : FuncId} {caps : List AV} {vs : List Value} {kt : Env} (hb : HB P fn n rs Q R m0) (hf : callable P f = true) (hev : Ev m0.m m1) (hcap : RvL m1 caps vs) (hidle : DIdle P f caps)
  (hret : ∀ v H', R' (.ret v) H' → R (.ret v) H') (hpan : ∀ x H', R' (.pan x) H' → DCalls P f caps x H' fun H2 => ∃ v, Aw.results rs kt H2 = some v ∧ R (.ret v) H2) :
  HB P fn n rs Q R' ⟨m1, { target := .fn (.func f) ⟨vs⟩, args := #[] } :: m0.D, kt :: m0.kt⟩ where
 ret := fun env H v a w hv hR hr => by
  obtain ⟨m, rfl, rfl, rh, e0, he, hdf, hsz⟩ := hr
  rw [hdf.1]
  have hinv : (invoke (.fn (.func f) ⟨vs⟩) #[]).run P m.w = .ok (.enter f ⟨vs⟩) m.w := by simp [invoke, run_call hf]
  refine leaves_cons (by simp) hinv ((hidle m vs rh (RvL.ev e0 _ _ hcap)).mono ?_)
  rintro e u' w' ⟨⟨v', rfl⟩, rfl, L', T', r1, r2⟩
  have := hb.ret env m.H v { a with defers := m0.D } w' hv (hret _ _ hR) ⟨⟨w', m.H, L', T'⟩, rfl, rfl, r1, (hev.trans e0).trans r2, fun k => Rv.ev r2 _ _ (he k), ⟨rfl, fun E hE k => Rv.ev r2 _ _ (hdf.2 E (by simp [hE]) k)⟩, hsz⟩
  exact this
 pan := fun x m' cv a hR rh ev hv hdf hsz => by
  rw [hdf.1]
  have hinv : (invoke (.fn (.func f) ⟨vs⟩) #[]).run P m'.w = .ok (.enter f ⟨vs⟩) m'.w := by simp [invoke, run_call hf]
  refine leaves_cons (by simp) hinv ((hpan x m'.H hR m' vs cv rfl rh (RvL.ev ev _ _ hcap) hv).mono ?_)
  rintro e u' w' ⟨⟨v', rfl⟩, rfl, H', L', T', r1, r2, v, hv2, hR2⟩
  have := hb.ret kt H' v { a with defers := m0.D } w' hv2 hR2 ⟨⟨w', H', L', T'⟩, rfl, rfl, r1, (hev.trans ev).trans r2, fun k => Rv.ev r2 _ _ (hdf.2 kt (by simp) k), ⟨rfl, fun E hE k => Rv.ev r2 _ _ (hdf.2 E (by simp [hE]) k)⟩, hsz⟩
  exact this
theorem IM.more {P : Program} {n : Nat} {m0 m1 : MD} : ∀ {k : List Item} {l : List CItem}, IM P n m0 k l → (∀ E ∈ m1.kt, E ∈ m0.kt ∨ ∀ p ∈ E, k.all (Item.noW p.1) = true) → k.all (fun i => match i with | .round _ _ => false | _ => true) = true → IM P n m1 k l
 | [], l, h, _, _ => by simp only [IM] at *; exact h
 | .c e :: k, l, h, hk, hr => by
  simp only [IM] at *
  obtain ⟨c, l', rfl, ⟨h1, h2⟩, h3⟩ := h
  simp only [List.all_cons, Bool.and_eq_true] at hk hr
  exact ⟨c, l', rfl, ⟨h1, fun E hE p hp => (hk E hE).elim (fun h => h2 E h p hp) fun h => (h p hp).1⟩, IM.more h3 (fun E hE => (hk E hE).imp (fun h => h) fun h p hp => (h p hp).2) hr.2⟩
 | .blk id :: k, l, h, hk, hr => by
  simp only [IM] at *
  obtain ⟨l', rfl, h3⟩ := h
  simp only [List.all_cons, Bool.and_eq_true] at hk hr
  exact ⟨l', rfl, IM.more h3 (fun E hE => (hk E hE).imp (fun h => h) fun h p hp => (h p hp).2) hr.2⟩
 | .round I m :: k, l, h, hk, hr => by simp at hr
theorem noW_free {m0 : MD} {ops : List EI} {draw : Bool} (anns : List AV) (h : ∀ E ∈ m0.kt, ∀ p ∈ E, (EC.region ops draw).noW p.1 = true) (k : Nat) : m0.free (nth (annotate ops anns) k) := by
 intro E hE p hp e
 have h1 := h E hE p hp
 simp only [EC.noW, List.all_eq_true] at h1
 rw [(annotate_nth ops anns k).1] at e
 by_cases hk : k < ops.length
 ·have h2 := h1 (nth ops k) (by simp [nth, hk])
  simp [e] at h2
 ·simp [nth, List.getD, hk, ei0] at e
theorem am_soundB {P : Program} {fn : Func} {n : Nat} {rs : List ERes} {Q : Ending → World → Prop} {R : Out → AHeap → Prop} (hm : P.follows .mixedOrders = true) {k : List Item} {env : Env} {H : AHeap} (h : AM P rs R k env H) :
  ∀ (m0 : MD) (hb : HB P fn n rs Q R m0) (l : List CItem) (a : Act) (w : World), IM P n m0 k l → Rel n m0 env H a w → post P (bodyPostD P fn Q) l .normal a w := by
 have pan : ∀ {R : Out → AHeap → Prop} (m0 : MD) (hb : HB P fn n rs Q R m0) (l : List CItem), PanOk n m0 (fun v H' => R (.pan v) H') (post P (bodyPostD P fn Q) l) := by
  intro R m0 hb l x m' cv a hR rh ev hv hdf hsz
  exact post_panic l _ a m'.w (hb.pan x m' cv a hR rh ev hv hdf hsz)
 induction h with
 | done hv hR =>
  intro m0 hb l a w hi hr
  simp only [IM] at hi
  subst hi
  exact hb.ret _ _ _ _ _ hv hR hr
 | ret hv hR =>
  intro m0 hb l a w hi hr
  simp only [IM] at hi
  obtain ⟨c, l', rfl, ⟨hc, hw⟩, hi⟩ := hi
  cases c <;> simp [chkC] at hc
  exact wp_ret (post_ret l' a w (hb.ret _ _ _ _ _ hv hR hr))
 | skip _ ih =>
  intro m0 hb l a w hi hr
  simp only [IM] at hi
  obtain ⟨c, l', rfl, ⟨hc, hw⟩, hi⟩ := hi
  cases c <;> simp [chkC] at hc
  exact wp_skip (ih m0 hb l' a w hi hr)
 | blkEnd _ ih =>
  intro m0 hb l a w hi hr
  simp only [IM] at hi
  obtain ⟨l', rfl, hi⟩ := hi
  exact ih m0 hb l' a w hi hr
 | seq _ ih =>
  intro m0 hb l a w hi hr
  simp only [IM] at hi
  obtain ⟨c, l', rfl, ⟨hc, hw⟩, hi⟩ := hi
  cases c <;> simp [chkC] at hc
  rename_i x y
  refine wp_seq ?_
  rw [post_then]
  exact ih m0 hb (.c x :: .c y :: l') a w (by simp only [IM]; exact ⟨_, _, rfl, ⟨hc.1, fun E hE p hp => by have := hw E hE p hp; simp only [EC.noW, Bool.and_eq_true] at this; exact this.1⟩, _, _, rfl, ⟨hc.2, fun E hE p hp => by have := hw E hE p hp; simp only [EC.noW, Bool.and_eq_true] at this; exact this.2⟩, hi⟩) hr
 | block _ ih =>
  intro m0 hb l a w hi hr
  simp only [IM] at hi
  obtain ⟨c, l', rfl, ⟨hc, hw⟩, hi⟩ := hi
  cases c <;> simp [chkC] at hc
  rename_i id x
  obtain ⟨rfl, hc⟩ := hc
  refine wp_block ?_
  rw [post_blk]
  exact ih m0 hb (.c x :: .blk id :: l') a w (by simp only [IM]; exact ⟨_, _, rfl, ⟨hc, fun E hE p hp => by have := hw E hE p hp; simpa only [EC.noW] using this⟩, _, rfl, hi⟩) hr
 | exit hk _ ih =>
  intro m0 hb l a w hi hr
  simp only [IM] at hi
  obtain ⟨c, l', rfl, ⟨hc, hw⟩, hi⟩ := hi
  cases c <;> simp [chkC] at hc
  subst hc
  obtain ⟨l2, g1, g2⟩ := post_exit (B := bodyPostD P fn Q) _ l' _ hi hk
  exact wp_exit (g2 a w (ih m0 hb l2 a w g1 hr))
 | cond hc0 _ _ ih1 ih2 =>
  intro m0 hb l a w hi hr
  simp only [IM] at hi
  obtain ⟨c, l', rfl, ⟨hc, hw⟩, hi⟩ := hi
  cases c <;> simp [chkC] at hc
  rename_i x p q
  have hx : ∀ (c : EOpd) (env : Env) (H : AHeap) (t : Bool), chkX x c = true → Rel n m0 env H a w → EOpd.ev env c = AV.bool t → a.eval x = .bool t := by
   intro c env H t h1 hr ht
   obtain ⟨m, rfl, rfl, rh, e0, he, _⟩ := hr
   have := chkX_rv he h1
   rw [ht] at this
   exact rv_bool this
  exact wp_cond_split (hx _ _ _ _ hc.1.1 hr hc0) (fun ht => ih1 ht m0 hb (.c p :: l') a w (by simp only [IM]; exact ⟨_, _, rfl, ⟨hc.1.2, fun E hE p hp => by have := hw E hE p hp; simp only [EC.noW, Bool.and_eq_true] at this; exact this.1⟩, hi⟩) hr) (fun ht => ih2 ht m0 hb (.c q :: l') a w (by simp only [IM]; exact ⟨_, _, rfl, ⟨hc.2, fun E hE p hp => by have := hw E hE p hp; simp only [EC.noW, Bool.and_eq_true] at this; exact this.2⟩, hi⟩) hr)
 | region anns K h hK ih =>
  rename_i ops draw k env H
  intro m0 hb l a w hi hr
  simp only [IM] at hi
  obtain ⟨c, l', rfl, ⟨hc, hw⟩, hi⟩ := hi
  cases c <;> simp only [chkC, Bool.false_eq_true] at hc
  rename_i id cops cdraw
  simp only [Bool.and_eq_true, beq_iff_eq] at hc
  obtain ⟨⟨rfl, hc1⟩, hc2⟩ := hc
  have hc3 := annotate_chk anns hc1
  obtain ⟨hlen, hget⟩ := chkIs_get hc3
  have hlen' : cops.size = (annotate ops anns).length := by rw [← hlen, Array.length_toList]
  have hget' : ∀ k o, cops[k]? = some o → chkI P n cops o (nth (annotate ops anns) k) = true := fun k o ho => hget k o (by simpa using ho)
  have hdm := dmf_of_dm _ h
  have hnorm : ∀ env H a w, K env H → Rel n m0 env H a w → post P (bodyPostD P fn Q) l' .normal a w := fun env H a w hk hr => ih env H hk m0 hb l' a w hi hr
  cases cdraw with
  | false =>
   refine wp_region ?_
   have := dmf_wp (Q := post P (bodyPostD P fn Q) l') hget' (noW_free anns hw) (pan m0 hb l') hnorm (List.range cops.size) (fun k hk => by simpa using hk) (by rw [hlen', range_map_nth]; exact hdm) hr
   exact this
  | true =>
   refine wp_region_any hm ?_
   have hok := annotate_okDraw (anns := anns) (by simpa using hc2)
   have hr' : Rel n m0 env H a { w with drawn := w.drawn + 1 } := by
    obtain ⟨m, rfl, rfl, rh, e0, he, hdf, hsz⟩ := hr
    exact ⟨{ m with w := m.w.drew }, rfl, rfl, rh.drew, e0.trans (Ev.drew m), fun k => Rv.ev (Ev.drew m) _ _ (he k), ⟨hdf.1, fun E hE k => Rv.ev (Ev.drew m) _ _ (hdf.2 E hE k)⟩, hsz⟩
   have hdm' := dmf_mono (K' := fun env H => ∃ env0, EnvEq env0 env ∧ K env0 H) (fun e H hk => ⟨e, fun _ => rfl, hk⟩) _ hdm
   refine draw_wp (K := fun env H => ∃ env0, EnvEq env0 env ∧ K env0 H) hlen' hok hget' (noW_free anns hw) (pan m0 hb l') (fun e e' H he ⟨e0, h1, h2⟩ => ⟨e0, fun k => (h1 k).trans (he k), h2⟩) (fun env H a w ⟨e0, h1, h2⟩ hr => hnorm e0 H a w h2 (rel_weak (fun j m v hv => by rw [h1 j]; exact hv) hr)) cops.size (List.range cops.size) _ (by simp) List.pairwise_lt_range (fun k => ?_) (by simp) ?_ (by rw [hlen', range_map_nth]; exact hdm') hr'
   ·simp only [List.mem_range]
    constructor
    ·intro hk
     exact ⟨hk, by simp [Array.getD_eq_getD_getElem?, hk]⟩
    ·exact fun h => h.1
   ·intro i o ho hl
    have hlt := (Array.getElem?_eq_some_iff.1 ho).1
    simp [Array.getD_eq_getD_getElem?, hlt] at hl
 | loop I m1 h0 h ih =>
  rename_i body k env H
  intro m0 hb l a w hi hr
  simp only [IM] at hi
  obtain ⟨c, l', rfl, ⟨hc, hw⟩, hi⟩ := hi
  cases c <;> simp [chkC] at hc
  rename_i x
  -- the least measure
  let inv : Act → World → Prop := fun a w => ∃ m' env H, I m' env H ∧ Rel n m0 env H a w
  let mu : Act → World → Nat := fun a w => Classical.epsilon fun q => (∃ env H, I q env H ∧ Rel n m0 env H a w) ∧ ∀ q', (∃ env H, I q' env H ∧ Rel n m0 env H a w) → q ≤ q'
  have hmu : ∀ a w, inv a w → (∃ env H, I (mu a w) env H ∧ Rel n m0 env H a w) ∧ ∀ q', (∃ env H, I q' env H ∧ Rel n m0 env H a w) → mu a w ≤ q' := by
   intro a w hinv
   have hex : ∃ q, (∃ env H, I q env H ∧ Rel n m0 env H a w) ∧ ∀ q', (∃ env H, I q' env H ∧ Rel n m0 env H a w) → q ≤ q' := by
    obtain ⟨q0, env, H, h1, h2⟩ := hinv
    have key : ∀ b, (∃ q, q ≤ b ∧ ∃ env H, I q env H ∧ Rel n m0 env H a w) → ∃ q, (∃ env H, I q env H ∧ Rel n m0 env H a w) ∧ ∀ q', (∃ env H, I q' env H ∧ Rel n m0 env H a w) → q ≤ q' := by
     intro b
     induction b with
     | zero => rintro ⟨q, hq, hh⟩; exact ⟨q, hh, fun q' _ => by omega⟩
     | succ b ihb =>
      rintro ⟨q, hq, hh⟩
      by_cases hlow : ∃ q, q ≤ b ∧ ∃ env H, I q env H ∧ Rel n m0 env H a w
      ·exact ihb hlow
      ·exact ⟨q, hh, fun q' hq' => by
        rcases Nat.lt_or_ge b q' with hlt | hge
        ·omega
        ·exact absurd ⟨q', hge, hq'⟩ hlow⟩
    exact key q0 ⟨q0, Nat.le_refl _, env, H, h1, h2⟩
   exact Classical.epsilon_spec hex
  refine wp_loop inv mu ⟨m1, env, H, h0, hr⟩ fun a w hinv => ?_
  obtain ⟨⟨env1, H1, g1, g2⟩, gmin⟩ := hmu a w hinv
  have := ih (mu a w) env1 H1 g1 m0 hb (.c x :: .round (fun a' w' => inv a' w' ∧ mu a' w' < mu a w) :: l') a w (by
   simp only [IM]
   refine ⟨_, _, rfl, ⟨hc, fun E hE p hp => by have := hw E hE p hp; simpa only [EC.noW] using this⟩, _, _, rfl, fun a' w' ⟨m', env', H', k1, k2, k3⟩ => ?_, hi⟩
   have hinv' : inv a' w' := ⟨m', env', H', k1, k3⟩
   exact ⟨hinv', Nat.lt_of_le_of_lt ((hmu a' w' hinv').2 m' ⟨env', H', k1, k3⟩) k2⟩) g2
  refine wp_mono this fun e a' w' hq => ?_
  cases e <;> exact hq
 | round m1 h0 h1 =>
  intro m0 hb l a w hi hr
  simp only [IM] at hi
  obtain ⟨J, l', rfl, hJ, hi⟩ := hi
  exact hJ a w ⟨m1, _, _, h0, h1, hr⟩
 | weak he _ ih =>
  intro m0 hb l a w hi hr
  exact ih m0 hb l a w hi (rel_weak he hr)
 | conv S hs _ ih =>
  intro m0 hb l a w hi hr
  obtain ⟨m, rfl, rfl, rh, e0, he, hdf, hsz⟩ := hr
  obtain ⟨env', H', L', T', s1, s2, s3, s4⟩ := hs m rfl rh
  exact ih env' H' s1 m0 hb l a _ hi ⟨⟨m.w, H', L', T'⟩, rfl, rfl, s2, e0.trans s3, fun k => s4 k _ (he k), ⟨hdf.1, fun E hE k => Rv.ev s3 _ _ (hdf.2 E hE k)⟩, hsz⟩
 | dfr R' kt hkt hk hd hc hf hidle hret hpan hnx ih =>
  rename_i R d f cap k env H
  intro m0 hb l a w hi hr
  simp only [IM] at hi
  obtain ⟨c, l', rfl, ⟨hcc, hw⟩, hi⟩ := hi
  obtain ⟨m, rfl, rfl, rh, e0, he, hdf, hsz⟩ := hr
  cases c <;> try (simp only [chkC, Bool.false_eq_true] at hcc; done)
  rename_i id ops draw
  cases draw <;> simp only [chkC, Bool.false_eq_true] at hcc
  simp only [Bool.and_eq_true] at hcc
  obtain ⟨⟨hdn, _⟩, hops⟩ := hcc
  have hdn' : d < n := by simpa [Nat.blt_eq] using hdn
  split at hops
  ·rename_i o1 o2 hol
   simp only [Bool.and_eq_true, beq_iff_eq, Option.isNone_iff_eq_none] at hops
   obtain ⟨⟨⟨⟨⟨h1, h2⟩, h3⟩, h4⟩, h5⟩, h6⟩ := hops
   split at h5
   ·rename_i g first caps ho1
    simp only [Bool.and_eq_true, decide_eq_true_eq] at h5
    obtain ⟨⟨rfl, h51⟩, h52⟩ := h5
    split at h6
    ·rename_i t args aty ho2
     simp only [Bool.and_eq_true, beq_iff_eq] at h6
     obtain ⟨rfl, h62⟩ := h6
     have hopsA : ops = #[o1, o2] := by cases ops; simp at hol; subst hol; rfl
     subst hopsA
     obtain ⟨v, hrun, hv⟩ := q_mkfn he ho1 h51 h52 (P := P) (m := m) (o := o1)
     obtain ⟨vs, rfl, hcap⟩ := rv_fn hv
     refine wp_region ?_
     have hw1 : ∀ y, Region.wanted o1 y = true := fun y => by simp [Region.wanted, h2]
     have hw2 : ∀ y, Region.wanted o2 y = true := fun y => by simp [Region.wanted, h4]
     have hargs : args = #[] := by simpa using h62
     subst hargs
     show wpOps P #[o1, o2] _ [0, 1] a m.w
     simp only [wpOps, List.getElem?_toArray, List.getElem?_cons_zero, List.getElem?_cons_succ, hw1, hw2, if_true]
     refine .inl ?_
     simp only [Oper.wp, hrun, Oper.upon]
     have hev : (a.put o1.dst (.func (.func g) #[] ⟨vs⟩)).eval (.tmp t) = .func (.func g) #[] ⟨vs⟩ := by
      rw [h1]
      simp [Act.put, Act.eval, Array.getD_eq_getD_getElem?, hsz, hdn']
     have hrun2 : (execOp (a.put o1.dst (.func (.func g) #[] ⟨vs⟩)).eval o2).run P m.w = .ok (.defer { target := .fn (.func g) ⟨vs⟩, args := #[] }) m.w := by
      simp [execOp, ho2, resolve, hev, Deferred.ofValue]
     rw [hrun2]
     refine .inl ?_
     simp only [Oper.upon]
     refine ih _ (hb_dfr hb hf e0 hcap hidle hret hpan) l' _ _ (IM.more hi (fun E hE => ?_) hc) ?_
     ·rcases List.mem_cons.1 hE with rfl | hE
      ·exact .inr hk
      ·exact .inl hE
     ·have q1 : RvE m kt a.tmps := fun k => hkt k _ _ (he k)
      refine ⟨m, rfl, rfl, rh, Ev.refl m, ?_, ⟨?_, fun E hE => ?_⟩, ?_⟩
      ·have := rve_put (dst := some t) he (Ev.refl m) hv hsz (by simpa using hdn')
       rw [h1, h3]
       exact this
      ·rw [h1, h3]
       simp [Act.put, hdf.1]
      ·rw [h1, h3]
       rcases List.mem_cons.1 hE with rfl | hE
       ·exact rve_kept (dst := some t) (v := .func (.func g) #[] ⟨vs⟩) q1 (Ev.refl m) (fun p hp e => hd p hp (by simpa using e))
       ·exact rve_kept (dst := some t) (v := .func (.func g) #[] ⟨vs⟩) (hdf.2 E hE) (Ev.refl m) (fun p hp e => by have := hw E hE p hp; simp only [EC.noW] at this; simp at e; simp [e] at this)
      ·rw [h1, h3]
       simp [Act.put, hsz]
    ·cases h6
   ·cases h5
  ·cases hops
theorem am_sound {P : Program} {fn : Func} {n : Nat} {m0 : Mem} {rs : List ERes} {R : Out → AHeap → Prop} (hm : P.follows .mixedOrders = true) (hres : chkR P fn.results.toList rs = true) {k : List Item} {env : Env} {H : AHeap} (h : AM P rs R k env H)
  (l : List CItem) (a : Act) (w : World) (hi : IM P n ⟨m0, [], []⟩ k l) (hr : Rel n ⟨m0, [], []⟩ env H a w) : post P (bodyPostD P fn (RQ m0 R)) l .normal a w :=
 am_soundB hm h _ (hb_base hres) l a w hi hr
end Go.Aw
namespace Go.Aw
open Go
set_option linter.unusedVariables false
set_option linter.unusedSimpArgs false
def initFrom : Nat → List AV → Env
 | _, [] => []
 | k, a :: az => (k, a) :: initFrom (k + 1) az
abbrev initEnv (args : List AV) : Env := initFrom 0 args
theorem initFrom_get : ∀ (args : List AV) (k j : Nat), (initFrom k args).get j = if k ≤ j then args.getD (j - k) .top else .top
 | [], k, j => by simp [initFrom, Env.get]
 | a :: az, k, j => by
  simp only [initFrom, Env.get]
  by_cases h : k = j
  ·subst h
   simp
  ·have : (k == j) = false := by simpa using h
   rw [this, cond_false, initFrom_get az (k + 1) j]
   by_cases h1 : k + 1 ≤ j
   ·have h2 : k ≤ j := by omega
    rw [if_pos h1, if_pos h2, show j - k = (j - (k + 1)) + 1 by omega]
    simp
   ·rw [if_neg h1, if_neg (by omega)]
theorem initEnv_rv {m : Mem} {args : List AV} {vs : List Value} {n : Nat} (h : RvL m args vs) : RvE m (initEnv args) (⟨vs⟩ ++ Array.replicate n undef) := by
 intro k
 rw [initFrom_get]
 simp only [Nat.zero_le, if_true, Nat.sub_zero]
 by_cases hk : k < args.length
 ·obtain ⟨v, e1, e2⟩ := RvL.get h k args[k] (List.getElem?_eq_getElem hk)
  have e3 : (⟨vs⟩ ++ Array.replicate n undef : Array Value).getD k undef = v := by
   have hl : k < vs.length := by rw [RvL.length h]; exact hk
   have e1' : vs[k] = v := by rw [List.getElem?_eq_getElem hl] at e1; simpa using e1
   have : k < (⟨vs⟩ : Array Value).size := hl
   simp only [Array.getD_eq_getD_getElem?, Array.getElem?_append, this, if_true]
   simp [hl, e1']
  rw [e3]
  simpa [List.getD, hk] using e2
 ·have : args.getD k .top = .top := by simp [List.getD, hk]
  rw [this]
  simp only [Rv]
theorem acalls_of {P : Program} {f : FuncId} {fn : Func} {args : List AV} {e : EC} {rs : List ERes} {H : AHeap} {R : Out → AHeap → Prop} (hm : P.follows .mixedOrders = true) (hf : P.funcs[f]? = some fn) (hc : chkF P fn args.length e rs = true) (h : AM P rs R [.c e] (initEnv args) H) : ACalls P f args H R := by
 intro m vs hH rh hv
 simp only [chkF, Bool.and_eq_true] at hc
 obtain ⟨⟨hn, hr⟩, hb⟩ := hc
 cases hbody : fn.body with
 | none => rw [hbody] at hb; cases hb
 | some c =>
  rw [hbody] at hb
  refine calls_of_wp_defers hf hbody ?_
  have hlen := RvL.length hv
  have hn' : args.length ≤ fn.ntmps := Nat.le_of_ble_eq_true hn
  have := am_sound (fn := fn) (n := fn.ntmps) (m0 := m) hm hr h [.c c] { tmps := ⟨vs⟩ ++ Array.replicate (fn.ntmps - (⟨vs⟩ : Array Value).size) undef, defers := [] } m.w (by simp only [IM]; exact ⟨c, [], rfl, ⟨hb, by simp⟩, rfl⟩) ⟨m, rfl, hH, rh, Ev.refl m, initEnv_rv hv, ⟨rfl, by simp⟩, by simp [hlen]; omega⟩
  simp only [post] at this
  refine this
structure HSub (H H' : AHeap) : Prop where
 blk : ∀ b x, H.blk b = some x → H'.blk b = some x
 tok : ∀ t x, H.tok t = some x → H'.tok t = some x
theorem HSub.refl (H : AHeap) : HSub H H := ⟨fun _ _ h => h, fun _ _ h => h⟩
theorem HSub.trans {a b c : AHeap} (h : HSub a b) (k : HSub b c) : HSub a c := ⟨fun x y e => k.blk x y (h.blk x y e), fun x y e => k.tok x y (h.tok x y e)⟩
theorem HSub.setB {H H' : AHeap} {b : Nat} {T : TypeId} {cs : List AV} (h : HSub H H') (hb : H.blk b = none) : HSub H (H'.setB b T cs) :=
 ⟨fun x y e => by simp only [AHeap.setB]; rw [if_neg (by intro hh; subst hh; rw [hb] at e; cases e)]; exact h.blk x y e, fun x y e => h.tok x y e⟩
theorem HSub.setT {H H' : AHeap} {t : Nat} {o : Own} (h : HSub H H') (hb : H.tok t = none) : HSub H (H'.setT t o) :=
 ⟨fun x y e => h.blk x y e, fun x y e => by simp only [AHeap.setT]; rw [if_neg (by intro hh; subst hh; rw [hb] at e; cases e)]; exact h.tok x y e⟩
theorem HSub.none_blk {H H' : AHeap} (h : HSub H H') {b : Nat} (hb : H'.blk b = none) : H.blk b = none := by
 cases e : H.blk b with
 | none => rfl
 | some x => rw [h.blk b x e] at hb; cases hb
theorem HSub.none_tok {H H' : AHeap} (h : HSub H H') {b : Nat} (hb : H'.tok b = none) : H.tok b = none := by
 cases e : H.tok b with
 | none => rfl
 | some x => rw [h.tok b x e] at hb; cases hb
section
variable {w : World} {H H' : AHeap} {L : Nat → Value} {T : Nat}
theorem St.forget (hh : HSub H H') {b o : Nat} (h : St ⟨w, H', L, T⟩ b o) : St ⟨w, H, L, T⟩ b o :=
 ⟨h.lt, hh.none_blk h.blk, fun t i hi hb => h.tok t i (hh.tok t i hi) hb⟩
mutual
theorem Rv.forget (hh : HSub H H') : ∀ (a : AV) (v : Value), Rv ⟨w, H', L, T⟩ a v → Rv ⟨w, H, L, T⟩ a v
 | .top, _, _ => by simp only [Rv]
 | .bool _, _, h => by simp only [Rv] at *; exact h
 | .int _ _, _, h => by simp only [Rv] at *; exact h
 | .str _, _, h => by simp only [Rv] at *; exact h
 | .raw _, _, h => by simp only [Rv] at *; exact h
 | .ptr _ _, _, h => by simp only [Rv] at *; exact h
 | .agg cs, _, h => by simp only [Rv] at *; obtain ⟨l, e1, e2⟩ := h; exact ⟨l, e1, RvL.forget hh cs l e2⟩
 | .tup cs, _, h => by simp only [Rv] at *; obtain ⟨l, e1, e2⟩ := h; exact ⟨l, e1, RvL.forget hh cs l e2⟩
 | .vs size rows, _, h => by
  simp only [Rv] at *
  obtain ⟨a, len, cap, h1, h2, h3, h4⟩ := h
  exact ⟨a, len, cap, h1, h2, h3, h4.imp id fun ⟨b, o, g1, g2⟩ => ⟨b, o, g1, RvR.forget hh size rows b o g2⟩⟩
 | .own t size rows, _, h => by
  simp only [Rv] at *
  obtain ⟨⟨a, len, cap, h1, h2, h3, h4⟩, h5, h6⟩ := h
  exact ⟨⟨a, len, cap, h1, h2, h3, h4.imp id fun ⟨b, o, g1, g2⟩ => ⟨b, o, g1, RvR.forget hh size rows b o g2⟩⟩, h5, fun i hi => h6 i (hh.tok t i hi)⟩
 | .ms t ver, _, h => by
  simp only [Rv] at *
  obtain ⟨h0, h5, h6⟩ := h
  exact ⟨h0, h5, fun i hi => h6 i (hh.tok t i hi)⟩
 | .mp t ver k, _, h => by
  simp only [Rv] at *
  obtain ⟨h0, h5, h6⟩ := h
  exact ⟨h0, h5, fun i hi => h6 i (hh.tok t i hi)⟩
 | .rp row off, _, h => by
  simp only [Rv] at *
  obtain ⟨b, o, h1, h2⟩ := h
  exact ⟨b, o, h1, RvC.forget hh row b o h2⟩
 | .fn f cs, _, h => by simp only [Rv] at *; obtain ⟨l, e1, e2⟩ := h; exact ⟨l, e1, RvL.forget hh cs l e2⟩
 | .ifc t a, _, h => by simp only [Rv] at *; obtain ⟨x, e1, e2⟩ := h; exact ⟨x, e1, Rv.forget hh a x e2⟩
theorem RvL.forget (hh : HSub H H') : ∀ (az : List AV) (l : List Value), RvL ⟨w, H', L, T⟩ az l → RvL ⟨w, H, L, T⟩ az l
 | [], _, h => by simp only [RvL] at *; exact h
 | a :: az, _, h => by simp only [RvL] at *; obtain ⟨v, vs, h1, h2, h3⟩ := h; exact ⟨v, vs, h1, Rv.forget hh a v h2, RvL.forget hh az vs h3⟩
theorem RvC.forget (hh : HSub H H') : ∀ (az : List AV) (b o : Nat), RvC ⟨w, H', L, T⟩ az b o → RvC ⟨w, H, L, T⟩ az b o
 | [], _, _, _ => by simp only [RvC]
 | a :: az, b, o, h => by
  simp only [RvC] at *
  obtain ⟨⟨v, h1, h1', h2, h3⟩, h4⟩ := h
  exact ⟨⟨v, h1, h1', St.forget hh h2, Rv.forget hh a v h3⟩, RvC.forget hh az b (o + 1) h4⟩
theorem RvR.forget (hh : HSub H H') (size : Nat) : ∀ (rs : List (List AV)) (b o : Nat), RvR ⟨w, H', L, T⟩ size rs b o → RvR ⟨w, H, L, T⟩ size rs b o
 | [], _, _, _ => by simp only [RvR]
 | r :: rs, b, o, h => by
  simp only [RvR] at *
  exact ⟨h.1, RvC.forget hh r b o h.2.1, RvR.forget hh size rs b (o + size) h.2.2⟩
end
theorem RH.forget (hh : HSub H H') (h : RH ⟨w, H', L, T⟩) : RH ⟨w, H, L, T⟩ where
 blk := fun b Ty cs hb => by
  obtain ⟨l, e1, e2, e3⟩ := h.blk b Ty cs (hh.blk b _ hb)
  exact ⟨l, e1, RvL.forget hh _ _ e2, e3⟩
 tok := fun t i hi => by
  obtain ⟨e1, e2, e3, e4⟩ := h.tok t i (hh.tok t i hi)
  obtain ⟨xs, x1, x2⟩ := e3
  refine ⟨e1, e2, ⟨xs, x1, fun rows hr => ⟨RvL.forget hh _ _ (x2 rows hr).1, (x2 rows hr).2⟩⟩, fun b hb => ?_⟩
  obtain ⟨f1, f2⟩ := e4 b hb
  exact ⟨hh.none_blk f1, fun t' i' hi' => f2 t' i' (hh.tok t' i' hi')⟩
theorem Ev.forget (hh : HSub H H') {m : Mem} (h : Ev m ⟨w, H', L, T⟩) : Ev m ⟨w, H, L, T⟩ where
 os := h.os
 tape := h.tape
 output := h.output
 size := h.size
 T := h.T
 block := fun b h1 h2 h3 => by
  obtain ⟨e1, e2, e3⟩ := h.block b h1 h2 h3
  exact ⟨e1, hh.none_blk e2, fun t i hi => e3 t i (hh.tok t i hi)⟩
 cell := fun b o hs => by
  obtain ⟨e1, e2⟩ := h.cell b o hs
  exact ⟨St.forget hh e1, e2⟩
 tok := fun t i' ht hi => h.tok t i' ht (hh.tok t i' hi)
end
def OutLe : Out → Out → Prop
 | .ret a, .ret b => AVLe a b
 | .pan a, .pan b => AVLe a b
 | _, _ => False
theorem AVLe.refl (a : AV) : AVLe a a := fun _ _ h => h
theorem AVLe.trans {a b c : AV} (h : AVLe a b) (k : AVLe b c) : AVLe a c := fun m v x => k m v (h m v x)
theorem ACalls.mono {P : Program} {f : FuncId} {args : List AV} {H : AHeap} {R R' : Out → AHeap → Prop} (h : ACalls P f args H R) (hr : ∀ o H', R o H' → ∃ o2 H2, OutLe o o2 ∧ HSub H2 H' ∧ R' o2 H2) : ACalls P f args H R' := by
 intro m vs hH rh hv cs
 obtain ⟨e, w', az, ⟨o, H', L', T', g1, g2, g3, g4⟩, rest⟩ := h m vs hH rh hv cs
 obtain ⟨o2, H2, k1, k2, k3⟩ := hr o H' g4
 refine ⟨e, w', az, ⟨o2, H2, L', T', RH.forget k2 g1, Ev.forget k2 g2, ?_, k3⟩, rest⟩
 cases o <;> cases o2 <;> simp only [OutLe] at k1 <;> try exact k1.elim
 ·simp only [RvOut] at g3 ⊢
  obtain ⟨v, e1, e2⟩ := g3
  exact ⟨v, e1, Rv.forget k2 _ _ (k1 _ _ e2)⟩
 ·simp only [RvOut] at g3 ⊢
  obtain ⟨v, e1, e2⟩ := g3
  exact ⟨v, e1, Rv.forget k2 _ _ (k1 _ _ e2)⟩
theorem ACalls.pure {P : Program} {f : FuncId} {args : List AV} {r : AV} (h : ∀ H, ACalls P f args H fun o H' => ∃ a, o = .ret a ∧ AVLe a r ∧ HSub H H') : Pure P f args r := fun H =>
 (h H).mono fun o H' ⟨a, e, h1, h2⟩ => ⟨.ret r, H, by subst e; exact h1, h2, rfl, rfl⟩
theorem pure_intro {P : Program} {f : FuncId} {fn : Func} {args : List AV} {e : EC} {rs : List ERes} {r : AV} (hm : P.follows .mixedOrders = true) (hf : P.funcs[f]? = some fn) (hc : chkF P fn args.length e rs = true) (h : ∀ H, AM P rs (fun o H' => ∃ a, o = .ret a ∧ AVLe a r ∧ HSub H H') [.c e] (initEnv args) H) : Pure P f args r :=
 ACalls.pure fun H => acalls_of hm hf hc (h H)
end Go.Aw
namespace Go.Aw
open Go
set_option linter.unusedVariables false
variable {P : Program} {rs : List ERes} {R : Out → AHeap → Prop}
def EnvLe (env : Env) : Env → Prop
 | [] => True
 | (k, v) :: E => AVLe (env.get k) v ∧ EnvLe env E
theorem AVLe.top (a : AV) : AVLe a .top := fun _ _ _ => by simp only [Rv]
theorem EnvLe.get {env : Env} : ∀ {E : Env}, EnvLe env E → ∀ j, AVLe (env.get j) (E.get j)
 | [], _, j => AVLe.top _
 | (k, v) :: E, h, j => by
  simp only [Env.get]
  by_cases e : k = j
  ·subst e; simpa using h.1
  ·have : (k == j) = false := by simpa using e
   rw [this, cond_false]
   exact EnvLe.get h.2 j
theorem envle_nil (env : Env) : EnvLe env [] := trivial
theorem envle_cons {env : Env} {k : Nat} {v : AV} {E : Env} (h : AVLe (env.get k) v) (t : EnvLe env E) : EnvLe env ((k, v) :: E) := ⟨h, t⟩
theorem AM.weakE {k env H} (E : Env) (he : EnvLe env E) (h : AM P rs R k E H) : AM P rs R k env H := AM.weak he.get h
def LI {X : Type} (E : X → Env) (HI : X → AHeap → Prop) (mu : X → Nat) (m : Nat) (env : Env) (H : AHeap) : Prop := ∃ x, mu x = m ∧ HI x H ∧ EnvLe env (E x)
theorem AM.loopX {X : Type} {body k env H} (x0 : X) (E : X → Env) (HI : X → AHeap → Prop) (mu : X → Nat) (h0 : HI x0 H) (he : EnvLe env (E x0))
  (h : ∀ x H', HI x H' → AM P rs R (.c body :: .round (LI E HI mu) (mu x) :: k) (E x) H') : AM P rs R (.c (.loop body) :: k) env H :=
 AM.loop (LI E HI mu) (mu x0) ⟨x0, rfl, h0, he⟩ fun m' env' H' ⟨x, e, hi, le⟩ => by
  subst e
  exact AM.weakE _ le (h x H' hi)
theorem AM.roundX {X : Type} {E : X → Env} {HI : X → AHeap → Prop} {mu : X → Nat} {m0 : Nat} {k env H} (x : X) (h0 : HI x H) (he : EnvLe env (E x)) (hm : mu x < m0) : AM P rs R (.round (LI E HI mu) m0 :: k) env H :=
 AM.round (mu x) ⟨x, rfl, h0, he⟩ hm
theorem DM.pc {f args env H l K Rp d} (az : List AV) (r : AV) (hp : Pure P f az r) (ha : AVLes (args.map (EOpd.ev env)) az) (h : DM P l (env.put d r) H K Rp) : DM P (⟨d, none, .call f args⟩ :: l) env H K Rp :=
 DM.de (.det r) rfl (.pcall ha hp) fun _ _ => h
theorem DM.pcR {f args env H l K Rp d} {r : AV} (az : List AV) (hp : Pure P f az r) (ha : AVLes (args.map (EOpd.ev env)) az) (h : DM P l (env.put d r) H K Rp) : DM P (⟨d, none, .pcallR f args r⟩ :: l) env H K Rp :=
 DM.de (.det r) rfl (.pcall' ha hp) fun _ _ => h
theorem DM.idxS {x i env H l K Rp d} (s : List UInt8) (k : IntKind) (n : Int) (c : UInt8) (hx : x.ev env = .str s) (hi : i.ev env = .int k n) (h0 : 0 ≤ n) (hc : s[n.toNat]? = some c) (h : DM P l (env.put d (.int .u8 c.toNat)) H K Rp) : DM P (⟨d, none, .idxS x i⟩ :: l) env H K Rp :=
 DM.de (.det _) rfl (.idxS hx hi h0 hc) fun _ _ => h
theorem DM.gd {d j t op l env H K Rp} {b : Bool} (hb : env.get j = .bool b) (h : b = t → DM P (⟨d, none, op⟩ :: l) env H K Rp) (h' : b = (!t) → DM P l (env.put d .undef) H K Rp) : DM P (⟨d, some (j, t), op⟩ :: l) env H K Rp := by
 by_cases e : b = t
 ·have := h e
  simp only [DM, wanted] at this ⊢
  rw [hb]
  subst e
  simpa using this
 ·refine DM.skip ?_ (h' (by cases b <;> cases t <;> simp_all))
  simp only [wanted, hb]
  cases b <;> cases t <;> simp_all
theorem DM.gt {d j t op l env H K Rp} (hb : env.get j = .bool t) (h : DM P (⟨d, none, op⟩ :: l) env H K Rp) : DM P (⟨d, some (j, t), op⟩ :: l) env H K Rp :=
 DM.gd hb (fun _ => h) (fun e => by cases t <;> simp at e)
theorem avles_nil : AVLes [] [] := rfl
theorem avles_cons {a b : AV} {az bs : List AV} (h : AVLe a b) (t : AVLes az bs) : AVLes (a :: az) (b :: bs) := ⟨b, bs, rfl, h, t⟩
theorem AVLes.refl : ∀ (az : List AV), AVLes az az
 | [] => rfl
 | a :: az => avles_cons (AVLe.refl a) (AVLes.refl az)
theorem AVLe.own {t size rows} : AVLe (.own t size rows) (.vs size rows) := fun _ _ h => rv_own h
theorem AVLe.nil {size : Nat} : AVLe .nilS (.vs size []) := fun m v h => by
 simp only [Rv] at h ⊢
 subst h
 exact ⟨none, 0, 0, rfl, rfl, ⟨Nat.le_refl _, by unfold maxLen; omega⟩, .inl rfl⟩
theorem avle_agg {az bs : List AV} (h : AVLes az bs) : AVLe (.agg az) (.agg bs) := by
 intro m v hv
 simp only [Rv] at hv ⊢
 obtain ⟨l, e, hl⟩ := hv
 refine ⟨l, e, ?_⟩
 clear e
 induction az generalizing bs l with
 | nil => simp only [AVLes] at h; subst h; exact hl
 | cons a az ih =>
  simp only [AVLes] at h
  obtain ⟨b, bs', rfl, h1, h2⟩ := h
  simp only [RvL] at hl ⊢
  obtain ⟨x, xs, rfl, g1, g2⟩ := hl
  exact ⟨x, xs, rfl, h1 _ _ g1, ih h2 _ g2⟩
theorem avle_tup {az bs : List AV} (h : AVLes az bs) : AVLe (.tup az) (.tup bs) := by
 intro m v hv
 simp only [Rv] at hv ⊢
 obtain ⟨l, e, hl⟩ := hv
 have := avle_agg h m (.agg ⟨l⟩) (by simp only [Rv]; exact ⟨l, rfl, hl⟩)
 simp only [Rv] at this
 obtain ⟨l', e', h'⟩ := this
 simp at e'
 subst e'
 exact ⟨l, e, h'⟩
theorem AM.congr {k e e' H} (h : EnvEq e e') (ha : AM P rs R k e H) : AM P rs R k e' H := AM.weak (fun j => by rw [h j]; exact AVLe.refl _) ha
theorem env_same {env : Env} {j : Nat} {v : AV} (h : env.get j = v) : EnvEq ((j, v) :: env) env := fun k => by
 simp only [Env.get]
 by_cases e : j = k
 ·subst e; simp [h]
 ·have : (j == k) = false := by simpa using e
  rw [this, cond_false]
theorem DM.gb {d : Option Nat} {j : Nat} {t : Bool} {op : EOp} {l : List EI} {env : Env} {H : AHeap} {k : List Item} {Rp : AV → AHeap → Prop} {b : Bool} (hb : env.get j = .bool b) (h : b = t → DM P (⟨d, none, op⟩ :: l) ((j, .bool t) :: env) H (fun e H' => AM P rs R k e H') Rp) (h' : b = (!t) → DM P l (Env.put ((j, .bool (!t)) :: env) d .undef) H (fun e H' => AM P rs R k e H') Rp) : DM P (⟨d, some (j, t), op⟩ :: l) env H (fun e H' => AM P rs R k e H') Rp := by
 refine DM.gd hb (fun e => ?_) (fun e => ?_)
 ·subst e
  exact dm_congr (K := fun e H' => AM P rs R k e H') (fun _ _ _ he hk => AM.congr he hk) _ (env_same hb) (h rfl)
 ·subst e
  exact dm_congr (K := fun e H' => AM P rs R k e H') (fun _ _ _ he hk => AM.congr he hk) _ (put_get_eq (env_same hb) _ _) (h' rfl)
theorem AM.condT {c : EOpd} {a b : EC} {k : List Item} {env : Env} {H : AHeap} (hc : c.ev env = .bool true) (h : AM P rs R (.c a :: k) env H) : AM P rs R (.c (.cond c a b) :: k) env H := AM.cond hc (fun _ => h) (fun e => by cases e)
theorem AM.condF {c : EOpd} {a b : EC} {k : List Item} {env : Env} {H : AHeap} (hc : c.ev env = .bool false) (h : AM P rs R (.c b :: k) env H) : AM P rs R (.c (.cond c a b) :: k) env H := AM.cond hc (fun e => by cases e) (fun _ => h)
section
variable {d : Nat} {d? : Option Nat} {j : Nat} {t t' : Bool} {op : EOp} {l : List EI} {env : Env} {H : AHeap} {K : Env → AHeap → Prop} {Rp : AV → AHeap → Prop} {v : AV}
theorem DM.p (hv : peval op env H = some v) (h : DM P l ((d, v) :: env) H K Rp) : DM P (⟨some d, none, op⟩ :: l) env H K Rp := DM.pv rfl hv h
theorem DM.p0 (hv : peval op env H = some v) (h : DM P l env H K Rp) : DM P (⟨none, none, op⟩ :: l) env H K Rp := DM.pv rfl hv h
theorem DM.g1 (hb : env.get j = .bool t) (h : DM P (⟨d?, none, op⟩ :: l) env H K Rp) : DM P (⟨d?, some (j, t), op⟩ :: l) env H K Rp := DM.gt hb h
theorem DM.g0 (hb : env.get j = .bool t') (ht : (t' == t) = false) (h : DM P l (env.put d? .undef) H K Rp) : DM P (⟨d?, some (j, t), op⟩ :: l) env H K Rp :=
 DM.skip (by simp only [wanted, hb]; rw [ht]) h
end
theorem DM.gbT {d : Nat} {j : Nat} {op : EOp} {l : List EI} {env : Env} {H : AHeap} {k : List Item} {Rp : AV → AHeap → Prop} {b : Bool} (hb : env.get j = .bool b) (h : b = true → DM P (⟨some d, none, op⟩ :: l) ((j, .bool true) :: env) H (fun e H' => AM P rs R k e H') Rp) (h' : b = false → DM P l ((d, .undef) :: (j, .bool false) :: env) H (fun e H' => AM P rs R k e H') Rp) : DM P (⟨some d, some (j, true), op⟩ :: l) env H (fun e H' => AM P rs R k e H') Rp := DM.gb hb h h'
theorem DM.gbF {d : Nat} {j : Nat} {op : EOp} {l : List EI} {env : Env} {H : AHeap} {k : List Item} {Rp : AV → AHeap → Prop} {b : Bool} (hb : env.get j = .bool b) (h : b = false → DM P (⟨some d, none, op⟩ :: l) ((j, .bool false) :: env) H (fun e H' => AM P rs R k e H') Rp) (h' : b = true → DM P l ((d, .undef) :: (j, .bool true) :: env) H (fun e H' => AM P rs R k e H') Rp) : DM P (⟨some d, some (j, false), op⟩ :: l) env H (fun e H' => AM P rs R k e H') Rp := DM.gb hb h h'
theorem avle_eq {a b : AV} (h : a = b) : AVLe a b := h ▸ AVLe.refl a
section
variable {d : Nat} {d? : Option Nat} {j : Nat} {op : EOp} {l : List EI} {env : Env} {H : AHeap} {K : Env → AHeap → Prop} {Rp : AV → AHeap → Prop} {v : AV} {f : FuncId} {args : List EOpd} {az az' : List AV} {r : AV}
theorem DM.pcs (hp : Pure P f az r) (hm : args.map (EOpd.ev env) = az') (ha : AVLes az' az) (h : DM P l ((d, r) :: env) H K Rp) : DM P (⟨some d, none, .call f args⟩ :: l) env H K Rp :=
 DM.pc az r hp (hm ▸ ha) h
theorem DM.idxSs {x i : EOpd} (s : List UInt8) (k : IntKind) (n : Int) (c : UInt8) (h0 : 0 ≤ n) (hc : s[n.toNat]? = some c) (hx : x.ev env = .str s) (hi : i.ev env = .int k n) (h : DM P l ((d, .int .u8 c.toNat) :: env) H K Rp) : DM P (⟨some d, none, .idxS x i⟩ :: l) env H K Rp :=
 DM.idxS s k n c hx hi h0 hc h
end
theorem put_some {env : Env} {d : Nat} {v : AV} : env.put (some d) v = (d, v) :: env := rfl
theorem avle_int {k : IntKind} {a b : Int} (h : a = b) : AVLe (.int k a) (.int k b) := avle_eq (by rw [h])
theorem wrap64 {n : Int} (h0 : -9223372036854775808 ≤ n) (h1 : n ≤ 9223372036854775807) : IntKind.i64.wrap n = n := by
 simp only [IntKind.wrap, IntKind.bits, IntKind.signed]
 simp
 omega
variable {P : Program} {rs : List ERes} {R : Out → AHeap → Prop}
theorem list_set_same {α : Type} : ∀ {l : List α} {o : Nat} {v : α}, l[o]? = some v → l.set o v = l
 | [], _, _, h => by simp at h
 | x :: l, 0, v, h => by simp at h; simp [h]
 | x :: l, o + 1, v, h => by simp at h; simp [list_set_same h]
theorem AM.ghostB {k env H} (b o : Nat) (Te size : Nat) {T : TypeId} {cs : List AV} (h0 : size ≠ 0) (hb : H.blk b = some (T, cs)) (ho : cs[o]? = some .nilS)
  (h : ∀ t, H.tok t = none → AM P rs R k env ((H.setT t (.mu Te size 0 [])).setB b T (cs.set o (.ms t 0)))) : AM P rs R k env H := by
 refine AM.conv (fun env' H' => ∃ t, H.tok t = none ∧ env' = env ∧ H' = (H.setT t (.mu Te size 0 [])).setB b T (cs.set o (.ms t 0))) ?_ ?_
 ·intro m hH rh
  subst hH
  obtain ⟨r1, e1, v1⟩ := new_ms_nil rh (T := Te) h0
  obtain ⟨l, hl1, hl2, hl3⟩ := r1.blk b T cs hb
  obtain ⟨v, hv1, hv2⟩ := hl2.get o _ ho
  simp only [Rv] at hv2
  subst hv2
  have hl4 := hl2.set o v1
  rw [list_set_same hv1] at hl4
  have r2 := RH.st r1 (w' := m.w) (b := b) (T := T) hb rfl rfl rfl rfl (fun _ _ => rfl) hl1 hl4 hl3
  have e2 := Ev.st r1 (w' := m.w) (b := b) (T := T) (cs := cs.set o (.ms m.T 0)) hb rfl rfl rfl rfl (fun _ _ => rfl)
  exact ⟨env, _, _, _, ⟨m.T, tok_new rh, rfl, rfl⟩, r2, e1.trans e2, fun j v hv => Rv.ev (e1.trans e2) _ _ hv⟩
 ·rintro env' H' ⟨t, h1, rfl, rfl⟩
  exact h t h1
def Frz (H H2 : AHeap) (a a2 : AV) : Prop := ∀ m : Mem, m.H = H → RH m → ∀ v, Rv m a v → Rv ⟨m.w, H2, m.L, m.T⟩ a2 v
def FrzL (H H2 : AHeap) (a a2 : List AV) : Prop := ∀ m : Mem, m.H = H → RH m → ∀ v, RvL m a v → RvL ⟨m.w, H2, m.L, m.T⟩ a2 v
theorem Frz.same {H H2 : AHeap} {a : AV} (hh : HSub H2 H) : Frz H H2 a a := by
 rintro m rfl rh v h
 exact Rv.forget (w := m.w) (L := m.L) (T := m.T) hh a v h
theorem Frz.le {H H2 : AHeap} {a b : AV} (hh : HSub H2 H) (hl : AVLe a b) : Frz H H2 a b := by
 rintro m rfl rh v h
 exact Rv.forget (w := m.w) (L := m.L) (T := m.T) hh b v (hl _ _ h)
theorem FrzL.nil {H H2 : AHeap} : FrzL H H2 [] [] := fun m _ _ v h => by simp only [RvL] at *; exact h
theorem FrzL.cons {H H2 : AHeap} {a b : AV} {az bs : List AV} (h : Frz H H2 a b) (t : FrzL H H2 az bs) : FrzL H H2 (a :: az) (b :: bs) := fun m e r v hv => by
 simp only [RvL] at *
 obtain ⟨x, xs, rfl, h1, h2⟩ := hv
 exact ⟨x, xs, rfl, h m e r _ h1, t m e r _ h2⟩
theorem Frz.agg {H H2 : AHeap} {az bs : List AV} (h : FrzL H H2 az bs) : Frz H H2 (.agg az) (.agg bs) := fun m e r v hv => by
 simp only [Rv] at *
 obtain ⟨l, rfl, h1⟩ := hv
 exact ⟨l, rfl, h m e r _ h1⟩
theorem Frz.tup {H H2 : AHeap} {az bs : List AV} (h : FrzL H H2 az bs) : Frz H H2 (.tup az) (.tup bs) := fun m e r v hv => by
 simp only [Rv] at *
 obtain ⟨l, rfl, h1⟩ := hv
 exact ⟨l, rfl, h m e r _ h1⟩
theorem Frz.ms {H H2 : AHeap} {t ver T size : Nat} {rows : List (List AV)} (hh : HSub H2 H) (ht : H.tok t = some (.mu T size ver rows)) (ht2 : H2.tok t = none) : Frz H H2 (.ms t ver) (.vs size rows) := by
 rintro m rfl rh v h
 obtain ⟨hL, h0, hs, hc⟩ := ms_get rh ht h
 simp only [Rv]
 rcases hc with ⟨rfl, rfl⟩ | ⟨g, cap, cur, rfl, hg, h1, h2, h3, h4, h5⟩
 ·exact ⟨none, 0, 0, rfl, rfl, ⟨Nat.le_refl _, by unfold maxLen; omega⟩, .inl rfl⟩
 ·obtain ⟨k1, k2, k3, k4⟩ := rh.tok t _ ht
  obtain ⟨q1, q2⟩ := k4 g (by rw [hL]; rfl)
  have hlt : g < m.w.heap.size := (Array.getElem?_eq_some_iff.1 hg).1
  refine ⟨some ⟨g, 0, none⟩, rows.length, cap, rfl, rfl, ⟨h1, h2⟩, .inr ⟨g, 0, rfl, RvR.of hs (RvL.forget (w := m.w) (L := m.L) (T := m.T) hh _ _ h4) fun j v hj => ⟨?_, h5 v (List.mem_of_getElem? hj), ⟨hlt, hh.none_blk q1, fun t' i' ht' hb' => ?_⟩⟩⟩⟩
  ·rw [Nat.zero_add, cell_of_row m.w g j cur T (0, 0) hg]
   have := hj
   rw [List.getElem?_take] at this
   split at this
   ·simpa using this
   ·cases this
  ·have := q2 t' i' (hh.tok t' i' ht') hb'
   subst this
   rw [ht2] at ht'
   cases ht'
def OutFrz (H H2 : AHeap) : Out → Out → Prop
 | .ret a, .ret b => Frz H H2 a b
 | .pan a, .pan b => Frz H H2 a b
 | _, _ => False
theorem ACalls.frz {f : FuncId} {args : List AV} {H : AHeap} {R R' : Out → AHeap → Prop} (h : ACalls P f args H R) (hr : ∀ o H', R o H' → ∃ o2 H2, OutFrz H' H2 o o2 ∧ HSub H2 H' ∧ R' o2 H2) : ACalls P f args H R' := by
 intro m vs hH rh hv cs
 obtain ⟨e, w', az, ⟨o, H', L', T', g1, g2, g3, g4⟩, rest⟩ := h m vs hH rh hv cs
 obtain ⟨o2, H2, k1, k2, k3⟩ := hr o H' g4
 refine ⟨e, w', az, ⟨o2, H2, L', T', RH.forget k2 g1, Ev.forget k2 g2, ?_, k3⟩, rest⟩
 cases o <;> cases o2 <;> simp only [OutFrz] at k1 <;> try exact k1.elim
 ·simp only [RvOut] at g3 ⊢
  obtain ⟨v, e1, e2⟩ := g3
  exact ⟨v, e1, k1 ⟨w', H', L', T'⟩ rfl g1 v e2⟩
 ·simp only [RvOut] at g3 ⊢
  obtain ⟨v, e1, e2⟩ := g3
  exact ⟨v, e1, k1 ⟨w', H', L', T'⟩ rfl g1 v e2⟩
theorem pure_introF {f : FuncId} {fn : Func} {args : List AV} {e : EC} {rs : List ERes} {r : AV} (hm : P.follows .mixedOrders = true) (hf : P.funcs[f]? = some fn) (hc : chkF P fn args.length e rs = true) (h : ∀ H, AM P rs (fun o H' => ∃ a, o = .ret a ∧ HSub H H' ∧ Frz H' H a r) [.c e] (initEnv args) H) : Pure P f args r :=
 fun H => (acalls_of hm hf hc (h H)).frz fun o H' ⟨a, e, h1, h2⟩ => ⟨.ret r, H, by subst e; exact h2, h1, rfl, rfl⟩
variable {P : Program} {rs : List ERes} {R : Out → AHeap → Prop}
section
variable {H : AHeap} {b b' t t' : Nat} {T : TypeId} {c : List AV} {o : Own}
theorem fresh_setB (h : (H.setB b T c).blk b' = none) : b' ≠ b ∧ b ≠ b' ∧ H.blk b' = none := by
 simp only [AHeap.setB] at h
 by_cases e : b' = b
 ·rw [if_pos e] at h; cases h
 ·rw [if_neg e] at h; exact ⟨e, Ne.symm e, h⟩
theorem fresh_elim {G : Prop} (h : (H.setB b T c).blk b' = none) (k : b' ≠ b → b ≠ b' → H.blk b' = none → G) : G := by obtain ⟨x, y, z⟩ := fresh_setB h; exact k x y z
theorem fresh_elimT {G : Prop} (h : (H.setT t o).blk b' = none) (k : H.blk b' = none → G) : G := k h
theorem freshT_setT (h : (H.setT t o).tok t' = none) : t' ≠ t ∧ t ≠ t' ∧ H.tok t' = none := by
 simp only [AHeap.setT] at h
 by_cases e : t' = t
 ·rw [if_pos e] at h; cases h
 ·rw [if_neg e] at h; exact ⟨e, Ne.symm e, h⟩
theorem freshT_setB (h : (H.setB b T c).tok t' = none) : H.tok t' = none := h
theorem ne_blk {x : TypeId × List AV} (h : H.blk b = none) (k : H.blk b' = some x) : b ≠ b' ∧ b' ≠ b := by
 have : b ≠ b' := fun e => by subst e; rw [h] at k; cases k
 exact ⟨this, Ne.symm this⟩
theorem ne_tok {x : Own} (h : H.tok b = none) (k : H.tok b' = some x) : b ≠ b' ∧ b' ≠ b := by
 have : b ≠ b' := fun e => by subst e; rw [h] at k; cases k
 exact ⟨this, Ne.symm this⟩
theorem setB_same : (H.setB b T c).blk b = some (T, c) := by simp [AHeap.setB]
theorem setB_ne (h : b' ≠ b) : (H.setB b T c).blk b' = H.blk b' := by simp [AHeap.setB, h]
theorem setT_blk : (H.setT t o).blk b = H.blk b := rfl
theorem setT_same : (H.setT t o).tok t = some o := by simp [AHeap.setT]
theorem setT_ne (h : t' ≠ t) : (H.setT t o).tok t' = H.tok t' := by simp [AHeap.setT, h]
theorem g_same : (H.setB b T c).blk b = some (T, c) := setB_same
theorem g_ne {x : Option (TypeId × List AV)} (h : b' ≠ b) (k : H.blk b' = x) : (H.setB b T c).blk b' = x := (setB_ne h).trans k
theorem g_fresh {x : TypeId × List AV} (h : H.blk b = none) (k : H.blk b' = some x) : (H.setB b T c).blk b' = some x := g_ne (ne_blk h k).2 k
theorem g_T {x : Option (TypeId × List AV)} (k : H.blk b' = x) : (H.setT t o).blk b' = x := k
theorem t_same : (H.setT t o).tok t = some o := setT_same
theorem t_ne {x : Option Own} (h : t' ≠ t) (k : H.tok t' = x) : (H.setT t o).tok t' = x := (setT_ne h).trans k
theorem t_fresh {x : Own} (h : H.tok t = none) (k : H.tok t' = some x) : (H.setT t o).tok t' = some x := t_ne (ne_tok h k).2 k
theorem t_B {x : Option Own} (k : H.tok t' = x) : (H.setB b T c).tok t' = x := k
theorem setB_setB {T' : TypeId} {c' : List AV} : (H.setB b T c).setB b T' c' = H.setB b T' c' := by
 simp only [AHeap.setB, AHeap.mk.injEq, and_true]
 funext x
 by_cases e : x = b <;> simp [e]
theorem setT_setT {o' : Own} : (H.setT t o).setT t o' = H.setT t o' := by
 simp only [AHeap.setT, AHeap.mk.injEq, true_and]
 funext x
 by_cases e : x = t <;> simp [e]
end
theorem AM.condS {a b : EC} {k : List Item} {env : Env} {H : AHeap} {j : Nat} {t : Bool} (hc : env.get j = .bool t) (h1 : t = true → AM P rs R (.c a :: k) ((j, .bool true) :: env) H) (h2 : t = false → AM P rs R (.c b :: k) ((j, .bool false) :: env) H) : AM P rs R (.c (.cond (.t j) a b) :: k) env H :=
 AM.cond (t := t) hc (fun e => by subst e; exact AM.congr (env_same hc) (h1 rfl)) (fun e => by subst e; exact AM.congr (env_same hc) (h2 rfl))
theorem AM.eqH {k : List Item} {env : Env} {H H2 : AHeap} (e : H = H2) (h : AM P rs R k env H2) : AM P rs R k env H := e ▸ h
theorem AM.forget {k : List Item} {env : Env} {H : AHeap} (H2 : AHeap) (hs : HSub H2 H) (h : AM P rs R k env H2) : AM P rs R k env H :=
 AM.conv (fun env' H' => env' = env ∧ H' = H2) (fun m e rh => by
  subst e
  have e1 : Ev m ⟨m.w, m.H, m.L, m.T⟩ := Ev.refl m
  exact ⟨env, H2, m.L, m.T, ⟨rfl, rfl⟩, RH.forget hs rh, Ev.forget hs e1, fun j v hv => Rv.forget (w := m.w) (L := m.L) (T := m.T) hs _ _ hv⟩) (fun env' H' ⟨e1, e2⟩ => by subst e1; subst e2; exact h)
section
variable {d : Nat} {d? : Option Nat} {l : List EI} {env : Env} {H : AHeap} {K : Env → AHeap → Prop} {Rp : AV → AHeap → Prop} {x a v : EOpd} {cs new cs' : List AV} {b o n : Nat} {T : TypeId} {r r' : AV}
theorem DM.bxA (hx : x.ev env = .agg cs) (ho : cs.all AV.one = true) (h : ∀ b, H.blk b = none → DM P l ((d, .ptr b 0) :: env) (H.setB b T cs) K Rp) : DM P (⟨some d, none, .box T x⟩ :: l) env H K Rp :=
 DM.de (.nblk T (x.ev env).cells) rfl (.box (by rw [hx]; exact ho)) fun b hb => by
  have := h b hb
  simp only [D.val, D.heap, hx, AV.cells]
  exact this
theorem DM.al (ho : cs.all AV.one = true) (h : ∀ b, H.blk b = none → DM P l ((d, .ptr b 0) :: env) (H.setB b T cs) K Rp) : DM P (⟨some d, none, .alloc T cs⟩ :: l) env H K Rp :=
 DM.de (.nblk T cs) rfl (.alloc ho) fun b hb => h b hb
theorem take_one {α : Type} {l : List α} {o : Nat} {r : α} (h : l[o]? = some r) : (l.drop o).take 1 = [r] := by
 obtain ⟨hl, e⟩ := List.getElem?_eq_some_iff.1 h
 rw [List.drop_eq_getElem_cons hl, e]
 rfl
theorem DM.ld1 (hx : x.ev env = .ptr b o) (hb : H.blk b = some (T, cs)) (hg : cs[o]? = some r) (h : DM P l ((d, r) :: env) H K Rp) : DM P (⟨some d, none, .load false 1 x⟩ :: l) env H K Rp := by
 refine DM.p (v := r) ?_ h
 have hl := (List.getElem?_eq_some_iff.1 hg).1
 simp only [peval, hx, hb]
 rw [if_pos (by omega)]
 rw [take_one hg]
 rfl
theorem DM.ldA (hx : x.ev env = .ptr b o) (hb : H.blk b = some (T, cs)) (hl : o + n ≤ cs.length) (hg : (cs.drop o).take n = new) (h : DM P l ((d, .agg new) :: env) H K Rp) : DM P (⟨some d, none, .load true n x⟩ :: l) env H K Rp := by
 refine DM.p (v := .agg new) ?_ h
 simp only [peval, hx, hb]
 rw [if_pos hl, hg]
 rfl
theorem DM.ldR1 (hx : x.ev env = .rp cs o) (hg : cs[o]? = some r) (h : DM P l ((d, r) :: env) H K Rp) : DM P (⟨some d, none, .load false 1 x⟩ :: l) env H K Rp := by
 refine DM.p (v := r) ?_ h
 have hl := (List.getElem?_eq_some_iff.1 hg).1
 simp only [peval, hx]
 rw [if_pos (by omega)]
 rw [take_one hg]
 rfl
theorem DM.ldRA (hx : x.ev env = .rp cs o) (hl : o + n ≤ cs.length) (hg : (cs.drop o).take n = new) (h : DM P l ((d, .agg new) :: env) H K Rp) : DM P (⟨some d, none, .load true n x⟩ :: l) env H K Rp := by
 refine DM.p (v := .agg new) ?_ h
 simp only [peval, hx]
 rw [if_pos hl, hg]
 rfl
inductive RD (H : AHeap) : AV → List AV → Nat → Prop
 | p {b o : Nat} {T : TypeId} {cs : List AV} (h : H.blk b = some (T, cs)) : RD H (.ptr b o) cs o
 | r {cs : List AV} {o : Nat} : RD H (.rp cs o) cs o
theorem DM.ldm1 (hx : x.ev env = r') (hb : RD H r' cs o) (hg : cs[o]? = some r) (h : DM P l ((d, r) :: env) H K Rp) : DM P (⟨some d, none, .load false 1 x⟩ :: l) env H K Rp := by
 cases hb with
 | p hb => exact DM.ld1 hx hb hg h
 | r => exact DM.ldR1 hx hg h
theorem DM.ldmA (hx : x.ev env = r') (hb : RD H r' cs o) (hl : o + n ≤ cs.length) (hg : (cs.drop o).take n = new) (h : DM P l ((d, .agg new) :: env) H K Rp) : DM P (⟨some d, none, .load true n x⟩ :: l) env H K Rp := by
 cases hb with
 | p hb => exact DM.ldA hx hb hl hg h
 | r => exact DM.ldRA hx hl hg h
theorem DM.stE (ha : a.ev env = .ptr b o) (hb : H.blk b = some (T, cs)) (hv : (v.ev env).cells = new) (hn : new.length = n) (hl : o + n ≤ cs.length) (ho : new.all AV.one = true) (hs : setRange cs o new = cs') {H' : AHeap} (hH : H.setB b T cs' = H') (h : DM P l env H' K Rp) : DM P (⟨none, none, .store n a v⟩ :: l) env H K Rp := by
 simp only [DM, wanted]
 subst hH
 exact IStep.store ha hb (by rw [hv]; exact hn) hl (by rw [hv]; exact ho) (by rw [hv, hs]; exact h)
theorem DM.ixV {size : Nat} {i : EOpd} {rows : List (List AV)} {row : List AV} {k : IntKind} {z : Int} (h0 : 0 ≤ z) (hr : rows[z.toNat]? = some row) (hx : x.ev env = .vs size rows) (hi : i.ev env = .int k z) (h : DM P l ((d, .rp row 0) :: env) H K Rp) : DM P (⟨some d, none, .iaddr size x i⟩ :: l) env H K Rp :=
 DM.de (.det (.rp row 0)) rfl (.idxV hx hi h0 hr) fun _ _ => h
theorem DM.ixP {size len : Nat} {i : EOpd} {k : IntKind} {z : Int} (hx : x.ev env = .ptr b o) (hi : i.ev env = .int k z) (h0 : 0 ≤ z) (h1 : z < (len : Int)) (hp : o + z.toNat * size = n) (h : DM P l ((d, .ptr b n) :: env) H K Rp) : DM P (⟨some d, none, .iaddrA len size x i⟩ :: l) env H K Rp :=
 DM.de (.det (.ptr b (o + z.toNat * size))) rfl (.idxP hx hi h0 h1) fun _ _ => hp ▸ h
theorem DM.slSs {lo hi : Option EOpd} {s s' : List UInt8} {p q : Nat} (hx : x.ev env = .str s) (hl : optNat env 0 lo = some p) (hh : optNat env s.length hi = some q) (h1 : p ≤ q) (h2 : q ≤ s.length) (hs : (s.take q).drop p = s') (h : DM P l ((d, .str s') :: env) H K Rp) : DM P (⟨some d, none, .slS x lo hi⟩ :: l) env H K Rp :=
 DM.de (.det _) rfl (.slS hx hl hh h1 h2) fun _ _ => by rw [hs]; exact h
theorem DM.catS {y : EOpd} {s s' : List UInt8} (hx : x.ev env = .str s) (hy : y.ev env = .str s') (hb : s.length + s'.length ≤ maxLen) (h : DM P l ((d, .str (s ++ s')) :: env) H K Rp) : DM P (⟨some d, none, .bin .add x y⟩ :: l) env H K Rp :=
 DM.de (.det _) rfl (.cat hx hy hb) fun _ _ => h
theorem DM.quoI {y : EOpd} {k : IntKind} {p q : Int} (hx : x.ev env = .int k p) (hy : y.ev env = .int k q) (hb : q ≠ 0) (h : DM P l ((d, .int k (k.wrap (p.tdiv q))) :: env) H K Rp) : DM P (⟨some d, none, .bin .quo x y⟩ :: l) env H K Rp :=
 DM.de (.det _) rfl (.quo hx hy hb) fun _ _ => h
theorem DM.remI {y : EOpd} {k : IntKind} {p q : Int} (hx : x.ev env = .int k p) (hy : y.ev env = .int k q) (hb : q ≠ 0) (h : DM P l ((d, .int k (p.tmod q)) :: env) H K Rp) : DM P (⟨some d, none, .bin .rem x y⟩ :: l) env H K Rp :=
 DM.de (.det _) rfl (.rem hx hy hb) fun _ _ => h
theorem DM.bsl {size : Nat} {zero : List AV} {parts : List (Nat × EOpd)} {rows : List (List AV)} (hr : bslRows env parts = rows) (hs : rows.all (fun r => r.length == size) = true) (ho : rows.flatten.all AV.one = true) (h : DM P l ((d, .vs size rows) :: env) H K Rp) : DM P (⟨some d, none, .bslice T size n zero parts⟩ :: l) env H K Rp :=
 DM.de (.det _) rfl (.bsliceV hr hs ho) fun _ _ => h
section
variable {t ver size k : Nat} {rows : List (List AV)} {row : List AV} {Te : TypeId}
theorem DM.lnM (hx : x.ev env = .ms t ver) (ht : H.tok t = some (.mu Te size ver rows)) (h : DM P l ((d, .int .i64 rows.length) :: env) H K Rp) : DM P (⟨some d, none, .lenM x⟩ :: l) env H K Rp :=
 DM.de (.det _) rfl (.lenM hx ht) fun _ _ => h
theorem DM.ixM {i : EOpd} {kk : IntKind} {z : Int} (hx : x.ev env = .ms t ver) (ht : H.tok t = some (.mu Te size ver rows)) (hi : i.ev env = .int kk z) (h0 : 0 ≤ z) (h1 : z < (rows.length : Int)) (h : DM P l ((d, .mp t ver (z.toNat * size)) :: env) H K Rp) : DM P (⟨some d, none, .iaddrM size x i⟩ :: l) env H K Rp :=
 DM.de (.det _) rfl (.iaddrM hx ht hi h0 h1) fun _ _ => h
theorem DM.isF {neg : Bool} (hx : x.ev env = .vs size rows) (hr : rows ≠ []) (h : DM P l ((d, .bool neg) :: env) H K Rp) : DM P (⟨some d, none, .isnil neg x⟩ :: l) env H K Rp :=
 DM.de (.det (.bool neg)) rfl (.isnilF hx hr) fun _ _ => h
theorem DM.isU {neg : Bool} (hx : x.ev env = .vs size rows) (h : ∀ b, DM P l ((d, .bool b) :: env) H K Rp) : DM P (⟨some d, none, .isnil neg x⟩ :: l) env H K Rp := by
 simp only [DM, wanted]
 exact IStep.isnilU hx h
theorem DM.bslM {zero : List AV} {parts : List (Nat × EOpd)} (hr : bslRows env parts = rows) (hs : rows.all (fun r => r.length == size) = true) (ho : rows.flatten.all AV.one = true) (h0 : size ≠ 0) (h : ∀ t, H.tok t = none → DM P l ((d, .ms t 0) :: env) (H.setT t (.mu Te size 0 rows)) K Rp) : DM P (⟨some d, none, .bsliceM Te size n zero parts⟩ :: l) env H K Rp :=
 DM.de (.nms Te size rows) rfl (.bsliceM hr hs ho h0) fun t ht => h t ht
theorem DM.fdM {off : Nat} (hx : x.ev env = .mp t ver k) (ht : H.tok t = some (.mu Te size ver rows)) (h : DM P l ((d, .mp t ver (k + off)) :: env) H K Rp) : DM P (⟨some d, none, .faddrM off x⟩ :: l) env H K Rp :=
 DM.de (.det _) rfl (.faddrM hx ht) fun _ _ => h
theorem flat_get : ∀ {rows : List (List AV)} {i : Nat} {row : List AV}, (∀ r ∈ rows, r.length = size) → rows[i]? = some row → i * size + size ≤ rows.flatten.length ∧ (rows.flatten.drop (i * size)).take size = row
 | [], _, _, _, h => by simp at h
 | r :: rs, 0, row, hs, h => by
  simp at h
  subst h
  have := hs r (by simp)
  simp [this]
 | r :: rs, i + 1, row, hs, h => by
  simp at h
  have h1 := hs r (by simp)
  obtain ⟨g1, g2⟩ := flat_get (fun q hq => hs q (by simp [hq])) h
  simp only [List.flatten_cons, List.length_append, h1]
  refine ⟨by rw [Nat.add_mul]; omega, ?_⟩
  rw [List.drop_append, List.drop_eq_nil_of_le (by rw [h1, Nat.add_mul]; omega), List.nil_append, h1, show (i + 1) * size - size = i * size by rw [Nat.add_mul]; omega]
  exact g2
theorem DM.ldM1 {i j : Nat} (hx : x.ev env = .mp t ver k) (ht : H.tok t = some (.mu Te size ver rows)) (hs : ∀ r ∈ rows, r.length = size) (hr : rows[i]? = some row) (hk : k = i * size + j) (hg : row[j]? = some r) (h : DM P l ((d, r) :: env) H K Rp) : DM P (⟨some d, none, .loadM false 1 x⟩ :: l) env H K Rp := by
 obtain ⟨g1, g2⟩ := flat_get hs hr
 have hj : j < size := by have := (List.getElem?_eq_some_iff.1 hg).1; rwa [hs _ (List.mem_of_getElem? hr)] at this
 refine DM.de (.det r) rfl (.loadM hx ht (by omega) ?_) fun _ _ => h
 have : rows.flatten[k]? = some r := by
  have e : ((rows.flatten.drop (i * size)).take size)[j]? = some r := by rw [g2]; exact hg
  rw [List.getElem?_take, if_pos hj, List.getElem?_drop, ← hk] at e
  exact e
 rw [take_one this]
 rfl
theorem DM.ldMA {i : Nat} (hx : x.ev env = .mp t ver k) (ht : H.tok t = some (.mu Te size ver rows)) (hs : ∀ r ∈ rows, r.length = size) (hr : rows[i]? = some row) (hk : k = i * size) (h : DM P l ((d, .agg row) :: env) H K Rp) : DM P (⟨some d, none, .loadM true size x⟩ :: l) env H K Rp := by
 obtain ⟨g1, g2⟩ := flat_get hs hr
 subst hk
 exact DM.de (.det (.agg row)) rfl (.loadM hx ht g1 (by rw [g2]; rfl)) fun _ _ => h
theorem DM.apM {bytes : Nat} {y : EOpd} {nw : List (List AV)} (hx : x.ev env = .ms t ver) (ht : H.tok t = some (.mu T size ver rows)) (hy : rowsOf size (y.ev env) = some nw) (hb : (rows.length + nw.length) * bytes ≤ 140737488355328) (hm : rows.length + nw.length ≤ maxLen) (h : DM P l ((d, .ms t (ver + 1)) :: env) (H.setT t (.mu T size (ver + 1) (rows ++ nw))) K Rp) : DM P (⟨some d, none, .appendM T size bytes x y⟩ :: l) env H K Rp := by
 simp only [DM, wanted]
 exact IStep.appendM hx ht hy hb hm h
theorem DM.sM {hi : EOpd} {q : Nat} {kk : IntKind} (hx : x.ev env = .ms t ver) (ht : H.tok t = some (.mu Te size ver rows)) (hh : hi.ev env = .int kk (q : Int)) (hq : q ≤ rows.length) (h : DM P l ((d, .ms t (ver + 1)) :: env) (H.setT t (.mu Te size (ver + 1) (rows.take q))) K Rp) : DM P (⟨some d, none, .slM size x none (some hi)⟩ :: l) env H K Rp := by
 simp only [DM, wanted]
 exact IStep.slM hx ht rfl (by simp only [optNat, hh]) hq h
theorem flatten_set : ∀ {rows : List (List AV)} {i : Nat} {row new : List AV}, (∀ r ∈ rows, r.length = size) → rows[i]? = some row → new.length = size → (rows.set i new).flatten = setRange rows.flatten (i * size) new
 | [], _, _, _, _, h, _ => by simp at h
 | r :: rs, 0, row, new, hs, h, hn => by
  have h1 := hs r (by simp)
  simp only [List.set_cons_zero, List.flatten_cons, setRange, Nat.zero_mul, List.take_zero, List.nil_append, Nat.zero_add, hn]
  rw [List.drop_append, List.drop_eq_nil_of_le (by omega), h1]
  simp
 | r :: rs, i + 1, row, new, hs, h, hn => by
  have h1 := hs r (by simp)
  simp at h
  have ih := flatten_set (fun q hq => hs q (by simp [hq])) h hn
  simp only [List.set_cons_succ, List.flatten_cons, ih]
  simp only [setRange, hn]
  have e : (i + 1) * size = size + i * size := by rw [Nat.add_mul]; omega
  rw [e, List.take_append, List.take_of_length_le (l := r) (by omega), h1, show size + i * size - size = i * size by omega]
  rw [List.drop_append, @List.drop_eq_nil_of_le _ r _ (by omega), h1, show size + i * size + size - size = i * size + size by omega]
  simp
theorem DM.stM {i : Nat} (ha : a.ev env = .mp t ver k) (ht : H.tok t = some (.mu Te size ver rows)) (hv : (v.ev env).cells = new) (hs : ∀ r ∈ rows, r.length = size) (hr : rows[i]? = some row) (hk : k = i * size) (hn : new.length = size) (ho : new.all AV.one = true) (h : DM P l env (H.setT t (.mu Te size ver (rows.set i new))) K Rp) : DM P (⟨none, none, .store size a v⟩ :: l) env H K Rp := by
 obtain ⟨g1, g2⟩ := flat_get hs hr
 subst hk
 simp only [DM, wanted]
 exact IStep.storeM ha ht (by rw [hv]; exact hn) (by exact g1) (by rw [hv]; exact ho) (by rw [hv]; exact flatten_set hs hr hn) (fun r hr => by rcases List.mem_or_eq_of_mem_set hr with h | h; exact hs r h; exact h ▸ hn) (by simp) h
end
theorem results_c {a' n' : Nat} (hx : env.get a' = .ptr b 0) (hb : H.blk b = some (T, cs)) (hl : n' = cs.length) : Aw.results [.cell true n' a'] env H = some (.agg cs) := by
 subst hl
 simp [Aw.results, ERes.ev, peval, EOpd.ev, hx, hb, AV.ofCells]
theorem results_ct {a' n' m' : Nat} (hx : env.get a' = .ptr b 0) (hb : H.blk b = some (T, cs)) (hl : n' = cs.length) (hm : env.get m' = r) : Aw.results [.cell true n' a', .t m'] env H = some (.tup [.agg cs, r]) := by
 subst hl
 subst hm
 simp [Aw.results, ERes.ev, peval, EOpd.ev, hx, hb, AV.ofCells]
theorem results_tt {a' m' : Nat} {q : AV} (hx : env.get a' = q) (hm : env.get m' = r) : Aw.results [.t a', .t m'] env H = some (.tup [q, r]) := by
 subst hm
 subst hx
 simp [Aw.results, ERes.ev]
theorem results_ttt {a' m' c' : Nat} {q q' : AV} (hx : env.get a' = q) (hm : env.get m' = r) (hc : env.get c' = q') : Aw.results [.t a', .t m', .t c'] env H = some (.tup [q, r, q']) := by
 subst hm
 subst hx
 subst hc
 simp [Aw.results, ERes.ev]
theorem results_t {a' : Nat} (hx : env.get a' = r) : Aw.results [.t a'] env H = some r := by
 subst hx
 simp [Aw.results, ERes.ev]
theorem results_nil : Aw.results [] env H = some (.tup []) := by simp [Aw.results]
theorem AM.retA {rs : List ERes} {k : List Item} {H0 : AHeap} {q r' : AV} (hv : Aw.results rs env H = some q) (h : AVLe q r') (hs : HSub H0 H) : AM P rs (fun o H' => ∃ a, o = .ret a ∧ AVLe a r' ∧ HSub H0 H') (.c .ret :: k) env H :=
 AM.ret hv ⟨_, rfl, h, hs⟩
theorem AM.doneA {rs : List ERes} {H0 : AHeap} {q r' : AV} (hv : Aw.results rs env H = some q) (h : AVLe q r') (hs : HSub H0 H) : AM P rs (fun o H' => ∃ a, o = .ret a ∧ AVLe a r' ∧ HSub H0 H') [] env H :=
 AM.done hv ⟨_, rfl, h, hs⟩
def Ret (S : AV → AHeap → Prop) (o : Out) (H : AHeap) : Prop := ∃ r, o = .ret r ∧ S r H
theorem AM.retS {rs : List ERes} {k : List Item} {S : AV → AHeap → Prop} {q : AV} (hv : Aw.results rs env H = some q) (h : S q H) : AM P rs (Ret S) (.c .ret :: k) env H :=
 AM.ret hv ⟨_, rfl, h⟩
theorem AM.doneS {rs : List ERes} {S : AV → AHeap → Prop} {q : AV} (hv : Aw.results rs env H = some q) (h : S q H) : AM P rs (Ret S) [] env H :=
 AM.done hv ⟨_, rfl, h⟩
theorem DM.cal {f : FuncId} {args : List EOpd} {az az' : List AV} {S : AV → AHeap → Prop} (hc : ACalls P f az H (Ret S)) (hm : args.map (EOpd.ev env) = az') (ha : AVLes az' az) (h : ∀ r H', S r H' → DM P l (env.put d? r) H' K Rp) : DM P (⟨d?, none, .call f args⟩ :: l) env H K Rp := by
 simp only [DM, wanted]
 exact IStep.call (Ret S) (hm ▸ ha) hc fun o H' ⟨r, e, hs⟩ => by subst e; exact h r H' hs
theorem DM.pcm {f : FuncId} {size : Nat} {args : List EOpd} {az az' : List AV} {rows : List (List AV)} (hp : PureM P f az T size rows) (hm : args.map (EOpd.ev env) = az') (ha : AVLes az' az) (h : ∀ t, H.tok t = none → DM P l ((d, .ms t 0) :: env) (H.setT t (.mu T size 0 rows)) K Rp) : DM P (⟨some d, none, .pcallMR T size f args rows⟩ :: l) env H K Rp :=
 DM.de (.nms T size rows) rfl (.pcallM' (hm ▸ ha) hp) fun t ht => h t ht
def PureAt (P : Program) (f : FuncId) (args : List AV) (H : AHeap) (r : AV) : Prop := ACalls P f args H fun o H' => o = .ret r ∧ H' = H
theorem Pure.at {P : Program} {f : FuncId} {args : List AV} {r : AV} (h : Pure P f args r) (H : AHeap) : PureAt P f args H r := h H
theorem pureAt_intro {f : FuncId} {fn : Func} {args : List AV} {e : EC} {rs : List ERes} {r : AV} (hm : P.follows .mixedOrders = true) (hf : P.funcs[f]? = some fn) (hc : chkF P fn args.length e rs = true) (h : AM P rs (fun o H' => ∃ a, o = .ret a ∧ AVLe a r ∧ HSub H H') [.c e] (initEnv args) H) : PureAt P f args H r :=
 (acalls_of hm hf hc h).mono fun o H' ⟨a, e, h1, h2⟩ => ⟨.ret r, H, by subst e; exact h1, h2, rfl, rfl⟩
theorem DM.pcat {f : FuncId} {args : List EOpd} {az az' : List AV} (hp : PureAt P f az H r) (hm : args.map (EOpd.ev env) = az') (ha : AVLes az' az) (h : DM P l ((d, r) :: env) H K Rp) : DM P (⟨some d, none, .call f args⟩ :: l) env H K Rp := by
 simp only [DM, wanted]
 exact IStep.call _ (hm ▸ ha) hp fun o H' ⟨e, e'⟩ => by subst e; subst e'; exact h
theorem DM.pvat {f : FuncId} {args : List EOpd} {cap az az' : List AV} (hp : PureAt P f az H r) (hf : callable P f = true) (hx : x.ev env = .fn f cap) (hm : args.map (EOpd.ev env) ++ cap = az') (ha : AVLes az' az) (h : DM P l ((d, r) :: env) H K Rp) : DM P (⟨some d, none, .callv x args⟩ :: l) env H K Rp := by
 simp only [DM, wanted]
 exact IStep.callv _ hx hf (hm ▸ ha) hp fun o H' ⟨e, e'⟩ => by subst e; subst e'; exact h
theorem DM.pcRs {f : FuncId} {args : List EOpd} {az az' : List AV} (hp : Pure P f az r) (hm : args.map (EOpd.ev env) = az') (ha : AVLes az' az) (h : DM P l ((d, r) :: env) H K Rp) : DM P (⟨some d, none, .pcallR f args r⟩ :: l) env H K Rp :=
 DM.pcR az hp (hm ▸ ha) h
theorem pure_assume {f : FuncId} {args : List AV} {G : Prop} (hG : ∀ m vs, RvL m args vs → G) (h : G → Pure P f args r) : Pure P f args r := fun H m vs e rh hv => h (hG m vs hv) H m vs e rh hv
theorem pureAt_assume {f : FuncId} {args : List AV} {G : Prop} (hG : ∀ m vs, RvL m args vs → G) (h : G → PureAt P f args H r) : PureAt P f args H r := fun m vs e rh hv => h (hG m vs hv) m vs e rh hv
theorem inc64 {i n : Nat} (h : i < n) (hn : n ≤ maxLen) : IntKind.i64.wrap ((i : Int) + 1) = ((i + 1 : Nat) : Int) := by
 rw [wrap64 (by omega) (by unfold maxLen at hn; omega)]; omega
end
theorem retok {w : World} {H : AHeap} {L : Nat → Value} {T : Nat} {t ver Te size : Nat} {rows : List (List AV)} {v : Value} (rh : RH ⟨w, H, L, T⟩) (ht : H.tok t = some (.mu Te size ver rows)) (hv : Rv ⟨w, H, L, T⟩ (.ms t ver) v) :
  RH ⟨w, ⟨H.blk, fun x => if x = T then some (.mu Te size 0 rows) else if x = t then none else H.tok x⟩, fun x => if x = T then v else L x, T + 1⟩ ∧
  Ev ⟨w, H, L, T⟩ ⟨w, ⟨H.blk, fun x => if x = T then some (.mu Te size 0 rows) else if x = t then none else H.tok x⟩, fun x => if x = T then v else L x, T + 1⟩ ∧
  Rv ⟨w, ⟨H.blk, fun x => if x = T then some (.mu Te size 0 rows) else if x = t then none else H.tok x⟩, fun x => if x = T then v else L x, T + 1⟩ (.ms T 0) v := by
 have hL : L t = v := (ms_get rh ht hv).1
 have h1 : v.oneCell' = true := by simp only [Rv] at hv; exact hv.1
 obtain ⟨k1, k2, ⟨xs, k3, k5⟩, k4⟩ := rh.tok t _ ht
 simp only at k1 k3 k4 k5
 rw [hL] at k3 k4
 have hev : Ev ⟨w, H, L, T⟩ ⟨w, ⟨H.blk, fun x => if x = T then some (.mu Te size 0 rows) else if x = t then none else H.tok x⟩, fun x => if x = T then v else L x, T + 1⟩ := by
  refine ⟨rfl, rfl, rfl, Nat.le_refl _, Nat.le_succ _, fun b hb h h' => ⟨rfl, h, fun t0 i hi e => ?_⟩, fun b o hs => ⟨⟨hs.lt, hs.blk, fun t0 i hi e => ?_⟩, rfl⟩, fun t0 i hlt hi => ?_⟩
  ·simp only at hi e h'
   by_cases et : t0 = T
   ·rw [if_pos et] at e; rw [← hL] at e; exact h' t _ ht e
   ·rw [if_neg et] at e hi
    by_cases et2 : t0 = t
    ·rw [if_pos et2] at hi; cases hi
    ·rw [if_neg et2] at hi; exact h' t0 i hi e
  ·simp only at hi e
   by_cases et : t0 = T
   ·rw [if_pos et] at e hi
    have := hs.tok t _ ht (by simp only; rw [hL]; exact e)
    simp [Own.mu] at this
   ·rw [if_neg et] at e hi
    by_cases et2 : t0 = t
    ·rw [if_pos et2] at hi; cases hi
    ·rw [if_neg et2] at hi; exact hs.tok t0 i hi e
  ·simp only at hi hlt ⊢
   rw [if_neg (by omega)] at hi ⊢
   by_cases et2 : t0 = t
   ·rw [if_pos et2] at hi; cases hi
   ·rw [if_neg et2] at hi
    exact ⟨i, hi, Nat.le_refl _, rfl, fun _ => rfl⟩
 have hrh : RH ⟨w, ⟨H.blk, fun x => if x = T then some (.mu Te size 0 rows) else if x = t then none else H.tok x⟩, fun x => if x = T then v else L x, T + 1⟩ := by
  refine ⟨fun b Ty cs hb => ?_, fun t0 i hi => ?_⟩
  ·obtain ⟨l, e1, e2, e3⟩ := rh.blk b Ty cs hb
   exact ⟨l, e1, RvL.ev hev cs l e2, e3⟩
  ·simp only at hi ⊢
   by_cases et : t0 = T
   ·rw [if_pos et] at hi ⊢
    cases hi
    refine ⟨by omega, k2, ⟨xs, k3, fun rows' hr => ?_⟩, fun b hb => ?_⟩
    ·have := k5 rows' hr
     exact ⟨RvL.ev hev _ _ this.1, this.2⟩
    ·obtain ⟨g1, g2⟩ := k4 b hb
     refine ⟨g1, fun t' i' hi' hb' => ?_⟩
     by_cases et' : t' = T
     ·omega
     ·rw [if_neg et'] at hi' hb'
      by_cases et2 : t' = t
      ·rw [if_pos et2] at hi'; cases hi'
      ·rw [if_neg et2] at hi'
       exact absurd (g2 t' i' hi' hb') et2
   ·rw [if_neg et] at hi ⊢
    by_cases et2 : t0 = t
    ·rw [if_pos et2] at hi; cases hi
    ·rw [if_neg et2] at hi
     obtain ⟨q1, q2, ⟨ys, q3, q5⟩, q4⟩ := rh.tok t0 i hi
     simp only at q1 q3 q4 q5
     refine ⟨by omega, q2, ⟨ys, q3, fun rows' hr => ⟨RvL.ev hev _ _ (q5 rows' hr).1, (q5 rows' hr).2⟩⟩, fun b hb => ?_⟩
     obtain ⟨g1, g2⟩ := q4 b hb
     refine ⟨g1, fun t' i' hi' hb' => ?_⟩
     by_cases et' : t' = T
     ·rw [if_pos et'] at hb'
      rw [← hL] at hb'
      exact absurd (g2 t _ ht hb').symm et2
     ·rw [if_neg et'] at hi' hb'
      by_cases et3 : t' = t
      ·rw [if_pos et3] at hi'; cases hi'
      ·rw [if_neg et3] at hi'
       exact g2 t' i' hi' hb'
 exact ⟨hrh, hev, ms_rv hrh (T := Te) (size := size) (rows := rows) (by simp) (by simp) h1⟩
theorem pureM_intro {P : Program} {f : FuncId} {fn : Func} {args : List AV} {e : EC} {rs : List ERes} {T size : Nat} {rows : List (List AV)} (hm : P.follows .mixedOrders = true) (hf : P.funcs[f]? = some fn) (hc : chkF P fn args.length e rs = true) (h0 : size ≠ 0)
  (h : ∀ H, AM P rs (fun o H' => HSub H H' ∧ ((∃ t ver, o = .ret (.ms t ver) ∧ H'.tok t = some (.mu T size ver rows) ∧ H.tok t = none) ∨ (o = .ret .nilS ∧ rows = []))) [.c e] (initEnv args) H) : PureM P f args T size rows := by
 intro H m vs hH rh hv cs
 obtain ⟨en, w', az, ⟨o, H', L', T', g1, g2, g3, hs, hcase⟩, rest⟩ := acalls_of hm hf hc (h H) m vs hH rh hv cs
 refine ⟨en, w', az, ?_, rest⟩
 rcases hcase with ⟨t, ver, rfl, ht, htn⟩ | ⟨rfl, rfl⟩
 ·simp only [RvOut] at g3
  obtain ⟨v, e1, e2⟩ := g3
  obtain ⟨r1, r2, r3⟩ := retok g1 ht e2
  have hTn : H'.tok T' = none := tok_new g1
  have hsub : HSub (H.setT T' (.mu T size 0 rows)) ⟨H'.blk, fun x => if x = T' then some (.mu T size 0 rows) else if x = t then none else H'.tok x⟩ := by
   refine ⟨fun x y hx => hs.blk x y hx, fun x y hx => ?_⟩
   simp only [AHeap.setT] at hx ⊢
   by_cases et : x = T'
   ·rw [if_pos et] at hx ⊢; exact hx
   ·rw [if_neg et] at hx ⊢
    rw [if_neg (fun e => by subst e; rw [htn] at hx; cases hx)]
    exact hs.tok x y hx
  exact ⟨.ret (.ms T' 0), _, _, _, RH.forget hsub r1, Ev.forget hsub (g2.trans r2), ⟨v, e1, Rv.forget hsub _ _ r3⟩, T', hs.none_tok hTn, rfl, rfl⟩
 ·simp only [RvOut] at g3
  obtain ⟨v, e1, e2⟩ := g3
  simp only [Rv] at e2
  subst e2
  have q1 := RH.forget hs g1
  have q2 := Ev.forget hs g2
  obtain ⟨r1, r2, r3⟩ := new_ms_nil q1 (T := T) h0
  exact ⟨.ret (.ms T' 0), _, _, _, r1, q2.trans r2, ⟨_, e1, r3⟩, T', hs.none_tok (tok_new g1), rfl, rfl⟩
theorem annotate_nil : ∀ (l : List EI), annotate l [] = l
 | [] => rfl
 | ⟨d, g, op⟩ :: l => by cases op <;> simp only [annotate, annotate_nil l]
inductive Sp : Prop → Prop → Prop
 | sq {P : Program} {rs : List ERes} {R : Out → AHeap → Prop} {k : List Item} {env : Env} {H : AHeap} {a b : EC} : Sp (AM P rs R (.c a :: .c b :: k) env H) (AM P rs R (.c (.seq a b) :: k) env H)
 | bk {P : Program} {rs : List ERes} {R : Out → AHeap → Prop} {k : List Item} {env : Env} {H : AHeap} {id : Nat} {body : EC} : Sp (AM P rs R (.c body :: .blk id :: k) env H) (AM P rs R (.c (.block id body) :: k) env H)
 | sk {P : Program} {rs : List ERes} {R : Out → AHeap → Prop} {k : List Item} {env : Env} {H : AHeap} : Sp (AM P rs R k env H) (AM P rs R (.c .skip :: k) env H)
 | be {P : Program} {rs : List ERes} {R : Out → AHeap → Prop} {k : List Item} {env : Env} {H : AHeap} {id : Nat} : Sp (AM P rs R k env H) (AM P rs R (.blk id :: k) env H)
 | ex {P : Program} {rs : List ERes} {R : Out → AHeap → Prop} {k : List Item} {k' : List Item} {env : Env} {H : AHeap} {id : Nat} (hk : popTo id k = some k') : Sp (AM P rs R k' env H) (AM P rs R (.c (.exit id) :: k) env H)
 | rg {P : Program} {rs : List ERes} {R : Out → AHeap → Prop} {k : List Item} {env : Env} {H : AHeap} {l : List EI} : Sp (DM P l env H (fun env' H' => AM P rs R k env' H') (fun v H' => R (.pan v) H')) (AM P rs R (.c (.region l false) :: k) env H)
 | nl {P : Program} {rs : List ERes} {R : Out → AHeap → Prop} {k : List Item} {env : Env} {H : AHeap} {Rp : AV → AHeap → Prop} : Sp (AM P rs R k env H) (DM P [] env H (fun env' H' => AM P rs R k env' H') Rp)
 | l1 {P : Program} {env : Env} {H : AHeap} {K : Env → AHeap → Prop} {Rp : AV → AHeap → Prop} {l : List EI} {d : Nat} {x : EOpd} {cs : List AV} {o : Nat} {r : AV} {r' : AV} (hx : x.ev env = r') (hb : RD H r' cs o) (hg : cs[o]? = some r) : Sp (DM P l ((d, r) :: env) H K Rp) (DM P (⟨some d, none, .load false 1 x⟩ :: l) env H K Rp)
 | lA {P : Program} {env : Env} {H : AHeap} {K : Env → AHeap → Prop} {Rp : AV → AHeap → Prop} {l : List EI} {d : Nat} {x : EOpd} {cs : List AV} {new : List AV} {o : Nat} {n : Nat} {r' : AV} (hx : x.ev env = r') (hb : RD H r' cs o) (hl : o + n ≤ cs.length) (hg : (cs.drop o).take n = new) : Sp (DM P l ((d, .agg new) :: env) H K Rp) (DM P (⟨some d, none, .load true n x⟩ :: l) env H K Rp)
 | bA {P : Program} {env : Env} {H : AHeap} {K : Env → AHeap → Prop} {Rp : AV → AHeap → Prop} {l : List EI} {d : Nat} {x : EOpd} {cs : List AV} {T : TypeId} (hx : x.ev env = .agg cs) (ho : cs.all AV.one = true) : Sp (∀ b, H.blk b = none → DM P l ((d, .ptr b 0) :: env) (H.setB b T cs) K Rp) (DM P (⟨some d, none, .box T x⟩ :: l) env H K Rp)
 | al {P : Program} {env : Env} {H : AHeap} {K : Env → AHeap → Prop} {Rp : AV → AHeap → Prop} {l : List EI} {d : Nat} {cs : List AV} {T : TypeId} (ho : cs.all AV.one = true) : Sp (∀ b, H.blk b = none → DM P l ((d, .ptr b 0) :: env) (H.setB b T cs) K Rp) (DM P (⟨some d, none, .alloc T cs⟩ :: l) env H K Rp)
 | sE {P : Program} {env : Env} {H : AHeap} {H' : AHeap} {K : Env → AHeap → Prop} {Rp : AV → AHeap → Prop} {l : List EI} {a : EOpd} {v : EOpd} {cs : List AV} {new : List AV} {cs' : List AV} {b : Nat} {o : Nat} {n : Nat} {T : TypeId} (ha : a.ev env = .ptr b o) (hb : H.blk b = some (T, cs)) (hv : (v.ev env).cells = new) (hn : new.length = n) (hl : o + n ≤ cs.length) (ho : new.all AV.one = true) (hs : setRange cs o new = cs') (hH : H.setB b T cs' = H') : Sp (DM P l env H' K Rp) (DM P (⟨none, none, .store n a v⟩ :: l) env H K Rp)
 | iP {P : Program} {env : Env} {H : AHeap} {K : Env → AHeap → Prop} {Rp : AV → AHeap → Prop} {l : List EI} {d : Nat} {x : EOpd} {i : EOpd} {b : Nat} {o : Nat} {n : Nat} {size len : Nat} {kk : IntKind} {z : Int} (hx : x.ev env = .ptr b o) (hi : i.ev env = .int kk z) (h0 : 0 ≤ z) (h1 : z < (len : Int)) (hp : o + z.toNat * size = n) : Sp (DM P l ((d, .ptr b n) :: env) H K Rp) (DM P (⟨some d, none, .iaddrA len size x i⟩ :: l) env H K Rp)
 | lM {P : Program} {env : Env} {H : AHeap} {K : Env → AHeap → Prop} {Rp : AV → AHeap → Prop} {l : List EI} {d : Nat} {x : EOpd} {t ver size : Nat} {rows : List (List AV)} {Te : TypeId} (hx : x.ev env = .ms t ver) (ht : H.tok t = some (.mu Te size ver rows)) : Sp (DM P l ((d, .int .i64 rows.length) :: env) H K Rp) (DM P (⟨some d, none, .lenM x⟩ :: l) env H K Rp)
 | fM {P : Program} {env : Env} {H : AHeap} {K : Env → AHeap → Prop} {Rp : AV → AHeap → Prop} {l : List EI} {d : Nat} {x : EOpd} {t ver size kk off : Nat} {rows : List (List AV)} {Te : TypeId} (hx : x.ev env = .mp t ver kk) (ht : H.tok t = some (.mu Te size ver rows)) : Sp (DM P l ((d, .mp t ver (kk + off)) :: env) H K Rp) (DM P (⟨some d, none, .faddrM off x⟩ :: l) env H K Rp)
 | bs {P : Program} {env : Env} {H : AHeap} {K : Env → AHeap → Prop} {Rp : AV → AHeap → Prop} {l : List EI} {d : Nat} {n : Nat} {T : TypeId} {size : Nat} {zero : List AV} {parts : List (Nat × EOpd)} {rows : List (List AV)} (hr : bslRows env parts = rows) (hs : rows.all (fun r => r.length == size) = true) (ho : rows.flatten.all AV.one = true) : Sp (DM P l ((d, .vs size rows) :: env) H K Rp) (DM P (⟨some d, none, .bslice T size n zero parts⟩ :: l) env H K Rp)
 | pv {P : Program} {env : Env} {H : AHeap} {K : Env → AHeap → Prop} {Rp : AV → AHeap → Prop} {l : List EI} {d : Nat} {r : AV} {op : EOp} (hv : peval op env H = some r) : Sp (DM P l ((d, r) :: env) H K Rp) (DM P (⟨some d, none, op⟩ :: l) env H K Rp)
theorem Sp.go {N G : Prop} (h : Sp N G) (hn : N) : G := by
 cases h with
 | sq => exact AM.seq hn
 | bk => exact AM.block hn
 | sk => exact AM.skip hn
 | be => exact AM.blkEnd hn
 | ex hk => exact AM.exit hk hn
 | rg => exact AM.reg [] (by rw [annotate_nil]; exact hn)
 | nl => exact DM.nil hn
 | l1 hx hb hg => exact DM.ldm1 hx hb hg hn
 | lA hx hb hl hg => exact DM.ldmA hx hb hl hg hn
 | bA hx ho => exact DM.bxA hx ho hn
 | al ho => exact DM.al ho hn
 | sE ha hb hv hn' hl ho hs hH => exact DM.stE ha hb hv hn' hl ho hs hH hn
 | iP hx hi h0 h1 hp => exact DM.ixP hx hi h0 h1 hp hn
 | lM hx ht => exact DM.lnM hx ht hn
 | fM hx ht => exact DM.fdM hx ht hn
 | bs hr hs ho => exact DM.bsl hr hs ho hn
 | pv hv => exact DM.p hv hn
inductive Sr : Prop → Prop → Prop
 | a {P : Program} {rs : List ERes} {k : List Item} {env : Env} {H : AHeap} {r' : AV} {q : AV} {H0 : AHeap} (hv : Aw.results rs env H = some q) (hs : HSub H0 H) : Sr (AVLe q r') (AM P rs (fun o H' => ∃ a, o = .ret a ∧ AVLe a r' ∧ HSub H0 H') (.c .ret :: k) env H)
 | b {P : Program} {rs : List ERes} {env : Env} {H : AHeap} {r' : AV} {q : AV} {H0 : AHeap} (hv : Aw.results rs env H = some q) (hs : HSub H0 H) : Sr (AVLe q r') (AM P rs (fun o H' => ∃ a, o = .ret a ∧ AVLe a r' ∧ HSub H0 H') [] env H)
 | s {P : Program} {rs : List ERes} {k : List Item} {env : Env} {H : AHeap} {q : AV} {S : AV → AHeap → Prop} (hv : Aw.results rs env H = some q) : Sr (S q H) (AM P rs (Ret S) (.c .ret :: k) env H)
 | t {P : Program} {rs : List ERes} {env : Env} {H : AHeap} {q : AV} {S : AV → AHeap → Prop} (hv : Aw.results rs env H = some q) : Sr (S q H) (AM P rs (Ret S) [] env H)
theorem Sr.go {N G : Prop} (h : Sr N G) (hn : N) : G := by
 cases h with
 | a hv hs => exact AM.retA hv hn hs
 | b hv hs => exact AM.doneA hv hn hs
 | s hv => exact AM.retS hv hn
 | t hv => exact AM.doneS hv hn
inductive Lk : Prop → Prop
 | bB {H : AHeap} {b : Nat} {T : TypeId} {c : List AV} : Lk ((H.setB b T c).blk b = some (T, c))
 | nB {H : AHeap} {b : Nat} {b' : Nat} {T : TypeId} {c : List AV} {y : Option (TypeId × List AV)} (h : b' ≠ b) (k : H.blk b' = y) : Lk ((H.setB b T c).blk b' = y)
 | tB {H : AHeap} {b' : Nat} {t : Nat} {o : Own} {y : Option (TypeId × List AV)} (k : H.blk b' = y) : Lk ((H.setT t o).blk b' = y)
 | bT {H : AHeap} {t : Nat} {o : Own} : Lk ((H.setT t o).tok t = some o)
 | nT {H : AHeap} {t t' : Nat} {o : Own} {y : Option Own} (h : t' ≠ t) (k : H.tok t' = y) : Lk ((H.setT t o).tok t' = y)
 | tT {H : AHeap} {b : Nat} {T : TypeId} {t : Nat} {c : List AV} {y : Option Own} (k : H.tok t = y) : Lk ((H.setB b T c).tok t = y)
 | rd {H : AHeap} {cs : List AV} {o : Nat} : Lk (RD H (.rp cs o) cs o)
 | rp {H : AHeap} {cs : List AV} {b : Nat} {o : Nat} {T : TypeId} (h : H.blk b = some (T, cs)) : Lk (RD H (.ptr b o) cs o)
 | hr {H : AHeap} : Lk (HSub H H)
 | hB {H : AHeap} {H' : AHeap} {b : Nat} {T : TypeId} {c : List AV} (h : HSub H H') (hb : H.blk b = none) : Lk (HSub H (H'.setB b T c))
 | hT {H : AHeap} {H' : AHeap} {t : Nat} {o : Own} (h : HSub H H') (hb : H.tok t = none) : Lk (HSub H (H'.setT t o))
 | q0 {env : Env} {H : AHeap} : Lk (Aw.results [] env H = some (.tup []))
 | q1 {env : Env} {H : AHeap} {r : AV} {a' : Nat} (hx : env.get a' = r) : Lk (Aw.results [.t a'] env H = some r)
 | q2 {env : Env} {H : AHeap} {cs : List AV} {b : Nat} {T : TypeId} {a' n' : Nat} (hx : env.get a' = .ptr b 0) (hb : H.blk b = some (T, cs)) (hl : n' = cs.length) : Lk (Aw.results [.cell true n' a'] env H = some (.agg cs))
 | q3 {env : Env} {H : AHeap} {cs : List AV} {b : Nat} {T : TypeId} {r : AV} {a' n' m' : Nat} (hx : env.get a' = .ptr b 0) (hb : H.blk b = some (T, cs)) (hl : n' = cs.length) (hm : env.get m' = r) : Lk (Aw.results [.cell true n' a', .t m'] env H = some (.tup [.agg cs, r]))
 | q4 {env : Env} {H : AHeap} {r : AV} {q : AV} {a' m' : Nat} (hx : env.get a' = q) (hm : env.get m' = r) : Lk (Aw.results [.t a', .t m'] env H = some (.tup [q, r]))
 | q5 {env : Env} {H : AHeap} {r : AV} {r' : AV} {q : AV} {a' m' c' : Nat} (hx : env.get a' = q) (hm : env.get m' = r) (hc : env.get c' = r') : Lk (Aw.results [.t a', .t m', .t c'] env H = some (.tup [q, r, r']))
theorem Lk.go {G : Prop} (h : Lk G) : G := by
 cases h with
 | bB => exact g_same
 | nB h k => exact g_ne h k
 | tB k => exact g_T k
 | bT => exact t_same
 | nT h k => exact t_ne h k
 | tT k => exact t_B k
 | rd => exact RD.r
 | rp h => exact RD.p h
 | hr => exact HSub.refl _
 | hB h hb => exact HSub.setB h hb
 | hT h hb => exact HSub.setT h hb
 | q0 => exact results_nil
 | q1 hx => exact results_t hx
 | q2 hx hb hl => exact results_c hx hb hl
 | q3 hx hb hl hm => exact results_ct hx hb hl hm
 | q4 hx hm => exact results_tt hx hm
 | q5 hx hm hc => exact results_ttt hx hm hc
theorem rt {P : Program} {rs : List ERes} {R : Out → AHeap → Prop} {k : List Item} {env : Env} {H : AHeap} {l : List EI} (h : DM P l env H (fun env' H' => AM P rs R k env' H') (fun v H' => R (.pan v) H')) : AM P rs R (.c (.region l true) :: k) env H := AM.reg [] (by rw [annotate_nil]; exact h)
theorem ss {H : AHeap} {b : Nat} {T : TypeId} {T' : TypeId} {c c' : List AV} : (H.setB b T c).setB b T' c' = H.setB b T' c' := setB_setB
theorem fe {H : AHeap} {b : Nat} {b' : Nat} {T : TypeId} {G : Prop} {c : List AV} (h : (H.setB b T c).blk b' = none) (k : b' ≠ b → b ≠ b' → H.blk b' = none → G) : G := fresh_elim h k
theorem fT {H : AHeap} {b' : Nat} {G : Prop} {t : Nat} {o : Own} (h : (H.setT t o).blk b' = none) (k : H.blk b' = none → G) : G := fresh_elimT h k
theorem nb {H : AHeap} {b : Nat} {b' : Nat} {y : TypeId × List AV} (h : H.blk b = none) (k : H.blk b' = some y) : b' ≠ b := (ne_blk h k).2
theorem nt {H : AHeap} {t t' : Nat} {y : Own} (h : H.tok t = none) (k : H.tok t' = some y) : t' ≠ t := (ne_tok h k).2
theorem gA {P : Program} {env : Env} {H : AHeap} {K : Env → AHeap → Prop} {Rp : AV → AHeap → Prop} {l : List EI} {d? : Option Nat} {g : Nat × Bool} {op : EOp} (hw : wanted ⟨d?, some g, op⟩ env = some true) (h : DM P (⟨d?, none, op⟩ :: l) env H K Rp) : DM P (⟨d?, some g, op⟩ :: l) env H K Rp := by
 simp only [DM] at h ⊢
 rw [hw]
 exact h
theorem gB {P : Program} {env : Env} {H : AHeap} {K : Env → AHeap → Prop} {Rp : AV → AHeap → Prop} {l : List EI} {d : Nat} {g : Nat × Bool} {op : EOp} (hw : wanted ⟨some d, some g, op⟩ env = some false) (h : DM P l ((d, .undef) :: env) H K Rp) : DM P (⟨some d, some g, op⟩ :: l) env H K Rp := DM.skip hw h
theorem cT {P : Program} {rs : List ERes} {R : Out → AHeap → Prop} {k : List Item} {env : Env} {H : AHeap} {c : EOpd} {a b : EC} (hc : c.ev env = .bool true) (h : AM P rs R (.c a :: k) env H) : AM P rs R (.c (.cond c a b) :: k) env H := AM.condT hc h
theorem cF {P : Program} {rs : List ERes} {R : Out → AHeap → Prop} {k : List Item} {env : Env} {H : AHeap} {c : EOpd} {a b : EC} (hc : c.ev env = .bool false) (h : AM P rs R (.c b :: k) env H) : AM P rs R (.c (.cond c a b) :: k) env H := AM.condF hc h
def AHeap.dropB (H : AHeap) (b : Nat) : AHeap := { H with blk := fun x => if x = b then Option.none else H.blk x }
theorem HSub.dropB (H : AHeap) (b : Nat) : HSub (H.dropB b) H := ⟨fun x y h => by simp only [AHeap.dropB] at h; by_cases e : x = b <;> simp [e] at h; exact h, fun _ _ h => h⟩
section
variable {P : Program} {rs : List ERes} {R : Out → AHeap → Prop}
theorem AM.frzB {k : List Item} {env : Env} {H : AHeap} (H2 : AHeap) (E : Env) (b : Nat) {T : TypeId} {cs cs' : List AV} (hb : H.blk b = some (T, cs)) (hs : HSub H2 H) (h2 : H2.blk b = none) (hc : FrzL H H2 cs cs') (he : ∀ j, E.get j = env.get j ∨ E.get j = .top ∨ ∃ o, env.get j = .ptr b o ∧ E.get j = .rp cs' o) (h : AM P rs R k E H2) : AM P rs R k env H := by
 refine AM.conv (fun env' H' => env' = E ∧ H' = H2) (fun m e rh => ?_) (fun env' H' ⟨e1, e2⟩ => by subst e1; subst e2; exact h)
 subst e
 have e1 : Ev m ⟨m.w, m.H, m.L, m.T⟩ := Ev.refl m
 refine ⟨E, H2, m.L, m.T, ⟨rfl, rfl⟩, RH.forget hs rh, Ev.forget hs e1, fun j v hv => ?_⟩
 rcases he j with h | h | ⟨o, h3, h4⟩
 ·rw [h]; exact Rv.forget (w := m.w) (L := m.L) (T := m.T) hs _ _ hv
 ·rw [h]; simp only [Rv]
 ·rw [h3] at hv
  rw [h4]
  simp only [Rv] at hv ⊢
  obtain ⟨l, g1, g2, g3⟩ := rh.blk b T cs hb
  refine ⟨b, 0, by simpa using hv, RvC.of (hc m rfl rh _ g2) fun i u hu => ?_⟩
  have hlt : b < m.w.heap.size := (Array.getElem?_eq_some_iff.1 g1).1
  refine ⟨?_, g3 u (List.mem_of_getElem? hu), hlt, h2, fun t i' hi hbk => ?_⟩
  ·rw [cell_of_row m.w b _ _ _ _ g1]
   simpa using hu
  ·have := ((rh.tok t i' (hs.tok t i' hi)).2.2.2 b hbk).1
   rw [this] at hb
   cases hb
end
section
variable {P : Program} {d : Nat} {d? : Option Nat} {l : List EI} {env : Env} {H : AHeap} {K : Env → AHeap → Prop} {Rp : AV → AHeap → Prop}
theorem DM.calX {f : FuncId} {args : List EOpd} {az az' : List AV} {S : AV → AHeap → Prop} (hc : ACalls P f az H fun o H' => ∃ v, o = .pan v ∧ S v H') (hm : args.map (EOpd.ev env) = az') (ha : AVLes az' az) (h : ∀ v H', S v H' → Rp v H') : DM P (⟨d?, none, .call f args⟩ :: l) env H K Rp := by
 simp only [DM, wanted]
 exact IStep.call _ (hm ▸ ha) hc fun o H' ⟨v, e, hs⟩ => by subst e; exact h v H' hs
theorem DM.mk {T size bytes n : Nat} {zero : List AV} {x : EOpd} {k : IntKind} (hb : bytes * n ≤ 281474976710656) (hm : n ≤ maxLen) (hx : x.ev env = .int k (n : Int)) (ho : zero.all AV.one = true) (hz : zero.length = size) (h0 : size ≠ 0) (h : ∀ t, H.tok t = none → DM P l ((d, .ms t 0) :: env) (H.setT t (.mu T size 0 (List.replicate n zero))) K Rp) : DM P (⟨some d, none, .mkM T size bytes zero x⟩ :: l) env H K Rp :=
 DM.de (.nms T size (List.replicate n zero)) rfl (.mkM hx hb hm ho hz h0) fun t ht => h t ht
end
theorem Pure.borrow {P : Program} {f : FuncId} {args args' : List AV} {r : AV} {H : AHeap} (hp : Pure P f args' r) (hz : FrzL H AHeap.none args args') (hr : ∀ m m' v, Rv m r v → Rv m' r v) : PureAt P f args H r := by
 intro m vs hH rh hv cs
 subst hH
 have hs : HSub AHeap.none m.H := ⟨fun _ _ h => by simp [AHeap.none] at h, fun _ _ h => by simp [AHeap.none] at h⟩
 obtain ⟨e, w', az, ⟨o, H', L', T', g1, g2, g3, rfl, rfl⟩, rest⟩ := hp AHeap.none ⟨m.w, AHeap.none, m.L, m.T⟩ vs rfl (RH.forget hs rh) (hz m rfl rh vs hv) cs
 have hb : ∀ b, b < m.w.heap.size → w'.heap[b]? = m.w.heap[b]? := fun b hb => (g2.block b hb rfl (fun t i h => by simp [AHeap.none] at h)).1
 simp only [RvOut] at g3
 obtain ⟨v, e1, e2⟩ := g3
 exact ⟨e, w', az, ⟨.ret r, m.H, m.L, m.T, RH.hid rh g2.os g2.tape g2.output g2.size hb, Ev.hid g2.os g2.tape g2.output g2.size hb, ⟨v, e1, hr _ _ _ e2⟩, rfl, rfl⟩, rest⟩
end Go.Aw
