/- Part of a proof; own work. -/
import Derived.Test.YtocjjlmnkpnjbaaGreatDoorProg
import Derived.Test.YtocjjlmnkpnjbaaGreatDoorFS2
namespace Go.Aw
open Go
set_option linter.unusedVariables false
set_option linter.unusedSimpArgs false
inductive CI where
 | c (e : EC)
 | blk (id : Nat)
 | rnd (body : EC)
def cpop (id : Nat) : List CI → Option (List CI)
 | .blk j :: k => bif j == id then some k else cpop id k
 | _ :: k => cpop id k
 | [] => none
def cresv (env : Env) (C : AHeap) : ERes → Option AV
 | .t n => some (env.get n)
 | .cell agg n a => match env.get a with
  | .ptr b o => match C.blk b with
   | some (_, cs) => crange cs agg o n
   | none => none
  | .rp row o => crange row agg o n
  | _ => none
def cresL (env : Env) (C : AHeap) : List ERes → Option (List AV)
 | [] => some []
 | r :: rs => match cresv env C r, cresL env C rs with
  | some v, some l => some (v :: l)
  | _, _ => none
def cres (rs : List ERes) (env : Env) (C : AHeap) : Option AV :=
 match rs with
 | [r] => cresv env C r
 | rs => (cresL env C rs).map .tup
abbrev Tab := FuncId → Option (EC × List ERes × Nat)
abbrev Lib := FuncId → List AV → Option AV
def run (tab : Tab) (lib : Lib) (cvs : List FuncId) : Nat → List ERes → List CI → Env → CS → Option (AV × CS)
 | 0, _, _, _, _ => none
 | n + 1, rs, k, env, c =>
  match k with
  | [] => (cres rs env c.H).map fun v => (v, c)
  | .blk _ :: k => run tab lib cvs n rs k env c
  | .rnd body :: k => run tab lib cvs n rs (.c body :: .rnd body :: k) env c
  | .c e :: k => match e with
   | .ret => (cres rs env c.H).map fun v => (v, c)
   | .skip => run tab lib cvs n rs k env c
   | .seq a b => run tab lib cvs n rs (.c a :: .c b :: k) env c
   | .block id b => run tab lib cvs n rs (.c b :: .blk id :: k) env c
   | .exit id => match cpop id k with
    | some k' => run tab lib cvs n rs k' env c
    | none => none
   | .cond x a b => match cev env x with
    | .bool true => run tab lib cvs n rs (.c a :: k) env c
    | .bool false => run tab lib cvs n rs (.c b :: k) env c
    | _ => none
   | .region ops _ =>
    match dmr cvs (fun f az c => match lib f (wkL az) with
     | some r => bif flatL (wkL az) && r.flat then some (r, c) else none
     | none => match tab f with
      | some (e, rs, m) => bif az.length == m then run tab lib cvs n rs [.c e] (initEnv az) c else none
      | none => none) ops env c with
    | some (_, env', c') => run tab lib cvs n rs k env' c'
    | none => none
   | .loop body => run tab lib cvs n rs (.c body :: .rnd body :: k) env c
   | .dfr _ _ _ => none
def clOf (tab : Tab) (lib : Lib) (cvs : List FuncId) (n : Nat) : Cl := fun f az c => match lib f (wkL az) with
 | some r => bif flatL (wkL az) && r.flat then some (r, c) else none
 | none => match tab f with
  | some (e, rs, m) => bif az.length == m then run tab lib cvs n rs [.c e] (initEnv az) c else none
  | none => none
def Inv (tab : Tab) (lib : Lib) (cvs : List FuncId) (rs : List ERes) (v : AV) (c1 : CS) (H0 : AHeap) (s0 : Sg) (body : EC) (k : List CI) (B : Nat) : Nat → Env → AHeap → Prop := fun m env' H' =>
 m ≤ B ∧ ∃ s env c, Sg.Le s0 s ∧ run tab lib cvs (m + 1) rs (.rnd body :: k) env c = some (v, c1) ∧ RnE s env env' ∧ HRc H0 s c H'
def IR (tab : Tab) (lib : Lib) (cvs : List FuncId) (rs : List ERes) (v : AV) (c1 : CS) (H0 : AHeap) (s0 : Sg) (n : Nat) : List CI → List Item → Prop
 | [], [] => True
 | .c e :: k, .c e' :: k' => e = e' ∧ IR tab lib cvs rs v c1 H0 s0 n k k'
 | .blk i :: k, .blk j :: k' => i = j ∧ IR tab lib cvs rs v c1 H0 s0 n k k'
 | .rnd b :: k, .round I m0 :: k' => n ≤ m0 ∧ (∃ B, n ≤ B + 1 ∧ I = Inv tab lib cvs rs v c1 H0 s0 b k B) ∧ IR tab lib cvs rs v c1 H0 s0 n k k'
 | _, _ => False
section
variable {P : Program} {tab : Tab} {lib : Lib} {cvs : List FuncId} {rs : List ERes} {v : AV} {c1 : CS} {H0 : AHeap} {s0 : Sg}
theorem IR.mono {n n' : Nat} (hn : n' ≤ n) : ∀ (k : List CI) (l : List Item), IR tab lib cvs rs v c1 H0 s0 n k l → IR tab lib cvs rs v c1 H0 s0 n' k l
 | [], [], _ => trivial
 | .c e :: k, .c e' :: k', h => ⟨h.1, IR.mono hn k k' h.2⟩
 | .blk i :: k, .blk j :: k', h => ⟨h.1, IR.mono hn k k' h.2⟩
 | .rnd b :: k, .round I m0 :: k', h => by
  obtain ⟨h1, ⟨B, h2, h3⟩, h4⟩ := h
  exact ⟨by omega, ⟨B, by omega, h3⟩, IR.mono hn k k' h4⟩
 | [], _ :: _, h => by cases h
 | .c _ :: _, [], h => by cases h
 | .c _ :: _, .blk _ :: _, h => by cases h
 | .c _ :: _, .round _ _ :: _, h => by cases h
 | .blk _ :: _, [], h => by cases h
 | .blk _ :: _, .c _ :: _, h => by cases h
 | .blk _ :: _, .round _ _ :: _, h => by cases h
 | .rnd _ :: _, [], h => by cases h
 | .rnd _ :: _, .c _ :: _, h => by cases h
 | .rnd _ :: _, .blk _ :: _, h => by cases h
theorem cpop_ok {n id : Nat} {k1 : List CI} : ∀ (k : List CI) (l : List Item), IR tab lib cvs rs v c1 H0 s0 n k l → cpop id k = some k1 → ∃ l1, popTo id l = some l1 ∧ IR tab lib cvs rs v c1 H0 s0 n k1 l1
 | [], _, _, h => by cases h
 | .c e :: k, .c e' :: k', h, hk => by
  simp only [cpop] at hk
  simp only [popTo]
  exact cpop_ok k k' h.2 hk
 | .blk i :: k, .blk j :: k', h, hk => by
  obtain ⟨rfl, h2⟩ := h
  simp only [cpop] at hk
  simp only [popTo]
  cases hi : i == id with
  | true =>
   rw [hi] at hk
   simp only [cond_true, Option.some.injEq] at hk
   subst hk
   rw [if_pos (by simpa using hi)]
   exact ⟨_, rfl, h2⟩
  | false =>
   rw [hi] at hk
   rw [if_neg (by simpa using hi)]
   exact cpop_ok k k' h2 hk
 | .rnd b :: k, .round I m0 :: k', h, hk => by
  simp only [cpop] at hk
  simp only [popTo]
  exact cpop_ok k k' h.2.2 hk
 | .c _ :: _, [], h, _ => by cases h
 | .c _ :: _, .blk _ :: _, h, _ => by cases h
 | .c _ :: _, .round _ _ :: _, h, _ => by cases h
 | .blk _ :: _, [], h, _ => by cases h
 | .blk _ :: _, .c _ :: _, h, _ => by cases h
 | .blk _ :: _, .round _ _ :: _, h, _ => by cases h
 | .rnd _ :: _, [], h, _ => by cases h
 | .rnd _ :: _, .c _ :: _, h, _ => by cases h
 | .rnd _ :: _, .blk _ :: _, h, _ => by cases h
variable {s : Sg} {env env' : Env} {H : AHeap} {c : CS}
theorem cresv_ok (he : RnE s env env') (hr : HRc H0 s c H) {r : ERes} {x : AV} (h : cresv env c.H r = some x) : ∃ x', r.ev env' H = some x' ∧ Rn s x x' := by
 cases r with
 | t n =>
  simp only [cresv, Option.some.injEq] at h
  subst h
  exact ⟨_, rfl, he n⟩
 | cell agg n a =>
  simp only [cresv] at h
  have ha := he a
  split at h
  ·rename_i b o e
   rw [e] at ha
   simp only [Rn] at ha
   obtain ⟨y, h1, h2⟩ := ha
   split at h
   ·rename_i T cs e2
    obtain ⟨x', cs', g1, g2, g3⟩ := hr.blk _ _ _ e2
    rw [h1] at g1
    cases g1
    obtain ⟨k1, v', k2, k3⟩ := crange_ok g3 h
    exact ⟨v', by simp only [ERes.ev, peval, EOpd.ev, h2, g2, if_pos k1, k2], k3⟩
   ·cases h
  ·rename_i row o e
   rw [e] at ha
   simp only [Rn] at ha
   obtain ⟨l, h2, h1⟩ := ha
   obtain ⟨k1, v', k2, k3⟩ := crange_ok h1 h
   exact ⟨v', by simp only [ERes.ev, peval, EOpd.ev, h2, if_pos k1, k2], k3⟩
  ·cases h
theorem cresL_ok (he : RnE s env env') (hr : HRc H0 s c H) : ∀ (l : List ERes) (x : List AV), cresL env c.H l = some x → ∃ x', l.mapM (ERes.ev env' H) = some x' ∧ RnL s x x'
 | [], x, h => by
  simp only [cresL, Option.some.injEq] at h
  subst h
  exact ⟨[], rfl, by simp only [RnL]⟩
 | r :: l, x, h => by
  simp only [cresL] at h
  split at h
  ·rename_i y ys e1 e2
   simp only [Option.some.injEq] at h
   subst h
   obtain ⟨y', g1, g2⟩ := cresv_ok he hr e1
   obtain ⟨ys', g3, g4⟩ := cresL_ok he hr l ys e2
   exact ⟨y' :: ys', by simp [List.mapM_cons, g1, g3], by simp only [RnL]; exact ⟨_, _, rfl, g2, g4⟩⟩
  ·cases h
theorem cres_ok (he : RnE s env env') (hr : HRc H0 s c H) {l : List ERes} {x : AV} (h : cres l env c.H = some x) : ∃ x', results l env' H = some x' ∧ Rn s x x' := by
 unfold cres at h
 split at h
 ·exact cresv_ok he hr h
 ·rename_i hn
  simp only [Option.map_eq_some_iff] at h
  obtain ⟨y, e, rfl⟩ := h
  obtain ⟨y', g1, g2⟩ := cresL_ok he hr l y e
  refine ⟨.tup y', ?_, by simp only [Rn]; exact ⟨_, rfl, g2⟩⟩
  unfold results
  split
  ·rename_i r
   exact absurd rfl (hn r)
  ·rw [g1]; rfl
theorem init_rn : ∀ {az az' : List AV}, RnL s az az' → RnE s (initEnv az) (initEnv az') := by
 intro az az' h j
 rw [initFrom_get, initFrom_get]
 simp only [Nat.zero_le, if_true, Nat.sub_zero]
 cases e : az[j]? with
 | none =>
  simp only [List.getD, e, Option.getD_none, Rn]
 | some a =>
  obtain ⟨a', g1, g2⟩ := h.get j a e
  simp only [List.getD, e, g1, Option.getD_some]
  exact g2
def TabOK (P : Program) (tab : Tab) : Prop := ∀ f e rs m, tab f = some (e, rs, m) → ∃ fn, P.funcs[f]? = some fn ∧ chkF P fn m e rs = true
def LibOK (P : Program) (lib : Lib) : Prop := ∀ f az r, lib f az = some r → flatL az = true → Pure P f az r
theorem AVLes.rvL {m : Mem} : ∀ {az bs : List AV} {l : List Value}, AVLes az bs → RvL m az l → RvL m bs l
 | [], _, _, h, k => by simp only [AVLes] at h; subst h; exact k
 | a :: az, _, _, h, k => by
  simp only [AVLes] at h
  obtain ⟨b, bs, rfl, h1, h2⟩ := h
  simp only [RvL] at k ⊢
  obtain ⟨v, vs, e1, e2, e3⟩ := k
  exact ⟨v, vs, e1, h1 m v e2, AVLes.rvL h2 e3⟩
theorem run_ok (hm : P.follows .mixedOrders = true) (htab : TabOK P tab) (hlib : LibOK P lib) (hcv : ∀ f ∈ cvs, callable P f = true) : ∀ (n : Nat) (rs : List ERes) (k : List CI) (env : Env) (c : CS) (v : AV) (c1 : CS), run tab lib cvs n rs k env c = some (v, c1) →
  ∀ (H0 : AHeap) (s0 s : Sg) (env' : Env) (H : AHeap) (l : List Item) (R : Out → AHeap → Prop), Sg.Le s0 s → RnE s env env' → HRc H0 s c H → IR tab lib cvs rs v c1 H0 s0 n k l → (∀ s' v' H', Sg.Le s0 s' → Rn s' v v' → HRc H0 s' c1 H' → R (.ret v') H') → AM P rs R l env' H := by
 intro n
 induction n using Nat.strongRecOn with
 | ind n ih =>
 intro rs k env c v c1 h H0 s0 s env' H l R hs he hr hi hR
 match n with
 | 0 => cases h
 | n + 1 =>
  have hcl : CallOK P (clOf tab lib cvs n) := by
   intro f az c v c' h H0 s az' H ha hr
   unfold clOf at h
   split at h
   ·rename_i r e
    cases hf : (flatL (wkL az) && r.flat) with
    | false => rw [hf] at h; cases h
    | true =>
     rw [hf] at h
     simp only [cond_true, Option.some.injEq, Prod.mk.injEq] at h
     obtain ⟨rfl, rfl⟩ := h
     simp only [Bool.and_eq_true] at hf
     have hp := hlib f _ _ e hf.1 H
     have hp' : ACalls P f az' H fun o H' => o = .ret r ∧ H' = H := fun m vs hH rh hv => hp m vs hH rh ((wkL_les _ _ ha hf.1).rvL hv)
     exact hp'.mono fun o H' ⟨e1, e2⟩ => ⟨o, H', by subst e1; exact AVLe.refl _, HSub.refl _, s, r, Sg.Le.refl s, e1, (AV.flat_rn r hf.2 r).2 rfl, by rw [e2]; exact hr⟩
   ·split at h
    ·rename_i e rs m e1
     cases hl : az.length == m with
     | false => rw [hl] at h; cases h
     | true =>
      rw [hl, cond_true] at h
      obtain ⟨fn, f1, f2⟩ := htab f e rs m e1
      have hl : az'.length = m := by rw [RnL.length ha]; simpa using hl
      subst hl
      exact acalls_of hm f1 f2 (ih n (Nat.lt_succ_self n) rs _ _ c v c' h H0 s s _ H _ _ (Sg.Le.refl s) (init_rn ha) hr ⟨rfl, trivial⟩ fun s' v' H' q1 q2 q3 => ⟨s', v', q1, rfl, q2, q3⟩)
    ·cases h
  have step : ∀ {k2 : List CI} {env2 : Env} {c2 : CS} {s2 : Sg} {env2' : Env} {H2 : AHeap} {l2 : List Item}, run tab lib cvs n rs k2 env2 c2 = some (v, c1) → Sg.Le s0 s2 → RnE s2 env2 env2' → HRc H0 s2 c2 H2 → IR tab lib cvs rs v c1 H0 s0 n k2 l2 → AM P rs R l2 env2' H2 :=
   fun h hs he hr hi => ih n (Nat.lt_succ_self n) rs _ _ _ v c1 h H0 s0 _ _ _ _ R hs he hr hi hR
  have down : ∀ {k2 l2}, IR tab lib cvs rs v c1 H0 s0 (n + 1) k2 l2 → IR tab lib cvs rs v c1 H0 s0 n k2 l2 := fun h => IR.mono (Nat.le_succ n) _ _ h
  have fin : ∀ {x : AV}, cres rs env c.H = some x → x = v → c = c1 → ∃ x', results rs env' H = some x' ∧ R (.ret x') H := by
   intro x hx e1 e2
   subst e1 e2
   obtain ⟨x', g1, g2⟩ := cres_ok he hr hx
   exact ⟨x', g1, hR s x' H hs g2 hr⟩
  match k, l, hi, h with
  | [], [], _, h =>
   simp only [run, Option.map_eq_some_iff, Prod.mk.injEq] at h
   obtain ⟨x, e1, e2, e3⟩ := h
   obtain ⟨x', g1, g2⟩ := fin e1 e2 e3
   exact .done g1 g2
  | .blk i :: k, .blk j :: l, hi, h => exact .blkEnd (step h hs he hr (down hi.2))
  | .rnd b :: k, .round I m0 :: l, hi, h =>
   obtain ⟨h1, ⟨B, h2, h3⟩, h4⟩ := hi
   subst h3
   exact .round n ⟨by omega, s, env, c, hs, h, he, hr⟩ (by omega)
  | .c e :: k, .c e' :: l, hi, h =>
   obtain ⟨rfl, hi⟩ := hi
   match e, h with
   | .ret, h =>
    simp only [run, Option.map_eq_some_iff, Prod.mk.injEq] at h
    obtain ⟨x, e1, e2, e3⟩ := h
    obtain ⟨x', g1, g2⟩ := fin e1 e2 e3
    exact .ret g1 g2
   | .skip, h => exact .skip (step h hs he hr (down hi))
   | .seq a b, h => exact .seq (step h hs he hr ⟨rfl, rfl, down hi⟩)
   | .block id b, h => exact .block (step h hs he hr ⟨rfl, rfl, down hi⟩)
   | .exit id, h =>
    simp only [run] at h
    split at h
    ·rename_i k' e
     obtain ⟨l1, g1, g2⟩ := cpop_ok k l hi e
     exact .exit g1 (step h hs he hr (down g2))
    ·cases h
   | .cond x a b, h =>
    have hx := cev_rn he x
    simp only [run] at h
    split at h
    ·rename_i e
     rw [e] at hx
     simp only [Rn] at hx
     exact .cond hx (fun _ => step h hs he hr ⟨rfl, down hi⟩) (fun hh => by cases hh)
    ·rename_i e
     rw [e] at hx
     simp only [Rn] at hx
     exact .cond hx (fun hh => by cases hh) (fun _ => step h hs he hr ⟨rfl, down hi⟩)
    ·cases h
   | .region ops draw, h =>
    have h' : (match dmr cvs (clOf tab lib cvs n) ops env c with
     | some (_, env', c') => run tab lib cvs n rs k env' c'
     | none => none) = some (v, c1) := h
    split at h'
    ·rename_i anns env1 c2 e
     exact .reg anns (dmr_ok hcl hcv ops env c anns env1 c2 e s env' H _ he hr fun s' e' H' q1 q2 q3 => step h' (hs.trans q1) q2 q3 (down hi))
    ·cases h'
   | .loop body, h =>
    refine .loop (Inv tab lib cvs rs v c1 H0 s0 body k n) n ⟨Nat.le_refl n, s, env, c, hs, h, he, hr⟩ fun m env2 H2 hI => ?_
    obtain ⟨hm', s2, env2c, c2, q1, q2, q3, q4⟩ := hI
    exact ih m (by omega) rs _ _ _ v c1 q2 H0 s0 s2 env2 H2 _ R q1 q3 q4 ⟨rfl, Nat.le_refl m, ⟨n, by omega, rfl⟩, IR.mono (by omega) _ _ hi⟩ hR
   | .dfr d f cap, h => cases h
  | [], _ :: _, hi, _ => cases hi
  | .c _ :: _, [], hi, _ => cases hi
  | .c _ :: _, .blk _ :: _, hi, _ => cases hi
  | .c _ :: _, .round _ _ :: _, hi, _ => cases hi
  | .blk _ :: _, [], hi, _ => cases hi
  | .blk _ :: _, .c _ :: _, hi, _ => cases hi
  | .blk _ :: _, .round _ _ :: _, hi, _ => cases hi
  | .rnd _ :: _, [], hi, _ => cases hi
  | .rnd _ :: _, .c _ :: _, hi, _ => cases hi
  | .rnd _ :: _, .blk _ :: _, hi, _ => cases hi
theorem pure_run (hm : P.follows .mixedOrders = true) (htab : TabOK P tab) (hlib : LibOK P lib) (hcv : ∀ f ∈ cvs, callable P f = true) {f : FuncId} {fn : Func} {e : EC} {rs : List ERes} {az : List AV} {r : AV} {n : Nat} {x : AV × CS}
  (hf : P.funcs[f]? = some fn) (hc : chkF P fn az.length e rs = true) (ha : flatL az = true) (h : run tab lib cvs n rs [.c e] (initEnv az) .new = some x) (hx : x.1.wk = r) (hr : r.flat = true) : Pure P f az r := by
 refine pure_intro hm hf hc fun H => ?_
 refine run_ok hm htab hlib hcv n rs _ _ _ x.1 x.2 h H ⟨[], []⟩ ⟨[], []⟩ _ H _ _ (Sg.Le.refl _) (init_rn ((flatL_rn az ha _).2 rfl)) (HRc.start H) ⟨rfl, trivial⟩ fun s' v' H' _ h2 h3 => ?_
 subst hx
 exact ⟨v', rfl, fun m y hy => wk_le x.1 v' h2 hr y hy, h3.base⟩
end
end Go.Aw
namespace Go.Aw
open Go
set_option linter.unusedVariables false
set_option linter.unusedSimpArgs false
def RnO (s : Sg) : Out → Out → Prop
  | .ret a, .ret b => Rn s a b
  | .pan a, .pan b => Rn s a b
  | _, _ => False
def FC (P : Program) (f : FuncId) (az : List AV) (c : CS) (Q : Out → CS → Prop) : Prop :=
  ∀ H0 s az' H, RnL s az az' → HRc H0 s c H → ACalls P f az' H fun o' H' => ∃ s' o c1, Sg.Le s s' ∧ Q o c1 ∧ RnO s' o o' ∧ HRc H0 s' c1 H'
def Rt (v : AV) (c1 : CS) : Out → CS → Prop := fun o c => o = .ret v ∧ c = c1
inductive JI where
  | c (e : EC)
  | blk (id : Nat)
  | rnd (I : Nat → Env → CS → Prop) (m0 : Nat)
def JI.tr (H0 : AHeap) (s0 : Sg) : JI → Item
  | .c e => .c e
  | .blk id => .blk id
  | .rnd I m0 => .round (fun m env' H' => ∃ s env c, Sg.Le s0 s ∧ I m env c ∧ RnE s env env' ∧ HRc H0 s c H') m0
def jpop (id : Nat) : List JI → Option (List JI)
  | .blk j :: k => bif j == id then some k else jpop id k
  | _ :: k => jpop id k
  | [] => none
theorem jpop_ok {H0 : AHeap} {s0 : Sg} {id : Nat} : ∀ {k k' : List JI}, jpop id k = some k' → popTo id (k.map (JI.tr H0 s0)) = some (k'.map (JI.tr H0 s0))
  | [], _, h => by cases h
  | .c _ :: k, _, h => by simp only [jpop] at h; simp only [List.map_cons, JI.tr, popTo]; exact jpop_ok h
  | .rnd _ _ :: k, _, h => by simp only [jpop] at h; simp only [List.map_cons, JI.tr, popTo]; exact jpop_ok h
  | .blk j :: k, _, h => by
    simp only [jpop] at h
    simp only [List.map_cons, JI.tr, popTo]
    cases hi : j == id with
    | true => rw [hi] at h; cases h; rw [if_pos (by simpa using hi)]
    | false => rw [hi] at h; rw [if_neg (by simpa using hi)]; exact jpop_ok h
def J (P : Program) (rs : List ERes) (n0 t0 : Nat) (k : List JI) (Q : Out → CS → Prop) (env : Env) (c : CS) : Prop :=
  ∀ H0 s0 s env' H (R : Out → AHeap → Prop), s0.b.length = n0 → s0.t.length = t0 → Sg.Le s0 s → RnE s env env' → HRc H0 s c H → (∀ s' o o' c1 H', Sg.Le s0 s' → Q o c1 → RnO s' o o' → HRc H0 s' c1 H' → R o' H') → AM P rs R (k.map (JI.tr H0 s0)) env' H
def DJ (P : Program) (anns : List AV) (l : List EI) (env : Env) (c : CS) (K : Env → CS → Prop) (Rp : AV → CS → Prop) : Prop :=
  ∀ H0 s env' H (K' : Env → AHeap → Prop) (Rp' : AV → AHeap → Prop), RnE s env env' → HRc H0 s c H → (∀ s' e e' c1 H', Sg.Le s s' → K e c1 → RnE s' e e' → HRc H0 s' c1 H' → K' e' H') → (∀ s' v v' c1 H', Sg.Le s s' → Rp v c1 → Rn s' v v' → HRc H0 s' c1 H' → Rp' v' H') → DM P (annotate l anns) env' H K' Rp'
variable {P : Program} {rs : List ERes} {n0 t0 : Nat} {k : List JI} {Q : Out → CS → Prop} {env : Env} {c c1 : CS} {v : AV}
theorem J.ret (hv : cres rs env c.H = some v) (h : Q (.ret v) c) : J P rs n0 t0 (.c .ret :: k) Q env c := fun H0 s0 s env' H R hn ht hs he hr hR => by
  obtain ⟨v', g1, g2⟩ := cres_ok he hr hv
  exact .ret g1 (hR s (.ret v) (.ret v') c H hs h g2 hr)
theorem J.done (hv : cres rs env c.H = some v) (h : Q (.ret v) c) : J P rs n0 t0 [] Q env c := fun H0 s0 s env' H R hn ht hs he hr hR => by
  obtain ⟨v', g1, g2⟩ := cres_ok he hr hv
  exact .done g1 (hR s (.ret v) (.ret v') c H hs h g2 hr)
theorem J.skip (h : J P rs n0 t0 k Q env c) : J P rs n0 t0 (.c .skip :: k) Q env c := fun H0 s0 s env' H R hn ht hs he hr hR => .skip (h H0 s0 s env' H R hn ht hs he hr hR)
theorem J.blkEnd {id : Nat} (h : J P rs n0 t0 k Q env c) : J P rs n0 t0 (.blk id :: k) Q env c := fun H0 s0 s env' H R hn ht hs he hr hR => .blkEnd (h H0 s0 s env' H R hn ht hs he hr hR)
theorem J.seq {a b : EC} (h : J P rs n0 t0 (.c a :: .c b :: k) Q env c) : J P rs n0 t0 (.c (.seq a b) :: k) Q env c := fun H0 s0 s env' H R hn ht hs he hr hR => .seq (h H0 s0 s env' H R hn ht hs he hr hR)
theorem J.block {id : Nat} {b : EC} (h : J P rs n0 t0 (.c b :: .blk id :: k) Q env c) : J P rs n0 t0 (.c (.block id b) :: k) Q env c := fun H0 s0 s env' H R hn ht hs he hr hR => .block (h H0 s0 s env' H R hn ht hs he hr hR)
theorem J.exit {id : Nat} {k' : List JI} (hk : jpop id k = some k') (h : J P rs n0 t0 k' Q env c) : J P rs n0 t0 (.c (.exit id) :: k) Q env c := fun H0 s0 s env' H R hn ht hs he hr hR => .exit (jpop_ok hk) (h H0 s0 s env' H R hn ht hs he hr hR)
theorem J.cond {x : EOpd} {a b : EC} {t : Bool} (hc : cev env x = .bool t) (h1 : t = true → J P rs n0 t0 (.c a :: k) Q env c) (h2 : t = false → J P rs n0 t0 (.c b :: k) Q env c) : J P rs n0 t0 (.c (.cond x a b) :: k) Q env c := fun H0 s0 s env' H R hn ht hs he hr hR => by
  have hx := cev_rn he x
  rw [hc] at hx
  simp only [Rn] at hx
  exact .cond hx (fun e => h1 e H0 s0 s env' H R hn ht hs he hr hR) (fun e => h2 e H0 s0 s env' H R hn ht hs he hr hR)
theorem J.cT {x : EOpd} {a b : EC} (hc : cev env x = .bool true) (h : J P rs n0 t0 (.c a :: k) Q env c) : J P rs n0 t0 (.c (.cond x a b) :: k) Q env c := J.cond hc (fun _ => h) (fun e => by cases e)
theorem J.cF {x : EOpd} {a b : EC} (hc : cev env x = .bool false) (h : J P rs n0 t0 (.c b :: k) Q env c) : J P rs n0 t0 (.c (.cond x a b) :: k) Q env c := J.cond hc (fun e => by cases e) (fun _ => h)
theorem J.reg {ops : List EI} {draw : Bool} {anns : List AV} (h : DJ P anns ops env c (fun e c1 => J P rs n0 t0 k Q e c1) (fun v c1 => Q (.pan v) c1)) : J P rs n0 t0 (.c (.region ops draw) :: k) Q env c := fun H0 s0 s env' H R hn ht hs he hr hR =>
  .region anns _ (h H0 s env' H _ _ he hr (fun s' e e' c1 H' q1 q2 q3 q4 => q2 H0 s0 s' e' H' R hn ht (hs.trans q1) q3 q4 hR) (fun s' v v' c1 H' q1 q2 q3 q4 => hR s' (.pan v) (.pan v') c1 H' (hs.trans q1) q2 q3 q4)) fun _ _ h => h
theorem J.loop {body : EC} (I : Nat → Env → CS → Prop) (m : Nat) (h0 : I m env c) (h : ∀ m' e c', I m' e c' → J P rs n0 t0 (.c body :: .rnd I m' :: k) Q e c') : J P rs n0 t0 (.c (.loop body) :: k) Q env c := fun H0 s0 s env' H R hn ht hs he hr hR =>
  .loop (fun m env' H' => ∃ s env c, Sg.Le s0 s ∧ I m env c ∧ RnE s env env' ∧ HRc H0 s c H') m ⟨s, env, c, hs, h0, he, hr⟩ fun m' e' H' ⟨s2, e2, c2, q1, q2, q3, q4⟩ => h m' e2 c2 q2 H0 s0 s2 e' H' R hn ht q1 q3 q4 hR
theorem J.round {I : Nat → Env → CS → Prop} {m0 : Nat} (m : Nat) (h0 : I m env c) (h1 : m < m0) : J P rs n0 t0 (.rnd I m0 :: k) Q env c := fun H0 s0 s env' H R hn ht hs he hr hR =>
  .round m ⟨s, env, c, hs, h0, he, hr⟩ h1
def EHas (env : Env) : Env → Prop
  | [] => True
  | p :: l => env.get p.1 = p.2 ∧ EHas env l
theorem EHas.get : ∀ {E : Env}, EHas env E → ∀ j, E.get j = env.get j ∨ E.get j = .top
  | [], _, j => .inr rfl
  | (k, v) :: E, h, j => by
    simp only [EHas] at h
    simp only [Env.get]
    cases hk : k == j with
    | true => have : k = j := by simpa using hk
              subst this; exact .inl h.1.symm
    | false => exact EHas.get h.2 j
theorem RnE.weak {s : Sg} {E env' : Env} (h : ∀ j, E.get j = env.get j ∨ E.get j = .top) (he : RnE s env env') : RnE s E env' := fun j => by
  rcases h j with e | e
  · rw [e]; exact he j
  · rw [e]; simp only [Rn]
abbrev BL := List (Nat × TypeId × List AV)
abbrev TL := List (Nat × Own)
def lkB : BL → Nat → Option (TypeId × List AV)
  | [], _ => none
  | (k, x) :: l, j => bif k == j then some x else lkB l j
def lkT : TL → Nat → Option Own
  | [], _ => none
  | (k, x) :: l, j => bif k == j then some x else lkT l j
def CS.of (nb nt : Nat) (bl : BL) (tl : TL) : CS := ⟨⟨lkB bl, lkT tl⟩, nb, nt⟩
def HasB (H : AHeap) : BL → Prop
  | [] => True
  | p :: l => H.blk p.1 = some p.2 ∧ HasB H l
def HasT (H : AHeap) : TL → Prop
  | [] => True
  | p :: l => H.tok p.1 = some p.2 ∧ HasT H l
theorem HasB.get {H : AHeap} : ∀ {l : BL}, HasB H l → ∀ j y, lkB l j = some y → H.blk j = some y
  | [], _, _, _, e => by cases e
  | (k, x) :: l, h, j, y, e => by
    simp only [HasB] at h
    simp only [lkB] at e
    cases hk : k == j with
    | true => rw [hk] at e; cases e
              have : k = j := by simpa using hk
              subst this; exact h.1
    | false => rw [hk] at e; exact HasB.get h.2 j y e
theorem HasT.get {H : AHeap} : ∀ {l : TL}, HasT H l → ∀ j y, lkT l j = some y → H.tok j = some y
  | [], _, _, _, e => by cases e
  | (k, x) :: l, h, j, y, e => by
    simp only [HasT] at h
    simp only [lkT] at e
    cases hk : k == j with
    | true => rw [hk] at e; cases e
              have : k = j := by simpa using hk
              subst this; exact h.1
    | false => rw [hk] at e; exact HasT.get h.2 j y e
mutual
def AV.bd (n t : Nat) : AV → Bool
  | .ptr b _ => Nat.blt b n
  | .agg cs => bdL n t cs
  | .tup cs => bdL n t cs
  | .vs _ rows => flatR rows
  | .own x _ rows => Nat.blt x t && flatR rows
  | .ms x _ => Nat.blt x t
  | .mp x _ _ => Nat.blt x t
  | .rp row _ => flatL row
  | .fn _ cap => bdL n t cap
  | .ifc _ v => v.bd n t
  | _ => true
def bdL (n t : Nat) : List AV → Bool
  | [] => true
  | a :: az => a.bd n t && bdL n t az
end
theorem flatL_any {s s' : Sg} {az l : List AV} (h : flatL az = true) (hr : RnL s az l) : RnL s' az l := (flatL_rn az h l).2 ((flatL_rn az h l).1 hr)
theorem flatR_any {s s' : Sg} {az l : List (List AV)} (h : flatR az = true) (hr : RnR s az l) : RnR s' az l := (flatR_rn az h l).2 ((flatR_rn az h l).1 hr)
theorem blt_lt {i n : Nat} (h : Nat.blt i n = true) : i < n := by simpa [Nat.blt_eq] using h
theorem take_get {l : List Nat} {n i x : Nat} (h : l[i]? = some x) (hi : Nat.blt i n = true) : (l.take n)[i]? = some x := by
  rw [List.getElem?_take, if_pos (blt_lt hi), h]
mutual
theorem Rn.cut {s : Sg} {n t : Nat} : ∀ (a v : AV), Rn s a v → a.bd n t = true → Rn ⟨s.b.take n, s.t.take t⟩ a v
  | .top, _, _, _ => by simp only [Rn]
  | .ptr b o, _, h, hb => by simp only [AV.bd] at hb; simp only [Rn] at *; obtain ⟨x, h1, h2⟩ := h; exact ⟨x, take_get h1 hb, h2⟩
  | .agg cs, _, h, hb => by simp only [AV.bd] at hb; simp only [Rn] at *; obtain ⟨l, h1, h2⟩ := h; exact ⟨l, h1, RnL.cut cs l h2 hb⟩
  | .tup cs, _, h, hb => by simp only [AV.bd] at hb; simp only [Rn] at *; obtain ⟨l, h1, h2⟩ := h; exact ⟨l, h1, RnL.cut cs l h2 hb⟩
  | .vs _ rows, _, h, hb => by
    simp only [AV.bd] at hb
    simp only [Rn] at *
    obtain ⟨l, h1, h2⟩ := h
    exact ⟨l, h1, flatR_any hb h2⟩
  | .own x _ rows, _, h, hb => by
    simp only [AV.bd, Bool.and_eq_true] at hb
    simp only [Rn] at *
    obtain ⟨y, l, h0, h1, h2⟩ := h
    exact ⟨y, l, take_get h0 hb.1, h1, flatR_any hb.2 h2⟩
  | .ms x _, _, h, hb => by simp only [AV.bd] at hb; simp only [Rn] at *; obtain ⟨x, h1, h2⟩ := h; exact ⟨x, take_get h1 hb, h2⟩
  | .mp x _ _, _, h, hb => by simp only [AV.bd] at hb; simp only [Rn] at *; obtain ⟨x, h1, h2⟩ := h; exact ⟨x, take_get h1 hb, h2⟩
  | .rp row _, _, h, hb => by
    simp only [AV.bd] at hb
    simp only [Rn] at *
    obtain ⟨l, h1, h2⟩ := h
    exact ⟨l, h1, flatL_any hb h2⟩
  | .fn _ cap, _, h, hb => by simp only [AV.bd] at hb; simp only [Rn] at *; obtain ⟨l, h1, h2⟩ := h; exact ⟨l, h1, RnL.cut cap l h2 hb⟩
  | .ifc _ v, _, h, hb => by simp only [AV.bd] at hb; simp only [Rn] at *; obtain ⟨x, h1, h2⟩ := h; exact ⟨x, h1, Rn.cut v x h2 hb⟩
  | .bool _, _, h, _ => by simp only [Rn] at *; exact h
  | .int _ _, _, h, _ => by simp only [Rn] at *; exact h
  | .str _, _, h, _ => by simp only [Rn] at *; exact h
  | .raw _, _, h, _ => by simp only [Rn] at *; exact h
theorem RnL.cut {s : Sg} {n t : Nat} : ∀ (az l : List AV), RnL s az l → bdL n t az = true → RnL ⟨s.b.take n, s.t.take t⟩ az l
  | [], _, h, _ => by simp only [RnL] at *; exact h
  | a :: az, _, h, hb => by simp only [bdL, Bool.and_eq_true] at hb; simp only [RnL] at *; obtain ⟨v, vs, h1, h2, h3⟩ := h; exact ⟨v, vs, h1, Rn.cut a v h2 hb.1, RnL.cut az vs h3 hb.2⟩
end
def bdE (n t : Nat) : Env → Bool
  | [] => true
  | p :: l => p.2.bd n t && bdE n t l
def bdB (n t : Nat) : BL → Bool
  | [] => true
  | p :: l => Nat.blt p.1 n && (bdL n t p.2.2 && bdB n t l)
def bdO : Option (List (List AV)) → Bool
  | none => true
  | some rows => flatR rows
def bdT (n t : Nat) : TL → Bool
  | [] => true
  | p :: l => Nat.blt p.1 t && (bdO p.2.con && bdT n t l)
theorem bdE_get {n t : Nat} : ∀ {E : Env}, bdE n t E = true → ∀ j, (E.get j).bd n t = true
  | [], _, j => rfl
  | (k, v) :: E, h, j => by
    simp only [bdE, Bool.and_eq_true] at h
    simp only [Env.get]
    cases k == j with
    | true => exact h.1
    | false => exact bdE_get h.2 j
theorem bdB_get {n t : Nat} : ∀ {l : BL}, bdB n t l = true → ∀ j T cs, lkB l j = some (T, cs) → Nat.blt j n = true ∧ bdL n t cs = true
  | [], _, _, _, _, e => by cases e
  | (k, x) :: l, h, j, T, cs, e => by
    simp only [bdB, Bool.and_eq_true] at h
    simp only [lkB] at e
    cases hk : k == j with
    | true => rw [hk] at e; cases e
              have : k = j := by simpa using hk
              subst this; exact ⟨h.1, h.2.1⟩
    | false => rw [hk] at e; exact bdB_get h.2.2 j T cs e
theorem bdT_get {n t : Nat} : ∀ {l : TL}, bdT n t l = true → ∀ j o, lkT l j = some o → Nat.blt j t = true ∧ bdO o.con = true
  | [], _, _, _, e => by cases e
  | (k, x) :: l, h, j, o, e => by
    simp only [bdT, Bool.and_eq_true] at h
    simp only [lkT] at e
    cases hk : k == j with
    | true => rw [hk] at e; cases e
              have : k = j := by simpa using hk
              subst this; exact ⟨h.1, h.2.1⟩
    | false => rw [hk] at e; exact bdT_get h.2.2 j o e
theorem HRc.cut {H0 H : AHeap} {s : Sg} {n t : Nat} {bl : BL} {tl : TL} (hr : HRc H0 s c H) (hb : HasB c.H bl) (ht : HasT c.H tl) (hn : n ≤ c.nb) (hm : t ≤ c.nt) (kb : bdB n t bl = true) (kt : bdT n t tl = true) : HRc H0 ⟨s.b.take n, s.t.take t⟩ (CS.of n t bl tl) H where
  base := hr.base
  blk := fun b T cs e => by
    obtain ⟨g1, g2⟩ := bdB_get kb b T cs e
    obtain ⟨x, cs', h1, h2, h3⟩ := hr.blk b T cs (hb.get b _ e)
    exact ⟨x, cs', take_get h1 g1, h2, RnL.cut _ _ h3 g2⟩
  tok := fun b o e => by
    obtain ⟨g1, g2⟩ := bdT_get kt b o e
    obtain ⟨x, o', h1, h2, h3, h4, h5, h6, h7⟩ := hr.tok b o (ht.get b _ e)
    refine ⟨x, o', take_get h1 g1, h2, h3, h4, h5, h6, ?_⟩
    cases hc : o.con with
    | none => rw [hc] at h7; exact h7
    | some rows =>
      rw [hc] at h7 g2
      simp only [bdO] at g2
      obtain ⟨l, q1, q2⟩ := h7
      exact ⟨l, q1, flatR_any g2 q2⟩
  newb := fun b x e => by
    rw [List.getElem?_take] at e
    split at e
    · exact hr.newb b x e
    · cases e
  newt := fun b x e => by
    rw [List.getElem?_take] at e
    split at e
    · exact hr.newt b x e
    · cases e
  injb := fun b b' x e e' => by
    rw [List.getElem?_take] at e e'
    split at e
    · split at e'
      · exact hr.injb b b' x e e'
      · cases e'
    · cases e
  injt := fun b b' x e e' => by
    rw [List.getElem?_take] at e e'
    split at e
    · split at e'
      · exact hr.injt b b' x e e'
      · cases e'
    · cases e
  nb := by simp only [CS.of, List.length_take]; rw [← hr.nb]; omega
  nt := by simp only [CS.of, List.length_take]; rw [← hr.nt]; omega
theorem Sg.Le.cut {s0 s : Sg} {n t : Nat} (h : Sg.Le s0 s) (hn : s0.b.length ≤ n) (ht : s0.t.length ≤ t) : Sg.Le s0 ⟨s.b.take n, s.t.take t⟩ where
  b := fun i x e => by
    have : i < s0.b.length := (List.getElem?_eq_some_iff.1 e).1
    rw [List.getElem?_take, if_pos (by omega)]
    exact h.b i x e
  t := fun i x e => by
    have : i < s0.t.length := (List.getElem?_eq_some_iff.1 e).1
    rw [List.getElem?_take, if_pos (by omega)]
    exact h.t i x e
theorem J.cut (n t : Nat) (E : Env) (bl : BL) (tl : TL) (he : EHas env E) (hb : HasB c.H bl) (ht : HasT c.H tl) (hn : (Nat.ble n0 n && (Nat.ble n c.nb && (Nat.ble t0 t && Nat.ble t c.nt))) = true) (hd : (bdE n t E && (bdB n t bl && bdT n t tl)) = true) (h : J P rs n0 t0 k Q E (CS.of n t bl tl)) : J P rs n0 t0 k Q env c := fun H0 s0 s env' H R h1 h2 hs hE hr hR => by
  simp only [Bool.and_eq_true, Nat.ble_eq] at hn hd
  obtain ⟨a1, a2, a3, a4⟩ := hn
  obtain ⟨b1, b2, b3⟩ := hd
  refine h H0 s0 ⟨s.b.take n, s.t.take t⟩ env' H R h1 h2 (hs.cut (by omega) (by omega)) (fun j => ?_) (hr.cut hb ht a2 a4 b2 b3) hR
  exact Rn.cut _ _ (RnE.weak he.get hE j) (bdE_get b1 j)
theorem J.keep (E : Env) (bl : BL) (tl : TL) (he : EHas env E) (hb : HasB c.H bl) (ht : HasT c.H tl) (h : J P rs n0 t0 k Q E (CS.of c.nb c.nt bl tl)) : J P rs n0 t0 k Q env c := fun H0 s0 s env' H R h1 h2 hs hE hr hR => by
  refine h H0 s0 s env' H R h1 h2 hs (RnE.weak he.get hE) ⟨⟨hr.base, fun b T cs e => hr.blk b T cs (hb.get b _ e), fun b o e => hr.tok b o (ht.get b _ e), hr.newb, hr.newt, hr.injb, hr.injt⟩, hr.nb, hr.nt⟩ hR
end Go.Aw
namespace Go.Aw
open Go
set_option linter.unusedVariables false
set_option linter.unusedSimpArgs false
def IJ (P : Program) (op : EOp) (env : Env) (c : CS) (S Sp : AV → CS → Prop) : Prop :=
  ∀ H0 s env' H (K Rp : AV → AHeap → Prop), RnE s env env' → HRc H0 s c H → (∀ s' v v' c1 H', Sg.Le s s' → S v c1 → Rn s' v v' → HRc H0 s' c1 H' → K v' H') → (∀ s' v v' c1 H', Sg.Le s s' → Sp v c1 → Rn s' v v' → HRc H0 s' c1 H' → Rp v' H') → IStep P op env' H K Rp
section
variable {P : Program} {rs : List ERes} {n0 t0 : Nat} {k : List JI} {Q : Out → CS → Prop} {env : Env} {c c1 : CS} {v r : AV} {anns : List AV} {l : List EI} {K : Env → CS → Prop} {Rp : AV → CS → Prop} {d : Option Nat} {g : Option (Nat × Bool)} {op : EOp} {f : FuncId} {args : List EOpd} {az cap : List AV} {x : EOpd}
theorem DJ.nil (h : K env c) : DJ P [] [] env c K Rp := fun H0 s env' H K' Rp' he hr hK hRp => by
  exact hK s env env' c H (Sg.Le.refl s) h he hr
theorem DJ.opr {S : AV → CS → Prop} (hw : wanted ⟨d, g, op⟩ env = some true) (hp : isP op = false) (hi : IJ P op env c S Rp) (h : ∀ v c1, S v c1 → DJ P anns l (env.put d v) c1 K Rp) : DJ P anns (⟨d, g, op⟩ :: l) env c K Rp := fun H0 s env' H K' Rp' he hr hK hRp => by
  have q : DM P (⟨d, g, op⟩ :: annotate l anns) env' H K' Rp' := DM.step (wanted_ok he hw) (hi H0 s env' H _ _ he hr (fun s' v v' c1 H' a1 a2 a3 a4 => h v c1 a2 H0 s' _ H' K' Rp' ((he.mono a1).put a3 d) a4 (fun s2 e e' c2 H2 b1 b2 b3 b4 => hK s2 e e' c2 H2 (a1.trans b1) b2 b3 b4) (fun s2 e e' c2 H2 b1 b2 b3 b4 => hRp s2 e e' c2 H2 (a1.trans b1) b2 b3 b4)) hRp)
  cases op <;> first | (simp [isP] at hp; done) | (cases anns <;> simpa only [annotate] using q)
abbrev noCl : Cl := fun _ _ _ => none
abbrev ost (op : EOp) (env : Env) (c : CS) : Option (AV × CS) := cstp [] noCl op env c
theorem IJ.o (h : ost op env c = some (v, c1)) : IJ P op env c (fun v' c' => v' = v ∧ c' = c1) Rp := fun H0 s env' H K Rp he hr hK hRp =>
  cstp_ok (cvs := []) (cl := noCl) (fun _ _ _ _ _ h => by cases h) (fun _ h => by simp at h) he hr h fun s' v' H' q1 q2 q3 => hK s' v v' c1 H' q1 ⟨rfl, rfl⟩ q2 q3
theorem DJ.o (hw : wanted ⟨d, g, op⟩ env = some true) (hp : isP op = false) (hs : ost op env c = some (v, c1)) (h : DJ P anns l (env.put d v) c1 K Rp) : DJ P anns (⟨d, g, op⟩ :: l) env c K Rp :=
  DJ.opr hw hp (IJ.o hs) fun v' c' ⟨e1, e2⟩ => by rw [e1, e2]; exact h
theorem DJ.sk (hw : wanted ⟨d, g, op⟩ env = some false) (hp : isP op = false) (h : DJ P anns l (env.put d .undef) c K Rp) : DJ P anns (⟨d, g, op⟩ :: l) env c K Rp := fun H0 s env' H K' Rp' he hr hK hRp => by
  have q : DM P (⟨d, g, op⟩ :: annotate l anns) env' H K' Rp' := DM.skip (wanted_ok he hw) (h H0 s _ H K' Rp' (he.put (by simp only [Rn]) d) hr hK hRp)
  cases op <;> first | (simp [isP] at hp; done) | (cases anns <;> simpa only [annotate] using q)
theorem DJ.skP (hw : wanted ⟨d, g, op⟩ env = some false) (hp : isP op = true) (h : DJ P anns l (env.put d .undef) c K Rp) : DJ P (r :: anns) (⟨d, g, op⟩ :: l) env c K Rp := fun H0 s env' H K' Rp' he hr hK hRp => by
  have hw' := wanted_ok he hw
  have q := h H0 s (env'.put d AV.undef) H K' Rp' (he.put (by simp only [Rn]) d) hr hK hRp
  cases op <;> first | (simp [isP] at hp; done) | (simp only [annotate]; exact DM.skip hw' q)
theorem DJ.u {d : Nat} (hp : isP op = false) (hs : ost op env c = some (v, c1)) (h : DJ P anns l ((d, v) :: env) c1 K Rp) : DJ P anns (⟨some d, none, op⟩ :: l) env c K Rp := DJ.o rfl hp hs h
theorem annot_g {g g' : Option (Nat × Bool)} {H0 H : AHeap} {env' : Env} {Kf : Env → AHeap → Prop} {Rf : AV → AHeap → Prop} (h : ∀ i, wanted ⟨d, g, i⟩ env' = wanted ⟨d, g', i⟩ env') (k : DM P (annotate (⟨d, g', op⟩ :: l) anns) env' H Kf Rf) : DM P (annotate (⟨d, g, op⟩ :: l) anns) env' H Kf Rf := by
  cases op <;> cases anns <;> simp only [annotate, DM] at k ⊢ <;> rw [h] <;> exact k
theorem DJ.gd {j : Nat} {t b : Bool} (hb : env.get j = .bool b) (ht : b = t) (h : DJ P anns (⟨d, none, op⟩ :: l) env c K Rp) : DJ P anns (⟨d, some (j, t), op⟩ :: l) env c K Rp := fun H0 s env' H K' Rp' he hr hK hRp => by
  subst ht
  refine annot_g (H0 := H0) (g' := none) (fun i => ?_) (h H0 s env' H K' Rp' he hr hK hRp)
  have := he j
  rw [hb] at this
  simp only [Rn] at this
  simp only [wanted, this, beq_self_eq_true]
theorem DJ.g1 {j : Nat} (hb : env.get j = .bool true) (h : DJ P anns (⟨d, none, op⟩ :: l) env c K Rp) : DJ P anns (⟨d, some (j, true), op⟩ :: l) env c K Rp := DJ.gd hb rfl h
theorem DJ.g2 {j : Nat} (hb : env.get j = .bool false) (h : DJ P anns (⟨d, none, op⟩ :: l) env c K Rp) : DJ P anns (⟨d, some (j, false), op⟩ :: l) env c K Rp := DJ.gd hb rfl h
theorem DJ.g3 {j : Nat} (hb : env.get j = .bool true) (hp : isP op = false) (h : DJ P anns l (env.put d .undef) c K Rp) : DJ P anns (⟨d, some (j, false), op⟩ :: l) env c K Rp := DJ.sk (by simp only [wanted, hb]; rfl) hp h
theorem DJ.g4 {j : Nat} (hb : env.get j = .bool false) (hp : isP op = false) (h : DJ P anns l (env.put d .undef) c K Rp) : DJ P anns (⟨d, some (j, true), op⟩ :: l) env c K Rp := DJ.sk (by simp only [wanted, hb]; rfl) hp h
theorem DJ.g5 {j : Nat} {t : Bool} (hb : env.get j = .undef) (hp : isP op = false) (h : DJ P anns l (env.put d .undef) c K Rp) : DJ P anns (⟨d, some (j, t), op⟩ :: l) env c K Rp := DJ.sk (by simp only [wanted, hb]; rfl) hp h
theorem DJ.g6 {j : Nat} (hb : env.get j = .bool true) (hp : isP op = true) (h : DJ P anns l (env.put d .undef) c K Rp) : DJ P (.undef :: anns) (⟨d, some (j, false), op⟩ :: l) env c K Rp := DJ.skP (by simp only [wanted, hb]; rfl) hp h
theorem DJ.g7 {j : Nat} (hb : env.get j = .bool false) (hp : isP op = true) (h : DJ P anns l (env.put d .undef) c K Rp) : DJ P (.undef :: anns) (⟨d, some (j, true), op⟩ :: l) env c K Rp := DJ.skP (by simp only [wanted, hb]; rfl) hp h
theorem DJ.g8 {j : Nat} {t : Bool} (hb : env.get j = .undef) (hp : isP op = true) (h : DJ P anns l (env.put d .undef) c K Rp) : DJ P (.undef :: anns) (⟨d, some (j, t), op⟩ :: l) env c K Rp := DJ.skP (by simp only [wanted, hb]; rfl) hp h
theorem DJ.pc (hw : wanted ⟨d, g, .pcall f args⟩ env = some true) (h1 : Pure P f az r) (ha : wkL (args.map (cev env)) = az) (hf : flatL az = true) (hr : r.flat = true) (h : DJ P anns l (env.put d r) c K Rp) : DJ P (r :: anns) (⟨d, g, .pcall f args⟩ :: l) env c K Rp := fun H0 s env' H K' Rp' he hh hK hRp => by
  subst ha
  simp only [annotate]
  exact DM.step (wanted_ok he hw) (.sw (.det r) (.pcall' (wkL_les _ _ (cevs_rn he args) hf) h1) fun _ _ => h H0 s _ H K' Rp' (he.put ((AV.flat_rn r hr r).2 rfl) d) hh hK hRp)
theorem outk {K Rp : AV → AHeap → Prop} {s : Sg} {H0 : AHeap} (hK : ∀ s' v v' c1 H', Sg.Le s s' → Q (.ret v) c1 → Rn s' v v' → HRc H0 s' c1 H' → K v' H') (hRp : ∀ s' v v' c1 H', Sg.Le s s' → Q (.pan v) c1 → Rn s' v v' → HRc H0 s' c1 H' → Rp v' H') : ∀ o' H', (∃ s' o c1, Sg.Le s s' ∧ Q o c1 ∧ RnO s' o o' ∧ HRc H0 s' c1 H') → OutK K Rp H' o' := by
  rintro o' H' ⟨s', o, c1, a1, a2, a3, a4⟩
  cases o <;> cases o' <;> simp only [RnO] at a3
  · exact hK s' _ _ c1 H' a1 a2 a3 a4
  · exact hRp s' _ _ c1 H' a1 a2 a3 a4
theorem IJ.call (h : FC P f (args.map (cev env)) c Q) : IJ P (.call f args) env c (fun v c1 => Q (.ret v) c1) (fun v c1 => Q (.pan v) c1) := fun H0 s env' H K Rp he hr hK hRp =>
  .call _ (AVLes.rfl' _) (h H0 s _ H (cevs_rn he args) hr) (outk hK hRp)
theorem IJ.callv (hx : cev env x = .fn f cap) (hc : callable P f = true) (h : FC P f (args.map (cev env) ++ cap) c Q) : IJ P (.callv x args) env c (fun v c1 => Q (.ret v) c1) (fun v c1 => Q (.pan v) c1) := fun H0 s env' H K Rp he hr hK hRp => by
  have hx' := cev_eq he hx
  simp only [Rn] at hx'
  obtain ⟨lc, g1, g2⟩ := hx'
  exact .callv _ g1 hc (AVLes.rfl' _) (h H0 s _ H ((cevs_rn he args).append g2) hr) (outk hK hRp)
theorem IJ.callvB (hx : cev env x = .fn (f + bnd) cap) (hc : callable P f = true) (h : FC P f (cap ++ args.map (cev env)) c Q) : IJ P (.callv x args) env c (fun v c1 => Q (.ret v) c1) (fun v c1 => Q (.pan v) c1) := fun H0 s env' H K Rp he hr hK hRp => by
  have hx' := cev_eq he hx
  simp only [Rn] at hx'
  obtain ⟨lc, g1, g2⟩ := hx'
  exact .callvB _ g1 hc (AVLes.rfl' _) (h H0 s _ H (g2.append (cevs_rn he args)) hr) (outk hK hRp)
theorem IJ.panic {t : TypeId} (hx : cev env x = .ifc t v) : IJ P (.panic x) env c (fun _ _ => False) (fun v' c' => v' = .ifc t v ∧ c' = c) := fun H0 s env' H K Rp he hr hK hRp => by
  have hx' := cev_eq he hx
  have hx2 := hx'
  simp only [Rn] at hx'
  obtain ⟨y, g1, g2⟩ := hx'
  rw [g1] at hx2
  exact .panic g1 (hRp s _ _ c H (Sg.Le.refl s) ⟨rfl, rfl⟩ hx2 hr)
theorem IJ.mono {S S' Sp Sp' : AV → CS → Prop} (h : IJ P op env c S Sp) (h1 : ∀ v c1, S v c1 → S' v c1) (h2 : ∀ v c1, Sp v c1 → Sp' v c1) : IJ P op env c S' Sp' := fun H0 s env' H K Rp he hr hK hRp =>
  h H0 s env' H K Rp he hr (fun s' v v' c1 H' a1 a2 a3 a4 => hK s' v v' c1 H' a1 (h1 _ _ a2) a3 a4) (fun s' v v' c1 H' a1 a2 a3 a4 => hRp s' v v' c1 H' a1 (h2 _ _ a2) a3 a4)
theorem DJ.cq (hw : wanted ⟨d, g, .call f args⟩ env = some true) (hc : FC P f az c Q) (ha : args.map (cev env) = az) (h : ∀ v c1, Q (.ret v) c1 → DJ P anns l (env.put d v) c1 K Rp) (hp : ∀ v c1, Q (.pan v) c1 → Rp v c1) : DJ P anns (⟨d, g, .call f args⟩ :: l) env c K Rp := by
  subst ha
  exact DJ.opr hw rfl ((IJ.call hc).mono (fun _ _ h => h) hp) h
theorem DJ.cr (hw : wanted ⟨d, g, .call f args⟩ env = some true) (hc : FC P f az c (Rt v c1)) (ha : args.map (cev env) = az) (h : DJ P anns l (env.put d v) c1 K Rp) : DJ P anns (⟨d, g, .call f args⟩ :: l) env c K Rp :=
  DJ.cq hw hc ha (fun v' c' ⟨e1, e2⟩ => by cases e1; rw [e2]; exact h) (fun v' c' ⟨e1, e2⟩ => by cases e1)
theorem DJ.vq (hw : wanted ⟨d, g, .callv x args⟩ env = some true) (hx : cev env x = .fn f cap) (hf : callable P f = true) (hc : FC P f az c Q) (ha : args.map (cev env) ++ cap = az) (h : ∀ v c1, Q (.ret v) c1 → DJ P anns l (env.put d v) c1 K Rp) (hp : ∀ v c1, Q (.pan v) c1 → Rp v c1) : DJ P anns (⟨d, g, .callv x args⟩ :: l) env c K Rp := by
  subst ha
  exact DJ.opr hw rfl ((IJ.callv hx hf hc).mono (fun _ _ h => h) hp) h
theorem DJ.vr (hw : wanted ⟨d, g, .callv x args⟩ env = some true) (hx : cev env x = .fn f cap) (hf : callable P f = true) (hc : FC P f az c (Rt v c1)) (ha : args.map (cev env) ++ cap = az) (h : DJ P anns l (env.put d v) c1 K Rp) : DJ P anns (⟨d, g, .callv x args⟩ :: l) env c K Rp :=
  DJ.vq hw hx hf hc ha (fun v' c' ⟨e1, e2⟩ => by cases e1; rw [e2]; exact h) (fun v' c' ⟨e1, e2⟩ => by cases e1)
theorem DJ.bq (hw : wanted ⟨d, g, .callv x args⟩ env = some true) (hx : cev env x = .fn (f + bnd) cap) (hf : callable P f = true) (hc : FC P f az c Q) (ha : cap ++ args.map (cev env) = az) (h : ∀ v c1, Q (.ret v) c1 → DJ P anns l (env.put d v) c1 K Rp) (hp : ∀ v c1, Q (.pan v) c1 → Rp v c1) : DJ P anns (⟨d, g, .callv x args⟩ :: l) env c K Rp := by
  subst ha
  exact DJ.opr hw rfl ((IJ.callvB hx hf hc).mono (fun _ _ h => h) hp) h
theorem DJ.br (hw : wanted ⟨d, g, .callv x args⟩ env = some true) (hx : cev env x = .fn (f + bnd) cap) (hf : callable P f = true) (hc : FC P f az c (Rt v c1)) (ha : cap ++ args.map (cev env) = az) (h : DJ P anns l (env.put d v) c1 K Rp) : DJ P anns (⟨d, g, .callv x args⟩ :: l) env c K Rp :=
  DJ.bq hw hx hf hc ha (fun v' c' ⟨e1, e2⟩ => by cases e1; rw [e2]; exact h) (fun v' c' ⟨e1, e2⟩ => by cases e1)
theorem FC.mono {Q' : Out → CS → Prop} (h : FC P f az c Q) (hq : ∀ o c1, Q o c1 → Q' o c1) : FC P f az c Q' := fun H0 s az' H ha hr =>
  (h H0 s az' H ha hr).mono fun o H' ⟨s', o1, c1, a1, a2, a3, a4⟩ => ⟨o, H', by cases o <;> exact AVLe.refl _, HSub.refl _, s', o1, c1, a1, hq _ _ a2, a3, a4⟩
theorem FC.intro {fn : Func} {e : EC} (hm : P.follows .mixedOrders = true) (hf : P.funcs[f]? = some fn) (hc : chkF P fn az.length e rs = true) (h : J P rs c.nb c.nt [.c e] Q (initEnv az) c) : FC P f az c Q := fun H0 s az' H ha hr => by
  have hl := RnL.length ha
  exact acalls_of hm hf (by rw [hl]; exact hc) (h H0 s s (initEnv az') H _ hr.nb.symm hr.nt.symm (Sg.Le.refl s) (init_rn ha) hr fun s' o o' c1 H' q1 q2 q3 q4 => ⟨s', o, c1, q1, q2, q3, q4⟩)
theorem FC.wk {Q' : Out → CS → Prop} (h : FC P f az c Q) (hq : ∀ o c1, Q o c1 → ∃ v, o = .ret v ∧ v.wk.flat = true ∧ Q' (.ret v.wk) c1) : FC P f az c Q' := fun H0 s az' H ha hr =>
  (h H0 s az' H ha hr).mono fun o H' ⟨s', o1, c1, a1, a2, a3, a4⟩ => by
    obtain ⟨v, e1, e2, e3⟩ := hq _ _ a2
    subst e1
    cases o with
    | pan w => simp only [RnO] at a3
    | ret w => exact ⟨.ret v.wk, H', fun m y hy => wk_le v w a3 e2 y hy, HSub.refl _, s', .ret v.wk, c1, a1, e3, (AV.flat_rn _ e2 _).2 rfl, a4⟩
theorem FC.ofPure (h : Pure P f az r) (hf : flatL az = true) (hr : r.flat = true) {as0 : List AV} (ha : wkL as0 = az) : FC P f as0 c (Rt r c) := fun H0 s az' H ha' hh => by
  subst ha
  have hp := h H
  have hp' : ACalls P f az' H fun o H' => o = .ret r ∧ H' = H := fun m vs hH rh hv => hp m vs hH rh ((wkL_les _ _ ha' hf).rvL hv)
  exact hp'.mono fun o H' ⟨e1, e2⟩ => ⟨o, H', by subst e1; exact AVLe.refl _, HSub.refl _, s, .ret r, c, Sg.Le.refl s, ⟨rfl, rfl⟩, by subst e1; exact (AV.flat_rn r hr r).2 rfl, by rw [e2]; exact hh⟩
theorem FC.pure (h : FC P f az .new Q) (hf : flatL az = true) (hr : r.flat = true) (hq : ∀ o c1, Q o c1 → ∃ v, o = .ret v ∧ v.wk = r) : Pure P f az r := ACalls.pure fun H =>
  (h H ⟨[], []⟩ az H ((flatL_rn az hf _).2 rfl) (HRc.start H)).mono fun o H' ⟨s', o1, c1, a1, a2, a3, a4⟩ => by
    obtain ⟨v, e1, e2⟩ := hq _ _ a2
    subst e1 e2
    cases o with
    | pan w => simp only [RnO] at a3
    | ret w => exact ⟨.ret w, H', AVLe.refl _, HSub.refl _, w, rfl, fun m y hy => wk_le v w a3 hr y hy, a4.base⟩
end
end Go.Aw
namespace Go.Aw
open Go
set_option linter.unusedVariables false
set_option linter.unusedSimpArgs false
mutual
def AV.ren (p : Sg) : AV → AV
  | .ptr b o => .ptr (p.b.getD b 0) o
  | .agg cs => .agg (renL p cs)
  | .tup cs => .tup (renL p cs)
  | .vs n rows => .vs n rows
  | .own t n rows => .own (p.t.getD t 0) n rows
  | .ms t v => .ms (p.t.getD t 0) v
  | .mp t v k => .mp (p.t.getD t 0) v k
  | .rp row o => .rp row o
  | .fn f cap => .fn f (renL p cap)
  | .ifc t v => .ifc t (v.ren p)
  | .top => .top
  | .bool b => .bool b
  | .int k n => .int k n
  | .str s => .str s
  | .raw v => .raw v
def renL (p : Sg) : List AV → List AV
  | [] => []
  | a :: az => a.ren p :: renL p az
end
def Sg.comp (p s : Sg) : Sg := ⟨p.b.map fun b => s.b.getD b 0, p.t.map fun t => s.t.getD t 0⟩
structure Sg.Sub (p s : Sg) : Prop where
  b : ∀ (i x : Nat), p.b[i]? = some x → x < s.b.length
  t : ∀ (i x : Nat), p.t[i]? = some x → x < s.t.length
theorem getD_get {l : List Nat} {i : Nat} (h : i < l.length) : l[i]? = some (l.getD i 0) := by
  rw [List.getD_eq_getElem?_getD, List.getElem?_eq_getElem h]; rfl
theorem getD_of {l : List Nat} {i x : Nat} (h : l[i]? = some x) : l.getD i 0 = x := by rw [List.getD_eq_getElem?_getD, h]; rfl
theorem comp_b {p s : Sg} {i y : Nat} (h : p.b[i]? = some y) : (p.comp s).b[i]? = some (s.b.getD y 0) := by simp [Sg.comp, h]
theorem comp_t {p s : Sg} {i y : Nat} (h : p.t[i]? = some y) : (p.comp s).t[i]? = some (s.t.getD y 0) := by simp [Sg.comp, h]
theorem comp_b' {p s : Sg} {i x : Nat} (h : (p.comp s).b[i]? = some x) : ∃ y, p.b[i]? = some y ∧ s.b.getD y 0 = x := by
  simp only [Sg.comp, List.getElem?_map, Option.map_eq_some_iff] at h
  exact h
theorem comp_t' {p s : Sg} {i x : Nat} (h : (p.comp s).t[i]? = some x) : ∃ y, p.t[i]? = some y ∧ s.t.getD y 0 = x := by
  simp only [Sg.comp, List.getElem?_map, Option.map_eq_some_iff] at h
  exact h
section
variable {p s : Sg}
mutual
theorem Rn.comp (hp : p.Sub s) : ∀ (a v : AV), a.bd p.b.length p.t.length = true → Rn s (a.ren p) v → Rn (p.comp s) a v
  | .top, _, _, _ => by simp only [AV.ren, Rn]
  | .ptr b o, _, hb, h => by
    have hb := blt_lt hb
    simp only [AV.ren, Rn] at *
    obtain ⟨x, h1, h2⟩ := h
    exact ⟨x, by rw [comp_b (getD_get hb), getD_of h1], h2⟩
  | .ms t v, _, hb, h => by
    have hb := blt_lt hb
    simp only [AV.ren, Rn] at *
    obtain ⟨x, h1, h2⟩ := h
    exact ⟨x, by rw [comp_t (getD_get hb), getD_of h1], h2⟩
  | .mp t v k, _, hb, h => by
    have hb := blt_lt hb
    simp only [AV.ren, Rn] at *
    obtain ⟨x, h1, h2⟩ := h
    exact ⟨x, by rw [comp_t (getD_get hb), getD_of h1], h2⟩
  | .agg cs, _, hb, h => by simp only [AV.bd] at hb; simp only [AV.ren, Rn] at *; obtain ⟨l, h1, h2⟩ := h; exact ⟨l, h1, RnL.comp hp cs l hb h2⟩
  | .tup cs, _, hb, h => by simp only [AV.bd] at hb; simp only [AV.ren, Rn] at *; obtain ⟨l, h1, h2⟩ := h; exact ⟨l, h1, RnL.comp hp cs l hb h2⟩
  | .fn f cs, _, hb, h => by simp only [AV.bd] at hb; simp only [AV.ren, Rn] at *; obtain ⟨l, h1, h2⟩ := h; exact ⟨l, h1, RnL.comp hp cs l hb h2⟩
  | .ifc t a, _, hb, h => by simp only [AV.bd] at hb; simp only [AV.ren, Rn] at *; obtain ⟨x, h1, h2⟩ := h; exact ⟨x, h1, Rn.comp hp a x hb h2⟩
  | .vs n rows, _, hb, h => by simp only [AV.bd] at hb; simp only [AV.ren, Rn] at *; obtain ⟨l, h1, h2⟩ := h; exact ⟨l, h1, flatR_any hb h2⟩
  | .rp row o, _, hb, h => by simp only [AV.bd] at hb; simp only [AV.ren, Rn] at *; obtain ⟨l, h1, h2⟩ := h; exact ⟨l, h1, flatL_any hb h2⟩
  | .own t n rows, _, hb, h => by
    simp only [AV.bd, Bool.and_eq_true] at hb
    have hb1 := blt_lt hb.1
    simp only [AV.ren, Rn] at *
    obtain ⟨x, l, h0, h1, h2⟩ := h
    exact ⟨x, l, by rw [comp_t (getD_get hb1), getD_of h0], h1, flatR_any hb.2 h2⟩
  | .bool _, _, _, h => by simp only [AV.ren, Rn] at *; exact h
  | .int _ _, _, _, h => by simp only [AV.ren, Rn] at *; exact h
  | .str _, _, _, h => by simp only [AV.ren, Rn] at *; exact h
  | .raw _, _, _, h => by simp only [AV.ren, Rn] at *; exact h
theorem RnL.comp (hp : p.Sub s) : ∀ (az l : List AV), bdL p.b.length p.t.length az = true → RnL s (renL p az) l → RnL (p.comp s) az l
  | [], _, _, h => by simp only [renL, RnL] at *; exact h
  | a :: az, _, hb, h => by simp only [bdL, Bool.and_eq_true] at hb; simp only [renL, RnL] at *; obtain ⟨v, vs, h1, h2, h3⟩ := h; exact ⟨v, vs, h1, Rn.comp hp a v hb.1 h2, RnL.comp hp az vs hb.2 h3⟩
end
mutual
theorem Rn.split (hp : p.Sub s) : ∀ (a v : AV), a.bd p.b.length p.t.length = true → Rn (p.comp s) a v → Rn s (a.ren p) v
  | .top, _, _, _ => by simp only [AV.ren, Rn]
  | .ptr b o, _, hb, h => by
    simp only [AV.ren, Rn] at *
    obtain ⟨x, h1, h2⟩ := h
    obtain ⟨y, e1, e2⟩ := comp_b' h1
    exact ⟨x, by rw [getD_of e1, getD_get (hp.b _ _ e1), e2], h2⟩
  | .ms t v, _, hb, h => by
    simp only [AV.ren, Rn] at *
    obtain ⟨x, h1, h2⟩ := h
    obtain ⟨y, e1, e2⟩ := comp_t' h1
    exact ⟨x, by rw [getD_of e1, getD_get (hp.t _ _ e1), e2], h2⟩
  | .mp t v k, _, hb, h => by
    simp only [AV.ren, Rn] at *
    obtain ⟨x, h1, h2⟩ := h
    obtain ⟨y, e1, e2⟩ := comp_t' h1
    exact ⟨x, by rw [getD_of e1, getD_get (hp.t _ _ e1), e2], h2⟩
  | .agg cs, _, hb, h => by simp only [AV.bd] at hb; simp only [AV.ren, Rn] at *; obtain ⟨l, h1, h2⟩ := h; exact ⟨l, h1, RnL.split hp cs l hb h2⟩
  | .tup cs, _, hb, h => by simp only [AV.bd] at hb; simp only [AV.ren, Rn] at *; obtain ⟨l, h1, h2⟩ := h; exact ⟨l, h1, RnL.split hp cs l hb h2⟩
  | .fn f cs, _, hb, h => by simp only [AV.bd] at hb; simp only [AV.ren, Rn] at *; obtain ⟨l, h1, h2⟩ := h; exact ⟨l, h1, RnL.split hp cs l hb h2⟩
  | .ifc t a, _, hb, h => by simp only [AV.bd] at hb; simp only [AV.ren, Rn] at *; obtain ⟨x, h1, h2⟩ := h; exact ⟨x, h1, Rn.split hp a x hb h2⟩
  | .vs n rows, _, hb, h => by simp only [AV.bd] at hb; simp only [AV.ren, Rn] at *; obtain ⟨l, h1, h2⟩ := h; exact ⟨l, h1, flatR_any hb h2⟩
  | .rp row o, _, hb, h => by simp only [AV.bd] at hb; simp only [AV.ren, Rn] at *; obtain ⟨l, h1, h2⟩ := h; exact ⟨l, h1, flatL_any hb h2⟩
  | .own t n rows, _, hb, h => by
    simp only [AV.bd, Bool.and_eq_true] at hb
    simp only [AV.ren, Rn] at *
    obtain ⟨x, l, h0, h1, h2⟩ := h
    obtain ⟨y, e1, e2⟩ := comp_t' h0
    exact ⟨x, l, by rw [getD_of e1, getD_get (hp.t _ _ e1), e2], h1, flatR_any hb.2 h2⟩
  | .bool _, _, _, h => by simp only [AV.ren, Rn] at *; exact h
  | .int _ _, _, _, h => by simp only [AV.ren, Rn] at *; exact h
  | .str _, _, _, h => by simp only [AV.ren, Rn] at *; exact h
  | .raw _, _, _, h => by simp only [AV.ren, Rn] at *; exact h
theorem RnL.split (hp : p.Sub s) : ∀ (az l : List AV), bdL p.b.length p.t.length az = true → RnL (p.comp s) az l → RnL s (renL p az) l
  | [], _, _, h => by simp only [renL, RnL] at *; exact h
  | a :: az, _, hb, h => by simp only [bdL, Bool.and_eq_true] at hb; simp only [renL, RnL] at *; obtain ⟨v, vs, h1, h2, h3⟩ := h; exact ⟨v, vs, h1, Rn.split hp a v hb.1 h2, RnL.split hp az vs hb.2 h3⟩
end
end
theorem OwR.any {s s' : Sg} {o i : Own} (hb : bdO o.con = true) (h : OwR s o i) : OwR s' o i := by
  obtain ⟨h1, h2, h3, h4, h5⟩ := h
  refine ⟨h1, h2, h3, h4, ?_⟩
  cases hc : o.con with
  | none => rw [hc] at h5; exact h5
  | some rows =>
    rw [hc] at h5 hb
    obtain ⟨l, e1, e2⟩ := h5
    exact ⟨l, e1, flatR_any hb e2⟩
def updB (p : Sg) (bl : BL) (H : Nat → Option (TypeId × List AV)) : Nat → Option (TypeId × List AV) := fun b => bif p.b.contains b then (match (bl.find? fun q => p.b.getD q.1 0 == b) with
      | some q => some (q.2.1, renL p q.2.2)
      | none => none) else H b
def updT (p : Sg) (tl : TL) (H : Nat → Option Own) : Nat → Option Own := fun t => bif p.t.contains t then (match (tl.find? fun q => p.t.getD q.1 0 == t) with
      | some q => some q.2
      | none => none) else H t
def CS.upd (c : CS) (p : Sg) (bl : BL) (tl : TL) : CS := ⟨⟨updB p bl c.H.blk, updT p tl c.H.tok⟩, c.nb, c.nt⟩
def hasP (H : Nat → Option (TypeId × List AV)) (p : Sg) : BL → Prop
  | [] => True
  | q :: l => H (p.b.getD q.1 0) = some (q.2.1, renL p q.2.2) ∧ hasP H p l
def hasPT (H : Nat → Option Own) (p : Sg) : TL → Prop
  | [] => True
  | q :: l => H (p.t.getD q.1 0) = some q.2 ∧ hasPT H p l
theorem hasP.get {H : Nat → Option (TypeId × List AV)} {p : Sg} : ∀ {l : BL}, hasP H p l → ∀ j T cs, lkB l j = some (T, cs) → H (p.b.getD j 0) = some (T, renL p cs)
  | [], _, _, _, _, e => by cases e
  | (k, x) :: l, h, j, T, cs, e => by
    simp only [hasP] at h
    simp only [lkB] at e
    cases hk : k == j with
    | true => rw [hk] at e; cases e
              have : k = j := by simpa using hk
              subst this; exact h.1
    | false => rw [hk] at e; exact hasP.get h.2 j T cs e
theorem hasPT.get {H : Nat → Option Own} {p : Sg} : ∀ {l : TL}, hasPT H p l → ∀ j o, lkT l j = some o → H (p.t.getD j 0) = some o
  | [], _, _, _, e => by cases e
  | (k, x) :: l, h, j, o, e => by
    simp only [hasPT] at h
    simp only [lkT] at e
    cases hk : k == j with
    | true => rw [hk] at e; cases e
              have : k = j := by simpa using hk
              subst this; exact h.1
    | false => rw [hk] at e; exact hasPT.get h.2 j o e
def nodupB : List Nat → Bool
  | [] => true
  | a :: l => !l.contains a && nodupB l
theorem nodupB_get : ∀ {l : List Nat}, nodupB l = true → ∀ (i j x : Nat), l[i]? = some x → l[j]? = some x → i = j
  | [], _, i, j, x, h, _ => by simp at h
  | a :: l, h, 0, 0, x, _, _ => rfl
  | a :: l, h, 0, j + 1, x, h1, h2 => by
    simp only [nodupB, Bool.and_eq_true, Bool.not_eq_true'] at h
    simp at h1 h2
    subst h1
    have := List.mem_of_getElem? h2
    simp [this] at h
  | a :: l, h, i + 1, 0, x, h1, h2 => by
    simp only [nodupB, Bool.and_eq_true, Bool.not_eq_true'] at h
    simp at h1 h2
    subst h2
    have := List.mem_of_getElem? h1
    simp [this] at h
  | a :: l, h, i + 1, j + 1, x, h1, h2 => by
    simp only [nodupB, Bool.and_eq_true] at h
    simp at h1 h2
    rw [nodupB_get h.2 i j x h1 h2]
def bdO1 (n t : Nat) : Out → Bool
  | .ret a => a.bd n t
  | .pan a => a.bd n t
def Out.ren (p : Sg) : Out → Out
  | .ret a => .ret (a.ren p)
  | .pan a => .pan (a.ren p)
theorem find_key {bl : BL} {p : Sg} {b : Nat} {q : Nat × TypeId × List AV} (h : bl.find? (fun q => p.b.getD q.1 0 == b) = some q) : q ∈ bl ∧ p.b.getD q.1 0 = b := ⟨List.mem_of_find?_eq_some h, by simpa using List.find?_some h⟩
section
variable {P : Program} {f : FuncId} {as0 : List AV} {c c0 : CS} {Q0 : Out → CS → Prop}
theorem FC.frame (p : Sg) {bl0 : BL} {tl0 : TL} {n t : Nat} {Q : Out → CS → Prop} (h : FC P f as0 (CS.of n t bl0 tl0) Q0) (hn : p.b.length = n) (ht : p.t.length = t)
    (hd : (nodupB p.b && nodupB p.t) = true) (hlb : ∀ (i x : Nat), p.b[i]? = some x → x < c.nb) (hlt : ∀ (i x : Nat), p.t[i]? = some x → x < c.nt) (hb : (bdL n t as0 && (bdB n t bl0 && bdT n t tl0)) = true) (hB : hasP c.H.blk p bl0) (hT : hasPT c.H.tok p tl0)
    (hq : ∀ o c1, Q0 o c1 → ∃ bl tl, HasB c1.H bl ∧ HasT c1.H tl ∧ (bdB n t bl && (bdT n t tl && bdO1 n t o)) = true ∧ Q (o.ren p) (c.upd p bl tl)) : FC P f (renL p as0) c Q := fun H0 s az' H ha hr => by
  subst hn ht
  simp only [Bool.and_eq_true] at hd hb
  obtain ⟨hd1, hd2⟩ := hd
  obtain ⟨hb1, hb2, hb3⟩ := hb
  have hp : p.Sub s := ⟨fun i x e => by rw [← hr.nb]; exact hlb i x e, fun i x e => by rw [← hr.nt]; exact hlt i x e⟩
  have hsb : ∀ {i x : Nat}, p.b[i]? = some x → s.b[x]? = some (s.b.getD x 0) := fun e => getD_get (hp.b _ _ e)
  have hst : ∀ {i x : Nat}, p.t[i]? = some x → s.t[x]? = some (s.t.getD x 0) := fun e => getD_get (hp.t _ _ e)
  let H0c : AHeap := ⟨fun x => if x ∈ (p.comp s).b then none else H.blk x, fun x => if x ∈ (p.comp s).t then none else H.tok x⟩
  have hrc : HRc H0c (p.comp s) (CS.of p.b.length p.t.length bl0 tl0) H := by
    refine ⟨⟨⟨fun x y e => ?_, fun x y e => ?_⟩, fun b T cs e => ?_, fun b o e => ?_, fun b x e => ?_, fun b x e => ?_, fun b b' x e e' => ?_, fun b b' x e e' => ?_⟩, by simp [CS.of, Sg.comp], by simp [CS.of, Sg.comp]⟩
    · simp only [H0c] at e
      split at e
      · cases e
      · exact e
    · simp only [H0c] at e
      split at e
      · cases e
      · exact e
    · obtain ⟨g1, g2⟩ := bdB_get hb2 b T cs e
      have g0 := getD_get (blt_lt g1)
      obtain ⟨x, cs', q1, q2, q3⟩ := hr.blk _ _ _ (hB.get b T cs e)
      exact ⟨x, cs', by rw [comp_b g0, getD_of q1], q2, RnL.comp hp cs cs' g2 q3⟩
    · obtain ⟨g1, g2⟩ := bdT_get hb3 b o e
      have g0 := getD_get (blt_lt g1)
      obtain ⟨x, o', q1, q2, q3⟩ := hr.tok _ _ (hT.get b o e)
      exact ⟨x, o', by rw [comp_t g0, getD_of q1], q2, OwR.any g2 q3⟩
    · obtain ⟨y, e1, e2⟩ := comp_b' e
      have h3 := hsb e1
      rw [e2] at h3
      refine ⟨?_, (hr.newb y x h3).2⟩
      show (if x ∈ (p.comp s).b then none else H.blk x) = none
      rw [if_pos (List.mem_of_getElem? e)]
    · obtain ⟨y, e1, e2⟩ := comp_t' e
      have h3 := hst e1
      rw [e2] at h3
      refine ⟨?_, (hr.newt y x h3).2⟩
      show (if x ∈ (p.comp s).t then none else H.tok x) = none
      rw [if_pos (List.mem_of_getElem? e)]
    · obtain ⟨y, e1, e2⟩ := comp_b' e
      obtain ⟨y', e1', e2'⟩ := comp_b' e'
      have h3 := hsb e1
      have h3' := hsb e1'
      rw [e2] at h3
      rw [e2'] at h3'
      have := hr.injb _ _ _ h3 h3'
      subst this
      exact nodupB_get hd1 _ _ _ e1 e1'
    · obtain ⟨y, e1, e2⟩ := comp_t' e
      obtain ⟨y', e1', e2'⟩ := comp_t' e'
      have h3 := hst e1
      have h3' := hst e1'
      rw [e2] at h3
      rw [e2'] at h3'
      have := hr.injt _ _ _ h3 h3'
      subst this
      exact nodupB_get hd2 _ _ _ e1 e1'
  refine (h H0c (p.comp s) az' H (RnL.comp hp as0 az' hb1 ha) hrc).mono fun o' H' ⟨s', o, c1, a1, a2, a3, a4⟩ => ?_
  obtain ⟨bl, tl, g1, g2, g3, g4⟩ := hq o c1 a2
  simp only [Bool.and_eq_true] at g3
  obtain ⟨g3, g5, g6⟩ := g3
  have a5 := a4.cut g1 g2 (n := p.b.length) (t := p.t.length) (by
    rw [a4.nb]
    by_cases e0 : p.b.length = 0
    · omega
    · have e1 : (p.comp s).b[p.b.length - 1]? = some ((p.comp s).b.getD (p.b.length - 1) 0) := getD_get (by simp only [Sg.comp, List.length_map]; omega)
      have := (List.getElem?_eq_some_iff.1 (a1.b _ _ e1)).1
      omega) (by
    rw [a4.nt]
    by_cases e0 : p.t.length = 0
    · omega
    · have e1 : (p.comp s).t[p.t.length - 1]? = some ((p.comp s).t.getD (p.t.length - 1) 0) := getD_get (by simp only [Sg.comp, List.length_map]; omega)
      have := (List.getElem?_eq_some_iff.1 (a1.t _ _ e1)).1
      omega) g3 g5
  have es : (⟨s'.b.take p.b.length, s'.t.take p.t.length⟩ : Sg) = p.comp s := by
    have q1 : s'.b.take p.b.length = (p.comp s).b := by
      apply List.ext_getElem?
      intro i
      rw [List.getElem?_take]
      split
      · rename_i hi
        have := getD_get (l := (p.comp s).b) (i := i) (by simp only [Sg.comp, List.length_map]; exact hi)
        rw [this, a1.b _ _ this]
      · rename_i hi
        rw [List.getElem?_eq_none (by simp only [Sg.comp, List.length_map]; omega)]
    have q2 : s'.t.take p.t.length = (p.comp s).t := by
      apply List.ext_getElem?
      intro i
      rw [List.getElem?_take]
      split
      · rename_i hi
        have := getD_get (l := (p.comp s).t) (i := i) (by simp only [Sg.comp, List.length_map]; exact hi)
        rw [this, a1.t _ _ this]
      · rename_i hi
        rw [List.getElem?_eq_none (by simp only [Sg.comp, List.length_map]; omega)]
    rw [q1, q2]
  have a3' : RnO (p.comp s) o o' := by
    rw [← es]
    cases o <;> cases o' <;> simp only [RnO, bdO1] at a3 g6 ⊢
    · exact Rn.cut _ _ a3 g6
    · exact Rn.cut _ _ a3 g6
  rw [es] at a5
  have hbase : HSub H0 H' := ⟨fun x y e => a4.base.blk x y (by
      show (if x ∈ (p.comp s).b then none else H.blk x) = some y
      rw [if_neg ?_, hr.base.blk x y e]
      intro hm
      obtain ⟨i, hi⟩ := List.getElem?_of_mem hm
      obtain ⟨z, e1, e2⟩ := comp_b' hi
      have h3 := hsb e1
      rw [e2] at h3
      rw [(hr.newb _ _ h3).1] at e
      cases e), fun x y e => a4.base.tok x y (by
      show (if x ∈ (p.comp s).t then none else H.tok x) = some y
      rw [if_neg ?_, hr.base.tok x y e]
      intro hm
      obtain ⟨i, hi⟩ := List.getElem?_of_mem hm
      obtain ⟨z, e1, e2⟩ := comp_t' hi
      have h3 := hst e1
      rw [e2] at h3
      rw [(hr.newt _ _ h3).1] at e
      cases e)⟩
  have hmb : ∀ {b x : Nat}, s.b[b]? = some x → (x ∈ (p.comp s).b ↔ b ∈ p.b) := by
    intro b x e
    constructor
    · intro hm
      obtain ⟨i, hi⟩ := List.getElem?_of_mem hm
      obtain ⟨z, e1, e2⟩ := comp_b' hi
      have h3 := hsb e1
      rw [e2] at h3
      rw [hr.injb _ _ _ e h3]
      exact List.mem_of_getElem? e1
    · intro hm
      obtain ⟨i, hi⟩ := List.getElem?_of_mem hm
      have := comp_b (s := s) hi
      rw [getD_of e] at this
      exact List.mem_of_getElem? this
  have hmt : ∀ {b x : Nat}, s.t[b]? = some x → (x ∈ (p.comp s).t ↔ b ∈ p.t) := by
    intro b x e
    constructor
    · intro hm
      obtain ⟨i, hi⟩ := List.getElem?_of_mem hm
      obtain ⟨z, e1, e2⟩ := comp_t' hi
      have h3 := hst e1
      rw [e2] at h3
      rw [hr.injt _ _ _ e h3]
      exact List.mem_of_getElem? e1
    · intro hm
      obtain ⟨i, hi⟩ := List.getElem?_of_mem hm
      have := comp_t (s := s) hi
      rw [getD_of e] at this
      exact List.mem_of_getElem? this
  refine ⟨o', H', by cases o' <;> exact AVLe.refl _, HSub.refl _, s, o.ren p, c.upd p bl tl, Sg.Le.refl s, g4, ?_, ⟨⟨hbase, fun b T cs e => ?_, fun b ow e => ?_, fun b x e => ?_, fun b x e => ?_, hr.injb, hr.injt⟩, hr.nb, hr.nt⟩⟩
  · cases o <;> cases o' <;> simp only [RnO, Out.ren, bdO1] at a3' g6 ⊢
    · exact Rn.split hp _ _ g6 a3'
    · exact Rn.split hp _ _ g6 a3'
  · simp only [CS.upd, updB] at e
    cases hm : p.b.contains b with
    | false =>
      rw [hm, cond_false] at e
      obtain ⟨x, cs', q1, q2, q3⟩ := hr.blk b T cs e
      refine ⟨x, cs', q1, a4.base.blk x _ ?_, q3⟩
      show (if x ∈ (p.comp s).b then none else H.blk x) = _
      rw [if_neg ?_, q2]
      rw [hmb q1]
      intro hh
      simp [hh] at hm
    | true =>
      rw [hm, cond_true] at e
      split at e
      · rename_i q hq
        obtain ⟨k1, k2⟩ := find_key hq
        cases e
        obtain ⟨kk, T0, cs0⟩ := q
        simp only at k2 ⊢
        have hlk : kk < p.b.length ∧ bdL p.b.length p.t.length cs0 = true ∧ ∃ x cs', (p.comp s).b[kk]? = some x ∧ H'.blk x = some (T0, cs') ∧ RnL (p.comp s) cs0 cs' := by
          have hall : ∀ (l : BL), HasB c1.H l → bdB p.b.length p.t.length l = true → (kk, T0, cs0) ∈ l → c1.H.blk kk = some (T0, cs0) ∧ kk < p.b.length ∧ bdL p.b.length p.t.length cs0 = true := by
            intro l
            induction l with
            | nil => intro _ _ h; simp at h
            | cons q l ih =>
              intro h1 h2 h3
              simp only [HasB] at h1
              simp only [bdB, Bool.and_eq_true, Nat.blt_eq] at h2
              simp only [List.mem_cons] at h3
              rcases h3 with h3 | h3
              · subst h3; exact ⟨h1.1, h2.1, h2.2.1⟩
              · exact ih h1.2 h2.2.2 h3
          obtain ⟨r1, r2, r3⟩ := hall bl g1 g3 k1
          obtain ⟨x, cs', u1, u2, u3⟩ := a4.blk kk T0 cs0 r1
          have u4 : (p.comp s).b[kk]? = some x := by
            have w := getD_get (l := (p.comp s).b) (i := kk) (by simp only [Sg.comp, List.length_map]; exact r2)
            have w2 := a1.b _ _ w
            rw [u1] at w2
            cases w2
            exact w
          refine ⟨r2, r3, x, cs', u4, u2, ?_⟩
          have := RnL.cut (n := p.b.length) (t := p.t.length) _ _ u3 r3
          rw [es] at this
          exact this
        obtain ⟨r2, r3, x, cs', u1, u2, u3⟩ := hlk
        obtain ⟨y, e1, e2⟩ := comp_b' u1
        have h3 := hsb e1
        rw [e2] at h3
        rw [getD_of e1] at k2
        subst k2
        exact ⟨x, cs', h3, u2, RnL.split hp cs0 cs' r3 u3⟩
      · cases e
  · simp only [CS.upd, updT] at e
    cases hm : p.t.contains b with
    | false =>
      rw [hm, cond_false] at e
      obtain ⟨x, cs', q1, q2, q3⟩ := hr.tok b ow e
      refine ⟨x, cs', q1, a4.base.tok x _ ?_, q3⟩
      show (if x ∈ (p.comp s).t then none else H.tok x) = _
      rw [if_neg ?_, q2]
      rw [hmt q1]
      intro hh
      simp [hh] at hm
    | true =>
      rw [hm, cond_true] at e
      split at e
      · rename_i q hq
        have k1 := List.mem_of_find?_eq_some hq
        have k2 : p.t.getD q.1 0 = b := by simpa using List.find?_some hq
        cases e
        obtain ⟨kk, o0⟩ := q
        simp only at k2 ⊢
        have hall : ∀ (l : TL), HasT c1.H l → bdT p.b.length p.t.length l = true → (kk, o0) ∈ l → c1.H.tok kk = some o0 ∧ kk < p.t.length ∧ bdO o0.con = true := by
          intro l
          induction l with
          | nil => intro _ _ h; simp at h
          | cons q l ih =>
            intro h1 h2 h3
            simp only [HasT] at h1
            simp only [bdT, Bool.and_eq_true, Nat.blt_eq] at h2
            simp only [List.mem_cons] at h3
            rcases h3 with h3 | h3
            · subst h3; exact ⟨h1.1, h2.1, h2.2.1⟩
            · exact ih h1.2 h2.2.2 h3
        obtain ⟨r1, r2, r3⟩ := hall tl g2 g5 k1
        obtain ⟨x, o1, u1, u2, u3⟩ := a4.tok kk o0 r1
        have u4 : (p.comp s).t[kk]? = some x := by
          have w := getD_get (l := (p.comp s).t) (i := kk) (by simp only [Sg.comp, List.length_map]; exact r2)
          have w2 := a1.t _ _ w
          rw [u1] at w2
          cases w2
          exact w
        obtain ⟨y, e1, e2⟩ := comp_t' u4
        have h3 := hst e1
        rw [e2] at h3
        rw [getD_of e1] at k2
        subst k2
        exact ⟨x, o1, h3, u2, OwR.any r3 u3⟩
      · cases e
  · obtain ⟨q1, y, q2⟩ := hr.newb b x e
    refine ⟨q1, ?_⟩
    by_cases hm : x ∈ (p.comp s).b
    · obtain ⟨i, hi⟩ := List.getElem?_of_mem hm
      exact (a4.newb i x (a1.b _ _ hi)).2
    · exact ⟨y, a4.base.blk x y (by show (if x ∈ (p.comp s).b then none else H.blk x) = some y; rw [if_neg hm]; exact q2)⟩
  · obtain ⟨q1, y, q2⟩ := hr.newt b x e
    refine ⟨q1, ?_⟩
    by_cases hm : x ∈ (p.comp s).t
    · obtain ⟨i, hi⟩ := List.getElem?_of_mem hm
      exact (a4.newt i x (a1.t _ _ hi)).2
    · exact ⟨y, a4.base.tok x y (by show (if x ∈ (p.comp s).t then none else H.tok x) = some y; rw [if_neg hm]; exact q2)⟩
def Ro (v : AV) (bl : BL) (tl : TL) : Out → CS → Prop := fun o c => o = .ret v ∧ HasB c.H bl ∧ HasT c.H tl
theorem FC.fr (p : Sg) {bl0 bl1 : BL} {tl0 tl1 : TL} {n t : Nat} {v : AV} (h : FC P f as0 (CS.of n t bl0 tl0) (Ro v bl1 tl1)) (hn : p.b.length = n) (ht : p.t.length = t)
    (hd : (nodupB p.b && nodupB p.t && p.b.all (fun x => Nat.blt x c.nb) && p.t.all (fun x => Nat.blt x c.nt)) = true) (hB : hasP c.H.blk p bl0) (hT : hasPT c.H.tok p tl0) (hb : (bdL n t as0 && (bdB n t bl0 && bdT n t tl0)) = true)
    (h1 : (bdB n t bl1 && (bdT n t tl1 && v.bd n t)) = true) {az : List AV} (ha : az = renL p as0) : FC P f az c (Rt (v.ren p) (c.upd p bl1 tl1)) := by
  simp only [Bool.and_eq_true, List.all_eq_true] at hd
  obtain ⟨⟨⟨d1, d2⟩, d3⟩, d4⟩ := hd
  subst ha
  refine FC.frame p h hn ht (by rw [d1, d2]; rfl) (fun i x e => blt_lt (d3 x (List.mem_of_getElem? e))) (fun i x e => blt_lt (d4 x (List.mem_of_getElem? e))) hb hB hT ?_
  rintro o c1 ⟨rfl, h2, h3⟩
  exact ⟨bl1, tl1, h2, h3, h1, rfl, rfl⟩
end
end Go.Aw
namespace Go.Aw
open Go
set_option linter.unusedVariables false
set_option linter.unusedSimpArgs false
section
variable {P : Program} {rs : List ERes} {n0 t0 : Nat} {k : List JI} {Q : Out → CS → Prop} {env : Env} {c c1 : CS} {v r : AV} {anns : List AV} {l : List EI} {K : Env → CS → Prop} {Rp : AV → CS → Prop} {d : Option Nat} {g : Option (Nat × Bool)} {x y i : EOpd} {ik : IntKind} {size : Nat} {rows new : List (List AV)} {row : List AV} {a b : List UInt8} {z z' : Int}
theorem cidx_eq {z : Int} {len : Nat} (h0 : 0 ≤ z) (h1 : z < len) : cidx z len = some z.toNat := by
  match z, h0, h1 with
  | .ofNat n, _, h1 =>
    have : Nat.blt n len = true := Nat.blt_eq.symm ▸ Int.ofNat_lt.1 h1
    simp only [cidx, this, cond_true]
    rfl
theorem ofNat_of {z : Int} (h0 : 0 ≤ z) : ∃ n : Nat, z = .ofNat n ∧ z.toNat = n := ⟨z.toNat, (Int.toNat_of_nonneg h0).symm, rfl⟩
theorem DJ.cat (hw : wanted ⟨d, g, .bin .add x y⟩ env = some true) (hx : cev env x = .str a) (hy : cev env y = .str b) (hb : a.length + b.length ≤ maxLen) (h : DJ P anns l (env.put d (.str (a ++ b))) c K Rp) : DJ P anns (⟨d, g, .bin .add x y⟩ :: l) env c K Rp :=
  DJ.o hw rfl (by simp only [ost, cstp, cpv, hx, hy, cbin, Nat.ble_eq_true_of_le hb, cond_true] <;> rfl) h
theorem DJ.quo (hw : wanted ⟨d, g, .bin .quo x y⟩ env = some true) (hx : cev env x = .int ik z) (hy : cev env y = .int ik z') (hb : z' ≠ 0) (h : DJ P anns l (env.put d (.int ik (ik.wrap (z.tdiv z')))) c K Rp) : DJ P anns (⟨d, g, .bin .quo x y⟩ :: l) env c K Rp :=
  DJ.o hw rfl (by simp only [ost, cstp, cpv, hx, hy, cbin, if_true, if_neg hb] <;> rfl) h
theorem DJ.rem (hw : wanted ⟨d, g, .bin .rem x y⟩ env = some true) (hx : cev env x = .int ik z) (hy : cev env y = .int ik z') (hb : z' ≠ 0) (h : DJ P anns l (env.put d (.int ik (z.tmod z'))) c K Rp) : DJ P anns (⟨d, g, .bin .rem x y⟩ :: l) env c K Rp :=
  DJ.o hw rfl (by simp only [ost, cstp, cpv, hx, hy, cbin, if_true, if_neg hb] <;> rfl) h
theorem DJ.ixv (hw : wanted ⟨d, g, .iaddr size x i⟩ env = some true) (hx : cev env x = .vs size rows) (hi : cev env i = .int ik z) (h0 : 0 ≤ z) (hr : rows[z.toNat]? = some row) (h : DJ P anns l (env.put d (.rp row 0)) c K Rp) : DJ P anns (⟨d, g, .iaddr size x i⟩ :: l) env c K Rp := by
  obtain ⟨n, e1, e2⟩ := ofNat_of h0
  rw [e2] at hr
  subst e1
  exact DJ.o hw rfl (by simp only [ost, cstp, cpv, hx, hi, beq_self_eq_true, cond_true, hr] <;> rfl) h
theorem DJ.ixo {t : Nat} (hw : wanted ⟨d, g, .iaddr size x i⟩ env = some true) (hx : cev env x = .own t size rows) (hi : cev env i = .int ik z) (h0 : 0 ≤ z) (hr : rows[z.toNat]? = some row) (h : DJ P anns l (env.put d (.rp row 0)) c K Rp) : DJ P anns (⟨d, g, .iaddr size x i⟩ :: l) env c K Rp := by
  obtain ⟨n, e1, e2⟩ := ofNat_of h0
  rw [e2] at hr
  subst e1
  exact DJ.o hw rfl (by simp only [ost, cstp, cpv, hx, hi, beq_self_eq_true, cond_true, hr] <;> rfl) h
theorem DJ.ixs {u : UInt8} (hw : wanted ⟨d, g, .idxS x i⟩ env = some true) (hx : cev env x = .str a) (hi : cev env i = .int ik z) (h0 : 0 ≤ z) (hr : a[z.toNat]? = some u) (h : DJ P anns l (env.put d (.int .u8 u.toNat)) c K Rp) : DJ P anns (⟨d, g, .idxS x i⟩ :: l) env c K Rp := by
  obtain ⟨n, e1, e2⟩ := ofNat_of h0
  rw [e2] at hr
  subst e1
  exact DJ.o hw rfl (by simp only [ost, cstp, cpv, hx, hi, hr] <;> rfl) h
theorem DJ.slv {lo hi : Option EOpd} {p q : Nat} (hw : wanted ⟨d, g, .slV size x lo hi none⟩ env = some true) (hx : slRows size (cev env x) = some rows) (hl : coptNat env 0 lo = some p) (hh : coptNat env rows.length hi = some q) (h1 : p ≤ q) (h2 : q ≤ rows.length) (h : DJ P anns l (env.put d (.vs size ((rows.take q).drop p))) c K Rp) : DJ P anns (⟨d, g, .slV size x lo hi none⟩ :: l) env c K Rp :=
  DJ.o hw rfl (by simp only [ost, cstp, cpv, hx, hl, hh, Nat.ble_eq_true_of_le h1, Nat.ble_eq_true_of_le h2, Bool.and_true, cond_true] <;> rfl) h
theorem optN {env : Env} {df : Nat} {x : EOpd} {z : Int} (hx : cev env x = .int ik z) (h0 : 0 ≤ z) : coptNat env df (some x) = some z.toNat := by
  obtain ⟨n, e1, e2⟩ := ofNat_of h0
  subst e1
  simp only [coptNat, hx]
  rfl
theorem DJ.ap {T bytes t : Nat} (hw : wanted ⟨d, g, .append T size bytes x y⟩ env = some true) (hx : cev env x = .own t size rows) (ht : c.H.tok t = some (.frz T size rows.length)) (hy : rowsOf size (cev env y) = some new) (hb : (rows.length + new.length) * bytes ≤ 140737488355328) (hm : rows.length + new.length ≤ maxLen) (h : DJ P anns l (env.put d (.own t size (rows ++ new))) (c.setT t (.frz T size (rows.length + new.length))) K Rp) : DJ P anns (⟨d, g, .append T size bytes x y⟩ :: l) env c K Rp :=
  DJ.o hw rfl (by simp only [ost, cstp, hy, hx, capp, ht, Own.frz, beq_self_eq_true, Nat.ble_eq_true_of_le hb, Nat.ble_eq_true_of_le hm, Bool.and_true, cond_true] <;> rfl) h
theorem DJ.ap0 {T bytes : Nat} (hw : wanted ⟨d, g, .append T size bytes x y⟩ env = some true) (hx : cev env x = .nilS) (hy : rowsOf size (cev env y) = some new) (hb : new.length * bytes ≤ 140737488355328) (hm : new.length ≤ maxLen) (h0 : (size == 0) = false) (h : DJ P anns l (env.put d (.own c.nt size new)) (c.addT (.frz T size new.length)) K Rp) : DJ P anns (⟨d, g, .append T size bytes x y⟩ :: l) env c K Rp :=
  DJ.o hw rfl (by simp only [ost, cstp, hy, hx, capp, h0, Bool.not_false, Nat.ble_eq_true_of_le hb, Nat.ble_eq_true_of_le hm, Bool.and_true, cond_true] <;> rfl) h
theorem DJ.cvs (hw : wanted ⟨d, g, .convS false x⟩ env = some true) (hx : cev env x = .vs 1 rows) (hb : byteRows rows = some a) (h : DJ P anns l (env.put d (.str a)) c K Rp) : DJ P anns (⟨d, g, .convS false x⟩ :: l) env c K Rp :=
  DJ.o hw rfl (by simp only [ost, cstp, cpv, hx, hb] <;> rfl) h
theorem IJ.isnilU {neg : Bool} (hx : cev env x = .vs size rows) : IJ P (.isnil neg x) env c (fun v c' => (∃ b, v = .bool b) ∧ c' = c) Rp := fun H0 s env' H K Rp he hr hK hRp => by
  have hx' := cev_eq he hx
  simp only [Rn] at hx'
  obtain ⟨l, g1, g2⟩ := hx'
  exact .isnilU g1 fun b => hK s (.bool b) (.bool b) c H (Sg.Le.refl s) ⟨⟨b, rfl⟩, rfl⟩ (by simp only [Rn]) hr
theorem env_same2 {env : Env} {j : Nat} {v : AV} (h : env.get j = v) : ∀ i, Env.get ((j, v) :: env) i = env.get i := fun i => by
  simp only [Env.get]
  cases hi : j == i with
  | true => have : j = i := by simpa using hi
            subst this; exact h.symm
  | false => rfl
theorem DJ.gs {j : Nat} {t : Bool} {op : EOp} {b : Bool} (hb : env.get j = .bool b) (h1 : b = true → DJ P anns (⟨d, some (j, t), op⟩ :: l) ((j, .bool true) :: env) c K Rp) (h2 : b = false → DJ P anns (⟨d, some (j, t), op⟩ :: l) ((j, .bool false) :: env) c K Rp) : DJ P anns (⟨d, some (j, t), op⟩ :: l) env c K Rp := fun H0 s env' H K' Rp' he hr hK hRp => by
  cases b with
  | true => exact h1 rfl H0 s env' H K' Rp' (fun i => by rw [env_same2 hb i]; exact he i) hr hK hRp
  | false => exact h2 rfl H0 s env' H K' Rp' (fun i => by rw [env_same2 hb i]; exact he i) hr hK hRp
theorem J.reg0 {ops : List EI} {draw : Bool} (h : DJ P [] ops env c (fun e c1 => J P rs n0 t0 k Q e c1) (fun v c1 => Q (.pan v) c1)) : J P rs n0 t0 (.c (.region ops draw) :: k) Q env c := J.reg h
theorem DJ.ixn {p d : Nat} (hr : rows[p]? = some row) (hx : cev env x = .vs size rows) (hi : cev env i = .int ik z) (e : z = p) (h : DJ P anns l ((d, .rp row 0) :: env) c K Rp) : DJ P anns (⟨some d, none, .iaddr size x i⟩ :: l) env c K Rp := DJ.ixv rfl hx hi (by omega) (by rw [e, Int.toNat_natCast]; exact hr) h
theorem DJ.ixon {p d t : Nat} (hr : rows[p]? = some row) (hx : cev env x = .own t size rows) (hi : cev env i = .int ik z) (e : z = p) (h : DJ P anns l ((d, .rp row 0) :: env) c K Rp) : DJ P anns (⟨some d, none, .iaddr size x i⟩ :: l) env c K Rp := DJ.ixo rfl hx hi (by omega) (by rw [e, Int.toNat_natCast]; exact hr) h
theorem DJ.ixsn {p d : Nat} {u : UInt8} (hr : a[p]? = some u) (hx : cev env x = .str a) (hi : cev env i = .int ik z) (e : z = p) (h : DJ P anns l ((d, .int .u8 u.toNat) :: env) c K Rp) : DJ P anns (⟨some d, none, .idxS x i⟩ :: l) env c K Rp := DJ.ixs rfl hx hi (by omega) (by rw [e, Int.toNat_natCast]; exact hr) h
theorem optN' {env : Env} {df : Nat} {x : EOpd} {z : Int} {p : Nat} (hx : cev env x = .int ik z) (e : z = p) : coptNat env df (some x) = some p := by subst e; rw [optN hx (by omega), Int.toNat_natCast]
theorem DJ.slv2 {lo hi : EOpd} (p q : Nat) {d : Nat} {ik' : IntKind} (hx : slRows size (cev env x) = some rows) (hl : cev env lo = .int ik z) (hh : cev env hi = .int ik' z') (e1 : z = p) (e2 : z' = q) (h1 : p ≤ q) (h2 : q ≤ rows.length) (h : DJ P anns l ((d, .vs size ((rows.take q).drop p)) :: env) c K Rp) : DJ P anns (⟨some d, none, .slV size x (some lo) (some hi) none⟩ :: l) env c K Rp := DJ.slv rfl hx (optN' hl e1) (optN' hh e2) h1 h2 h
theorem DJ.ap' {T bytes t d : Nat} (hx : cev env x = .own t size rows) (ht : c.H.tok t = some (.frz T size rows.length)) (hy : rowsOf size (cev env y) = some new) (hb : (rows.length + new.length) * bytes ≤ 140737488355328) (hm : rows.length + new.length ≤ maxLen) (h : DJ P anns l ((d, .own t size (rows ++ new)) :: env) (c.setT t (.frz T size (rows.length + new.length))) K Rp) : DJ P anns (⟨some d, none, .append T size bytes x y⟩ :: l) env c K Rp := DJ.ap rfl hx ht hy hb hm h
theorem DJ.ap0' {T bytes d : Nat} (hx : cev env x = .nilS) (hy : rowsOf size (cev env y) = some new) (hb : new.length * bytes ≤ 140737488355328) (hm : new.length ≤ maxLen) (h0 : (size == 0) = false) (h : DJ P anns l ((d, .own c.nt size new) :: env) (c.addT (.frz T size new.length)) K Rp) : DJ P anns (⟨some d, none, .append T size bytes x y⟩ :: l) env c K Rp := DJ.ap0 rfl hx hy hb hm h0 h
theorem mget {α β : Type} (f : α → β) {l : List α} {i : Nat} {v : α} (h : l[i]? = some v) : (l.map f)[i]? = some (f v) := by simp [h]
theorem DJ.ixm {α : Type} {f : α → List AV} {w : α} {m : List α} {p d : Nat} (hx : cev env x = .vs size (m.map f)) (hi : cev env i = .int ik z) (hr : m[p]? = some w) (e : z = p) (h : DJ P anns l ((d, .rp (f w) 0) :: env) c K Rp) : DJ P anns (⟨some d, none, .iaddr size x i⟩ :: l) env c K Rp := DJ.ixn (mget f hr) hx hi e h
theorem DJ.ixom {α : Type} {f : α → List AV} {w : α} {m : List α} {p d t : Nat} (hx : cev env x = .own t size (m.map f)) (hi : cev env i = .int ik z) (hr : m[p]? = some w) (e : z = p) (h : DJ P anns l ((d, .rp (f w) 0) :: env) c K Rp) : DJ P anns (⟨some d, none, .iaddr size x i⟩ :: l) env c K Rp := DJ.ixon (mget f hr) hx hi e h
theorem DJ.ixsm {u : UInt8} {p d : Nat} (hx : cev env x = .str a) (hi : cev env i = .int ik z) (hr : a[p]? = some u) (e : z = p) (h : DJ P anns l ((d, .int .u8 u.toNat) :: env) c K Rp) : DJ P anns (⟨some d, none, .idxS x i⟩ :: l) env c K Rp := DJ.ixsn hr hx hi e h
theorem J.eqv {env2 : Env} {c2 : CS} (he : env = env2) (hc : c = c2) (h : J P rs n0 t0 k Q env2 c2) : J P rs n0 t0 k Q env c := by subst he hc; exact h
theorem DJ.keepB (bl : BL) (tl : TL) (hb : HasB c.H bl) (ht : HasT c.H tl) (h : DJ P anns l env (CS.of c.nb c.nt bl tl) K Rp) : DJ P anns l env c K Rp := fun H0 s env' H K' Rp' hE hr hK hR =>
  h H0 s env' H K' Rp' hE ⟨⟨hr.base, fun b T cs e => hr.blk b T cs (hb.get b _ e), fun b o e => hr.tok b o (ht.get b _ e), hr.newb, hr.newt, hr.injb, hr.injt⟩, hr.nb, hr.nt⟩ hK hR
theorem J.ghB (p o size Te : Nat) {T : TypeId} {cs : List AV} (hb : c.H.blk p = some (T, cs)) (ho : cs[o]? = some .nilS) (h0 : size ≠ 0) (h : J P rs n0 t0 k Q env ((c.addT (.frz Te size 0)).setB p T (cs.set o (.own c.nt size [])))) : J P rs n0 t0 k Q env c := fun H0 s0 s env' H R hn ht hs he hr hR => by
  obtain ⟨x, cs', q1, q2, q3⟩ := hr.blk p T cs hb
  have ho' : cs'[o]? = some .nilS := by
    obtain ⟨v, e1, e2⟩ := q3.get o _ ho
    simp only [Rn] at e2
    rw [e1, e2]
  refine AM.conv (fun e' H' => ∃ t, H.tok t = none ∧ e' = env' ∧ H' = (H.setT t (.frz Te size 0)).setB x T (cs'.set o (.own t size []))) ?_ ?_
  · intro m hH rh
    subst hH
    obtain ⟨r1, e1, v1⟩ := new_tok_nil rh (T := Te) h0
    obtain ⟨l, hl1, hl2, hl3⟩ := r1.blk x T cs' q2
    obtain ⟨v, hv1, hv2⟩ := hl2.get o _ ho'
    simp only [Rv] at hv2
    subst hv2
    have hl4 := hl2.set o v1
    rw [list_set_same hv1] at hl4
    have r2 := RH.st r1 (w' := m.w) (b := x) (T := T) q2 rfl rfl rfl rfl (fun _ _ => rfl) hl1 hl4 hl3
    have e2 := Ev.st r1 (w' := m.w) (b := x) (T := T) (cs := cs'.set o (.own m.T size [])) q2 rfl rfl rfl rfl (fun _ _ => rfl)
    exact ⟨env', _, _, _, ⟨m.T, tok_new rh, rfl, rfl⟩, r2, e1.trans e2, fun j v hv => Rv.ev (e1.trans e2) _ _ hv⟩
  · rintro e' H' ⟨t, h1, rfl, rfl⟩
    have h5 := hr.addT (s := s) (x := t) (OwR.frz (s := s) (T := Te) (size := size) (n := 0)) h1
    refine h H0 s0 ⟨s.b, s.t ++ [t]⟩ _ _ R hn ht (hs.trans (Sg.leT s t)) (he.mono (Sg.leT s t)) (h5.setB q1 ?_) hR
    have : ∀ {az l : List AV} (_ : RnL s az l) (n : Nat) {a v : AV}, Rn ⟨s.b, s.t ++ [t]⟩ a v → RnL ⟨s.b, s.t ++ [t]⟩ (az.set n a) (l.set n v) := by
      intro az
      induction az with
      | nil => intro l h n a v _; simp only [RnL] at h; subst h; simp [RnL]
      | cons a az ih =>
        intro l h n b v hv
        simp only [RnL] at h
        obtain ⟨w, ws, rfl, h1, h2⟩ := h
        cases n with
        | zero => simp only [List.set_cons_zero, RnL]; exact ⟨_, _, rfl, hv, RnL.mono (Sg.leT s t) _ _ h2⟩
        | succ n => simp only [List.set_cons_succ, RnL]; exact ⟨_, _, rfl, Rn.mono (Sg.leT s t) _ _ h1, ih h2 n hv⟩
    refine this q3 o ?_
    simp only [Rn]
    exact ⟨t, [], by rw [hr.nt]; exact app_right, rfl, by simp only [RnR]⟩
def LJ {X : Type} (E : X → Env) (C : X → CS) (I : X → Prop) (mu : X → Nat) : Nat → Env → CS → Prop := fun m env c => ∃ x, I x ∧ env = E x ∧ c = C x ∧ mu x = m
theorem J.loopX {X : Type} {body : EC} (x0 : X) (E : X → Env) (B : X → BL) (T : X → TL) (I : X → Prop) (mu : X → Nat) (h0 : I x0) (he : EHas env (E x0)) (hb : HasB c.H (B x0)) (ht : HasT c.H (T x0)) (h : ∀ x, I x → J P rs n0 t0 (.c body :: .rnd (LJ E (fun x => CS.of c.nb c.nt (B x) (T x)) I mu) (mu x) :: k) Q (E x) (CS.of c.nb c.nt (B x) (T x))) : J P rs n0 t0 (.c (.loop body) :: k) Q env c :=
  J.keep (E x0) (B x0) (T x0) he hb ht (J.loop (LJ E (fun x => CS.of c.nb c.nt (B x) (T x)) I mu) (mu x0) ⟨x0, h0, rfl, rfl, rfl⟩ fun m e c' ⟨x, h1, h2, h3, h4⟩ => by subst h2 h3 h4; exact h x h1)
theorem J.roundX {X : Type} {E : X → Env} {nb nt : Nat} {B : X → BL} {T : X → TL} {I : X → Prop} {mu : X → Nat} {m0 : Nat} (x : X) (h0 : I x) (he : EHas env (E x)) (hb : HasB c.H (B x)) (ht : HasT c.H (T x)) (hn : c.nb = nb) (hm : c.nt = nt) (h1 : mu x < m0) : J P rs n0 t0 (.rnd (LJ E (fun x => CS.of nb nt (B x) (T x)) I mu) m0 :: k) Q env c :=
  J.keep (E x) (B x) (T x) he hb ht (J.round (mu x) ⟨x, h0, rfl, by rw [hn, hm], rfl⟩ h1)
theorem J.roundC {X : Type} {E : X → Env} {nb nt : Nat} {B : X → BL} {T : X → TL} {I : X → Prop} {mu : X → Nat} {m0 : Nat} (x : X) (h0 : I x) (he : EHas env (E x)) (hb : HasB c.H (B x)) (ht : HasT c.H (T x)) (hn : (Nat.ble n0 nb && (Nat.ble nb c.nb && (Nat.ble t0 nt && Nat.ble nt c.nt))) = true) (hd : (bdE nb nt (E x) && (bdB nb nt (B x) && bdT nb nt (T x))) = true) (h1 : mu x < m0) : J P rs n0 t0 (.rnd (LJ E (fun x => CS.of nb nt (B x) (T x)) I mu) m0 :: k) Q env c :=
  J.cut nb nt (E x) (B x) (T x) he hb ht hn hd (J.round (mu x) ⟨x, h0, rfl, rfl, rfl⟩ h1)
end
section
variable {P : Program} {rs : List ERes} {n0 t0 : Nat} {k : List JI} {Q : Out → CS → Prop} {env : Env} {c : CS}
abbrev Jn {X : Type} (P : Program) (rs : List ERes) (n0 t0 : Nat) (k : List JI) (Q : Out → CS → Prop) (E : X → Env) (nb nt : Nat) (B : X → BL) (T : X → TL) (I : X → Prop) : Prop := ∀ (env : Env) (c : CS) (x : X), I x → EHas env (E x) → HasB c.H (B x) → HasT c.H (T x) → c.nb = nb → c.nt = nt → J P rs n0 t0 k Q env c
theorem J.blkX {X : Type} {id : Nat} {b : EC} (E : X → Env) (B : X → BL) (T : X → TL) (I : X → Prop) (h2 : ∀ x, I x → J P rs n0 t0 k Q (E x) (CS.of c.nb c.nt (B x) (T x))) (h1 : Jn P rs n0 t0 k Q E c.nb c.nt B T I → J P rs n0 t0 (.c b :: .blk id :: k) Q env c) : J P rs n0 t0 (.c (.block id b) :: k) Q env c :=
  J.block (h1 fun e c' x hx he hb ht hn hm => J.keep (E x) (B x) (T x) he hb ht (by rw [hn, hm]; exact h2 x hx))
end
theorem flatR_map {α : Type} {f : α → List AV} (h : ∀ x, flatL (f x) = true) : ∀ (l : List α), flatR (l.map f) = true
  | [] => rfl
  | a :: l => by simp only [List.map_cons, flatR, h, flatR_map h l, Bool.and_self]
mutual
theorem wk_flat : ∀ (a : AV), a.flat = true → a.wk = a
  | .agg cs, h => by simp only [AV.flat] at h; simp only [AV.wk, wkL_flat cs h]
  | .tup cs, h => by simp only [AV.flat] at h; simp only [AV.wk, wkL_flat cs h]
  | .own _ _ _, h => by simp [AV.flat] at h
  | .top, _ => rfl
  | .bool _, _ => rfl
  | .int _ _, _ => rfl
  | .str _, _ => rfl
  | .raw _, _ => rfl
  | .ptr _ _, _ => rfl
  | .vs _ _, _ => rfl
  | .ms _ _, _ => rfl
  | .mp _ _ _, _ => rfl
  | .rp _ _, _ => rfl
  | .fn _ _, _ => rfl
  | .ifc _ _, _ => rfl
theorem wkL_flat : ∀ (l : List AV), flatL l = true → wkL l = l
  | [], _ => rfl
  | a :: l, h => by simp only [flatL, Bool.and_eq_true] at h; simp only [wkL, wk_flat a h.1, wkL_flat l h.2]
end
mutual
inductive Wk : AV → AV → Prop
  | wk {v r : AV} (h : v.wk = r) (hf : r.flat = true) : Wk v r
  | nil {n : Nat} : Wk .nilS (.vs n [])
  | agg {az bs : List AV} (h : WkL az bs) : Wk (.agg az) (.agg bs)
  | tup {az bs : List AV} (h : WkL az bs) : Wk (.tup az) (.tup bs)
inductive WkL : List AV → List AV → Prop
  | nil : WkL [] []
  | cons {a b : AV} {az bs : List AV} (h : Wk a b) (t : WkL az bs) : WkL (a :: az) (b :: bs)
end
mutual
theorem Wk.le : ∀ {v r : AV}, Wk v r → ∀ (s : Sg) (v' : AV), Rn s v v' → AVLe v' r
  | _, _, .wk h hf, s, v', hv => by subst h; exact fun m y hy => wk_le _ v' hv hf y hy
  | _, _, .nil, s, v', hv => by simp only [Rn] at hv; subst hv; exact AVLe.nil
  | _, _, .agg h, s, v', hv => by simp only [Rn] at hv; obtain ⟨l, e, hl⟩ := hv; subst e; exact avle_agg (WkL.le h s l hl)
  | _, _, .tup h, s, v', hv => by simp only [Rn] at hv; obtain ⟨l, e, hl⟩ := hv; subst e; exact avle_tup (WkL.le h s l hl)
theorem WkL.le : ∀ {az bs : List AV}, WkL az bs → ∀ (s : Sg) (l : List AV), RnL s az l → AVLes l bs
  | _, _, .nil, s, l, h => by simp only [RnL] at h; subst h; exact avles_nil
  | _, _, .cons h t, s, l, hl => by simp only [RnL] at hl; obtain ⟨v, vs, e, h1, h2⟩ := hl; subst e; exact avles_cons (Wk.le h s v h1) (WkL.le t s vs h2)
end
def Rw (r : AV) (bl : BL) (tl : TL) : Out → CS → Prop := fun o c => ∃ v, o = .ret v ∧ Wk v r ∧ HasB c.H bl ∧ HasT c.H tl
theorem FC.rw {P : Program} {f : FuncId} {az : List AV} {c : CS} {r : AV} {bl : BL} {tl : TL} (h : FC P f az c (Rw r bl tl)) (hr : r.flat = true) : FC P f az c (Ro r bl tl) := fun H0 s az' H ha hh =>
  (h H0 s az' H ha hh).mono fun o H' ⟨s', o1, c1, a1, ⟨v, e1, e2, e3, e4⟩, a3, a4⟩ => by
    subst e1
    cases o with
    | pan w => simp only [RnO] at a3
    | ret w => exact ⟨.ret r, H', Wk.le e2 s' w a3, HSub.refl _, s', .ret r, c1, a1, ⟨rfl, e3, e4⟩, (AV.flat_rn _ hr _).2 rfl, a4⟩
theorem FC.introW {P : Program} {f : FuncId} {az : List AV} {c : CS} {rs : List ERes} {r : AV} {bl : BL} {tl : TL} {fn : Func} {e : EC} (hm : P.follows .mixedOrders = true) (hf : P.funcs[f]? = some fn) (hc : chkF P fn az.length e rs = true) (hr : r.flat = true) (h : J P rs c.nb c.nt [.c e] (Rw r bl tl) (initEnv az) c) : FC P f az c (Ro r bl tl) := (FC.intro hm hf hc h).rw hr
theorem pure_of {P : Program} {f : FuncId} {az : List AV} {rs : List ERes} {r : AV} {fn : Func} {e : EC} (hm : P.follows .mixedOrders = true) (hf : P.funcs[f]? = some fn) (hc : chkF P fn az.length e rs = true) (ha : flatL az = true) (hr : r.flat = true) (h : J P rs 0 0 [.c e] (Rw r [] []) (initEnv az) .new) : Pure P f az r :=
  FC.pure (FC.introW hm hf hc hr h) ha hr fun o c1 ⟨e, _, _⟩ => ⟨r, e, wk_flat r hr⟩
end Go.Aw
namespace Go.Aw
open Go
set_option linter.unusedVariables false
set_option linter.unusedSimpArgs false
def rmB (b : Nat) : BL → BL
  | [] => []
  | (k, x) :: l => bif k == b then rmB b l else (k, x) :: rmB b l
def rmT (b : Nat) : TL → TL
  | [] => []
  | (k, x) :: l => bif k == b then rmT b l else (k, x) :: rmT b l
theorem lk_rmB {b j : Nat} (h : (b == j) = false) : ∀ (l : BL), lkB (rmB b l) j = lkB l j
  | [] => rfl
  | (k, x) :: l => by
    simp only [rmB, lkB]
    cases hk : k == b with
    | true =>
      have e : k = b := by simpa using hk
      subst e
      rw [cond_true, h, cond_false, lk_rmB h l]
    | false => simp only [cond_false, lkB, lk_rmB h l]
theorem lk_rmT {b j : Nat} (h : (b == j) = false) : ∀ (l : TL), lkT (rmT b l) j = lkT l j
  | [] => rfl
  | (k, x) :: l => by
    simp only [rmT, lkT]
    cases hk : k == b with
    | true =>
      have e : k = b := by simpa using hk
      subst e
      rw [cond_true, h, cond_false, lk_rmT h l]
    | false => simp only [cond_false, lkT, lk_rmT h l]
def rmBs : List Nat → BL → BL
  | [], l => l
  | b :: bs, l => rmB b (rmBs bs l)
def rmTs : List Nat → TL → TL
  | [], l => l
  | b :: bs, l => rmT b (rmTs bs l)
def renB (p : Sg) : BL → BL
  | [] => []
  | q :: l => (p.b.getD q.1 0, q.2.1, renL p q.2.2) :: renB p l
def renT (p : Sg) : TL → TL
  | [] => []
  | q :: l => (p.t.getD q.1 0, q.2) :: renT p l
def apB : BL → BL → BL
  | [], m => m
  | q :: l, m => q :: apB l m
def apT : TL → TL → TL
  | [], m => m
  | q :: l, m => q :: apT l m
theorem rmBs_in {j : Nat} : ∀ (bs : List Nat), bs.contains j = true → ∀ l, lkB (rmBs bs l) j = none
  | [], h, _ => by simp at h
  | b :: bs, h, l => by
    have key : ∀ (l : BL), lkB (rmB j l) j = none := by
      intro l
      induction l with
      | nil => rfl
      | cons q l ih =>
        obtain ⟨k, x⟩ := q
        simp only [rmB]
        cases hk : k == j with
        | true => rw [cond_true]; exact ih
        | false => simp only [cond_false, lkB, hk]; exact ih
    simp only [rmBs]
    by_cases e : b = j
    · subst e; exact key _
    · have e' : (b == j) = false := by simpa using e
      rw [lk_rmB e']
      refine rmBs_in bs ?_ l
      simp only [List.contains_cons, Bool.or_eq_true, beq_iff_eq] at h
      exact h.resolve_left fun h => e h.symm
theorem rmTs_in {j : Nat} : ∀ (bs : List Nat), bs.contains j = true → ∀ l, lkT (rmTs bs l) j = none
  | [], h, _ => by simp at h
  | b :: bs, h, l => by
    have key : ∀ (l : TL), lkT (rmT j l) j = none := by
      intro l
      induction l with
      | nil => rfl
      | cons q l ih =>
        obtain ⟨k, x⟩ := q
        simp only [rmT]
        cases hk : k == j with
        | true => rw [cond_true]; exact ih
        | false => simp only [cond_false, lkT, hk]; exact ih
    simp only [rmTs]
    by_cases e : b = j
    · subst e; exact key _
    · have e' : (b == j) = false := by simpa using e
      rw [lk_rmT e']
      refine rmTs_in bs ?_ l
      simp only [List.contains_cons, Bool.or_eq_true, beq_iff_eq] at h
      exact h.resolve_left fun h => e h.symm
theorem rmBs_out {j : Nat} : ∀ (bs : List Nat), bs.contains j = false → ∀ l, lkB (rmBs bs l) j = lkB l j
  | [], _, _ => rfl
  | b :: bs, h, l => by
    simp only [List.contains_cons, Bool.or_eq_false_iff, beq_eq_false_iff_ne] at h
    simp only [rmBs]
    rw [lk_rmB (by simpa using fun e => h.1 (Eq.symm e)), rmBs_out bs h.2]
theorem rmTs_out {j : Nat} : ∀ (bs : List Nat), bs.contains j = false → ∀ l, lkT (rmTs bs l) j = lkT l j
  | [], _, _ => rfl
  | b :: bs, h, l => by
    simp only [List.contains_cons, Bool.or_eq_false_iff, beq_eq_false_iff_ne] at h
    simp only [rmTs]
    rw [lk_rmT (by simpa using fun e => h.1 (Eq.symm e)), rmTs_out bs h.2]
section
variable {n t b : Nat} {bl bl1 : BL} {tl tl1 : TL} {T : TypeId} {cs : List AV} {o : Own}
theorem cs_ext {a c : CS} (h1 : ∀ j, a.H.blk j = c.H.blk j) (h2 : ∀ j, a.H.tok j = c.H.tok j) (h3 : a.nb = c.nb) (h4 : a.nt = c.nt) : a = c := by
  obtain ⟨⟨a1, a2⟩, a3, a4⟩ := a
  obtain ⟨⟨c1, c2⟩, c3, c4⟩ := c
  simp only at h1 h2 h3 h4
  have e1 : a1 = c1 := funext h1
  have e2 : a2 = c2 := funext h2
  subst e1 e2 h3 h4
  rfl
theorem of_setB : (CS.of n t bl tl).setB b T cs = CS.of n t ((b, T, cs) :: rmB b bl) tl := cs_ext (fun j => by
  simp only [CS.setB, CS.of, AHeap.setB, lkB]
  cases hj : b == j with
  | true => have e : b = j := by simpa using hj
            subst e; simp
  | false => have e : ¬ j = b := fun e => by subst e; simp at hj
             rw [if_neg e, cond_false, lk_rmB hj]) (fun j => rfl) rfl rfl
theorem of_addB : (CS.of n t bl tl).addB T cs = CS.of (n + 1) t ((n, T, cs) :: bl) tl := cs_ext (fun j => by
  simp only [CS.addB, CS.of, AHeap.setB, lkB]
  cases hj : n == j with
  | true => have e : n = j := by simpa using hj
            subst e; simp
  | false => have e : ¬ j = n := fun e => by subst e; simp at hj
             exact if_neg e) (fun j => rfl) rfl rfl
theorem of_setT : (CS.of n t bl tl).setT b o = CS.of n t bl ((b, o) :: rmT b tl) := cs_ext (fun j => rfl) (fun j => by
  simp only [CS.setT, CS.of, AHeap.setT, lkT]
  cases hj : b == j with
  | true => have e : b = j := by simpa using hj
            subst e; simp
  | false => have e : ¬ j = b := fun e => by subst e; simp at hj
             rw [if_neg e, cond_false, lk_rmT hj]) rfl rfl
theorem of_addT : (CS.of n t bl tl).addT o = CS.of n (t + 1) bl ((t, o) :: tl) := cs_ext (fun j => rfl) (fun j => by
  simp only [CS.addT, CS.of, AHeap.setT, lkT]
  cases hj : t == j with
  | true => have e : t = j := by simpa using hj
            subst e; simp
  | false => have e : ¬ j = t := fun e => by subst e; simp at hj
             exact if_neg e) rfl rfl
theorem of_upd {p : Sg} : (CS.of n t bl tl).upd p bl1 tl1 = CS.of n t (apB ((renB p bl1).filter fun q => p.b.contains q.1) (rmBs p.b bl)) (apT ((renT p tl1).filter fun q => p.t.contains q.1) (rmTs p.t tl)) := cs_ext (fun j => by
  simp only [CS.upd, CS.of, updB]
  cases hc : p.b.contains j with
  | true =>
    rw [cond_true]
    induction bl1 with
    | nil => simp only [List.find?, renB, List.filter, apB]; rw [rmBs_in p.b hc]
    | cons q l ih =>
      simp only [List.find?, renB]
      cases hq : p.b.getD q.1 0 == j with
      | true =>
        have e : p.b.getD q.1 0 = j := by simpa using hq
        rw [e]
        simp only [List.filter, hc, apB, lkB, beq_self_eq_true, cond_true]
      | false =>
        simp only [List.filter]
        cases hd : p.b.contains (p.b.getD q.1 0) with
        | true => simp only [apB, lkB, hq, cond_false]; exact ih
        | false => exact ih
  | false =>
    rw [cond_false]
    induction bl1 with
    | nil => simp only [renB, List.filter, apB]; rw [rmBs_out p.b hc]
    | cons q l ih =>
      simp only [renB, List.filter]
      cases hd : p.b.contains (p.b.getD q.1 0) with
      | true =>
        have : (p.b.getD q.1 0 == j) = false := by
          cases hj : p.b.getD q.1 0 == j with
          | false => rfl
          | true => have e : p.b.getD q.1 0 = j := by simpa using hj
                    rw [e, hc] at hd; cases hd
        simp only [apB, lkB, this, cond_false]; exact ih
      | false => exact ih) (fun j => by
  simp only [CS.upd, CS.of, updT]
  cases hc : p.t.contains j with
  | true =>
    rw [cond_true]
    induction tl1 with
    | nil => simp only [List.find?, renT, List.filter, apT]; rw [rmTs_in p.t hc]
    | cons q l ih =>
      simp only [List.find?, renT]
      cases hq : p.t.getD q.1 0 == j with
      | true =>
        have e : p.t.getD q.1 0 = j := by simpa using hq
        rw [e]
        simp only [List.filter, hc, apT, lkT, beq_self_eq_true, cond_true]
      | false =>
        simp only [List.filter]
        cases hd : p.t.contains (p.t.getD q.1 0) with
        | true => simp only [apT, lkT, hq, cond_false]; exact ih
        | false => exact ih
  | false =>
    rw [cond_false]
    induction tl1 with
    | nil => simp only [renT, List.filter, apT]; rw [rmTs_out p.t hc]
    | cons q l ih =>
      simp only [renT, List.filter]
      cases hd : p.t.contains (p.t.getD q.1 0) with
      | true =>
        have : (p.t.getD q.1 0 == j) = false := by
          cases hj : p.t.getD q.1 0 == j with
          | false => rfl
          | true => have e : p.t.getD q.1 0 = j := by simpa using hj
                    rw [e, hc] at hd; cases hd
        simp only [apT, lkT, this, cond_false]; exact ih
      | false => exact ih) rfl rfl
theorem of_blk {j : Nat} : (CS.of n t bl tl).H.blk j = lkB bl j := rfl
theorem of_tok {j : Nat} : (CS.of n t bl tl).H.tok j = lkT tl j := rfl
theorem of_nb : (CS.of n t bl tl).nb = n := rfl
theorem of_nt : (CS.of n t bl tl).nt = t := rfl
theorem of_new : CS.new = CS.of 0 0 [] [] := rfl
theorem crange_if {l : List AV} {agg : Bool} {o n : Nat} : crange l agg o n = if o + n ≤ l.length then AV.ofCells agg ((l.drop o).take n) else none := by
  unfold crange
  by_cases h : o + n ≤ l.length
  · rw [Nat.ble_eq_true_of_le h, if_pos h, cond_true]
  · rw [if_neg h]
    cases hb : Nat.ble (o + n) l.length with
    | true => exact absurd (Nat.le_of_ble_eq_true hb) h
    | false => rfl
theorem cstB_if {c : CS} {b o n : Nat} {x : AV} : cstB c b o n x = match c.H.blk b with
  | some (T, cs) => if (x.okc = true ∧ x.cells.length = n) ∧ (o + n ≤ cs.length ∧ x.cells.all AV.one = true) then some (.undef, c.setB b T (setRange cs o x.cells)) else none
  | none => none := by
  unfold cstB
  cases e : c.H.blk b with
  | none => rfl
  | some q =>
    obtain ⟨T, cs⟩ := q
    simp only []
    by_cases h : (x.okc = true ∧ x.cells.length = n) ∧ (o + n ≤ cs.length ∧ x.cells.all AV.one = true)
    · rw [if_pos h, h.1.1, h.1.2, h.2.2, Nat.ble_eq_true_of_le h.2.1]
      simp
    · rw [if_neg h]
      cases hb : (x.okc && x.cells.length == n) && (Nat.ble (o + n) cs.length && x.cells.all AV.one) with
      | false => rfl
      | true =>
        simp only [Bool.and_eq_true, beq_iff_eq, Nat.ble_eq] at hb
        exact absurd hb h
theorem one_nilS : AV.one (.raw (.slice none 0 0)) = true := rfl
theorem oc_nil : (Value.slice none 0 0).oneCell' = true := rfl
theorem oc_pnil : (Value.pointer none).oneCell' = true := rfl
theorem one_pnil : AV.one (.raw (.pointer none)) = true := rfl
theorem cev_t {env : Env} {j : Nat} : cev env (.t j) = env.get j := rfl
theorem cev_c {env : Env} {a : AV} : cev env (.c a) = bif a.flat then a else .top := rfl
theorem put_some' {env : Env} {d : Nat} {v : AV} : env.put (some d) v = (d, v) :: env := rfl
theorem put_none' {env : Env} {v : AV} : env.put none v = env := rfl
theorem getD_0 {a d : Nat} {l : List Nat} : (a :: l).getD 0 d = a := rfl
theorem getD_s {a d i : Nat} {l : List Nat} : (a :: l).getD (i + 1) d = l.getD i d := rfl
section
variable {env : Env} {c : CS} {x y z : EOpd} {zero l : List AV} {prt : List (Nat × Nat × EOpd)} {pt : List (Nat × EOpd)} {agg : Bool} {n m me : Nat} {bop : BinOp} {ks : List LK} {ik : IntKind} {xs : List EOpd} {lo hi mx : Option EOpd} {T : TypeId}
theorem cbuild_nil {env : Env} {cells : List AV} : cbuild env cells [] = some cells := rfl
theorem cbuild_cons {env : Env} {cells : List AV} {off size : Nat} {x : EOpd} {rest : List (Nat × Nat × EOpd)} : cbuild env cells ((off, size, x) :: rest) = if (cev env x).okc = true ∧ ((cev env x).cells.length = size ∧ off + size ≤ cells.length) then cbuild env (setRange cells off (cev env x).cells) rest else none := by
  simp only [cbuild]
  by_cases h : (cev env x).okc = true ∧ ((cev env x).cells.length = size ∧ off + size ≤ cells.length)
  · rw [if_pos h, h.1, h.2.1, Nat.ble_eq_true_of_le h.2.2]
    simp
  · rw [if_neg h]
    cases hb : (cev env x).okc && ((cev env x).cells.length == size && Nat.ble (off + size) cells.length) with
    | false => rfl
    | true =>
      simp only [Bool.and_eq_true, beq_iff_eq, Nat.ble_eq] at hb
      exact absurd hb h
theorem cidx_if {n : Int} {len : Nat} : cidx n len = if 0 ≤ n ∧ n < len then some n.toNat else none := by
  by_cases h : 0 ≤ n ∧ n < len
  · rw [if_pos h, cidx_eq h.1 h.2]
  · rw [if_neg h]
    cases hc : cidx n len with
    | none => rfl
    | some k => exact absurd ⟨(cidx_ok hc).1, (cidx_ok hc).2.1⟩ h
theorem wrapu64 {n : Int} (h0 : 0 ≤ n) (h1 : n ≤ 18446744073709551615) : IntKind.u64.wrap n = n := by rw [IntKind.wrap_u64]; omega
theorem wrapu8 {n : Int} (h0 : 0 ≤ n) (h1 : n ≤ 255) : IntKind.u8.wrap n = n := by rw [IntKind.wrap_u8]; omega
theorem nnif {α : Type} {b : Int} {x y : α} (h : 0 ≤ b) : (if 0 ≤ b then x else y) = x := if_pos h
theorem o_mv : ost (.mv x) env c = (cpv (.mv x) env c.H).map fun v => (v, c) := rfl
theorem o_pick : ost (.pick x y z) env c = (cpv (.pick x y z) env c.H).map fun v => (v, c) := rfl
theorem o_nilck : ost (.nilck x) env c = (cpv (.nilck x) env c.H).map fun v => (v, c) := rfl
theorem o_build : ost (.build zero prt) env c = (cpv (.build zero prt) env c.H).map fun v => (v, c) := rfl
theorem o_load : ost (.load agg n x) env c = (cpv (.load agg n x) env c.H).map fun v => (v, c) := rfl
theorem o_loadD : ost (.loadD me agg n x) env c = (cpv (.loadD me agg n x) env c.H).map fun v => (v, c) := rfl
theorem o_faddr : ost (.faddr n x) env c = (cpv (.faddr n x) env c.H).map fun v => (v, c) := rfl
theorem o_field : ost (.field agg n m x) env c = (cpv (.field agg n m x) env c.H).map fun v => (v, c) := rfl
theorem o_iaddr : ost (.iaddr n x y) env c = (cpv (.iaddr n x y) env c.H).map fun v => (v, c) := rfl
theorem o_iaddrA : ost (.iaddrA n m x y) env c = (cpv (.iaddrA n m x y) env c.H).map fun v => (v, c) := rfl
theorem o_idxA : ost (.idxA agg n m x y) env c = (cpv (.idxA agg n m x y) env c.H).map fun v => (v, c) := rfl
theorem o_idxS : ost (.idxS x y) env c = (cpv (.idxS x y) env c.H).map fun v => (v, c) := rfl
theorem o_bin : ost (.bin bop x y) env c = (cpv (.bin bop x y) env c.H).map fun v => (v, c) := rfl
theorem o_binB : ost (.binB bop x y) env c = (cpv (.binB bop x y) env c.H).map fun v => (v, c) := rfl
theorem o_eqA : ost (.eqA agg T ks x y) env c = (cpv (.eqA agg T ks x y) env c.H).map fun v => (v, c) := rfl
theorem o_not : ost (.not x) env c = (cpv (.not x) env c.H).map fun v => (v, c) := rfl
theorem o_pnil : ost (.pnil agg x) env c = (cpv (.pnil agg x) env c.H).map fun v => (v, c) := rfl
theorem o_neg : ost (.neg x) env c = (cpv (.neg x) env c.H).map fun v => (v, c) := rfl
theorem o_conv : ost (.conv ik x) env c = (cpv (.conv ik x) env c.H).map fun v => (v, c) := rfl
theorem o_lenS : ost (.lenS x) env c = (cpv (.lenS x) env c.H).map fun v => (v, c) := rfl
theorem o_len : ost (.len x) env c = (cpv (.len x) env c.H).map fun v => (v, c) := rfl
theorem o_lenA : ost (.lenA n) env c = (cpv (.lenA n) env c.H).map fun v => (v, c) := rfl
theorem o_minmax : ost (.minmax agg xs) env c = (cpv (.minmax agg xs) env c.H).map fun v => (v, c) := rfl
theorem o_slS : ost (.slS x lo hi) env c = (cpv (.slS x lo hi) env c.H).map fun v => (v, c) := rfl
theorem o_slV : ost (.slV n x lo hi mx) env c = (cpv (.slV n x lo hi mx) env c.H).map fun v => (v, c) := rfl
theorem o_extract : ost (.extract n x) env c = (cpv (.extract n x) env c.H).map fun v => (v, c) := rfl
theorem o_mkfn : ost (.mkfn n xs) env c = (cpv (.mkfn n xs) env c.H).map fun v => (v, c) := rfl
theorem o_mkfnB : ost (.mkfnB n xs) env c = (cpv (.mkfnB n xs) env c.H).map fun v => (v, c) := rfl
theorem o_convS : ost (.convS agg x) env c = (cpv (.convS agg x) env c.H).map fun v => (v, c) := rfl
theorem o_convBS : ost (.convBS T x) env c = (cpv (.convBS T x) env c.H).map fun v => (v, c) := rfl
theorem o_mkif : ost (.mkif T x) env c = (cpv (.mkif T x) env c.H).map fun v => (v, c) := rfl
theorem o_isnil : ost (.isnil agg x) env c = (cpv (.isnil agg x) env c.H).map fun v => (v, c) := rfl
theorem o_bslice : ost (.bslice T n m l pt) env c = (cpv (.bslice T n m l pt) env c.H).map fun v => (v, c) := rfl
theorem o_box : ost (.box T x) env c = bif (cev env x).okc && (cev env x).cells.all AV.one then some (.ptr c.nb 0, c.addB T (cev env x).cells) else none := rfl
theorem o_alloc : ost (.alloc T zero) env c = bif flatL zero && zero.all AV.one then some (.ptr c.nb 0, c.addB T zero) else none := rfl
theorem o_store : ost (.store n x y) env c = (match cev env x with
    | .ptr b o => cstB c b o n (cev env y)
    | .mp t ver k => cstM c t ver k n (cev env y)
    | _ => none) := rfl
theorem o_storeD {others : List Nat} : ost (.storeD me others n x y) env c = (match env.get me, cev env x with
    | .ptr b 0, .ptr b' o => bif b' == b && others.all (cnot env b) then cstB c b o n (cev env y) else none
    | _, _ => none) := rfl
theorem o_bsliceO : ost (.bsliceO T n m zero pt) env c = bif crowsOk env n pt then some (.own c.nt n (crows env pt), c.addT (.frz T n (crows env pt).length)) else none := rfl
theorem o_bsliceM : ost (.bsliceM T n m zero pt) env c = bif crowsOk env n pt then some (.ms c.nt 0, c.addT (.mu T n 0 (crows env pt))) else none := rfl
end
end
end Go.Aw
namespace Go.Aw
open Go
set_option linter.unusedVariables false
set_option linter.unusedSimpArgs false
mutual
def AV.tf : AV → Bool
  | .top => false
  | .agg cs => tfL cs
  | .tup cs => tfL cs
  | .vs _ rows => flatR rows
  | .own _ _ rows => flatR rows
  | .rp row _ => flatL row
  | .fn _ cap => tfL cap
  | .ifc _ v => v.tf
  | _ => true
def tfL : List AV → Bool
  | [] => true
  | a :: az => a.tf && tfL az
end
theorem flatR_eq {s : Sg} {az l l' : List (List AV)} (h : flatR az = true) (h1 : RnR s az l) (h2 : RnR s az l') : l = l' := ((flatR_rn az h l).1 h1).trans ((flatR_rn az h l').1 h2).symm
theorem flatL_eq {s : Sg} {az l l' : List AV} (h : flatL az = true) (h1 : RnL s az l) (h2 : RnL s az l') : l = l' := ((flatL_rn az h l).1 h1).trans ((flatL_rn az h l').1 h2).symm
mutual
theorem Rn.same {s : Sg} : ∀ (a v v' : AV), a.tf = true → Rn s a v → Rn s a v' → v = v'
  | .top, _, _, h, _, _ => by simp [AV.tf] at h
  | .ptr b o, _, _, _, h1, h2 => by simp only [Rn] at *; obtain ⟨x, e1, rfl⟩ := h1; obtain ⟨y, e2, rfl⟩ := h2; rw [e1] at e2; cases e2; rfl
  | .ms b o, _, _, _, h1, h2 => by simp only [Rn] at *; obtain ⟨x, e1, rfl⟩ := h1; obtain ⟨y, e2, rfl⟩ := h2; rw [e1] at e2; cases e2; rfl
  | .mp b o k, _, _, _, h1, h2 => by simp only [Rn] at *; obtain ⟨x, e1, rfl⟩ := h1; obtain ⟨y, e2, rfl⟩ := h2; rw [e1] at e2; cases e2; rfl
  | .agg cs, _, _, h, h1, h2 => by simp only [AV.tf] at h; simp only [Rn] at *; obtain ⟨l, rfl, e1⟩ := h1; obtain ⟨m, rfl, e2⟩ := h2; rw [RnL.same cs l m h e1 e2]
  | .tup cs, _, _, h, h1, h2 => by simp only [AV.tf] at h; simp only [Rn] at *; obtain ⟨l, rfl, e1⟩ := h1; obtain ⟨m, rfl, e2⟩ := h2; rw [RnL.same cs l m h e1 e2]
  | .fn f cs, _, _, h, h1, h2 => by simp only [AV.tf] at h; simp only [Rn] at *; obtain ⟨l, rfl, e1⟩ := h1; obtain ⟨m, rfl, e2⟩ := h2; rw [RnL.same cs l m h e1 e2]
  | .ifc t a, _, _, h, h1, h2 => by simp only [AV.tf] at h; simp only [Rn] at *; obtain ⟨l, rfl, e1⟩ := h1; obtain ⟨m, rfl, e2⟩ := h2; rw [Rn.same a l m h e1 e2]
  | .vs n rows, _, _, h, h1, h2 => by simp only [AV.tf] at h; simp only [Rn] at *; obtain ⟨l, rfl, e1⟩ := h1; obtain ⟨m, rfl, e2⟩ := h2; rw [flatR_eq h e1 e2]
  | .rp row o, _, _, h, h1, h2 => by simp only [AV.tf] at h; simp only [Rn] at *; obtain ⟨l, rfl, e1⟩ := h1; obtain ⟨m, rfl, e2⟩ := h2; rw [flatL_eq h e1 e2]
  | .own t n rows, _, _, h, h1, h2 => by
    simp only [AV.tf] at h
    simp only [Rn] at *
    obtain ⟨x, l, e0, rfl, e1⟩ := h1
    obtain ⟨y, m, e0', rfl, e2⟩ := h2
    rw [e0] at e0'
    cases e0'
    rw [flatR_eq h e1 e2]
  | .bool _, _, _, _, h1, h2 => by simp only [Rn] at *; rw [h1, h2]
  | .int _ _, _, _, _, h1, h2 => by simp only [Rn] at *; rw [h1, h2]
  | .str _, _, _, _, h1, h2 => by simp only [Rn] at *; rw [h1, h2]
  | .raw _, _, _, _, h1, h2 => by simp only [Rn] at *; rw [h1, h2]
theorem RnL.same {s : Sg} : ∀ (az l l' : List AV), tfL az = true → RnL s az l → RnL s az l' → l = l'
  | [], _, _, _, h1, h2 => by simp only [RnL] at *; rw [h1, h2]
  | a :: az, _, _, h, h1, h2 => by
    simp only [tfL, Bool.and_eq_true] at h
    simp only [RnL] at *
    obtain ⟨v, vs, rfl, a1, a2⟩ := h1
    obtain ⟨w, ws, rfl, b1, b2⟩ := h2
    rw [Rn.same a v w h.1 a1 b1, RnL.same az vs ws h.2 a2 b2]
end
mutual
theorem Rn.ex {s : Sg} {n t : Nat} (hn : n ≤ s.b.length) (ht : t ≤ s.t.length) : ∀ (a : AV), a.bd n t = true → ∃ v, Rn s a v
  | .top, _ => ⟨.top, by simp only [Rn]⟩
  | .ptr b o, h => ⟨_, by simp only [Rn]; exact ⟨_, getD_get (Nat.lt_of_lt_of_le (blt_lt h) hn), rfl⟩⟩
  | .ms b o, h => ⟨_, by simp only [Rn]; exact ⟨_, getD_get (Nat.lt_of_lt_of_le (blt_lt h) ht), rfl⟩⟩
  | .mp b o k, h => ⟨_, by simp only [Rn]; exact ⟨_, getD_get (Nat.lt_of_lt_of_le (blt_lt h) ht), rfl⟩⟩
  | .agg cs, h => by simp only [AV.bd] at h; obtain ⟨l, e⟩ := RnL.ex hn ht cs h; exact ⟨_, by simp only [Rn]; exact ⟨l, rfl, e⟩⟩
  | .tup cs, h => by simp only [AV.bd] at h; obtain ⟨l, e⟩ := RnL.ex hn ht cs h; exact ⟨_, by simp only [Rn]; exact ⟨l, rfl, e⟩⟩
  | .fn f cs, h => by simp only [AV.bd] at h; obtain ⟨l, e⟩ := RnL.ex hn ht cs h; exact ⟨_, by simp only [Rn]; exact ⟨l, rfl, e⟩⟩
  | .ifc t a, h => by simp only [AV.bd] at h; obtain ⟨l, e⟩ := Rn.ex hn ht a h; exact ⟨_, by simp only [Rn]; exact ⟨l, rfl, e⟩⟩
  | .vs m rows, h => ⟨_, by simp only [AV.bd] at h; simp only [Rn]; exact ⟨rows, rfl, (flatR_rn rows h _).2 rfl⟩⟩
  | .rp row o, h => ⟨_, by simp only [AV.bd] at h; simp only [Rn]; exact ⟨row, rfl, (flatL_rn row h _).2 rfl⟩⟩
  | .own x m rows, h => ⟨_, by simp only [AV.bd, Bool.and_eq_true] at h; simp only [Rn]; exact ⟨_, rows, getD_get (Nat.lt_of_lt_of_le (blt_lt h.1) ht), rfl, (flatR_rn rows h.2 _).2 rfl⟩⟩
  | .bool b, _ => ⟨.bool b, by simp only [Rn]⟩
  | .int k n, _ => ⟨.int k n, by simp only [Rn]⟩
  | .str x, _ => ⟨.str x, by simp only [Rn]⟩
  | .raw x, _ => ⟨.raw x, by simp only [Rn]⟩
theorem RnL.ex {s : Sg} {n t : Nat} (hn : n ≤ s.b.length) (ht : t ≤ s.t.length) : ∀ (az : List AV), bdL n t az = true → ∃ l, RnL s az l
  | [], _ => ⟨[], by simp only [RnL]⟩
  | a :: az, h => by
    simp only [bdL, Bool.and_eq_true] at h
    obtain ⟨v, e1⟩ := Rn.ex hn ht a h.1
    obtain ⟨l, e2⟩ := RnL.ex hn ht az h.2
    exact ⟨v :: l, by simp only [RnL]; exact ⟨v, l, rfl, e1, e2⟩⟩
end
theorem Sg.Le.eq {s s' : Sg} (h : Sg.Le s s') (h1 : s'.b.length = s.b.length) (h2 : s'.t.length = s.t.length) : s' = s := by
  obtain ⟨b, t⟩ := s
  obtain ⟨b', t'⟩ := s'
  simp only at h1 h2
  have e1 : b' = b := by
    apply List.ext_getElem?
    intro i
    by_cases hi : i < b.length
    · have := getD_get hi
      rw [this]; exact h.b _ _ this
    · rw [List.getElem?_eq_none (by omega), List.getElem?_eq_none (by omega)]
  have e2 : t' = t := by
    apply List.ext_getElem?
    intro i
    by_cases hi : i < t.length
    · have := getD_get hi
      rw [this]; exact h.t _ _ this
    · rw [List.getElem?_eq_none (by omega), List.getElem?_eq_none (by omega)]
  rw [e1, e2]
section
variable {P : Program} {env : Env} {c : CS} {v : AV} {anns : List AV} {l : List EI} {K : Env → CS → Prop} {Rp : AV → CS → Prop} {f : FuncId} {args : List EOpd} {az : List AV}
theorem IJ.callD {others : List Nat} {b : Nat} {T : TypeId} {cs : List AV} (h : FC P f (args.map (cev env)) c (Rt v (c.setB b T cs))) (hb : Nat.blt b c.nb = true) (hcs : bdL c.nb c.nt cs = true) (hv : v.flat = true) (ho : ∀ s ∈ others, ∃ b' T' cs', env.get s = .ptr b' 0 ∧ c.H.blk b' = some (T', cs') ∧ (b' == b) = false ∧ tfL cs' = true) : IJ P (.callD others f args) env c (fun v' c' => v' = v ∧ c' = c.setB b T cs) Rp := fun H0 s env' H K Rp' he hr hK hRp => by
  have hsb := getD_get (l := s.b) (by rw [← hr.nb]; exact blt_lt hb)
  have heq : ∀ {s' : Sg} {c2 : CS} {H' : AHeap}, Sg.Le s s' → c2.nb = c.nb → c2.nt = c.nt → HRc H0 s' c2 H' → s' = s := fun q1 q2 q3 q4 => q1.eq (by rw [← q4.nb, q2, hr.nb]) (by rw [← q4.nt, q3, hr.nt])
  refine .callD (az := args.map (EOpd.ev env')) _ (fun j hj => ?_) (fun hF => ?_) (AVLes.rfl' _) (h H0 s _ H (cevs_rn he args) hr) (outk (fun s' v1 v1' c1 H' q1 q2 q3 q4 => by obtain ⟨e1, e2⟩ := q2; cases e1; exact hK s' _ v1' c1 H' q1 ⟨rfl, e2⟩ q3 q4) (fun s' v1 v1' c1 H' q1 q2 q3 q4 => by obtain ⟨e1, e2⟩ := q2; cases e1))
  · obtain ⟨b', T', cs', e1, e2, e3, e4⟩ := ho j hj
    have hj' := he j
    rw [e1] at hj'
    simp only [Rn] at hj'
    obtain ⟨x, g1, g2⟩ := hj'
    refine ⟨x, g2, fun o H' ⟨s', o1, c1, q1, ⟨q2, q3⟩, q4, q5⟩ => ?_⟩
    subst q3
    have := heq (c2 := c.setB b T cs) q1 rfl rfl q5
    subst this
    obtain ⟨y, l1, r1, r2, r3⟩ := hr.blk b' T' cs' e2
    have hne : ¬ b' = b := by simpa using e3
    obtain ⟨y2, l2, r4, r5, r6⟩ := q5.blk b' T' cs' (by simp only [CS.setB, AHeap.setB, if_neg hne]; exact e2)
    rw [g1] at r1 r4
    cases r1
    cases r4
    rw [r2, r5, RnL.same cs' l1 l2 e4 r3 r6]
  · obtain ⟨l2, g1⟩ := RnL.ex (s := s) (Nat.le_of_eq hr.nb) (Nat.le_of_eq hr.nt) cs hcs
    refine ⟨v, H.setB (s.b.getD b 0) T l2, ⟨s, .ret v, _, Sg.Le.refl s, ⟨rfl, rfl⟩, (AV.flat_rn v hv v).2 rfl, hr.setB hsb g1⟩, ?_⟩
    obtain ⟨N, hN⟩ := hF
    obtain ⟨_, y, hy⟩ := hr.newb b _ hsb
    refine ⟨N, fun m hm => ⟨?_, (hN m hm).2⟩⟩
    simp only [AHeap.setB]
    rw [if_neg (fun e => by subst e; rw [(hN _ hm).1] at hy; cases hy)]
    exact (hN m hm).1
theorem DJ.cD {others : List Nat} {d b : Nat} {T : TypeId} {cs : List AV} {c1 : CS} (h : FC P f az c (Rt v c1)) (ha : args.map (cev env) = az) (hc : c1 = c.setB b T cs) (hb : Nat.blt b c.nb = true) (hcs : bdL c.nb c.nt cs = true) (hv : v.flat = true) (ho : ∀ s ∈ others, ∃ b' T' cs', env.get s = .ptr b' 0 ∧ c.H.blk b' = some (T', cs') ∧ (b' == b) = false ∧ tfL cs' = true) (hk : DJ P anns l ((d, v) :: env) c1 K Rp) : DJ P anns (⟨some d, none, .callD others f args⟩ :: l) env c K Rp := by
  subst ha hc
  exact DJ.opr rfl rfl (IJ.callD h hb hcs hv ho) fun v' c' ⟨e1, e2⟩ => by rw [e1, e2]; exact hk
theorem DJ.pu {d : Nat} {as0 : List AV} {r : AV} (h : Pure P f az r) (ha : args.map (cev env) = as0) (hw : wkL as0 = az) (hf : flatL az = true) (hr : r.flat = true) (hk : DJ P anns l ((d, r) :: env) c K Rp) : DJ P anns (⟨some d, none, .call f args⟩ :: l) env c K Rp :=
  DJ.cr rfl (FC.ofPure h hf hr hw) ha hk
end
end Go.Aw
namespace Go.Aw
open Go
set_option linter.unusedVariables false
set_option linter.unusedSimpArgs false
def gv (a : AV) (t : Bool) : Option Bool := match a with
  | .bool b => some (b == t)
  | .raw (.tuple ⟨[]⟩) => some false
  | _ => none
theorem gv_b {b t : Bool} : gv (.bool b) t = some (b == t) := rfl
theorem gv_u {t : Bool} : gv .undef t = some false := rfl
def gst (g : Option (Nat × Bool)) (env : Env) : Option Bool := match g with
  | none => some true
  | some (j, t) => gv (env.get j) t
def dst (i : EI) (env : Env) (c : CS) : Option (Env × CS) := match gst i.guard env with
  | some true => (ost i.op env c).map fun q => (env.put i.dst q.1, q.2)
  | some false => some (env.put i.dst .undef, c)
  | none => none
def jst (ex bl : Bool) : List JI → Env → Option (List JI)
  | .c e :: k, env => match e with
    | .skip => some k
    | .seq a b => some (.c a :: .c b :: k)
    | .block id b => match bl with
      | true => some (.c b :: .blk id :: k)
      | false => none
    | .exit id => match ex with
      | true => jpop id k
      | false => none
    | .cond x a b => match cev env x with
      | .bool true => some (.c a :: k)
      | .bool false => some (.c b :: k)
      | _ => none
    | _ => none
  | .blk _ :: k, _ => some k
  | _, _ => none
section
variable {P : Program} {rs : List ERes} {n0 t0 : Nat} {k k' : List JI} {Q : Out → CS → Prop} {env env' : Env} {c c' : CS} {anns : List AV} {l : List EI} {i : EI} {K : Env → CS → Prop} {Rp : AV → CS → Prop}
theorem DJ.s (hp : isP i.op = false) (h : dst i env c = some (env', c')) (hk : DJ P anns l env' c' K Rp) : DJ P anns (i :: l) env c K Rp := by
  obtain ⟨d, g, op⟩ := i
  have hw : ∀ b, gst g env = some b → wanted ⟨d, g, op⟩ env = some b := by
    intro b hb
    cases g with
    | none => exact hb
    | some p => exact hb
  unfold dst at h
  simp only at h hp
  split at h
  · rename_i e
    simp only [Option.map_eq_some_iff, Prod.mk.injEq] at h
    obtain ⟨⟨v, c1⟩, h1, h2, h3⟩ := h
    subst h2 h3
    exact DJ.o (hw _ e) hp h1 hk
  · rename_i e
    simp only [Option.some.injEq, Prod.mk.injEq] at h
    obtain ⟨h2, h3⟩ := h
    subst h2 h3
    exact DJ.sk (hw _ e) hp hk
  · cases h
theorem DJ.gw {d : Option Nat} {j : Nat} {t : Bool} {op : EOp} (h : gv (env.get j) t = some true) (hk : DJ P anns (⟨d, none, op⟩ :: l) env c K Rp) : DJ P anns (⟨d, some (j, t), op⟩ :: l) env c K Rp := by
  unfold gv at h
  split at h
  · rename_i b e
    simp only [Option.some.injEq, beq_iff_eq] at h
    exact DJ.gd e h hk
  · cases h
  · cases h
theorem DJ.gz {d : Option Nat} {j : Nat} {t : Bool} {op : EOp} (hp : isP op = true) (h : gv (env.get j) t = some false) (hk : DJ P anns l (env.put d .undef) c K Rp) : DJ P (.undef :: anns) (⟨d, some (j, t), op⟩ :: l) env c K Rp := DJ.skP h hp hk
theorem J.s (ex bl : Bool) (h : jst ex bl k env = some k') (hk : J P rs n0 t0 k' Q env c) : J P rs n0 t0 k Q env c := by
  unfold jst at h
  split at h
  · split at h
    · cases h; exact .skip hk
    · cases h; exact .seq hk
    · cases bl with
      | true => cases h; exact .block hk
      | false => cases h
    · cases ex with
      | true => exact .exit h hk
      | false => cases h
    · split at h
      · rename_i e; cases h; exact .cT e hk
      · rename_i e; cases h; exact .cF e hk
      · cases h
    · cases h
  · cases h; exact .blkEnd hk
  · cases h
theorem DJ.fr {f : FuncId} {args : List EOpd} {d : Option Nat} (p : Sg) {as0 : List AV} {bl0 bl1 : BL} {tl0 tl1 : TL} {n t : Nat} {v : AV} (h : FC P f as0 (CS.of n t bl0 tl0) (Ro v bl1 tl1)) (hc : (p.b.length == n && (p.t.length == t && (nodupB p.b && (nodupB p.t && (p.b.all (fun x => Nat.blt x c.nb) && (p.t.all (fun x => Nat.blt x c.nt) && (bdL n t as0 && (bdB n t bl0 && (bdT n t tl0 && (bdB n t bl1 && (bdT n t tl1 && v.bd n t))))))))))) = true) (hB : hasP c.H.blk p bl0) (hT : hasPT c.H.tok p tl0) (ha : args.map (cev env) = renL p as0) (hk : DJ P anns l (env.put d (v.ren p)) (c.upd p bl1 tl1) K Rp) : DJ P anns (⟨d, none, .call f args⟩ :: l) env c K Rp := by
  simp only [Bool.and_eq_true, beq_iff_eq] at hc
  obtain ⟨c1, c2, c3, c4, c5, c6, c7, c8, c9, c10, c11, c12⟩ := hc
  exact DJ.cr rfl (FC.fr p h c1 c2 (by rw [c3, c4, c5, c6]; rfl) hB hT (by rw [c7, c8, c9]; rfl) (by rw [c10, c11, c12]; rfl) rfl) ha hk
end
end Go.Aw
namespace Go.Aw
open Go
set_option linter.unusedVariables false
set_option linter.unusedSimpArgs false
section
variable {Pr : Program} {rs : List ERes} {n0 t0 : Nat} {k k' : List JI} {Q : Out → CS → Prop} {env env' : Env} {c c' : CS} {anns : List AV} {l : List EI} {K : Env → CS → Prop} {Rp : AV → CS → Prop} {d : Option Nat} {g : Option (Nat × Bool)} {op : EOp} {j : Nat} {t b : Bool} {v v' : AV} {x i : EOpd} {ik : IntKind} {z : Int} {size p e : Nat} {f : FuncId} {args : List EOpd}
theorem D.S (hk : DJ Pr anns l env' c' K Rp) (hp : isP op = false := by rfl) (h : dst ⟨d, g, op⟩ env c = some (env', c') := by simp (disch := omega) only [go_sem, simprocAttr] <;> with_reducible rfl) : DJ Pr anns (⟨d, g, op⟩ :: l) env c K Rp := DJ.s hp h hk
theorem D.JJ (ex bl : Bool) (hk : J Pr rs n0 t0 k' Q env c) (h : jst ex bl k env = some k' := by simp (disch := omega) only [go_sem, simprocAttr] <;> with_reducible rfl) : J Pr rs n0 t0 k Q env c := J.s ex bl h hk
theorem D.W (hk : DJ Pr anns (⟨d, none, op⟩ :: l) env c K Rp) (h : gv (env.get j) t = some true := by simp (disch := omega) only [go_sem, simprocAttr] <;> with_reducible rfl) : DJ Pr anns (⟨d, some (j, t), op⟩ :: l) env c K Rp := DJ.gw h hk
theorem D.Z (hk : DJ Pr anns l (env.put d .undef) c K Rp) (hp : isP op = true := by rfl) (h : gv (env.get j) t = some false := by simp (disch := omega) only [go_sem, simprocAttr] <;> with_reducible rfl) : DJ Pr (.undef :: anns) (⟨d, some (j, t), op⟩ :: l) env c K Rp := DJ.gz hp h hk
theorem D.G (h1 : b = true → DJ Pr anns (⟨d, some (j, t), op⟩ :: l) ((j, .bool true) :: env) c K Rp) (h2 : b = false → DJ Pr anns (⟨d, some (j, t), op⟩ :: l) ((j, .bool false) :: env) c K Rp) (h : env.get j = .bool b := by simp (disch := omega) only [go_sem, simprocAttr] <;> with_reducible rfl) : DJ Pr anns (⟨d, some (j, t), op⟩ :: l) env c K Rp := DJ.gs h h1 h2
theorem D.C {a a' : EC} (h1 : b = true → J Pr rs n0 t0 (.c a :: k) Q env c) (h2 : b = false → J Pr rs n0 t0 (.c a' :: k) Q env c) (h : cev env x = .bool b := by simp (disch := omega) only [go_sem, simprocAttr] <;> with_reducible rfl) : J Pr rs n0 t0 (.c (.cond x a a') :: k) Q env c := J.cond h h1 h2
theorem D.R (hq : Q (.ret v) c) (h : cres rs env c.H = some v := by simp (disch := omega) only [go_sem, simprocAttr] <;> with_reducible rfl) : J Pr rs n0 t0 (.c .ret :: k) Q env c := J.ret h hq
theorem D.E (hq : Q (.ret v) c) (h : cres rs env c.H = some v := by simp (disch := omega) only [go_sem, simprocAttr] <;> with_reducible rfl) : J Pr rs n0 t0 [] Q env c := J.done h hq
theorem D.X {α : Type} {f : α → List AV} {w : α} {m : List α} {d : Nat} (hr : m[p]? = some w) (hk : DJ Pr anns l ((d, .rp (f w) 0) :: env) c K Rp) (hx : cev env x = .vs size (m.map f) := by simp (disch := omega) only [go_sem, simprocAttr] <;> with_reducible rfl) (hi : cev env i = .int ik z := by simp (disch := omega) only [go_sem, simprocAttr] <;> with_reducible rfl) (e : z = p := by omega) : DJ Pr anns (⟨some d, none, .iaddr size x i⟩ :: l) env c K Rp := DJ.ixm hx hi hr e hk
theorem D.XO {α : Type} {f : α → List AV} {w : α} {m : List α} {d q : Nat} (hr : m[p]? = some w) (hk : DJ Pr anns l ((d, .rp (f w) 0) :: env) c K Rp) (hx : cev env x = .own q size (m.map f) := by simp (disch := omega) only [go_sem, simprocAttr] <;> with_reducible rfl) (hi : cev env i = .int ik z := by simp (disch := omega) only [go_sem, simprocAttr] <;> with_reducible rfl) (e : z = p := by omega) : DJ Pr anns (⟨some d, none, .iaddr size x i⟩ :: l) env c K Rp := DJ.ixom hx hi hr e hk
theorem D.XS {u : UInt8} {d : Nat} {a : List UInt8} (hr : a[p]? = some u) (hk : DJ Pr anns l ((d, .int .u8 u.toNat) :: env) c K Rp) (hx : cev env x = .str a := by simp (disch := omega) only [go_sem, simprocAttr] <;> with_reducible rfl) (hi : cev env i = .int ik z := by simp (disch := omega) only [go_sem, simprocAttr] <;> with_reducible rfl) (e : z = p := by omega) : DJ Pr anns (⟨some d, none, .idxS x i⟩ :: l) env c K Rp := DJ.ixsm hx hi hr e hk
theorem D.F (s : Sg) {as0 : List AV} {bl0 bl1 : BL} {tl0 tl1 : TL} {n q : Nat} {c2 : CS} (h : FC Pr f as0 (CS.of n q bl0 tl0) (Ro v bl1 tl1)) (hk : DJ Pr anns l (env.put d v') c2 K Rp) (hc : (s.b.length == n && (s.t.length == q && (nodupB s.b && (nodupB s.t && (s.b.all (fun x => Nat.blt x c.nb) && (s.t.all (fun x => Nat.blt x c.nt) && (bdL n q as0 && (bdB n q bl0 && (bdT n q tl0 && (bdB n q bl1 && (bdT n q tl1 && v.bd n q))))))))))) = true := by simp (disch := omega) only [go_sem, simprocAttr] <;> rfl) (hB : hasP c.H.blk s bl0 := by repeat first | exact trivial | refine ⟨rfl, ?_⟩) (hT : hasPT c.H.tok s tl0 := by repeat first | exact trivial | refine ⟨rfl, ?_⟩) (ha : args.map (cev env) = renL s as0 := by simp (disch := omega) only [go_sem, simprocAttr] <;> rfl) (hv : v.ren s = v' := by simp (disch := omega) only [go_sem, simprocAttr] <;> with_reducible rfl) (hu : c.upd s bl1 tl1 = c2 := by simp (disch := omega) only [go_sem, simprocAttr] <;> with_reducible rfl) : DJ Pr anns (⟨d, none, .call f args⟩ :: l) env c K Rp := by
  subst hv hu
  exact DJ.fr s h hc hB hT ha hk
theorem D.P {d : Nat} {az as0 : List AV} {r : AV} (h : Pure Pr f az r) (hk : DJ Pr anns l ((d, r) :: env) c K Rp) (ha : args.map (cev env) = as0 := by simp (disch := omega) only [go_sem, simprocAttr] <;> with_reducible rfl) (hw : wkL as0 = az := by rfl) (hf : flatL az = true := by simp (disch := omega) only [go_sem, simprocAttr] <;> rfl) (hr : r.flat = true := by simp (disch := omega) only [go_sem, simprocAttr] <;> rfl) : DJ Pr anns (⟨some d, none, .call f args⟩ :: l) env c K Rp := DJ.pu h ha hw hf hr hk
theorem D.PC {az as0 : List AV} {r : AV} (h : Pure Pr f az r) (hk : DJ Pr anns l (env.put d r) c K Rp) (ha : args.map (cev env) = as0 := by simp (disch := omega) only [go_sem, simprocAttr] <;> with_reducible rfl) (hw : wkL as0 = az := by rfl) (hf : flatL az = true := by simp (disch := omega) only [go_sem, simprocAttr] <;> rfl) (hr : r.flat = true := by simp (disch := omega) only [go_sem, simprocAttr] <;> rfl) : DJ Pr (r :: anns) (⟨d, none, .pcall f args⟩ :: l) env c K Rp := DJ.pc rfl h (by rw [ha, hw]) hf hr hk
end
end Go.Aw
namespace Go.Aw.T
open Go Go.Aw Go.Proofs
set_option maxRecDepth 1000000
abbrev iI (d : Nat) (o : EOp) : EI := ⟨some d, none, o⟩
abbrev iG (d j : Nat) (b : Bool) (o : EOp) : EI := ⟨some d, some (j, b), o⟩
abbrev iN (o : EOp) : EI := ⟨none, none, o⟩
def e11 : EC :=
 (.seq
 (.region [iI 1 (.box 36 (.t 0)),iI 2 (.mv (.c (.bool false)))] false)
 (.seq
 (.seq
 (.region [iI 5 (.faddr 0 (.t 1)),iI 6 (.load false 1 (.t 5)),iI 7 (.call 29 [(.t 6)]),iI 8 (.not (.t 7)),iI 9 (.mv (.t 8)),iG 10 9 false (.faddr 1 (.t 1)),iG 11 9 false (.load false 1 (.t 10)),iG 12 9 false (.call 30 [(.t 11), (.c (.int .i64 0)), (.c (.int .i64 5))]),iG 13 9 false (.not (.t 12)),iI 14 (.pick (.t 9) (.c (.bool true)) (.t 13)),iI 15 (.mv (.t 14)),iG 16 15 false (.faddr 5 (.t 1)),iG 17 15 false (.load false 1 (.t 16)),iG 18 15 false (.len (.t 17)),iG 19 15 false (.call 30 [(.t 18), (.c (.int .i64 1)), (.c (.int .i64 1000))]),iG 20 15 false (.not (.t 19)),iI 21 (.pick (.t 15) (.c (.bool true)) (.t 20)),iI 22 (.mv (.t 21)),iG 23 22 false (.load true 6 (.t 1)),iG 24 22 false (.call 31 [(.t 23)]),iG 25 22 false (.not (.t 24)),iI 26 (.pick (.t 22) (.c (.bool true)) (.t 25)),iI 27 (.mv (.t 26)),iG 28 27 false (.load true 6 (.t 1)),iG 29 27 false (.call 32 [(.t 28)]),iG 30 27 false (.not (.t 29)),iI 31 (.pick (.t 27) (.c (.bool true)) (.t 30))] false)
 (.cond (.t 31)
 (.seq
 (.region [iI 2 (.mv (.c (.bool false)))] false)
 .ret)
 .skip))
 (.seq
 (.seq
 (.region [iI 32 (.faddr 5 (.t 1)),iI 33 (.load false 1 (.t 32)),iI 34 (.len (.t 33)),iI 35 (.mv (.c (.int .i64 0)))] false)
 (.block 0
 (.loop
 (.seq
 (.region [iI 36 (.bin .lss (.t 35) (.t 34))] false)
 (.seq
 (.cond (.t 36)
 .skip
 (.exit 0))
 (.seq
 (.block 1
 (.seq
 (.region [iI 37 (.iaddr 3 (.t 33) (.t 35)),iI 38 (.load true 3 (.t 37)),iI 4 (.alloc 43 [.int .i64 0, .int .i64 0, .str []]),iN (.store 3 (.t 4) (.t 38))] false)
 (.seq
 (.seq
 (.region [iI 39 (.load true 3 (.t 4)),iI 40 (.call 33 [(.t 39)]),iI 41 (.not (.t 40))] false)
 (.cond (.t 41)
 (.seq
 (.region [iI 2 (.mv (.c (.bool false)))] false)
 .ret)
 .skip))
 (.seq
 (.region [iI 42 (.faddr 0 (.t 4)),iI 43 (.load false 1 (.t 42))] false)
 (.block 2
 (.seq
 (.seq
 (.region [iI 45 (.bin .eql (.t 43) (.c (.int .i64 3))),iI 44 (.mv (.t 45))] false)
 (.cond (.t 44)
 .skip
 (.region [iI 46 (.bin .eql (.t 43) (.c (.int .i64 5))),iI 44 (.mv (.t 46))] false)))
 (.cond (.t 44)
 (.seq
 (.region [iI 47 (.faddr 1 (.t 4)),iI 48 (.load false 1 (.t 47)),iI 49 (.faddr 2 (.t 1)),iI 50 (.load false 1 (.t 49)),iI 51 (.len (.t 50)),iI 52 (.bin .geq (.t 48) (.t 51))] false)
 (.cond (.t 52)
 (.seq
 (.region [iI 2 (.mv (.c (.bool false)))] false)
 .ret)
 .skip))
 (.seq
 (.seq
 (.region [iI 54 (.bin .eql (.t 43) (.c (.int .i64 19))),iI 53 (.mv (.t 54))] false)
 (.cond (.t 53)
 .skip
 (.seq
 (.region [iI 55 (.bin .eql (.t 43) (.c (.int .i64 20))),iI 53 (.mv (.t 55))] false)
 (.cond (.t 53)
 .skip
 (.region [iI 56 (.bin .eql (.t 43) (.c (.int .i64 22))),iI 53 (.mv (.t 56))] false)))))
 (.cond (.t 53)
 (.seq
 (.region [iI 57 (.load true 6 (.t 1)),iI 58 (.faddr 1 (.t 4)),iI 59 (.load false 1 (.t 58)),iI 60 (.call 34 [(.t 57), (.t 59)]),iI 61 (.not (.t 60))] false)
 (.cond (.t 61)
 (.seq
 (.region [iI 2 (.mv (.c (.bool false)))] false)
 .ret)
 .skip))
 .skip)))))))))
 (.region [iI 62 (.bin .add (.t 35) (.c (.int .i64 1))),iI 35 (.mv (.t 62))] false)))))))
 (.seq
 (.region [iI 2 (.mv (.c (.bool true)))] false)
 .ret))))
def r11 : List ERes := [.t 2]
theorem c11 : chkF Tryz.prog Tryz.f11 1 e11 r11 = true := by kernel_rfl
def e14 : EC :=
 (.seq
 (.region [iI 2 (.box 36 (.t 0)),iI 3 (.box 36 (.t 1)),iI 4 (.mv (.c (.bool false)))] false)
 (.seq
 (.region [iI 5 (.faddr 0 (.t 2)),iI 6 (.load false 1 (.t 5)),iI 7 (.faddr 0 (.t 3)),iI 8 (.load false 1 (.t 7)),iI 9 (.bin .eql (.t 6) (.t 8)),iI 10 (.mv (.t 9)),iG 11 10 true (.faddr 1 (.t 2)),iG 12 10 true (.load false 1 (.t 11)),iG 13 10 true (.faddr 1 (.t 3)),iG 14 10 true (.load false 1 (.t 13)),iG 15 10 true (.bin .eql (.t 12) (.t 14)),iI 16 (.pick (.t 10) (.t 15) (.c (.bool false))),iI 17 (.mv (.t 16)),iG 18 17 true (.faddr 2 (.t 2)),iG 19 17 true (.load false 1 (.t 18)),iG 20 17 true (.faddr 2 (.t 3)),iG 21 17 true (.load false 1 (.t 20)),iG 22 17 true (.call 39 [(.t 19), (.t 21)]),iI 23 (.pick (.t 17) (.t 22) (.c (.bool false))),iI 24 (.mv (.t 23)),iG 25 24 true (.faddr 3 (.t 2)),iG 26 24 true (.load false 1 (.t 25)),iG 27 24 true (.faddr 3 (.t 3)),iG 28 24 true (.load false 1 (.t 27)),iG 29 24 true (.call 40 [(.t 26), (.t 28)]),iI 30 (.pick (.t 24) (.t 29) (.c (.bool false))),iI 31 (.mv (.t 30)),iG 32 31 true (.faddr 4 (.t 2)),iG 33 31 true (.load false 1 (.t 32)),iG 34 31 true (.faddr 4 (.t 3)),iG 35 31 true (.load false 1 (.t 34)),iG 36 31 true (.call 41 [(.t 33), (.t 35)]),iI 37 (.pick (.t 31) (.t 36) (.c (.bool false))),iI 38 (.mv (.t 37)),iG 39 38 true (.faddr 5 (.t 2)),iG 40 38 true (.load false 1 (.t 39)),iG 41 38 true (.faddr 5 (.t 3)),iG 42 38 true (.load false 1 (.t 41)),iG 43 38 true (.call 42 [(.t 40), (.t 42)]),iI 44 (.pick (.t 38) (.t 43) (.c (.bool false))),iI 4 (.mv (.t 44))] false)
 .ret))
def r14 : List ERes := [.t 4]
theorem c14 : chkF Tryz.prog Tryz.f14 2 e14 r14 = true := by kernel_rfl
def e16 : EC :=
 (.seq
 (.region [iI 1 (.box 43 (.t 0)),iI 2 (.mv (.c (.str [])))] false)
 (.seq
 (.seq
 (.region [iI 7 (.load true 3 (.t 1)),iI 8 (.call 33 [(.t 7)]),iI 9 (.not (.t 8))] false)
 (.cond (.t 9)
 (.seq
 (.region [iI 2 (.mv (.c (.str [63])))] false)
 .ret)
 .skip))
 (.seq
 (.region [iI 10 (.pcall 43 []),iI 11 (.faddr 0 (.t 1)),iI 12 (.load false 1 (.t 11)),iI 13 (.idxA false 25 1 (.t 10) (.t 12)),iI 3 (.mv (.t 13))] true)
 (.seq
 (.seq
 (.region [iI 14 (.faddr 0 (.t 1)),iI 15 (.load false 1 (.t 14)),iI 16 (.bin .eql (.t 15) (.c (.int .i64 2)))] false)
 (.cond (.t 16)
 (.seq
 (.region [iI 17 (.mv (.t 3)),iI 18 (.bin .add (.t 17) (.c (.str [32]))),iI 19 (.faddr 2 (.t 1)),iI 20 (.load false 1 (.t 19)),iI 21 (.build [.int .i64 0, .int .i64 0, .str []] [(0, 1, (.c (.int .i64 2))), (2, 1, (.t 20))]),iI 22 (.call 44 [(.t 21)]),iI 23 (.bin .add (.t 18) (.t 22)),iI 2 (.mv (.t 23))] false)
 .ret)
 .skip))
 (.seq
 (.seq
 (.region [iI 25 (.faddr 0 (.t 1)),iI 26 (.load false 1 (.t 25)),iI 27 (.call 45 [(.t 26)]),iI 24 (.mv (.t 27)),iI 28 (.extract 0 (.t 24)),iI 29 (.extract 1 (.t 24)),iI 30 (.extract 2 (.t 24)),iI 4 (.mv (.t 28)),iI 5 (.mv (.t 29)),iI 6 (.mv (.t 30))] false)
 (.seq
 (.region [iI 31 (.mv (.t 6))] false)
 (.cond (.t 31)
 (.seq
 (.region [iI 32 (.mv (.t 3)),iI 33 (.bin .add (.t 32) (.c (.str [32]))),iI 34 (.faddr 1 (.t 1)),iI 35 (.load false 1 (.t 34)),iI 36 (.call 46 [(.t 35)]),iI 37 (.bin .add (.t 33) (.t 36)),iI 2 (.mv (.t 37))] false)
 .ret)
 .skip)))
 (.seq
 (.region [iI 38 (.mv (.t 3)),iI 2 (.mv (.t 38))] false)
 .ret))))))
def r16 : List ERes := [.t 2]
theorem c16 : chkF Tryz.prog Tryz.f16 1 e16 r16 = true := by kernel_rfl
def e17 : EC :=
 (.seq
 (.region [iI 2 (.alloc 43 [.int .i64 0, .int .i64 0, .str []]),iI 3 (.mv (.c (.int .i64 0)))] false)
 (.seq
 (.region [iI 12 (.mv (.t 0)),iI 13 (.call 47 [(.t 12), (.c (.str [32]))]),iI 11 (.mv (.t 13)),iI 14 (.extract 0 (.t 11)),iI 15 (.extract 1 (.t 11)),iI 16 (.extract 2 (.t 11)),iI 4 (.mv (.t 14)),iI 5 (.mv (.t 15)),iI 6 (.mv (.t 16))] false)
 (.seq
 (.region [iI 17 (.call 43 []),iI 7 (.alloc 85 [.str [], .str [], .str [], .str [], .str [], .str [], .str [], .str [], .str [], .str [], .str [], .str [], .str [], .str [], .str [], .str [], .str [], .str [], .str [], .str [], .str [], .str [], .str [], .str [], .str []]),iN (.store 25 (.t 7) (.t 17))] false)
 (.seq
 (.region [iI 18 (.slA 25 1 (.t 7)),iI 19 (.mv (.t 4)),iI 20 (.call 48 [(.t 18), (.t 19)]),iI 21 (.build [.int .i64 0, .int .i64 0, .str []] [(0, 1, (.t 20))]),iI 8 (.alloc 43 [.int .i64 0, .int .i64 0, .str []]),iN (.store 3 (.t 8) (.t 21))] false)
 (.seq
 (.seq
 (.region [iI 22 (.faddr 0 (.t 8)),iI 23 (.load false 1 (.t 22)),iI 24 (.bin .lss (.t 23) (.c (.int .i64 1)))] false)
 (.cond (.t 24)
 (.seq
 (.region [iI 25 (.build [.int .i64 0, .int .i64 0, .str []] []),iN (.store 3 (.t 2) (.t 25)),iI 3 (.mv (.c (.int .i64 3)))] false)
 .ret)
 .skip))
 (.seq
 (.seq
 (.region [iI 26 (.mv (.t 6)),iI 27 (.mv (.t 26)),iG 28 27 true (.faddr 0 (.t 8)),iG 29 27 true (.load false 1 (.t 28)),iG 30 27 true (.bin .eql (.t 29) (.c (.int .i64 2))),iI 31 (.pick (.t 27) (.t 30) (.c (.bool false)))] false)
 (.cond (.t 31)
 (.seq
 (.region [iI 33 (.mv (.t 5)),iI 34 (.call 49 [(.t 33)]),iI 32 (.mv (.t 34)),iI 35 (.extract 0 (.t 32)),iI 36 (.extract 1 (.t 32)),iI 9 (.alloc 66 [.int .i64 0, .int .i64 0, .str []]),iN (.store 3 (.t 9) (.t 35)),iI 10 (.mv (.t 36))] false)
 (.region [iI 37 (.faddr 2 (.t 9)),iI 38 (.load false 1 (.t 37)),iI 39 (.faddr 2 (.t 8)),iN (.store 1 (.t 39) (.t 38))] false))
 (.seq
 (.region [iI 40 (.mv (.t 6))] false)
 (.cond (.t 40)
 (.region [iI 42 (.mv (.t 5)),iI 43 (.call 50 [(.t 42)]),iI 41 (.mv (.t 43)),iI 44 (.extract 0 (.t 41)),iI 45 (.extract 1 (.t 41)),iI 46 (.faddr 1 (.t 8)),iN (.store 1 (.t 46) (.t 44))] false)
 .skip))))
 (.seq
 (.seq
 (.region [iI 47 (.load true 3 (.t 8)),iI 48 (.call 16 [(.t 47)]),iI 49 (.mv (.t 0)),iI 50 (.bin .neq (.t 48) (.t 49))] false)
 (.cond (.t 50)
 (.seq
 (.region [iI 51 (.build [.int .i64 0, .int .i64 0, .str []] []),iN (.store 3 (.t 2) (.t 51)),iI 3 (.mv (.c (.int .i64 3)))] false)
 .ret)
 .skip))
 (.seq
 (.region [iI 52 (.load true 3 (.t 8)),iN (.store 3 (.t 2) (.t 52)),iI 3 (.mv (.c (.int .i64 0)))] false)
 .ret))))))))
def r17 : List ERes := [.cell true 3 2, .t 3]
theorem c17 : chkF Tryz.prog Tryz.f17 1 e17 r17 = true := by kernel_rfl
def e27 : EC :=
 (.seq
 (.region [iI 1 (.box 36 (.t 0)),iI 2 (.mv (.c (.nilS)))] false)
 (.seq
 (.seq
 (.region [iI 13 (.load true 6 (.t 1)),iI 14 (.call 11 [(.t 13)]),iI 15 (.not (.t 14))] false)
 (.cond (.t 15)
 (.seq
 (.region [iI 2 (.mv (.c (.nilS)))] false)
 .ret)
 .skip))
 (.seq
 (.region [iI 16 (.faddr 0 (.t 1)),iI 17 (.load false 1 (.t 16)),iI 18 (.bin .add (.c (.str [115, 101, 114, 118, 105, 99, 101, 32])) (.t 17)),iI 19 (.bin .add (.t 18) (.c (.str [32, 114, 111, 108, 101]))),iI 20 (.faddr 1 (.t 1)),iI 21 (.load false 1 (.t 20)),iI 22 (.bslice 3 1 1 [.int .i64 0] [(0, (.t 21))]),iI 23 (.call 74 [(.t 19), (.t 22)]),iI 24 (.bsliceO 9 1 1 [.str []] [(0, (.t 23))]),iI 3 (.mv (.t 24))] false)
 (.seq
 (.seq
 (.region [iI 25 (.faddr 2 (.t 1)),iI 26 (.load false 1 (.t 25)),iI 27 (.len (.t 26)),iI 28 (.mv (.c (.int .i64 0)))] false)
 (.block 0
 (.loop
 (.seq
 (.region [iI 29 (.bin .lss (.t 28) (.t 27))] false)
 (.seq
 (.cond (.t 29)
 .skip
 (.exit 0))
 (.seq
 (.block 1
 (.seq
 (.region [iI 30 (.iaddr 7 (.t 26) (.t 28)),iI 31 (.load true 7 (.t 30)),iI 5 (.alloc 73 [.str [], .int .i64 0, .int .i64 0, .int .i64 0, .int .i64 0, .int .i64 0, .str []]),iN (.store 7 (.t 5) (.t 31))] false)
 (.seq
 (.region [iI 6 (.mv (.c (.str [105, 110, 116])))] false)
 (.seq
 (.seq
 (.region [iI 32 (.faddr 1 (.t 5)),iI 33 (.faddr 0 (.t 32)),iI 34 (.load false 1 (.t 33)),iI 35 (.bin .eql (.t 34) (.c (.int .i64 2)))] false)
 (.cond (.t 35)
 (.region [iI 6 (.mv (.c (.str [116, 101, 120, 116])))] false)
 .skip))
 (.region [iI 36 (.mv (.t 3)),iI 37 (.faddr 0 (.t 5)),iI 38 (.load false 1 (.t 37)),iI 39 (.bin .add (.c (.str [118, 97, 114, 32])) (.t 38)),iI 40 (.bin .add (.t 39) (.c (.str [32]))),iI 41 (.mv (.t 6)),iI 42 (.bin .add (.t 40) (.t 41)),iI 43 (.faddr 1 (.t 5)),iI 44 (.faddr 1 (.t 43)),iI 45 (.load false 1 (.t 44)),iI 46 (.faddr 1 (.t 5)),iI 47 (.faddr 2 (.t 46)),iI 48 (.load false 1 (.t 47)),iI 49 (.bslice 3 1 2 [.int .i64 0] [(0, (.t 45)), (1, (.t 48))]),iI 50 (.pcall 74 [(.t 42), (.t 49)]),iI 51 (.bin .add (.t 50) (.c (.str [32]))),iI 52 (.faddr 4 (.t 5)),iI 53 (.load true 3 (.t 52)),iI 54 (.pcall 44 [(.t 53)]),iI 55 (.bin .add (.t 51) (.t 54)),iI 56 (.bslice 9 1 1 [.str []] [(0, (.t 55))]),iI 57 (.append 9 1 16 (.t 36) (.t 56)),iI 3 (.mv (.t 57))] true)))))
 (.region [iI 58 (.bin .add (.t 28) (.c (.int .i64 1))),iI 28 (.mv (.t 58))] false)))))))
 (.seq
 (.seq
 (.region [iI 59 (.faddr 3 (.t 1)),iI 60 (.load false 1 (.t 59)),iI 61 (.len (.t 60)),iI 62 (.mv (.c (.int .i64 0)))] false)
 (.block 2
 (.loop
 (.seq
 (.region [iI 63 (.bin .lss (.t 62) (.t 61))] false)
 (.seq
 (.cond (.t 63)
 .skip
 (.exit 2))
 (.seq
 (.block 3
 (.seq
 (.region [iI 64 (.iaddr 3 (.t 60) (.t 62)),iI 65 (.load true 3 (.t 64)),iI 8 (.alloc 75 [.int .i64 0, .int .i64 0, .int .i64 0]),iN (.store 3 (.t 8) (.t 65))] false)
 (.region [iI 66 (.mv (.t 3)),iI 67 (.faddr 0 (.t 8)),iI 68 (.load false 1 (.t 67)),iI 69 (.faddr 1 (.t 8)),iI 70 (.load false 1 (.t 69)),iI 71 (.faddr 2 (.t 8)),iI 72 (.load false 1 (.t 71)),iI 73 (.bslice 3 1 3 [.int .i64 0] [(0, (.t 68)), (1, (.t 70)), (2, (.t 72))]),iI 74 (.call 74 [(.c (.str [111, 110])), (.t 73)]),iI 75 (.bslice 9 1 1 [.str []] [(0, (.t 74))]),iI 76 (.append 9 1 16 (.t 66) (.t 75)),iI 3 (.mv (.t 76))] false)))
 (.region [iI 77 (.bin .add (.t 62) (.c (.int .i64 1))),iI 62 (.mv (.t 77))] false)))))))
 (.seq
 (.seq
 (.region [iI 78 (.faddr 4 (.t 1)),iI 79 (.load false 1 (.t 78)),iI 80 (.len (.t 79)),iI 81 (.mv (.c (.int .i64 0)))] false)
 (.block 4
 (.loop
 (.seq
 (.region [iI 82 (.bin .lss (.t 81) (.t 80))] false)
 (.seq
 (.cond (.t 82)
 .skip
 (.exit 4))
 (.seq
 (.block 5
 (.seq
 (.region [iI 83 (.iaddr 4 (.t 79) (.t 81)),iI 84 (.load true 4 (.t 83)),iI 10 (.alloc 78 [.int .i64 0, .int .i64 0, .int .i64 0, .int .i64 0]),iN (.store 4 (.t 10) (.t 84))] false)
 (.region [iI 85 (.mv (.t 3)),iI 86 (.faddr 0 (.t 10)),iI 87 (.load false 1 (.t 86)),iI 88 (.faddr 1 (.t 10)),iI 89 (.load false 1 (.t 88)),iI 90 (.faddr 2 (.t 10)),iI 91 (.load false 1 (.t 90)),iI 92 (.faddr 3 (.t 10)),iI 93 (.load false 1 (.t 92)),iI 94 (.bslice 3 1 4 [.int .i64 0] [(0, (.t 87)), (1, (.t 89)), (2, (.t 91)), (3, (.t 93))]),iI 95 (.call 74 [(.c (.str [111, 102, 102, 101, 114])), (.t 94)]),iI 96 (.bslice 9 1 1 [.str []] [(0, (.t 95))]),iI 97 (.append 9 1 16 (.t 85) (.t 96)),iI 3 (.mv (.t 97))] false)))
 (.region [iI 98 (.bin .add (.t 81) (.c (.int .i64 1))),iI 81 (.mv (.t 98))] false)))))))
 (.seq
 (.seq
 (.region [iI 99 (.faddr 5 (.t 1)),iI 100 (.load false 1 (.t 99)),iI 101 (.len (.t 100)),iI 102 (.mv (.c (.int .i64 0)))] false)
 (.block 6
 (.loop
 (.seq
 (.region [iI 103 (.bin .lss (.t 102) (.t 101))] false)
 (.seq
 (.cond (.t 103)
 .skip
 (.exit 6))
 (.seq
 (.block 7
 (.seq
 (.region [iI 104 (.mv (.t 102)),iI 105 (.iaddr 3 (.t 100) (.t 102)),iI 106 (.load true 3 (.t 105)),iI 12 (.alloc 43 [.int .i64 0, .int .i64 0, .str []]),iI 11 (.mv (.t 104)),iN (.store 3 (.t 12) (.t 106))] false)
 (.region [iI 107 (.mv (.t 3)),iI 108 (.mv (.t 11)),iI 109 (.pcall 46 [(.t 108)]),iI 110 (.bin .add (.t 109) (.c (.str [58, 32]))),iI 111 (.load true 3 (.t 12)),iI 112 (.pcall 16 [(.t 111)]),iI 113 (.bin .add (.t 110) (.t 112)),iI 114 (.bslice 9 1 1 [.str []] [(0, (.t 113))]),iI 115 (.append 9 1 16 (.t 107) (.t 114)),iI 3 (.mv (.t 115))] true)))
 (.region [iI 116 (.bin .add (.t 102) (.c (.int .i64 1))),iI 102 (.mv (.t 116))] false)))))))
 (.seq
 (.region [iI 117 (.mv (.t 3)),iI 2 (.mv (.t 117))] false)
 .ret))))))))
def r27 : List ERes := [.t 2]
theorem c27 : chkF Tryz.prog Tryz.f27 1 e27 r27 = true := by kernel_rfl
def e29 : EC :=
 (.seq
 (.region [iI 2 (.mv (.c (.bool false)))] false)
 (.seq
 (.seq
 (.region [iI 4 (.mv (.t 0)),iI 5 (.bin .eql (.t 4) (.c (.str []))),iI 6 (.mv (.t 5)),iG 7 6 false (.mv (.t 0)),iG 8 6 false (.lenS (.t 7)),iG 9 6 false (.bin .gtr (.t 8) (.c (.int .i64 16))),iI 10 (.pick (.t 6) (.c (.bool true)) (.t 9)),iI 11 (.mv (.t 10)),iG 12 11 false (.mv (.t 0)),iG 13 11 false (.idxS (.t 12) (.c (.int .i64 0))),iG 14 11 false (.call 75 [(.t 13)]),iG 15 11 false (.not (.t 14)),iI 16 (.pick (.t 11) (.c (.bool true)) (.t 15))] false)
 (.cond (.t 16)
 (.seq
 (.region [iI 2 (.mv (.c (.bool false)))] false)
 .ret)
 .skip))
 (.seq
 (.seq
 (.region [iI 17 (.mv (.t 0)),iI 18 (.lenS (.t 17)),iI 19 (.mv (.c (.int .i64 0)))] false)
 (.block 0
 (.loop
 (.seq
 (.region [iI 20 (.bin .lss (.t 19) (.t 18))] false)
 (.seq
 (.cond (.t 20)
 .skip
 (.exit 0))
 (.seq
 (.block 1
 (.seq
 (.region [iI 21 (.mv (.t 19)),iI 3 (.mv (.t 21))] false)
 (.seq
 (.region [iI 22 (.mv (.t 0)),iI 23 (.mv (.t 3)),iI 24 (.idxS (.t 22) (.t 23)),iI 25 (.call 76 [(.t 24)]),iI 26 (.not (.t 25))] false)
 (.cond (.t 26)
 (.seq
 (.region [iI 2 (.mv (.c (.bool false)))] false)
 .ret)
 .skip))))
 (.region [iI 27 (.bin .add (.t 19) (.c (.int .i64 1))),iI 19 (.mv (.t 27))] false)))))))
 (.seq
 (.region [iI 2 (.mv (.c (.bool true)))] false)
 .ret))))
def r29 : List ERes := [.t 2]
theorem c29 : chkF Tryz.prog Tryz.f29 1 e29 r29 = true := by kernel_rfl
def e30 : EC :=
 (.seq
 (.region [iI 6 (.mv (.c (.bool false)))] false)
 (.seq
 (.region [iI 7 (.mv (.t 0)),iI 8 (.mv (.t 1)),iI 9 (.bin .geq (.t 7) (.t 8)),iI 10 (.mv (.t 9)),iG 11 10 true (.mv (.t 0)),iG 12 10 true (.mv (.t 2)),iG 13 10 true (.bin .leq (.t 11) (.t 12)),iI 14 (.pick (.t 10) (.t 13) (.c (.bool false))),iI 6 (.mv (.t 14))] false)
 .ret))
def r30 : List ERes := [.t 6]
theorem c30 : chkF Tryz.prog Tryz.f30 3 e30 r30 = true := by kernel_rfl
def e31 : EC :=
 (.seq
 (.region [iI 1 (.box 36 (.t 0)),iI 2 (.mv (.c (.bool false)))] false)
 (.seq
 (.seq
 (.region [iI 6 (.faddr 2 (.t 1)),iI 7 (.load false 1 (.t 6)),iI 8 (.len (.t 7)),iI 9 (.mv (.c (.int .i64 0)))] false)
 (.block 0
 (.loop
 (.seq
 (.region [iI 10 (.bin .lss (.t 9) (.t 8))] false)
 (.seq
 (.cond (.t 10)
 .skip
 (.exit 0))
 (.seq
 (.block 1
 (.seq
 (.region [iI 11 (.mv (.t 9)),iI 12 (.iaddr 7 (.t 7) (.t 9)),iI 13 (.load true 7 (.t 12)),iI 4 (.alloc 73 [.str [], .int .i64 0, .int .i64 0, .int .i64 0, .int .i64 0, .int .i64 0, .str []]),iI 3 (.mv (.t 11)),iN (.store 7 (.t 4) (.t 13))] false)
 (.seq
 (.region [iI 14 (.mkfn 77 [(.t 4)]),iI 5 (.mv (.t 14))] false)
 (.seq
 (.region [iI 15 (.faddr 0 (.t 4)),iI 16 (.load false 1 (.t 15)),iI 17 (.call 29 [(.t 16)]),iI 18 (.not (.t 17)),iI 19 (.mv (.t 18)),iG 20 19 false (.faddr 2 (.t 1)),iG 21 19 false (.load false 1 (.t 20)),iG 22 19 false (.mv (.t 5)),iG 23 19 false (.call 78 [(.t 21), (.t 22)]),iG 24 19 false (.mv (.t 3)),iG 25 19 false (.bin .neq (.t 23) (.t 24)),iI 26 (.pick (.t 19) (.c (.bool true)) (.t 25)),iI 27 (.mv (.t 26)),iG 28 27 false (.faddr 1 (.t 4)),iG 29 27 false (.load true 3 (.t 28)),iG 30 27 false (.faddr 4 (.t 4)),iG 31 27 false (.load true 3 (.t 30)),iG 32 27 false (.call 79 [(.t 29), (.t 31)]),iG 33 27 false (.not (.t 32)),iI 34 (.pick (.t 27) (.c (.bool true)) (.t 33))] false)
 (.cond (.t 34)
 (.seq
 (.region [iI 2 (.mv (.c (.bool false)))] false)
 .ret)
 .skip)))))
 (.region [iI 35 (.bin .add (.t 9) (.c (.int .i64 1))),iI 9 (.mv (.t 35))] false)))))))
 (.seq
 (.region [iI 36 (.faddr 2 (.t 1)),iI 37 (.load false 1 (.t 36)),iI 38 (.len (.t 37)),iI 39 (.bin .leq (.t 38) (.c (.int .i64 12))),iI 2 (.mv (.t 39))] false)
 .ret)))
def r31 : List ERes := [.t 2]
theorem c31 : chkF Tryz.prog Tryz.f31 1 e31 r31 = true := by kernel_rfl
def e32 : EC :=
 (.seq
 (.region [iI 1 (.box 36 (.t 0)),iI 2 (.mv (.c (.bool false)))] false)
 (.seq
 (.seq
 (.region [iI 8 (.faddr 3 (.t 1)),iI 9 (.load false 1 (.t 8)),iI 10 (.len (.t 9)),iI 11 (.mv (.c (.int .i64 0)))] false)
 (.block 0
 (.loop
 (.seq
 (.region [iI 12 (.bin .lss (.t 11) (.t 10))] false)
 (.seq
 (.cond (.t 12)
 .skip
 (.exit 0))
 (.seq
 (.block 1
 (.seq
 (.region [iI 13 (.mv (.t 11)),iI 14 (.iaddr 3 (.t 9) (.t 11)),iI 15 (.load true 3 (.t 14)),iI 4 (.alloc 75 [.int .i64 0, .int .i64 0, .int .i64 0]),iI 3 (.mv (.t 13)),iN (.store 3 (.t 4) (.t 15))] false)
 (.seq
 (.region [iI 16 (.mkfn 80 [(.t 4)]),iI 5 (.mv (.t 16))] false)
 (.seq
 (.region [iI 17 (.load true 6 (.t 1)),iI 18 (.faddr 0 (.t 4)),iI 19 (.load false 1 (.t 18)),iI 20 (.faddr 1 (.t 4)),iI 21 (.load false 1 (.t 20)),iI 22 (.call 81 [(.t 17), (.t 19), (.t 21)]),iI 23 (.not (.t 22)),iI 24 (.mv (.t 23)),iG 25 24 false (.load true 6 (.t 1)),iG 26 24 false (.faddr 2 (.t 4)),iG 27 24 false (.load false 1 (.t 26)),iG 28 24 false (.call 34 [(.t 25), (.t 27)]),iG 29 24 false (.not (.t 28)),iI 30 (.pick (.t 24) (.c (.bool true)) (.t 29)),iI 31 (.mv (.t 30)),iG 32 31 false (.faddr 3 (.t 1)),iG 33 31 false (.load false 1 (.t 32)),iG 34 31 false (.mv (.t 5)),iG 35 31 false (.call 82 [(.t 33), (.t 34)]),iG 36 31 false (.mv (.t 3)),iG 37 31 false (.bin .neq (.t 35) (.t 36)),iI 38 (.pick (.t 31) (.c (.bool true)) (.t 37))] false)
 (.cond (.t 38)
 (.seq
 (.region [iI 2 (.mv (.c (.bool false)))] false)
 .ret)
 .skip)))))
 (.region [iI 39 (.bin .add (.t 11) (.c (.int .i64 1))),iI 11 (.mv (.t 39))] false)))))))
 (.seq
 (.seq
 (.region [iI 40 (.faddr 4 (.t 1)),iI 41 (.load false 1 (.t 40)),iI 42 (.len (.t 41)),iI 43 (.mv (.c (.int .i64 0)))] false)
 (.block 2
 (.loop
 (.seq
 (.region [iI 44 (.bin .lss (.t 43) (.t 42))] false)
 (.seq
 (.cond (.t 44)
 .skip
 (.exit 2))
 (.seq
 (.block 3
 (.seq
 (.region [iI 45 (.iaddr 4 (.t 41) (.t 43)),iI 46 (.load true 4 (.t 45)),iI 7 (.alloc 78 [.int .i64 0, .int .i64 0, .int .i64 0, .int .i64 0]),iN (.store 4 (.t 7) (.t 46))] false)
 (.seq
 (.region [iI 47 (.load true 6 (.t 1)),iI 48 (.faddr 0 (.t 7)),iI 49 (.load false 1 (.t 48)),iI 50 (.faddr 1 (.t 7)),iI 51 (.load false 1 (.t 50)),iI 52 (.call 81 [(.t 47), (.t 49), (.t 51)]),iI 53 (.not (.t 52)),iI 54 (.mv (.t 53)),iG 55 54 false (.load true 6 (.t 1)),iG 56 54 false (.faddr 3 (.t 7)),iG 57 54 false (.load false 1 (.t 56)),iG 58 54 false (.call 34 [(.t 55), (.t 57)]),iG 59 54 false (.not (.t 58)),iI 60 (.pick (.t 54) (.c (.bool true)) (.t 59)),iI 61 (.mv (.t 60)),iG 62 61 false (.faddr 2 (.t 7)),iG 63 61 false (.load false 1 (.t 62)),iG 64 61 false (.bin .neq (.t 63) (.c (.int .i64 (-1)))),iG 65 61 false (.mv (.t 64)),iG 66 65 true (.load true 6 (.t 1)),iG 67 65 true (.faddr 2 (.t 7)),iG 68 65 true (.load false 1 (.t 67)),iG 69 65 true (.call 34 [(.t 66), (.t 68)]),iG 70 65 true (.not (.t 69)),iG 71 61 false (.pick (.t 65) (.t 70) (.c (.bool false))),iI 72 (.pick (.t 61) (.c (.bool true)) (.t 71))] false)
 (.cond (.t 72)
 (.seq
 (.region [iI 2 (.mv (.c (.bool false)))] false)
 .ret)
 .skip))))
 (.region [iI 73 (.bin .add (.t 43) (.c (.int .i64 1))),iI 43 (.mv (.t 73))] false)))))))
 (.seq
 (.region [iI 74 (.faddr 3 (.t 1)),iI 75 (.load false 1 (.t 74)),iI 76 (.len (.t 75)),iI 77 (.bin .leq (.t 76) (.c (.int .i64 40))),iI 78 (.mv (.t 77)),iG 79 78 true (.faddr 4 (.t 1)),iG 80 78 true (.load false 1 (.t 79)),iG 81 78 true (.len (.t 80)),iG 82 78 true (.bin .leq (.t 81) (.c (.int .i64 40))),iI 83 (.pick (.t 78) (.t 82) (.c (.bool false))),iI 2 (.mv (.t 83))] false)
 .ret))))
def r32 : List ERes := [.t 2]
theorem c32 : chkF Tryz.prog Tryz.f32 1 e32 r32 = true := by kernel_rfl
def e33 : EC :=
 (.seq
 (.region [iI 1 (.box 43 (.t 0)),iI 2 (.mv (.c (.bool false)))] false)
 (.seq
 (.seq
 (.region [iI 6 (.faddr 0 (.t 1)),iI 7 (.load false 1 (.t 6)),iI 8 (.bin .eql (.t 7) (.c (.int .i64 2)))] false)
 (.cond (.t 8)
 (.seq
 (.region [iI 9 (.faddr 1 (.t 1)),iI 10 (.load false 1 (.t 9)),iI 11 (.bin .eql (.t 10) (.c (.int .i64 0))),iI 12 (.mv (.t 11)),iG 13 12 true (.faddr 2 (.t 1)),iG 14 12 true (.load false 1 (.t 13)),iG 15 12 true (.build [.int .i64 0, .int .i64 0, .str []] [(0, 1, (.c (.int .i64 2))), (2, 1, (.t 14))]),iG 16 12 true (.call 83 [(.t 15)]),iI 17 (.pick (.t 12) (.t 16) (.c (.bool false))),iI 2 (.mv (.t 17))] false)
 .ret)
 .skip))
 (.seq
 (.seq
 (.region [iI 19 (.faddr 0 (.t 1)),iI 20 (.load false 1 (.t 19)),iI 21 (.call 45 [(.t 20)]),iI 18 (.mv (.t 21)),iI 22 (.extract 0 (.t 18)),iI 23 (.extract 1 (.t 18)),iI 24 (.extract 2 (.t 18)),iI 3 (.mv (.t 22)),iI 4 (.mv (.t 23)),iI 5 (.mv (.t 24))] false)
 (.seq
 (.region [iI 25 (.mv (.t 5))] false)
 (.cond (.t 25)
 (.seq
 (.region [iI 26 (.faddr 1 (.t 1)),iI 27 (.load false 1 (.t 26)),iI 28 (.mv (.t 3)),iI 29 (.mv (.t 4)),iI 30 (.call 30 [(.t 27), (.t 28), (.t 29)]),iI 31 (.mv (.t 30)),iG 32 31 true (.faddr 2 (.t 1)),iG 33 31 true (.load false 1 (.t 32)),iG 34 31 true (.bin .eql (.t 33) (.c (.str []))),iI 35 (.pick (.t 31) (.t 34) (.c (.bool false))),iI 2 (.mv (.t 35))] false)
 .ret)
 .skip)))
 (.seq
 (.region [iI 36 (.faddr 0 (.t 1)),iI 37 (.load false 1 (.t 36)),iI 38 (.call 30 [(.t 37), (.c (.int .i64 1)), (.c (.int .i64 24))]),iI 39 (.mv (.t 38)),iG 40 39 true (.faddr 1 (.t 1)),iG 41 39 true (.load false 1 (.t 40)),iG 42 39 true (.bin .eql (.t 41) (.c (.int .i64 0))),iI 43 (.pick (.t 39) (.t 42) (.c (.bool false))),iI 44 (.mv (.t 43)),iG 45 44 true (.faddr 2 (.t 1)),iG 46 44 true (.load false 1 (.t 45)),iG 47 44 true (.bin .eql (.t 46) (.c (.str []))),iI 48 (.pick (.t 44) (.t 47) (.c (.bool false))),iI 2 (.mv (.t 48))] false)
 .ret))))
def r33 : List ERes := [.t 2]
theorem c33 : chkF Tryz.prog Tryz.f33 1 e33 r33 = true := by kernel_rfl
def e34 : EC :=
 (.seq
 (.region [iI 2 (.box 36 (.t 0)),iI 4 (.mv (.c (.bool false)))] false)
 (.seq
 (.region [iI 5 (.mv (.t 1)),iI 6 (.faddr 5 (.t 2)),iI 7 (.load false 1 (.t 6)),iI 8 (.len (.t 7)),iI 9 (.bin .sub (.t 8) (.c (.int .i64 1))),iI 10 (.call 30 [(.t 5), (.c (.int .i64 0)), (.t 9)]),iI 4 (.mv (.t 10))] false)
 .ret))
def r34 : List ERes := [.t 4]
theorem c34 : chkF Tryz.prog Tryz.f34 2 e34 r34 = true := by kernel_rfl
def e39 : EC :=
 (.seq
 (.region [iI 4 (.mv (.c (.bool false)))] false)
 (.seq
 (.seq
 (.region [iI 6 (.mv (.t 0)),iI 7 (.len (.t 6)),iI 8 (.mv (.t 1)),iI 9 (.len (.t 8)),iI 10 (.bin .neq (.t 7) (.t 9))] false)
 (.cond (.t 10)
 (.seq
 (.region [iI 4 (.mv (.c (.bool false)))] false)
 .ret)
 .skip))
 (.seq
 (.seq
 (.region [iI 11 (.mv (.t 0)),iI 12 (.len (.t 11)),iI 13 (.mv (.c (.int .i64 0)))] false)
 (.block 0
 (.loop
 (.seq
 (.region [iI 14 (.bin .lss (.t 13) (.t 12))] false)
 (.seq
 (.cond (.t 14)
 .skip
 (.exit 0))
 (.seq
 (.block 1
 (.seq
 (.region [iI 15 (.mv (.t 13)),iI 5 (.mv (.t 15))] false)
 (.seq
 (.region [iI 16 (.mv (.t 0)),iI 17 (.mv (.t 5)),iI 18 (.iaddr 7 (.t 16) (.t 17)),iI 19 (.load true 7 (.t 18)),iI 20 (.mv (.t 1)),iI 21 (.mv (.t 5)),iI 22 (.iaddr 7 (.t 20) (.t 21)),iI 23 (.load true 7 (.t 22)),iI 24 (.eqA true 73 [.s, .i .i64, .i .i64, .i .i64, .i .i64, .i .i64, .s] (.t 19) (.t 23))] true)
 (.cond (.t 24)
 (.seq
 (.region [iI 4 (.mv (.c (.bool false)))] false)
 .ret)
 .skip))))
 (.region [iI 25 (.bin .add (.t 13) (.c (.int .i64 1))),iI 13 (.mv (.t 25))] false)))))))
 (.seq
 (.region [iI 4 (.mv (.c (.bool true)))] false)
 .ret))))
def r39 : List ERes := [.t 4]
theorem c39 : chkF Tryz.prog Tryz.f39 2 e39 r39 = true := by kernel_rfl
def e40 : EC :=
 (.seq
 (.region [iI 4 (.mv (.c (.bool false)))] false)
 (.seq
 (.seq
 (.region [iI 6 (.mv (.t 0)),iI 7 (.len (.t 6)),iI 8 (.mv (.t 1)),iI 9 (.len (.t 8)),iI 10 (.bin .neq (.t 7) (.t 9))] false)
 (.cond (.t 10)
 (.seq
 (.region [iI 4 (.mv (.c (.bool false)))] false)
 .ret)
 .skip))
 (.seq
 (.seq
 (.region [iI 11 (.mv (.t 0)),iI 12 (.len (.t 11)),iI 13 (.mv (.c (.int .i64 0)))] false)
 (.block 0
 (.loop
 (.seq
 (.region [iI 14 (.bin .lss (.t 13) (.t 12))] false)
 (.seq
 (.cond (.t 14)
 .skip
 (.exit 0))
 (.seq
 (.block 1
 (.seq
 (.region [iI 15 (.mv (.t 13)),iI 5 (.mv (.t 15))] false)
 (.seq
 (.region [iI 16 (.mv (.t 0)),iI 17 (.mv (.t 5)),iI 18 (.iaddr 3 (.t 16) (.t 17)),iI 19 (.load true 3 (.t 18)),iI 20 (.mv (.t 1)),iI 21 (.mv (.t 5)),iI 22 (.iaddr 3 (.t 20) (.t 21)),iI 23 (.load true 3 (.t 22)),iI 24 (.eqA true 75 [.i .i64, .i .i64, .i .i64] (.t 19) (.t 23))] true)
 (.cond (.t 24)
 (.seq
 (.region [iI 4 (.mv (.c (.bool false)))] false)
 .ret)
 .skip))))
 (.region [iI 25 (.bin .add (.t 13) (.c (.int .i64 1))),iI 13 (.mv (.t 25))] false)))))))
 (.seq
 (.region [iI 4 (.mv (.c (.bool true)))] false)
 .ret))))
def r40 : List ERes := [.t 4]
theorem c40 : chkF Tryz.prog Tryz.f40 2 e40 r40 = true := by kernel_rfl
def e41 : EC :=
 (.seq
 (.region [iI 4 (.mv (.c (.bool false)))] false)
 (.seq
 (.seq
 (.region [iI 6 (.mv (.t 0)),iI 7 (.len (.t 6)),iI 8 (.mv (.t 1)),iI 9 (.len (.t 8)),iI 10 (.bin .neq (.t 7) (.t 9))] false)
 (.cond (.t 10)
 (.seq
 (.region [iI 4 (.mv (.c (.bool false)))] false)
 .ret)
 .skip))
 (.seq
 (.seq
 (.region [iI 11 (.mv (.t 0)),iI 12 (.len (.t 11)),iI 13 (.mv (.c (.int .i64 0)))] false)
 (.block 0
 (.loop
 (.seq
 (.region [iI 14 (.bin .lss (.t 13) (.t 12))] false)
 (.seq
 (.cond (.t 14)
 .skip
 (.exit 0))
 (.seq
 (.block 1
 (.seq
 (.region [iI 15 (.mv (.t 13)),iI 5 (.mv (.t 15))] false)
 (.seq
 (.region [iI 16 (.mv (.t 0)),iI 17 (.mv (.t 5)),iI 18 (.iaddr 4 (.t 16) (.t 17)),iI 19 (.load true 4 (.t 18)),iI 20 (.mv (.t 1)),iI 21 (.mv (.t 5)),iI 22 (.iaddr 4 (.t 20) (.t 21)),iI 23 (.load true 4 (.t 22)),iI 24 (.eqA true 78 [.i .i64, .i .i64, .i .i64, .i .i64] (.t 19) (.t 23))] true)
 (.cond (.t 24)
 (.seq
 (.region [iI 4 (.mv (.c (.bool false)))] false)
 .ret)
 .skip))))
 (.region [iI 25 (.bin .add (.t 13) (.c (.int .i64 1))),iI 13 (.mv (.t 25))] false)))))))
 (.seq
 (.region [iI 4 (.mv (.c (.bool true)))] false)
 .ret))))
def r41 : List ERes := [.t 4]
theorem c41 : chkF Tryz.prog Tryz.f41 2 e41 r41 = true := by kernel_rfl
def e42 : EC :=
 (.seq
 (.region [iI 4 (.mv (.c (.bool false)))] false)
 (.seq
 (.seq
 (.region [iI 6 (.mv (.t 0)),iI 7 (.len (.t 6)),iI 8 (.mv (.t 1)),iI 9 (.len (.t 8)),iI 10 (.bin .neq (.t 7) (.t 9))] false)
 (.cond (.t 10)
 (.seq
 (.region [iI 4 (.mv (.c (.bool false)))] false)
 .ret)
 .skip))
 (.seq
 (.seq
 (.region [iI 11 (.mv (.t 0)),iI 12 (.len (.t 11)),iI 13 (.mv (.c (.int .i64 0)))] false)
 (.block 0
 (.loop
 (.seq
 (.region [iI 14 (.bin .lss (.t 13) (.t 12))] false)
 (.seq
 (.cond (.t 14)
 .skip
 (.exit 0))
 (.seq
 (.block 1
 (.seq
 (.region [iI 15 (.mv (.t 13)),iI 5 (.mv (.t 15))] false)
 (.seq
 (.region [iI 16 (.mv (.t 0)),iI 17 (.mv (.t 5)),iI 18 (.iaddr 3 (.t 16) (.t 17)),iI 19 (.load true 3 (.t 18)),iI 20 (.mv (.t 1)),iI 21 (.mv (.t 5)),iI 22 (.iaddr 3 (.t 20) (.t 21)),iI 23 (.load true 3 (.t 22)),iI 24 (.eqA true 43 [.i .i64, .i .i64, .s] (.t 19) (.t 23))] true)
 (.cond (.t 24)
 (.seq
 (.region [iI 4 (.mv (.c (.bool false)))] false)
 .ret)
 .skip))))
 (.region [iI 25 (.bin .add (.t 13) (.c (.int .i64 1))),iI 13 (.mv (.t 25))] false)))))))
 (.seq
 (.region [iI 4 (.mv (.c (.bool true)))] false)
 .ret))))
def r42 : List ERes := [.t 4]
theorem c42 : chkF Tryz.prog Tryz.f42 2 e42 r42 = true := by kernel_rfl
def e43 : EC :=
 (.seq
 (.region [iI 0 (.alloc 85 [.str [], .str [], .str [], .str [], .str [], .str [], .str [], .str [], .str [], .str [], .str [], .str [], .str [], .str [], .str [], .str [], .str [], .str [], .str [], .str [], .str [], .str [], .str [], .str [], .str []])] false)
 (.seq
 (.region [iI 1 (.build [.str [], .str [], .str [], .str [], .str [], .str [], .str [], .str [], .str [], .str [], .str [], .str [], .str [], .str [], .str [], .str [], .str [], .str [], .str [], .str [], .str [], .str [], .str [], .str [], .str []] [(1, 1, (.c (.str [105, 110, 116]))), (2, 1, (.c (.str [116, 101, 120, 116]))), (3, 1, (.c (.str [108, 111, 97, 100]))), (4, 1, (.c (.str [112, 97, 114, 97, 109]))), (5, 1, (.c (.str [115, 116, 111, 114, 101]))), (6, 1, (.c (.str [97, 100, 100]))), (7, 1, (.c (.str [115, 117, 98]))), (8, 1, (.c (.str [109, 117, 108]))), (9, 1, (.c (.str [100, 105, 118]))), (10, 1, (.c (.str [114, 101, 109]))), (11, 1, (.c (.str [110, 101, 103]))), (12, 1, (.c (.str [101, 113, 117, 97, 108]))), (13, 1, (.c (.str [108, 101, 115, 115]))), (14, 1, (.c (.str [110, 111, 116]))), (15, 1, (.c (.str [97, 110, 100]))), (16, 1, (.c (.str [111, 114]))), (17, 1, (.c (.str [106, 111, 105, 110]))), (18, 1, (.c (.str [108, 101, 110]))), (19, 1, (.c (.str [106, 117, 109, 112]))), (20, 1, (.c (.str [122, 101, 114, 111]))), (21, 1, (.c (.str [98, 101, 103, 105, 110]))), (22, 1, (.c (.str [97, 103, 97, 105, 110]))), (23, 1, (.c (.str [100, 111, 110, 101]))), (24, 1, (.c (.str [115, 116, 111, 112])))]),iN (.store 25 (.t 0) (.t 1))] false)
 .ret))
def r43 : List ERes := [.cell true 25 0]
theorem c43 : chkF Tryz.prog Tryz.f43 0 e43 r43 = true := by kernel_rfl
def e45 : EC :=
 (.seq
 (.region [iI 2 (.mv (.c (.int .i64 0))),iI 3 (.mv (.c (.int .i64 0))),iI 4 (.mv (.c (.bool false)))] false)
 (.seq
 (.seq
 (.region [iI 5 (.mv (.t 0))] false)
 (.block 0
 (.seq
 (.region [iI 7 (.bin .eql (.t 5) (.c (.int .i64 1))),iI 6 (.mv (.t 7))] false)
 (.cond (.t 6)
 (.seq
 (.region [iI 2 (.mv (.c (.int .i64 (-1000)))),iI 3 (.mv (.c (.int .i64 1000))),iI 4 (.mv (.c (.bool true)))] false)
 .ret)
 (.seq
 (.seq
 (.region [iI 9 (.bin .eql (.t 5) (.c (.int .i64 3))),iI 8 (.mv (.t 9))] false)
 (.cond (.t 8)
 .skip
 (.region [iI 10 (.bin .eql (.t 5) (.c (.int .i64 5))),iI 8 (.mv (.t 10))] false)))
 (.cond (.t 8)
 (.seq
 (.region [iI 2 (.mv (.c (.int .i64 0))),iI 3 (.mv (.c (.int .i64 11))),iI 4 (.mv (.c (.bool true)))] false)
 .ret)
 (.seq
 (.region [iI 12 (.bin .eql (.t 5) (.c (.int .i64 4))),iI 11 (.mv (.t 12))] false)
 (.cond (.t 11)
 (.seq
 (.region [iI 2 (.mv (.c (.int .i64 0))),iI 3 (.mv (.c (.int .i64 3))),iI 4 (.mv (.c (.bool true)))] false)
 .ret)
 (.seq
 (.seq
 (.region [iI 14 (.bin .eql (.t 5) (.c (.int .i64 19))),iI 13 (.mv (.t 14))] false)
 (.cond (.t 13)
 .skip
 (.seq
 (.region [iI 15 (.bin .eql (.t 5) (.c (.int .i64 20))),iI 13 (.mv (.t 15))] false)
 (.cond (.t 13)
 .skip
 (.region [iI 16 (.bin .eql (.t 5) (.c (.int .i64 22))),iI 13 (.mv (.t 16))] false)))))
 (.cond (.t 13)
 (.seq
 (.region [iI 2 (.mv (.c (.int .i64 0))),iI 3 (.mv (.c (.int .i64 999))),iI 4 (.mv (.c (.bool true)))] false)
 .ret)
 (.seq
 (.region [iI 18 (.bin .eql (.t 5) (.c (.int .i64 21))),iI 17 (.mv (.t 18))] false)
 (.cond (.t 17)
 (.seq
 (.region [iI 2 (.mv (.c (.int .i64 1))),iI 3 (.mv (.c (.int .i64 50))),iI 4 (.mv (.c (.bool true)))] false)
 .ret)
 .skip))))))))))))
 (.seq
 (.region [iI 2 (.mv (.c (.int .i64 0))),iI 3 (.mv (.c (.int .i64 0))),iI 4 (.mv (.c (.bool false)))] false)
 .ret)))
def r45 : List ERes := [.t 2, .t 3, .t 4]
theorem c45 : chkF Tryz.prog Tryz.f45 1 e45 r45 = true := by kernel_rfl
def e48 : EC :=
 (.seq
 (.region [iI 4 (.mv (.c (.int .i64 0)))] false)
 (.seq
 (.seq
 (.region [iI 6 (.mv (.t 0)),iI 7 (.len (.t 6)),iI 8 (.mv (.c (.int .i64 0)))] false)
 (.block 0
 (.loop
 (.seq
 (.region [iI 9 (.bin .lss (.t 8) (.t 7))] false)
 (.seq
 (.cond (.t 9)
 .skip
 (.exit 0))
 (.seq
 (.block 1
 (.seq
 (.region [iI 10 (.mv (.t 8)),iI 5 (.mv (.t 10))] false)
 (.seq
 (.region [iI 11 (.mv (.t 1)),iI 12 (.mv (.t 0)),iI 13 (.mv (.t 5)),iI 14 (.iaddr 1 (.t 12) (.t 13)),iI 15 (.load false 1 (.t 14)),iI 16 (.bin .eql (.t 11) (.t 15))] false)
 (.cond (.t 16)
 (.seq
 (.region [iI 17 (.mv (.t 5)),iI 4 (.mv (.t 17))] false)
 .ret)
 .skip))))
 (.region [iI 18 (.bin .add (.t 8) (.c (.int .i64 1))),iI 8 (.mv (.t 18))] false)))))))
 (.seq
 (.region [iI 4 (.mv (.c (.int .i64 (-1))))] false)
 .ret)))
def r48 : List ERes := [.t 4]
theorem c48 : chkF Tryz.prog Tryz.f48 2 e48 r48 = true := by kernel_rfl
def e57 : EC :=
 (.seq
 (.region [iI 4 (.mv (.c (.nilS)))] false)
 (.seq
 (.seq
 (.region [iI 7 (.mv (.t 1)),iI 8 (.len (.t 7)),iI 9 (.mv (.c (.int .i64 0)))] false)
 (.block 0
 (.loop
 (.seq
 (.region [iI 10 (.bin .lss (.t 9) (.t 8))] false)
 (.seq
 (.cond (.t 10)
 .skip
 (.exit 0))
 (.seq
 (.block 1
 (.seq
 (.region [iI 11 (.iaddr 1 (.t 7) (.t 9)),iI 12 (.load false 1 (.t 11)),iI 6 (.mv (.t 12))] false)
 (.region [iI 13 (.mv (.t 0)),iI 14 (.mv (.t 6)),iI 15 (.call 96 [(.t 13), (.t 14)]),iI 0 (.mv (.t 15))] false)))
 (.region [iI 16 (.bin .add (.t 9) (.c (.int .i64 1))),iI 9 (.mv (.t 16))] false)))))))
 (.seq
 (.region [iI 17 (.mv (.t 0)),iI 4 (.mv (.t 17))] false)
 .ret)))
def r57 : List ERes := [.t 4]
theorem c57 : chkF Tryz.prog Tryz.f57 2 e57 r57 = true := by kernel_rfl
def e58 : EC :=
 (.seq
 (.region [iI 4 (.mv (.c (.nilS)))] false)
 (.seq
 (.region [iI 5 (.mv (.t 0)),iI 6 (.mv (.t 1)),iI 7 (.lenS (.t 6)),iI 8 (.call 96 [(.t 5), (.t 7)]),iI 9 (.mv (.t 1)),iI 10 (.append 5 1 1 (.t 8) (.t 9)),iI 4 (.mv (.t 10))] false)
 .ret))
def r58 : List ERes := [.t 4]
theorem c58 : chkF Tryz.prog Tryz.f58 2 e58 r58 = true := by kernel_rfl
def e59 : EC :=
 (.seq
 (.region [iI 3 (.box 66 (.t 1)),iI 4 (.mv (.c (.nilS)))] false)
 (.seq
 (.region [iI 5 (.mv (.t 0)),iI 6 (.faddr 0 (.t 3)),iI 7 (.load false 1 (.t 6)),iI 8 (.call 96 [(.t 5), (.t 7)]),iI 0 (.mv (.t 8))] false)
 (.seq
 (.seq
 (.region [iI 9 (.faddr 0 (.t 3)),iI 10 (.load false 1 (.t 9))] false)
 (.block 0
 (.seq
 (.region [iI 12 (.bin .eql (.t 10) (.c (.int .i64 1))),iI 11 (.mv (.t 12))] false)
 (.cond (.t 11)
 (.seq
 (.region [iI 13 (.mv (.t 0)),iI 14 (.faddr 1 (.t 3)),iI 15 (.load false 1 (.t 14)),iI 16 (.call 96 [(.t 13), (.t 15)]),iI 4 (.mv (.t 16))] false)
 .ret)
 (.seq
 (.region [iI 18 (.bin .eql (.t 10) (.c (.int .i64 2))),iI 17 (.mv (.t 18))] false)
 (.cond (.t 17)
 (.seq
 (.region [iI 19 (.mv (.t 0)),iI 20 (.faddr 2 (.t 3)),iI 21 (.load false 1 (.t 20)),iI 22 (.call 58 [(.t 19), (.t 21)]),iI 4 (.mv (.t 22))] false)
 .ret)
 .skip))))))
 (.seq
 (.region [iI 23 (.mv (.t 0)),iI 4 (.mv (.t 23))] false)
 .ret))))
def r59 : List ERes := [.t 4]
theorem c59 : chkF Tryz.prog Tryz.f59 2 e59 r59 = true := by kernel_rfl
def e60 : EC :=
 (.seq
 (.region [iI 2 (.mv (.c (.raw (.pointer none))))] false)
 (.seq
 (.region [iI 3 (.mv (.t 0)),iI 4 (.append 5 1 1 (.c (.nilS)) (.t 3)),iI 5 (.build [.nilS, .int .i64 0, .bool false] [(0, 1, (.t 4))]),iI 6 (.box 139 (.t 5)),iI 2 (.mv (.t 6))] false)
 .ret))
def r60 : List ERes := [.t 2]
theorem c60 : chkF Tryz.prog Tryz.f60 1 e60 r60 = true := by kernel_rfl
def e61 : EC :=
 (.seq
 (.region [iI 4 (.mv (.c (.str [])))] false)
 (.seq
 (.region [iI 5 (.mv (.t 0)),iI 6 (.mv (.t 1)),iI 7 (.call 97 [(.t 5), (.t 6)]),iI 8 (.convS false (.t 7)),iI 4 (.mv (.t 8))] false)
 .ret))
def r61 : List ERes := [.t 4]
theorem c61 : chkF Tryz.prog Tryz.f61 2 e61 r61 = true := by kernel_rfl
def e62 : EC :=
 (.seq
 (.region [iI 2 (.mv (.c (.int .i64 0)))] false)
 (.seq
 (.region [iI 3 (.mv (.t 0)),iI 4 (.mv (.t 0)),iI 5 (.mkfnB 99 [(.t 4)]),iI 6 (.call 98 [(.t 3), (.t 5)]),iI 2 (.mv (.t 6))] false)
 .ret))
def r62 : List ERes := [.t 2]
theorem c62 : chkF Tryz.prog Tryz.f62 1 e62 r62 = true := by kernel_rfl
def e63 : EC :=
 (.seq
 (.region [iI 3 (.box 108 (.t 0)),iI 4 (.box 3 (.t 1)),iI 5 (.box 3 (.t 2)),iI 6 (.mv (.c (.int .i64 0)))] false)
 (.seq
 (.region [iI 7 (.load false 1 (.t 3)),iI 8 (.mkfn 100 [(.t 3), (.t 4), (.t 5)]),iI 9 (.call 98 [(.t 7), (.t 8)]),iI 6 (.mv (.t 9))] false)
 .ret))
def r63 : List ERes := [.t 6]
theorem c63 : chkF Tryz.prog Tryz.f63 3 e63 r63 = true := by kernel_rfl
def e64 : EC :=
 (.seq
 (.region [iI 2 (.alloc 66 [.int .i64 0, .int .i64 0, .str []])] false)
 (.seq
 (.region [iI 3 (.mv (.t 0)),iI 4 (.mv (.t 0)),iI 5 (.mkfnB 103 [(.t 4)]),iI 6 (.call 102 [(.t 3), (.t 5)]),iN (.store 3 (.t 2) (.t 6))] false)
 .ret))
def r64 : List ERes := [.cell true 3 2]
theorem c64 : chkF Tryz.prog Tryz.f64 1 e64 r64 = true := by kernel_rfl
def e65 : EC :=
 (.seq
 (.region [iI 2 (.mv (.c (.int .i64 0)))] false)
 (.seq
 (.block 0
 (.seq
 (.region [iI 4 (.mv (.t 0)),iI 5 (.pnil false (.t 4)),iI 3 (.mv (.t 5))] false)
 (.cond (.t 3)
 (.seq
 (.region [iI 2 (.mv (.c (.int .i64 7)))] false)
 .ret)
 (.seq
 (.region [iI 7 (.mv (.t 0)),iI 8 (.nilck (.t 7)),iI 9 (.faddr 2 (.t 8)),iI 10 (.load false 1 (.t 9)),iI 11 (.mv (.t 10)),iG 12 11 false (.mv (.t 0)),iG 13 11 false (.call 104 [(.t 12)]),iG 14 11 false (.bin .gtr (.t 13) (.c (.int .i64 0))),iI 15 (.pick (.t 11) (.c (.bool true)) (.t 14)),iI 6 (.mv (.t 15))] false)
 (.cond (.t 6)
 (.seq
 (.region [iI 2 (.mv (.c (.int .i64 4)))] false)
 .ret)
 .skip)))))
 (.seq
 (.region [iI 2 (.mv (.c (.int .i64 0)))] false)
 .ret)))
def r65 : List ERes := [.t 2]
theorem c65 : chkF Tryz.prog Tryz.f65 1 e65 r65 = true := by kernel_rfl
def e74 : EC :=
 (.seq
 (.region [iI 4 (.mv (.c (.str [])))] false)
 (.seq
 (.seq
 (.region [iI 7 (.mv (.t 1)),iI 8 (.len (.t 7)),iI 9 (.mv (.c (.int .i64 0)))] false)
 (.block 0
 (.loop
 (.seq
 (.region [iI 10 (.bin .lss (.t 9) (.t 8))] false)
 (.seq
 (.cond (.t 10)
 .skip
 (.exit 0))
 (.seq
 (.block 1
 (.seq
 (.region [iI 11 (.iaddr 1 (.t 7) (.t 9)),iI 12 (.load false 1 (.t 11)),iI 6 (.mv (.t 12))] false)
 (.region [iI 13 (.mv (.t 0)),iI 14 (.mv (.t 6)),iI 15 (.call 46 [(.t 14)]),iI 16 (.bin .add (.c (.str [32])) (.t 15)),iI 17 (.bin .add (.t 13) (.t 16)),iI 0 (.mv (.t 17))] false)))
 (.region [iI 18 (.bin .add (.t 9) (.c (.int .i64 1))),iI 9 (.mv (.t 18))] false)))))))
 (.seq
 (.region [iI 19 (.mv (.t 0)),iI 4 (.mv (.t 19))] false)
 .ret)))
def r74 : List ERes := [.t 4]
theorem c74 : chkF Tryz.prog Tryz.f74 2 e74 r74 = true := by kernel_rfl
def e75 : EC :=
 (.seq
 (.region [iI 2 (.mv (.c (.bool false)))] false)
 (.seq
 (.region [iI 3 (.mv (.t 0)),iI 4 (.bin .leq (.c (.int .u8 97)) (.t 3)),iI 5 (.mv (.t 4)),iG 6 5 true (.mv (.t 0)),iG 7 5 true (.bin .leq (.t 6) (.c (.int .u8 122))),iI 8 (.pick (.t 5) (.t 7) (.c (.bool false))),iI 9 (.mv (.t 8)),iG 10 9 false (.mv (.t 0)),iG 11 9 false (.bin .leq (.c (.int .u8 65)) (.t 10)),iG 12 9 false (.mv (.t 11)),iG 13 12 true (.mv (.t 0)),iG 14 12 true (.bin .leq (.t 13) (.c (.int .u8 90))),iG 15 9 false (.pick (.t 12) (.t 14) (.c (.bool false))),iI 16 (.pick (.t 9) (.c (.bool true)) (.t 15)),iI 2 (.mv (.t 16))] false)
 .ret))
def r75 : List ERes := [.t 2]
theorem c75 : chkF Tryz.prog Tryz.f75 1 e75 r75 = true := by kernel_rfl
def e76 : EC :=
 (.seq
 (.region [iI 2 (.mv (.c (.bool false)))] false)
 (.seq
 (.region [iI 3 (.mv (.t 0)),iI 4 (.call 75 [(.t 3)]),iI 5 (.mv (.t 4)),iG 6 5 false (.mv (.t 0)),iG 7 5 false (.call 109 [(.t 6)]),iI 8 (.pick (.t 5) (.c (.bool true)) (.t 7)),iI 9 (.mv (.t 8)),iG 10 9 false (.mv (.t 0)),iG 11 9 false (.bin .eql (.t 10) (.c (.int .u8 95))),iI 12 (.pick (.t 9) (.c (.bool true)) (.t 11)),iI 2 (.mv (.t 12))] false)
 .ret))
def r76 : List ERes := [.t 2]
theorem c76 : chkF Tryz.prog Tryz.f76 1 e76 r76 = true := by kernel_rfl
def e77 : EC :=
 (.seq
 (.region [iI 2 (.box 73 (.t 0)),iI 3 (.mv (.c (.bool false)))] false)
 (.seq
 (.region [iI 4 (.faddr 0 (.t 2)),iI 5 (.load false 1 (.t 4)),iI 6 (.faddr 0 (.t 1)),iI 7 (.load false 1 (.t 6)),iI 8 (.bin .eql (.t 5) (.t 7)),iI 3 (.mv (.t 8))] false)
 .ret))
def r77 : List ERes := [.t 3]
theorem c77 : chkF Tryz.prog Tryz.f77 1 e77 r77 = true := by kernel_rfl
def e78 : EC :=
 (.seq
 (.region [iI 4 (.mv (.c (.int .i64 0)))] false)
 (.seq
 (.seq
 (.region [iI 6 (.mv (.t 0)),iI 7 (.len (.t 6)),iI 8 (.mv (.c (.int .i64 0)))] false)
 (.block 0
 (.loop
 (.seq
 (.region [iI 9 (.bin .lss (.t 8) (.t 7))] false)
 (.seq
 (.cond (.t 9)
 .skip
 (.exit 0))
 (.seq
 (.block 1
 (.seq
 (.region [iI 10 (.mv (.t 8)),iI 5 (.mv (.t 10))] false)
 (.seq
 (.region [iI 11 (.mv (.t 1)),iI 12 (.mv (.t 0)),iI 13 (.mv (.t 5)),iI 14 (.iaddr 7 (.t 12) (.t 13)),iI 15 (.load true 7 (.t 14)),iI 16 (.callv (.t 11) [(.t 15)])] false)
 (.cond (.t 16)
 (.seq
 (.region [iI 17 (.mv (.t 5)),iI 4 (.mv (.t 17))] false)
 .ret)
 .skip))))
 (.region [iI 18 (.bin .add (.t 8) (.c (.int .i64 1))),iI 8 (.mv (.t 18))] false)))))))
 (.seq
 (.region [iI 4 (.mv (.c (.int .i64 (-1))))] false)
 .ret)))
def r78 : List ERes := [.t 4]
theorem c78 : chkF Tryz.prog Tryz.f78 2 e78 r78 = true := by kernel_rfl
def e80 : EC :=
 (.seq
 (.region [iI 2 (.box 75 (.t 0)),iI 3 (.mv (.c (.bool false)))] false)
 (.seq
 (.region [iI 4 (.faddr 0 (.t 2)),iI 5 (.load false 1 (.t 4)),iI 6 (.faddr 0 (.t 1)),iI 7 (.load false 1 (.t 6)),iI 8 (.bin .eql (.t 5) (.t 7)),iI 9 (.mv (.t 8)),iG 10 9 true (.faddr 1 (.t 2)),iG 11 9 true (.load false 1 (.t 10)),iG 12 9 true (.faddr 1 (.t 1)),iG 13 9 true (.load false 1 (.t 12)),iG 14 9 true (.bin .eql (.t 11) (.t 13)),iI 15 (.pick (.t 9) (.t 14) (.c (.bool false))),iI 3 (.mv (.t 15))] false)
 .ret))
def r80 : List ERes := [.t 3]
theorem c80 : chkF Tryz.prog Tryz.f80 1 e80 r80 = true := by kernel_rfl
def e81 : EC :=
 (.seq
 (.region [iI 3 (.box 36 (.t 0)),iI 6 (.mv (.c (.bool false)))] false)
 (.seq
 (.region [iI 7 (.mv (.t 1)),iI 8 (.call 30 [(.t 7), (.c (.int .i64 0)), (.c (.int .i64 5))]),iI 9 (.mv (.t 8)),iG 10 9 true (.mv (.t 1)),iG 11 9 true (.faddr 1 (.t 3)),iG 12 9 true (.load false 1 (.t 11)),iG 13 9 true (.bin .neq (.t 10) (.t 12)),iI 14 (.pick (.t 9) (.t 13) (.c (.bool false))),iI 15 (.mv (.t 14)),iG 16 15 true (.mv (.t 2)),iG 17 15 true (.call 30 [(.t 16), (.c (.int .i64 0)), (.c (.int .i64 39))]),iI 18 (.pick (.t 15) (.t 17) (.c (.bool false))),iI 6 (.mv (.t 18))] false)
 .ret))
def r81 : List ERes := [.t 6]
theorem c81 : chkF Tryz.prog Tryz.f81 3 e81 r81 = true := by kernel_rfl
def e82 : EC :=
 (.seq
 (.region [iI 4 (.mv (.c (.int .i64 0)))] false)
 (.seq
 (.seq
 (.region [iI 6 (.mv (.t 0)),iI 7 (.len (.t 6)),iI 8 (.mv (.c (.int .i64 0)))] false)
 (.block 0
 (.loop
 (.seq
 (.region [iI 9 (.bin .lss (.t 8) (.t 7))] false)
 (.seq
 (.cond (.t 9)
 .skip
 (.exit 0))
 (.seq
 (.block 1
 (.seq
 (.region [iI 10 (.mv (.t 8)),iI 5 (.mv (.t 10))] false)
 (.seq
 (.region [iI 11 (.mv (.t 1)),iI 12 (.mv (.t 0)),iI 13 (.mv (.t 5)),iI 14 (.iaddr 3 (.t 12) (.t 13)),iI 15 (.load true 3 (.t 14)),iI 16 (.callv (.t 11) [(.t 15)])] false)
 (.cond (.t 16)
 (.seq
 (.region [iI 17 (.mv (.t 5)),iI 4 (.mv (.t 17))] false)
 .ret)
 .skip))))
 (.region [iI 18 (.bin .add (.t 8) (.c (.int .i64 1))),iI 8 (.mv (.t 18))] false)))))))
 (.seq
 (.region [iI 4 (.mv (.c (.int .i64 (-1))))] false)
 .ret)))
def r82 : List ERes := [.t 4]
theorem c82 : chkF Tryz.prog Tryz.f82 2 e82 r82 = true := by kernel_rfl
def e9 : EC :=
 (.seq
 (.region [iI 0 (.mv (.c (.bool false)))] false)
 (.seq
 (.region [iI 7 (.call 17 [(.c (.str [116, 101, 120, 116, 32, 34, 97, 92, 34, 98, 34]))]),iI 6 (.mv (.t 7)),iI 8 (.extract 0 (.t 6)),iI 9 (.extract 1 (.t 6)),iI 1 (.alloc 43 [.int .i64 0, .int .i64 0, .str []]),iN (.store 3 (.t 1) (.t 8)),iI 2 (.mv (.t 9))] false)
 (.seq
 (.region [iI 10 (.build [.int .i64 0, .int .i64 0, .str []] [(0, 1, (.c (.int .i64 24)))]),iI 11 (.bslice 43 3 1 [.int .i64 0, .int .i64 0, .str []] [(0, (.t 10))]),iI 12 (.build [.str [], .int .i64 0, .nilS, .nilS, .nilS, .nilS] [(0, 1, (.c (.str [115]))), (5, 1, (.t 11))]),iI 3 (.alloc 36 [.str [], .int .i64 0, .nilS, .nilS, .nilS, .nilS]),iN (.store 6 (.t 3) (.t 12))] false)
 (.seq
 (.region [iI 14 (.load true 6 (.t 3)),iI 15 (.call 20 [(.t 14)]),iI 16 (.call 21 [(.t 15)]),iI 13 (.mv (.t 16)),iI 17 (.extract 0 (.t 13)),iI 18 (.extract 1 (.t 13)),iI 4 (.alloc 36 [.str [], .int .i64 0, .nilS, .nilS, .nilS, .nilS]),iN (.store 6 (.t 4) (.t 17)),iI 5 (.mv (.t 18))] false)
 (.seq
 (.region [iI 19 (.mv (.t 2)),iI 20 (.bin .eql (.t 19) (.c (.int .i64 0))),iI 21 (.mv (.t 20)),iG 22 21 true (.mv (.t 5)),iG 23 21 true (.bin .eql (.t 22) (.c (.int .i64 0))),iI 24 (.pick (.t 21) (.t 23) (.c (.bool false))),iI 25 (.mv (.t 24)),iG 26 25 true (.load true 3 (.t 1)),iG 27 25 true (.build [.int .i64 0, .int .i64 0, .str []] [(0, 1, (.c (.int .i64 2))), (2, 1, (.c (.str [97, 34, 98])))]),iG 28 25 true (.eqA false 43 [.i .i64, .i .i64, .s] (.t 26) (.t 27)),iI 29 (.pick (.t 25) (.t 28) (.c (.bool false))),iI 30 (.mv (.t 29)),iG 31 30 true (.build [.int .i64 0, .int .i64 0, .str []] [(0, 1, (.c (.int .i64 1))), (1, 1, (.c (.int .i64 (-3))))]),iG 32 30 true (.call 16 [(.t 31)]),iG 33 30 true (.bin .eql (.t 32) (.c (.str [105, 110, 116, 32, 45, 51]))),iI 34 (.pick (.t 30) (.t 33) (.c (.bool false))),iI 35 (.mv (.t 34)),iG 36 35 true (.build [.int .i64 0, .int .i64 0, .str []] [(0, 1, (.c (.int .i64 24)))]),iG 37 35 true (.call 16 [(.t 36)]),iG 38 35 true (.bin .eql (.t 37) (.c (.str [115, 116, 111, 112]))),iI 39 (.pick (.t 35) (.t 38) (.c (.bool false))),iI 40 (.mv (.t 39)),iG 41 40 true (.load true 6 (.t 3)),iG 42 40 true (.call 11 [(.t 41)]),iI 43 (.pick (.t 40) (.t 42) (.c (.bool false))),iI 44 (.mv (.t 43)),iG 45 44 true (.load true 6 (.t 3)),iG 46 44 true (.load true 6 (.t 4)),iG 47 44 true (.call 14 [(.t 45), (.t 46)]),iI 48 (.pick (.t 44) (.t 47) (.c (.bool false))),iI 49 (.mv (.t 48)),iG 50 49 true (.load true 6 (.t 3)),iG 51 49 true (.call 27 [(.t 50)]),iG 52 49 true (.len (.t 51)),iG 53 49 true (.bin .eql (.t 52) (.c (.int .i64 2))),iI 54 (.pick (.t 49) (.t 53) (.c (.bool false))),iI 0 (.mv (.t 54))] false)
 .ret)))))
def r9 : List ERes := [.t 0]
theorem c9 : chkF Tryz.prog Tryz.f9 0 e9 r9 = true := by kernel_rfl
def e10 : EC :=
 (.seq
 (.region [iI 1 (.box 27 (.t 0)),iI 2 (.mv (.c (.bool false)))] false)
 (.seq
 (.seq
 (.region [iI 3 (.mv (.c (.int .i64 0)))] false)
 (.block 0
 (.loop
 (.seq
 (.seq
 (.region [iI 5 (.mv (.t 3)),iI 6 (.faddr 5 (.t 1)),iI 7 (.load false 1 (.t 6)),iI 8 (.len (.t 7)),iI 9 (.bin .lss (.t 5) (.t 8))] false)
 (.cond (.t 9)
 .skip
 (.exit 0)))
 (.seq
 (.block 1
 (.seq
 (.region [iI 12 (.faddr 5 (.t 1)),iI 13 (.load false 1 (.t 12)),iI 14 (.mv (.t 3)),iI 15 (.iaddr 3 (.t 13) (.t 14)),iI 16 (.faddr 2 (.t 15)),iI 17 (.load false 1 (.t 16)),iI 18 (.lenS (.t 17)),iI 19 (.bin .gtr (.t 18) (.c (.int .i64 100)))] false)
 (.cond (.t 19)
 (.seq
 (.region [iI 2 (.mv (.c (.bool false)))] false)
 .ret)
 .skip)))
 (.region [iI 10 (.mv (.t 3)),iI 11 (.bin .add (.t 10) (.c (.int .i64 1))),iI 3 (.mv (.t 11))] false))))))
 (.seq
 (.seq
 (.region [iI 4 (.mv (.c (.int .i64 0)))] false)
 (.block 2
 (.loop
 (.seq
 (.seq
 (.region [iI 20 (.mv (.t 4)),iI 21 (.faddr 2 (.t 1)),iI 22 (.load false 1 (.t 21)),iI 23 (.len (.t 22)),iI 24 (.bin .lss (.t 20) (.t 23))] false)
 (.cond (.t 24)
 .skip
 (.exit 2)))
 (.seq
 (.block 3
 (.seq
 (.region [iI 27 (.faddr 2 (.t 1)),iI 28 (.load false 1 (.t 27)),iI 29 (.mv (.t 4)),iI 30 (.iaddr 7 (.t 28) (.t 29)),iI 31 (.faddr 0 (.t 30)),iI 32 (.load false 1 (.t 31)),iI 33 (.lenS (.t 32)),iI 34 (.bin .gtr (.t 33) (.c (.int .i64 100))),iI 35 (.mv (.t 34)),iG 36 35 false (.faddr 2 (.t 1)),iG 37 35 false (.load false 1 (.t 36)),iG 38 35 false (.mv (.t 4)),iG 39 35 false (.iaddr 7 (.t 37) (.t 38)),iG 40 35 false (.faddr 4 (.t 39)),iG 41 35 false (.faddr 2 (.t 40)),iG 42 35 false (.load false 1 (.t 41)),iG 43 35 false (.lenS (.t 42)),iG 44 35 false (.bin .gtr (.t 43) (.c (.int .i64 100))),iI 45 (.pick (.t 35) (.c (.bool true)) (.t 44))] false)
 (.cond (.t 45)
 (.seq
 (.region [iI 2 (.mv (.c (.bool false)))] false)
 .ret)
 .skip)))
 (.region [iI 25 (.mv (.t 4)),iI 26 (.bin .add (.t 25) (.c (.int .i64 1))),iI 4 (.mv (.t 26))] false))))))
 (.seq
 (.region [iI 46 (.faddr 0 (.t 1)),iI 47 (.load false 1 (.t 46)),iI 48 (.lenS (.t 47)),iI 49 (.bin .leq (.t 48) (.c (.int .i64 100))),iI 50 (.mv (.t 49)),iG 51 50 true (.faddr 2 (.t 1)),iG 52 50 true (.load false 1 (.t 51)),iG 53 50 true (.len (.t 52)),iG 54 50 true (.bin .leq (.t 53) (.c (.int .i64 20))),iI 55 (.pick (.t 50) (.t 54) (.c (.bool false))),iI 56 (.mv (.t 55)),iG 57 56 true (.faddr 3 (.t 1)),iG 58 56 true (.load false 1 (.t 57)),iG 59 56 true (.len (.t 58)),iG 60 56 true (.bin .leq (.t 59) (.c (.int .i64 60))),iI 61 (.pick (.t 56) (.t 60) (.c (.bool false))),iI 62 (.mv (.t 61)),iG 63 62 true (.faddr 4 (.t 1)),iG 64 62 true (.load false 1 (.t 63)),iG 65 62 true (.len (.t 64)),iG 66 62 true (.bin .leq (.t 65) (.c (.int .i64 60))),iI 67 (.pick (.t 62) (.t 66) (.c (.bool false))),iI 68 (.mv (.t 67)),iG 69 68 true (.faddr 5 (.t 1)),iG 70 68 true (.load false 1 (.t 69)),iG 71 68 true (.len (.t 70)),iG 72 68 true (.bin .leq (.t 71) (.c (.int .i64 300))),iI 73 (.pick (.t 68) (.t 72) (.c (.bool false))),iI 2 (.mv (.t 73))] false)
 .ret))))
def r10 : List ERes := [.t 2]
theorem c10 : chkF Tryz.prog Tryz.f10 1 e10 r10 = true := by kernel_rfl
def e13 : EC :=
 (.seq
 (.region [iI 1 (.box 27 (.t 0)),iI 2 (.mv (.c (.bool false)))] false)
 (.seq
 (.region [iI 11 (.faddr 5 (.t 1)),iI 12 (.load false 1 (.t 11)),iI 13 (.len (.t 12)),iI 3 (.mv (.t 13))] false)
 (.seq
 (.seq
 (.region [iI 14 (.faddr 0 (.t 1)),iI 15 (.load false 1 (.t 14)),iI 16 (.call 35 [(.t 15)]),iI 17 (.not (.t 16)),iI 18 (.mv (.t 17)),iG 19 18 false (.faddr 1 (.t 1)),iG 20 18 false (.load false 1 (.t 19)),iG 21 18 false (.bin .lss (.t 20) (.c (.int .i64 0))),iI 22 (.pick (.t 18) (.c (.bool true)) (.t 21)),iI 23 (.mv (.t 22)),iG 24 23 false (.faddr 1 (.t 1)),iG 25 23 false (.load false 1 (.t 24)),iG 26 23 false (.bin .geq (.t 25) (.c (.int .i64 6))),iI 27 (.pick (.t 23) (.c (.bool true)) (.t 26)),iI 28 (.mv (.t 27)),iG 29 28 false (.faddr 2 (.t 1)),iG 30 28 false (.load false 1 (.t 29)),iG 31 28 false (.call 36 [(.t 30)]),iG 32 28 false (.not (.t 31)),iI 33 (.pick (.t 28) (.c (.bool true)) (.t 32)),iI 34 (.mv (.t 33)),iG 35 34 false (.faddr 3 (.t 1)),iG 36 34 false (.load false 1 (.t 35)),iG 37 34 false (.len (.t 36)),iG 38 34 false (.bin .gtr (.t 37) (.c (.int .i64 40))),iI 39 (.pick (.t 34) (.c (.bool true)) (.t 38)),iI 40 (.mv (.t 39)),iG 41 40 false (.faddr 4 (.t 1)),iG 42 40 false (.load false 1 (.t 41)),iG 43 40 false (.len (.t 42)),iG 44 40 false (.bin .gtr (.t 43) (.c (.int .i64 40))),iI 45 (.pick (.t 40) (.c (.bool true)) (.t 44)),iI 46 (.mv (.t 45)),iG 47 46 false (.mv (.t 3)),iG 48 46 false (.bin .lss (.t 47) (.c (.int .i64 1))),iI 49 (.pick (.t 46) (.c (.bool true)) (.t 48)),iI 50 (.mv (.t 49)),iG 51 50 false (.mv (.t 3)),iG 52 50 false (.bin .gtr (.t 51) (.c (.int .i64 1000))),iI 53 (.pick (.t 50) (.c (.bool true)) (.t 52))] false)
 (.cond (.t 53)
 (.seq
 (.region [iI 2 (.mv (.c (.bool false)))] false)
 .ret)
 .skip))
 (.seq
 (.seq
 (.region [iI 4 (.mv (.c (.int .i64 0)))] false)
 (.block 0
 (.loop
 (.seq
 (.seq
 (.region [iI 54 (.mv (.t 4)),iI 55 (.faddr 3 (.t 1)),iI 56 (.load false 1 (.t 55)),iI 57 (.len (.t 56)),iI 58 (.bin .lss (.t 54) (.t 57))] false)
 (.cond (.t 58)
 .skip
 (.exit 0)))
 (.seq
 (.block 1
 (.seq
 (.region [iI 61 (.faddr 3 (.t 1)),iI 62 (.load false 1 (.t 61)),iI 63 (.mv (.t 4)),iI 64 (.iaddr 3 (.t 62) (.t 63)),iI 65 (.load true 3 (.t 64)),iI 5 (.alloc 76 [.int .i64 0, .int .i64 0, .int .i64 0]),iN (.store 3 (.t 5) (.t 65))] false)
 (.seq
 (.seq
 (.region [iI 66 (.faddr 0 (.t 5)),iI 67 (.load false 1 (.t 66)),iI 68 (.faddr 1 (.t 5)),iI 69 (.load false 1 (.t 68)),iI 70 (.faddr 1 (.t 1)),iI 71 (.load false 1 (.t 70)),iI 72 (.call 37 [(.t 67), (.t 69), (.t 71)]),iI 73 (.not (.t 72)),iI 74 (.mv (.t 73)),iG 75 74 false (.faddr 2 (.t 5)),iG 76 74 false (.load false 1 (.t 75)),iG 77 74 false (.bin .lss (.t 76) (.c (.int .i64 0))),iI 78 (.pick (.t 74) (.c (.bool true)) (.t 77)),iI 79 (.mv (.t 78)),iG 80 79 false (.faddr 2 (.t 5)),iG 81 79 false (.load false 1 (.t 80)),iG 82 79 false (.mv (.t 3)),iG 83 79 false (.bin .geq (.t 81) (.t 82)),iI 84 (.pick (.t 79) (.c (.bool true)) (.t 83))] false)
 (.cond (.t 84)
 (.seq
 (.region [iI 2 (.mv (.c (.bool false)))] false)
 .ret)
 .skip))
 (.seq
 (.region [iI 6 (.mv (.c (.int .i64 0)))] false)
 (.block 2
 (.loop
 (.seq
 (.seq
 (.region [iI 85 (.mv (.t 6)),iI 86 (.mv (.t 4)),iI 87 (.bin .lss (.t 85) (.t 86))] false)
 (.cond (.t 87)
 .skip
 (.exit 2)))
 (.seq
 (.block 3
 (.seq
 (.region [iI 90 (.faddr 3 (.t 1)),iI 91 (.load false 1 (.t 90)),iI 92 (.mv (.t 6)),iI 93 (.iaddr 3 (.t 91) (.t 92)),iI 94 (.faddr 0 (.t 93)),iI 95 (.load false 1 (.t 94)),iI 96 (.faddr 0 (.t 5)),iI 97 (.load false 1 (.t 96)),iI 98 (.bin .eql (.t 95) (.t 97)),iI 99 (.mv (.t 98)),iG 100 99 true (.faddr 3 (.t 1)),iG 101 99 true (.load false 1 (.t 100)),iG 102 99 true (.mv (.t 6)),iG 103 99 true (.iaddr 3 (.t 101) (.t 102)),iG 104 99 true (.faddr 1 (.t 103)),iG 105 99 true (.load false 1 (.t 104)),iG 106 99 true (.faddr 1 (.t 5)),iG 107 99 true (.load false 1 (.t 106)),iG 108 99 true (.bin .eql (.t 105) (.t 107)),iI 109 (.pick (.t 99) (.t 108) (.c (.bool false)))] true)
 (.cond (.t 109)
 (.seq
 (.region [iI 2 (.mv (.c (.bool false)))] false)
 .ret)
 .skip)))
 (.region [iI 88 (.mv (.t 6)),iI 89 (.bin .add (.t 88) (.c (.int .i64 1))),iI 6 (.mv (.t 89))] false)))))))))
 (.region [iI 59 (.mv (.t 4)),iI 60 (.bin .add (.t 59) (.c (.int .i64 1))),iI 4 (.mv (.t 60))] false))))))
 (.seq
 (.seq
 (.region [iI 7 (.mv (.c (.int .i64 0)))] false)
 (.block 4
 (.loop
 (.seq
 (.seq
 (.region [iI 110 (.mv (.t 7)),iI 111 (.faddr 4 (.t 1)),iI 112 (.load false 1 (.t 111)),iI 113 (.len (.t 112)),iI 114 (.bin .lss (.t 110) (.t 113))] false)
 (.cond (.t 114)
 .skip
 (.exit 4)))
 (.seq
 (.block 5
 (.seq
 (.region [iI 117 (.faddr 4 (.t 1)),iI 118 (.load false 1 (.t 117)),iI 119 (.mv (.t 7)),iI 120 (.iaddr 4 (.t 118) (.t 119)),iI 121 (.load true 4 (.t 120)),iI 8 (.alloc 79 [.int .i64 0, .int .i64 0, .int .i64 0, .int .i64 0]),iN (.store 4 (.t 8) (.t 121))] false)
 (.seq
 (.region [iI 122 (.faddr 0 (.t 8)),iI 123 (.load false 1 (.t 122)),iI 124 (.faddr 1 (.t 8)),iI 125 (.load false 1 (.t 124)),iI 126 (.faddr 1 (.t 1)),iI 127 (.load false 1 (.t 126)),iI 128 (.call 37 [(.t 123), (.t 125), (.t 127)]),iI 129 (.not (.t 128)),iI 130 (.mv (.t 129)),iG 131 130 false (.faddr 2 (.t 8)),iG 132 130 false (.load false 1 (.t 131)),iG 133 130 false (.bin .lss (.t 132) (.c (.int .i64 (-1)))),iI 134 (.pick (.t 130) (.c (.bool true)) (.t 133)),iI 135 (.mv (.t 134)),iG 136 135 false (.faddr 2 (.t 8)),iG 137 135 false (.load false 1 (.t 136)),iG 138 135 false (.mv (.t 3)),iG 139 135 false (.bin .geq (.t 137) (.t 138)),iI 140 (.pick (.t 135) (.c (.bool true)) (.t 139)),iI 141 (.mv (.t 140)),iG 142 141 false (.faddr 3 (.t 8)),iG 143 141 false (.load false 1 (.t 142)),iG 144 141 false (.bin .lss (.t 143) (.c (.int .i64 0))),iI 145 (.pick (.t 141) (.c (.bool true)) (.t 144)),iI 146 (.mv (.t 145)),iG 147 146 false (.faddr 3 (.t 8)),iG 148 146 false (.load false 1 (.t 147)),iG 149 146 false (.mv (.t 3)),iG 150 146 false (.bin .geq (.t 148) (.t 149)),iI 151 (.pick (.t 146) (.c (.bool true)) (.t 150))] false)
 (.cond (.t 151)
 (.seq
 (.region [iI 2 (.mv (.c (.bool false)))] false)
 .ret)
 .skip))))
 (.region [iI 115 (.mv (.t 7)),iI 116 (.bin .add (.t 115) (.c (.int .i64 1))),iI 7 (.mv (.t 116))] false))))))
 (.seq
 (.seq
 (.region [iI 9 (.mv (.c (.int .i64 0)))] false)
 (.block 6
 (.loop
 (.seq
 (.seq
 (.region [iI 152 (.mv (.t 9)),iI 153 (.mv (.t 3)),iI 154 (.bin .lss (.t 152) (.t 153))] false)
 (.cond (.t 154)
 .skip
 (.exit 6)))
 (.seq
 (.block 7
 (.seq
 (.region [iI 157 (.faddr 5 (.t 1)),iI 158 (.load false 1 (.t 157)),iI 159 (.mv (.t 9)),iI 160 (.iaddr 3 (.t 158) (.t 159)),iI 161 (.load true 3 (.t 160)),iI 10 (.alloc 41 [.int .i64 0, .int .i64 0, .str []]),iN (.store 3 (.t 10) (.t 161))] false)
 (.seq
 (.region [iI 162 (.load true 3 (.t 10)),iI 163 (.call 19 [(.t 162)]),iI 164 (.not (.t 163)),iI 165 (.mv (.t 164)),iG 166 165 false (.faddr 0 (.t 10)),iG 167 165 false (.load false 1 (.t 166)),iG 168 165 false (.call 38 [(.t 167)]),iG 169 165 false (.mv (.t 168)),iG 170 169 true (.faddr 1 (.t 10)),iG 171 169 true (.load false 1 (.t 170)),iG 172 169 true (.mv (.t 3)),iG 173 169 true (.bin .geq (.t 171) (.t 172)),iG 174 165 false (.pick (.t 169) (.t 173) (.c (.bool false))),iI 175 (.pick (.t 165) (.c (.bool true)) (.t 174)),iI 176 (.mv (.t 175)),iG 177 176 false (.faddr 0 (.t 10)),iG 178 176 false (.load false 1 (.t 177)),iG 179 176 false (.bin .eql (.t 178) (.c (.int .i64 3))),iG 180 176 false (.mv (.t 179)),iG 181 180 false (.faddr 0 (.t 10)),iG 182 180 false (.load false 1 (.t 181)),iG 183 180 false (.bin .eql (.t 182) (.c (.int .i64 5))),iG 184 176 false (.pick (.t 180) (.c (.bool true)) (.t 183)),iG 185 176 false (.mv (.t 184)),iG 186 185 true (.faddr 1 (.t 10)),iG 187 185 true (.load false 1 (.t 186)),iG 188 185 true (.faddr 2 (.t 1)),iG 189 185 true (.load false 1 (.t 188)),iG 190 185 true (.len (.t 189)),iG 191 185 true (.bin .geq (.t 187) (.t 190)),iG 192 176 false (.pick (.t 185) (.t 191) (.c (.bool false))),iI 193 (.pick (.t 176) (.c (.bool true)) (.t 192))] false)
 (.cond (.t 193)
 (.seq
 (.region [iI 2 (.mv (.c (.bool false)))] false)
 .ret)
 .skip))))
 (.region [iI 155 (.mv (.t 9)),iI 156 (.bin .add (.t 155) (.c (.int .i64 1))),iI 9 (.mv (.t 156))] false))))))
 (.seq
 (.region [iI 2 (.mv (.c (.bool true)))] false)
 .ret)))))))
def r13 : List ERes := [.t 2]
theorem c13 : chkF Tryz.prog Tryz.f13 1 e13 r13 = true := by kernel_rfl
def e15 : EC :=
 (.seq
 (.region [iI 2 (.box 27 (.t 0)),iI 3 (.box 27 (.t 1)),iI 4 (.mv (.c (.bool false)))] false)
 (.seq
 (.seq
 (.region [iI 9 (.faddr 0 (.t 2)),iI 10 (.load false 1 (.t 9)),iI 11 (.faddr 0 (.t 3)),iI 12 (.load false 1 (.t 11)),iI 13 (.bin .neq (.t 10) (.t 12)),iI 14 (.mv (.t 13)),iG 15 14 false (.faddr 1 (.t 2)),iG 16 14 false (.load false 1 (.t 15)),iG 17 14 false (.faddr 1 (.t 3)),iG 18 14 false (.load false 1 (.t 17)),iG 19 14 false (.bin .neq (.t 16) (.t 18)),iI 20 (.pick (.t 14) (.c (.bool true)) (.t 19)),iI 21 (.mv (.t 20)),iG 22 21 false (.faddr 2 (.t 2)),iG 23 21 false (.load false 1 (.t 22)),iG 24 21 false (.len (.t 23)),iG 25 21 false (.faddr 2 (.t 3)),iG 26 21 false (.load false 1 (.t 25)),iG 27 21 false (.len (.t 26)),iG 28 21 false (.bin .neq (.t 24) (.t 27)),iI 29 (.pick (.t 21) (.c (.bool true)) (.t 28)),iI 30 (.mv (.t 29)),iG 31 30 false (.faddr 3 (.t 2)),iG 32 30 false (.load false 1 (.t 31)),iG 33 30 false (.len (.t 32)),iG 34 30 false (.faddr 3 (.t 3)),iG 35 30 false (.load false 1 (.t 34)),iG 36 30 false (.len (.t 35)),iG 37 30 false (.bin .neq (.t 33) (.t 36)),iI 38 (.pick (.t 30) (.c (.bool true)) (.t 37)),iI 39 (.mv (.t 38)),iG 40 39 false (.faddr 4 (.t 2)),iG 41 39 false (.load false 1 (.t 40)),iG 42 39 false (.len (.t 41)),iG 43 39 false (.faddr 4 (.t 3)),iG 44 39 false (.load false 1 (.t 43)),iG 45 39 false (.len (.t 44)),iG 46 39 false (.bin .neq (.t 42) (.t 45)),iI 47 (.pick (.t 39) (.c (.bool true)) (.t 46)),iI 48 (.mv (.t 47)),iG 49 48 false (.faddr 5 (.t 2)),iG 50 48 false (.load false 1 (.t 49)),iG 51 48 false (.len (.t 50)),iG 52 48 false (.faddr 5 (.t 3)),iG 53 48 false (.load false 1 (.t 52)),iG 54 48 false (.len (.t 53)),iG 55 48 false (.bin .neq (.t 51) (.t 54)),iI 56 (.pick (.t 48) (.c (.bool true)) (.t 55))] false)
 (.cond (.t 56)
 (.seq
 (.region [iI 4 (.mv (.c (.bool false)))] false)
 .ret)
 .skip))
 (.seq
 (.seq
 (.region [iI 5 (.mv (.c (.int .i64 0)))] false)
 (.block 0
 (.loop
 (.seq
 (.seq
 (.region [iI 57 (.mv (.t 5)),iI 58 (.faddr 2 (.t 2)),iI 59 (.load false 1 (.t 58)),iI 60 (.len (.t 59)),iI 61 (.bin .lss (.t 57) (.t 60))] false)
 (.cond (.t 61)
 .skip
 (.exit 0)))
 (.seq
 (.block 1
 (.seq
 (.region [iI 64 (.faddr 2 (.t 2)),iI 65 (.load false 1 (.t 64)),iI 66 (.mv (.t 5)),iI 67 (.iaddr 7 (.t 65) (.t 66)),iI 68 (.load true 7 (.t 67)),iI 69 (.faddr 2 (.t 3)),iI 70 (.load false 1 (.t 69)),iI 71 (.mv (.t 5)),iI 72 (.iaddr 7 (.t 70) (.t 71)),iI 73 (.load true 7 (.t 72)),iI 74 (.eqA true 68 [.s, .i .i64, .i .i64, .i .i64, .i .i64, .i .i64, .s] (.t 68) (.t 73))] true)
 (.cond (.t 74)
 (.seq
 (.region [iI 4 (.mv (.c (.bool false)))] false)
 .ret)
 .skip)))
 (.region [iI 62 (.mv (.t 5)),iI 63 (.bin .add (.t 62) (.c (.int .i64 1))),iI 5 (.mv (.t 63))] false))))))
 (.seq
 (.seq
 (.region [iI 6 (.mv (.c (.int .i64 0)))] false)
 (.block 2
 (.loop
 (.seq
 (.seq
 (.region [iI 75 (.mv (.t 6)),iI 76 (.faddr 3 (.t 2)),iI 77 (.load false 1 (.t 76)),iI 78 (.len (.t 77)),iI 79 (.bin .lss (.t 75) (.t 78))] false)
 (.cond (.t 79)
 .skip
 (.exit 2)))
 (.seq
 (.block 3
 (.seq
 (.region [iI 82 (.faddr 3 (.t 2)),iI 83 (.load false 1 (.t 82)),iI 84 (.mv (.t 6)),iI 85 (.iaddr 3 (.t 83) (.t 84)),iI 86 (.load true 3 (.t 85)),iI 87 (.faddr 3 (.t 3)),iI 88 (.load false 1 (.t 87)),iI 89 (.mv (.t 6)),iI 90 (.iaddr 3 (.t 88) (.t 89)),iI 91 (.load true 3 (.t 90)),iI 92 (.eqA true 76 [.i .i64, .i .i64, .i .i64] (.t 86) (.t 91))] true)
 (.cond (.t 92)
 (.seq
 (.region [iI 4 (.mv (.c (.bool false)))] false)
 .ret)
 .skip)))
 (.region [iI 80 (.mv (.t 6)),iI 81 (.bin .add (.t 80) (.c (.int .i64 1))),iI 6 (.mv (.t 81))] false))))))
 (.seq
 (.seq
 (.region [iI 7 (.mv (.c (.int .i64 0)))] false)
 (.block 4
 (.loop
 (.seq
 (.seq
 (.region [iI 93 (.mv (.t 7)),iI 94 (.faddr 4 (.t 2)),iI 95 (.load false 1 (.t 94)),iI 96 (.len (.t 95)),iI 97 (.bin .lss (.t 93) (.t 96))] false)
 (.cond (.t 97)
 .skip
 (.exit 4)))
 (.seq
 (.block 5
 (.seq
 (.region [iI 100 (.faddr 4 (.t 2)),iI 101 (.load false 1 (.t 100)),iI 102 (.mv (.t 7)),iI 103 (.iaddr 4 (.t 101) (.t 102)),iI 104 (.load true 4 (.t 103)),iI 105 (.faddr 4 (.t 3)),iI 106 (.load false 1 (.t 105)),iI 107 (.mv (.t 7)),iI 108 (.iaddr 4 (.t 106) (.t 107)),iI 109 (.load true 4 (.t 108)),iI 110 (.eqA true 79 [.i .i64, .i .i64, .i .i64, .i .i64] (.t 104) (.t 109))] true)
 (.cond (.t 110)
 (.seq
 (.region [iI 4 (.mv (.c (.bool false)))] false)
 .ret)
 .skip)))
 (.region [iI 98 (.mv (.t 7)),iI 99 (.bin .add (.t 98) (.c (.int .i64 1))),iI 7 (.mv (.t 99))] false))))))
 (.seq
 (.seq
 (.region [iI 8 (.mv (.c (.int .i64 0)))] false)
 (.block 6
 (.loop
 (.seq
 (.seq
 (.region [iI 111 (.mv (.t 8)),iI 112 (.faddr 5 (.t 2)),iI 113 (.load false 1 (.t 112)),iI 114 (.len (.t 113)),iI 115 (.bin .lss (.t 111) (.t 114))] false)
 (.cond (.t 115)
 .skip
 (.exit 6)))
 (.seq
 (.block 7
 (.seq
 (.region [iI 118 (.faddr 5 (.t 2)),iI 119 (.load false 1 (.t 118)),iI 120 (.mv (.t 8)),iI 121 (.iaddr 3 (.t 119) (.t 120)),iI 122 (.load true 3 (.t 121)),iI 123 (.faddr 5 (.t 3)),iI 124 (.load false 1 (.t 123)),iI 125 (.mv (.t 8)),iI 126 (.iaddr 3 (.t 124) (.t 125)),iI 127 (.load true 3 (.t 126)),iI 128 (.eqA true 41 [.i .i64, .i .i64, .s] (.t 122) (.t 127))] true)
 (.cond (.t 128)
 (.seq
 (.region [iI 4 (.mv (.c (.bool false)))] false)
 .ret)
 .skip)))
 (.region [iI 116 (.mv (.t 8)),iI 117 (.bin .add (.t 116) (.c (.int .i64 1))),iI 8 (.mv (.t 117))] false))))))
 (.seq
 (.region [iI 4 (.mv (.c (.bool true)))] false)
 .ret)))))))
def r15 : List ERes := [.t 4]
theorem c15 : chkF Tryz.prog Tryz.f15 2 e15 r15 = true := by kernel_rfl
def e19 : EC :=
 (.seq
 (.region [iI 1 (.box 41 (.t 0)),iI 2 (.mv (.c (.bool false)))] false)
 (.seq
 (.seq
 (.region [iI 5 (.faddr 0 (.t 1)),iI 6 (.load false 1 (.t 5)),iI 7 (.bin .lss (.t 6) (.c (.int .i64 1))),iI 8 (.mv (.t 7)),iG 9 8 false (.faddr 0 (.t 1)),iG 10 8 false (.load false 1 (.t 9)),iG 11 8 false (.bin .gtr (.t 10) (.c (.int .i64 24))),iI 12 (.pick (.t 8) (.c (.bool true)) (.t 11))] false)
 (.cond (.t 12)
 (.seq
 (.region [iI 2 (.mv (.c (.bool false)))] false)
 .ret)
 .skip))
 (.seq
 (.region [iI 14 (.faddr 0 (.t 1)),iI 15 (.load false 1 (.t 14)),iI 16 (.call 52 [(.t 15)]),iI 13 (.mv (.t 16)),iI 17 (.extract 0 (.t 13)),iI 18 (.extract 1 (.t 13)),iI 3 (.mv (.t 17)),iI 4 (.mv (.t 18))] false)
 (.seq
 (.seq
 (.region [iI 19 (.faddr 1 (.t 1)),iI 20 (.load false 1 (.t 19)),iI 21 (.mv (.t 3)),iI 22 (.bin .lss (.t 20) (.t 21)),iI 23 (.mv (.t 22)),iG 24 23 false (.faddr 1 (.t 1)),iG 25 23 false (.load false 1 (.t 24)),iG 26 23 false (.mv (.t 4)),iG 27 23 false (.bin .gtr (.t 25) (.t 26)),iI 28 (.pick (.t 23) (.c (.bool true)) (.t 27))] false)
 (.cond (.t 28)
 (.seq
 (.region [iI 2 (.mv (.c (.bool false)))] false)
 .ret)
 .skip))
 (.seq
 (.seq
 (.region [iI 29 (.faddr 0 (.t 1)),iI 30 (.load false 1 (.t 29)),iI 31 (.bin .eql (.t 30) (.c (.int .i64 2)))] false)
 (.cond (.t 31)
 (.seq
 (.region [iI 32 (.faddr 2 (.t 1)),iI 33 (.load false 1 (.t 32)),iI 34 (.call 55 [(.t 33)]),iI 35 (.call 56 [(.t 34)]),iI 2 (.mv (.t 35))] false)
 .ret)
 .skip))
 (.seq
 (.region [iI 36 (.faddr 2 (.t 1)),iI 37 (.load false 1 (.t 36)),iI 38 (.bin .eql (.t 37) (.c (.str []))),iI 2 (.mv (.t 38))] false)
 .ret))))))
def r19 : List ERes := [.t 2]
theorem c19 : chkF Tryz.prog Tryz.f19 1 e19 r19 = true := by kernel_rfl
def e22 : EC :=
 (.seq
 (.region [iI 4 (.mv (.c (.bool false)))] false)
 (.seq
 (.region [iI 5 (.mv (.t 0)),iI 6 (.convS false (.t 5)),iI 7 (.mv (.t 1)),iI 8 (.convS false (.t 7)),iI 9 (.bin .eql (.t 6) (.t 8)),iI 4 (.mv (.t 9))] false)
 .ret))
def r22 : List ERes := [.t 4]
theorem c22 : chkF Tryz.prog Tryz.f22 2 e22 r22 = true := by kernel_rfl
def e35 : EC :=
 (.seq
 (.region [iI 2 (.mv (.c (.bool false)))] false)
 (.seq
 (.seq
 (.region [iI 4 (.mv (.t 0)),iI 5 (.bin .eql (.t 4) (.c (.str []))),iI 6 (.mv (.t 5)),iG 7 6 false (.mv (.t 0)),iG 8 6 false (.idxS (.t 7) (.c (.int .i64 0))),iG 9 6 false (.call 84 [(.t 8)]),iG 10 6 false (.not (.t 9)),iI 11 (.pick (.t 6) (.c (.bool true)) (.t 10)),iI 12 (.mv (.t 11)),iG 13 12 false (.mv (.t 0)),iG 14 12 false (.lenS (.t 13)),iG 15 12 false (.bin .gtr (.t 14) (.c (.int .i64 16))),iI 16 (.pick (.t 12) (.c (.bool true)) (.t 15))] false)
 (.cond (.t 16)
 (.seq
 (.region [iI 2 (.mv (.c (.bool false)))] false)
 .ret)
 .skip))
 (.seq
 (.seq
 (.region [iI 3 (.mv (.c (.int .i64 0)))] false)
 (.block 0
 (.loop
 (.seq
 (.seq
 (.region [iI 17 (.mv (.t 3)),iI 18 (.mv (.t 0)),iI 19 (.lenS (.t 18)),iI 20 (.bin .lss (.t 17) (.t 19))] false)
 (.cond (.t 20)
 .skip
 (.exit 0)))
 (.seq
 (.block 1
 (.seq
 (.region [iI 23 (.mv (.t 0)),iI 24 (.mv (.t 3)),iI 25 (.idxS (.t 23) (.t 24)),iI 26 (.call 85 [(.t 25)]),iI 27 (.not (.t 26))] false)
 (.cond (.t 27)
 (.seq
 (.region [iI 2 (.mv (.c (.bool false)))] false)
 .ret)
 .skip)))
 (.region [iI 21 (.mv (.t 3)),iI 22 (.bin .add (.t 21) (.c (.int .i64 1))),iI 3 (.mv (.t 22))] false))))))
 (.seq
 (.region [iI 2 (.mv (.c (.bool true)))] false)
 .ret))))
def r35 : List ERes := [.t 2]
theorem c35 : chkF Tryz.prog Tryz.f35 1 e35 r35 = true := by kernel_rfl
def e36 : EC :=
 (.seq
 (.region [iI 2 (.mv (.c (.bool false)))] false)
 (.seq
 (.seq
 (.region [iI 3 (.mv (.c (.int .i64 0)))] false)
 (.block 0
 (.loop
 (.seq
 (.seq
 (.region [iI 5 (.mv (.t 3)),iI 6 (.mv (.t 0)),iI 7 (.len (.t 6)),iI 8 (.bin .lss (.t 5) (.t 7))] false)
 (.cond (.t 8)
 .skip
 (.exit 0)))
 (.seq
 (.block 1
 (.seq
 (.seq
 (.region [iI 11 (.mv (.t 0)),iI 12 (.mv (.t 3)),iI 13 (.iaddr 7 (.t 11) (.t 12)),iI 14 (.faddr 0 (.t 13)),iI 15 (.load false 1 (.t 14)),iI 16 (.pcall 35 [(.t 15)]),iI 17 (.not (.t 16)),iI 18 (.mv (.t 17)),iG 19 18 false (.mv (.t 0)),iG 20 18 false (.mv (.t 3)),iG 21 18 false (.iaddr 7 (.t 19) (.t 20)),iG 22 18 false (.faddr 1 (.t 21)),iG 23 18 false (.load true 3 (.t 22)),iG 24 18 false (.mv (.t 0)),iG 25 18 false (.mv (.t 3)),iG 26 18 false (.iaddr 7 (.t 24) (.t 25)),iG 27 18 false (.faddr 4 (.t 26)),iG 28 18 false (.load true 3 (.t 27)),iG 29 18 false (.pcall 86 [(.t 23), (.t 28)]),iG 30 18 false (.not (.t 29)),iI 31 (.pick (.t 18) (.c (.bool true)) (.t 30))] true)
 (.cond (.t 31)
 (.seq
 (.region [iI 2 (.mv (.c (.bool false)))] false)
 .ret)
 .skip))
 (.seq
 (.region [iI 4 (.mv (.c (.int .i64 0)))] false)
 (.block 2
 (.loop
 (.seq
 (.seq
 (.region [iI 32 (.mv (.t 4)),iI 33 (.mv (.t 3)),iI 34 (.bin .lss (.t 32) (.t 33))] false)
 (.cond (.t 34)
 .skip
 (.exit 2)))
 (.seq
 (.block 3
 (.seq
 (.region [iI 37 (.mv (.t 0)),iI 38 (.mv (.t 4)),iI 39 (.iaddr 7 (.t 37) (.t 38)),iI 40 (.faddr 0 (.t 39)),iI 41 (.load false 1 (.t 40)),iI 42 (.mv (.t 0)),iI 43 (.mv (.t 3)),iI 44 (.iaddr 7 (.t 42) (.t 43)),iI 45 (.faddr 0 (.t 44)),iI 46 (.load false 1 (.t 45)),iI 47 (.bin .eql (.t 41) (.t 46))] true)
 (.cond (.t 47)
 (.seq
 (.region [iI 2 (.mv (.c (.bool false)))] false)
 .ret)
 .skip)))
 (.region [iI 35 (.mv (.t 4)),iI 36 (.bin .add (.t 35) (.c (.int .i64 1))),iI 4 (.mv (.t 36))] false))))))))
 (.region [iI 9 (.mv (.t 3)),iI 10 (.bin .add (.t 9) (.c (.int .i64 1))),iI 3 (.mv (.t 10))] false))))))
 (.seq
 (.region [iI 48 (.mv (.t 0)),iI 49 (.len (.t 48)),iI 50 (.bin .leq (.t 49) (.c (.int .i64 12))),iI 2 (.mv (.t 50))] false)
 .ret)))
def r36 : List ERes := [.t 2]
theorem c36 : chkF Tryz.prog Tryz.f36 1 e36 r36 = true := by kernel_rfl
def e37 : EC :=
 (.seq
 (.region [iI 6 (.mv (.c (.bool false)))] false)
 (.seq
 (.region [iI 7 (.mv (.t 0)),iI 8 (.bin .geq (.t 7) (.c (.int .i64 0))),iI 9 (.mv (.t 8)),iG 10 9 true (.mv (.t 0)),iG 11 9 true (.bin .lss (.t 10) (.c (.int .i64 6))),iI 12 (.pick (.t 9) (.t 11) (.c (.bool false))),iI 13 (.mv (.t 12)),iG 14 13 true (.mv (.t 0)),iG 15 13 true (.mv (.t 2)),iG 16 13 true (.bin .neq (.t 14) (.t 15)),iI 17 (.pick (.t 13) (.t 16) (.c (.bool false))),iI 18 (.mv (.t 17)),iG 19 18 true (.mv (.t 1)),iG 20 18 true (.bin .geq (.t 19) (.c (.int .i64 0))),iI 21 (.pick (.t 18) (.t 20) (.c (.bool false))),iI 22 (.mv (.t 21)),iG 23 22 true (.mv (.t 1)),iG 24 22 true (.bin .lss (.t 23) (.c (.int .i64 40))),iI 25 (.pick (.t 22) (.t 24) (.c (.bool false))),iI 6 (.mv (.t 25))] false)
 .ret))
def r37 : List ERes := [.t 6]
theorem c37 : chkF Tryz.prog Tryz.f37 3 e37 r37 = true := by kernel_rfl
def e38 : EC :=
 (.seq
 (.region [iI 2 (.mv (.c (.bool false)))] false)
 (.seq
 (.region [iI 3 (.mv (.t 0)),iI 4 (.bin .eql (.t 3) (.c (.int .i64 19))),iI 5 (.mv (.t 4)),iG 6 5 false (.mv (.t 0)),iG 7 5 false (.bin .eql (.t 6) (.c (.int .i64 20))),iI 8 (.pick (.t 5) (.c (.bool true)) (.t 7)),iI 9 (.mv (.t 8)),iG 10 9 false (.mv (.t 0)),iG 11 9 false (.bin .eql (.t 10) (.c (.int .i64 22))),iI 12 (.pick (.t 9) (.c (.bool true)) (.t 11)),iI 2 (.mv (.t 12))] false)
 .ret))
def r38 : List ERes := [.t 2]
theorem c38 : chkF Tryz.prog Tryz.f38 1 e38 r38 = true := by kernel_rfl
def e52 : EC :=
 (.seq
 (.region [iI 2 (.mv (.c (.int .i64 0))),iI 3 (.mv (.c (.int .i64 0)))] false)
 (.seq
 (.seq
 (.region [iI 4 (.mv (.t 0))] false)
 (.block 0
 (.seq
 (.region [iI 6 (.bin .eql (.t 4) (.c (.int .i64 1))),iI 5 (.mv (.t 6))] false)
 (.cond (.t 5)
 (.seq
 (.region [iI 2 (.mv (.c (.int .i64 (-1000)))),iI 3 (.mv (.c (.int .i64 1000)))] false)
 .ret)
 (.seq
 (.seq
 (.region [iI 8 (.bin .eql (.t 4) (.c (.int .i64 3))),iI 7 (.mv (.t 8))] false)
 (.cond (.t 7)
 .skip
 (.region [iI 9 (.bin .eql (.t 4) (.c (.int .i64 5))),iI 7 (.mv (.t 9))] false)))
 (.cond (.t 7)
 (.seq
 (.region [iI 2 (.mv (.c (.int .i64 0))),iI 3 (.mv (.c (.int .i64 11)))] false)
 .ret)
 (.seq
 (.region [iI 11 (.bin .eql (.t 4) (.c (.int .i64 4))),iI 10 (.mv (.t 11))] false)
 (.cond (.t 10)
 (.seq
 (.region [iI 2 (.mv (.c (.int .i64 0))),iI 3 (.mv (.c (.int .i64 3)))] false)
 .ret)
 (.seq
 (.seq
 (.region [iI 13 (.bin .eql (.t 4) (.c (.int .i64 19))),iI 12 (.mv (.t 13))] false)
 (.cond (.t 12)
 .skip
 (.seq
 (.region [iI 14 (.bin .eql (.t 4) (.c (.int .i64 20))),iI 12 (.mv (.t 14))] false)
 (.cond (.t 12)
 .skip
 (.region [iI 15 (.bin .eql (.t 4) (.c (.int .i64 22))),iI 12 (.mv (.t 15))] false)))))
 (.cond (.t 12)
 (.seq
 (.region [iI 2 (.mv (.c (.int .i64 0))),iI 3 (.mv (.c (.int .i64 999)))] false)
 .ret)
 (.seq
 (.region [iI 17 (.bin .eql (.t 4) (.c (.int .i64 21))),iI 16 (.mv (.t 17))] false)
 (.cond (.t 16)
 (.seq
 (.region [iI 2 (.mv (.c (.int .i64 1))),iI 3 (.mv (.c (.int .i64 50)))] false)
 .ret)
 .skip))))))))))))
 (.seq
 (.region [iI 2 (.mv (.c (.int .i64 0))),iI 3 (.mv (.c (.int .i64 0)))] false)
 .ret)))
def r52 : List ERes := [.t 2, .t 3]
theorem c52 : chkF Tryz.prog Tryz.f52 1 e52 r52 = true := by kernel_rfl
def e55 : EC :=
 (.seq
 (.region [iI 2 (.alloc 66 [.int .i64 0, .int .i64 0, .str []])] false)
 (.seq
 (.region [iI 3 (.mv (.t 0)),iI 4 (.build [.int .i64 0, .int .i64 0, .str []] [(0, 1, (.c (.int .i64 2))), (2, 1, (.t 3))]),iN (.store 3 (.t 2) (.t 4))] false)
 .ret))
def r55 : List ERes := [.cell true 3 2]
theorem c55 : chkF Tryz.prog Tryz.f55 1 e55 r55 = true := by kernel_rfl
def e56 : EC :=
 (.seq
 (.region [iI 1 (.box 66 (.t 0)),iI 2 (.mv (.c (.bool false)))] false)
 (.seq
 (.seq
 (.region [iI 3 (.faddr 0 (.t 1)),iI 4 (.load false 1 (.t 3))] false)
 (.block 0
 (.seq
 (.region [iI 6 (.bin .eql (.t 4) (.c (.int .i64 1))),iI 5 (.mv (.t 6))] false)
 (.cond (.t 5)
 (.seq
 (.region [iI 7 (.faddr 1 (.t 1)),iI 8 (.load false 1 (.t 7)),iI 9 (.bin .geq (.t 8) (.c (.int .i64 (-1000)))),iI 10 (.mv (.t 9)),iG 11 10 true (.faddr 1 (.t 1)),iG 12 10 true (.load false 1 (.t 11)),iG 13 10 true (.bin .leq (.t 12) (.c (.int .i64 1000))),iI 14 (.pick (.t 10) (.t 13) (.c (.bool false))),iI 15 (.mv (.t 14)),iG 16 15 true (.faddr 2 (.t 1)),iG 17 15 true (.load false 1 (.t 16)),iG 18 15 true (.bin .eql (.t 17) (.c (.str []))),iI 19 (.pick (.t 15) (.t 18) (.c (.bool false))),iI 2 (.mv (.t 19))] false)
 .ret)
 (.seq
 (.region [iI 21 (.bin .eql (.t 4) (.c (.int .i64 2))),iI 20 (.mv (.t 21))] false)
 (.cond (.t 20)
 (.seq
 (.region [iI 22 (.faddr 1 (.t 1)),iI 23 (.load false 1 (.t 22)),iI 24 (.bin .eql (.t 23) (.c (.int .i64 0))),iI 25 (.mv (.t 24)),iG 26 25 true (.faddr 2 (.t 1)),iG 27 25 true (.load false 1 (.t 26)),iG 28 25 true (.lenS (.t 27)),iG 29 25 true (.bin .leq (.t 28) (.c (.int .i64 40))),iI 30 (.pick (.t 25) (.t 29) (.c (.bool false))),iI 31 (.mv (.t 30)),iG 32 31 true (.faddr 2 (.t 1)),iG 33 31 true (.load false 1 (.t 32)),iG 34 31 true (.call 95 [(.t 33)]),iI 35 (.pick (.t 31) (.t 34) (.c (.bool false))),iI 2 (.mv (.t 35))] false)
 .ret)
 .skip))))))
 (.seq
 (.region [iI 2 (.mv (.c (.bool false)))] false)
 .ret)))
def r56 : List ERes := [.t 2]
theorem c56 : chkF Tryz.prog Tryz.f56 1 e56 r56 = true := by kernel_rfl
def e66 : EC :=
 (.seq
 (.region [iI 2 (.mv (.c (.nilS)))] false)
 (.seq
 (.region [iI 3 (.mv (.t 0)),iI 4 (.convBS 5 (.t 3)),iI 5 (.call 105 [(.t 4)]),iI 2 (.mv (.t 5))] false)
 .ret))
def r66 : List ERes := [.t 2]
theorem c66 : chkF Tryz.prog Tryz.f66 1 e66 r66 = true := by kernel_rfl
def e67 : EC :=
 (.seq
 (.region [iI 2 (.mv (.c (.nilS)))] false)
 (.seq
 (.region [iI 3 (.mv (.c (.nilS)))] false)
 (.seq
 (.seq
 (.region [iI 4 (.mv (.c (.int .i64 0)))] false)
 (.block 0
 (.loop
 (.seq
 (.seq
 (.region [iI 5 (.mv (.t 4)),iI 6 (.mv (.t 0)),iI 7 (.len (.t 6)),iI 8 (.bin .lss (.t 5) (.t 7))] false)
 (.cond (.t 8)
 .skip
 (.exit 0)))
 (.seq
 (.block 1
 (.region [iI 11 (.mv (.t 3)),iI 12 (.mv (.t 0)),iI 13 (.mv (.t 4)),iI 14 (.iaddr 1 (.t 12) (.t 13)),iI 15 (.load false 1 (.t 14)),iI 16 (.call 106 [(.t 15)]),iI 17 (.append 5 1 1 (.t 11) (.t 16)),iI 3 (.mv (.t 17))] false))
 (.region [iI 9 (.mv (.t 4)),iI 10 (.bin .add (.t 9) (.c (.int .i64 1))),iI 4 (.mv (.t 10))] false))))))
 (.seq
 (.region [iI 18 (.mv (.t 3)),iI 2 (.mv (.t 18))] false)
 .ret))))
def r67 : List ERes := [.t 2]
theorem c67 : chkF Tryz.prog Tryz.f67 1 e67 r67 = true := by kernel_rfl
def e68 : EC :=
 (.seq
 (.region [iI 1 (.box 66 (.t 0)),iI 2 (.mv (.c (.nilS)))] false)
 (.seq
 (.region [iI 4 (.faddr 0 (.t 1)),iI 5 (.load false 1 (.t 4)),iI 6 (.call 106 [(.t 5)]),iI 3 (.mv (.t 6))] false)
 (.seq
 (.seq
 (.region [iI 7 (.faddr 0 (.t 1)),iI 8 (.load false 1 (.t 7)),iI 9 (.bin .eql (.t 8) (.c (.int .i64 1)))] false)
 (.cond (.t 9)
 (.seq
 (.region [iI 10 (.mv (.t 3)),iI 11 (.faddr 1 (.t 1)),iI 12 (.load false 1 (.t 11)),iI 13 (.call 106 [(.t 12)]),iI 14 (.append 5 1 1 (.t 10) (.t 13)),iI 2 (.mv (.t 14))] false)
 .ret)
 .skip))
 (.seq
 (.seq
 (.region [iI 15 (.faddr 0 (.t 1)),iI 16 (.load false 1 (.t 15)),iI 17 (.bin .eql (.t 16) (.c (.int .i64 2)))] false)
 (.cond (.t 17)
 (.seq
 (.region [iI 18 (.mv (.t 3)),iI 19 (.faddr 2 (.t 1)),iI 20 (.load false 1 (.t 19)),iI 21 (.call 66 [(.t 20)]),iI 22 (.append 5 1 1 (.t 18) (.t 21)),iI 2 (.mv (.t 22))] false)
 .ret)
 .skip))
 (.seq
 (.region [iI 23 (.mv (.t 3)),iI 2 (.mv (.t 23))] false)
 .ret)))))
def r68 : List ERes := [.t 2]
theorem c68 : chkF Tryz.prog Tryz.f68 1 e68 r68 = true := by kernel_rfl
def e69 : EC :=
 (.seq
 (.region [iI 4 (.mv (.c (.str [])))] false)
 (.seq
 (.region [iI 5 (.mv (.t 0)),iI 6 (.mv (.t 1)),iI 7 (.call 107 [(.t 5), (.t 6)]),iI 8 (.convS false (.t 7)),iI 4 (.mv (.t 8))] false)
 .ret))
def r69 : List ERes := [.t 4]
theorem c69 : chkF Tryz.prog Tryz.f69 2 e69 r69 = true := by kernel_rfl
def e70 : EC :=
 (.seq
 (.region [iI 2 (.mv (.c (.int .i64 0)))] false)
 (.seq
 (.region [iI 3 (.mv (.c (.int .u64 0))),iI 4 (.mv (.c (.int .u64 1)))] false)
 (.seq
 (.seq
 (.region [iI 7 (.mv (.t 0)),iI 8 (.nilck (.t 7)),iI 9 (.faddr 1 (.t 8)),iI 10 (.load false 1 (.t 9)),iI 5 (.mv (.t 10))] false)
 (.block 0
 (.loop
 (.seq
 (.seq
 (.region [iI 11 (.mv (.t 5)),iI 12 (.mv (.t 0)),iI 13 (.nilck (.t 12)),iI 14 (.faddr 0 (.t 13)),iI 15 (.load false 1 (.t 14)),iI 16 (.len (.t 15)),iI 17 (.bin .lss (.t 11) (.t 16)),iI 18 (.mv (.t 17)),iG 19 18 true (.mv (.t 5)),iG 20 18 true (.mv (.t 0)),iG 21 18 true (.nilck (.t 20)),iG 22 18 true (.faddr 1 (.t 21)),iG 23 18 true (.load false 1 (.t 22)),iG 24 18 true (.bin .add (.t 23) (.c (.int .i64 10))),iG 25 18 true (.bin .lss (.t 19) (.t 24)),iI 26 (.pick (.t 18) (.t 25) (.c (.bool false))),iI 27 (.mv (.t 26)),iG 28 27 true (.mv (.t 0)),iG 29 27 true (.nilck (.t 28)),iG 30 27 true (.faddr 2 (.t 29)),iG 31 27 true (.load false 1 (.t 30)),iG 32 27 true (.not (.t 31)),iI 33 (.pick (.t 27) (.t 32) (.c (.bool false)))] false)
 (.cond (.t 33)
 .skip
 (.exit 0)))
 (.seq
 (.block 1
 (.seq
 (.region [iI 36 (.mv (.t 0)),iI 37 (.nilck (.t 36)),iI 38 (.faddr 0 (.t 37)),iI 39 (.load false 1 (.t 38)),iI 40 (.mv (.t 5)),iI 41 (.iaddr 1 (.t 39) (.t 40)),iI 42 (.load false 1 (.t 41)),iI 43 (.bin .rem (.t 42) (.c (.int .u8 128))),iI 44 (.conv .u64 (.t 43)),iI 6 (.mv (.t 44))] false)
 (.seq
 (.seq
 (.region [iI 45 (.mv (.t 5)),iI 46 (.mv (.t 0)),iI 47 (.nilck (.t 46)),iI 48 (.faddr 1 (.t 47)),iI 49 (.load false 1 (.t 48)),iI 50 (.bin .add (.t 49) (.c (.int .i64 9))),iI 51 (.bin .eql (.t 45) (.t 50)),iI 52 (.mv (.t 51)),iG 53 52 true (.mv (.t 6)),iG 54 52 true (.bin .gtr (.t 53) (.c (.int .u64 1))),iI 55 (.pick (.t 52) (.t 54) (.c (.bool false)))] false)
 (.cond (.t 55)
 (.exit 0)
 .skip))
 (.seq
 (.region [iI 56 (.mv (.t 3)),iI 57 (.mv (.t 6)),iI 58 (.mv (.t 4)),iI 59 (.bin .mul (.t 57) (.t 58)),iI 60 (.bin .add (.t 56) (.t 59)),iI 3 (.mv (.t 60))] false)
 (.seq
 (.region [iI 61 (.mv (.t 4)),iI 62 (.bin .mul (.t 61) (.c (.int .u64 128))),iI 4 (.mv (.t 62))] false)
 (.seq
 (.seq
 (.region [iI 63 (.mv (.t 0)),iI 64 (.nilck (.t 63)),iI 65 (.faddr 0 (.t 64)),iI 66 (.load false 1 (.t 65)),iI 67 (.mv (.t 5)),iI 68 (.iaddr 1 (.t 66) (.t 67)),iI 69 (.load false 1 (.t 68)),iI 70 (.bin .geq (.t 69) (.c (.int .u8 128)))] false)
 (.cond (.t 70)
 (.exit 1)
 .skip))
 (.seq
 (.seq
 (.region [iI 71 (.mv (.t 6)),iI 72 (.bin .eql (.t 71) (.c (.int .u64 0))),iI 73 (.mv (.t 72)),iG 74 73 true (.mv (.t 5)),iG 75 73 true (.mv (.t 0)),iG 76 73 true (.nilck (.t 75)),iG 77 73 true (.faddr 1 (.t 76)),iG 78 73 true (.load false 1 (.t 77)),iG 79 73 true (.bin .gtr (.t 74) (.t 78)),iI 80 (.pick (.t 73) (.t 79) (.c (.bool false)))] false)
 (.cond (.t 80)
 (.exit 0)
 .skip))
 (.seq
 (.region [iI 81 (.mv (.t 0)),iI 82 (.mv (.t 5)),iI 83 (.bin .add (.t 82) (.c (.int .i64 1))),iI 84 (.nilck (.t 81)),iI 85 (.faddr 1 (.t 84)),iN (.store 1 (.t 85) (.t 83))] false)
 (.seq
 (.seq
 (.region [iI 86 (.mv (.t 3)),iI 87 (.bin .rem (.t 86) (.c (.int .u64 2))),iI 88 (.bin .eql (.t 87) (.c (.int .u64 1)))] false)
 (.cond (.t 88)
 (.seq
 (.region [iI 89 (.mv (.t 3)),iI 90 (.bin .quo (.t 89) (.c (.int .u64 2))),iI 91 (.conv .i64 (.t 90)),iI 92 (.neg (.t 91)),iI 93 (.bin .sub (.t 92) (.c (.int .i64 1))),iI 2 (.mv (.t 93))] false)
 .ret)
 .skip))
 (.seq
 (.region [iI 94 (.mv (.t 3)),iI 95 (.bin .quo (.t 94) (.c (.int .u64 2))),iI 96 (.conv .i64 (.t 95)),iI 2 (.mv (.t 96))] false)
 .ret))))))))))
 (.region [iI 34 (.mv (.t 5)),iI 35 (.bin .add (.t 34) (.c (.int .i64 1))),iI 5 (.mv (.t 35))] false))))))
 (.seq
 (.region [iI 97 (.mv (.t 0)),iI 98 (.nilck (.t 97)),iI 99 (.faddr 2 (.t 98)),iN (.store 1 (.t 99) (.c (.bool true)))] false)
 (.seq
 (.region [iI 2 (.mv (.c (.int .i64 0)))] false)
 .ret)))))
def r70 : List ERes := [.t 2]
theorem c70 : chkF Tryz.prog Tryz.f70 1 e70 r70 = true := by kernel_rfl
def e71 : EC :=
 (.seq
 (.region [iI 6 (.mv (.c (.int .i64 0)))] false)
 (.seq
 (.region [iI 9 (.mv (.t 0)),iI 10 (.nilck (.t 9)),iI 11 (.faddr 1 (.t 10)),iI 12 (.load false 1 (.t 11)),iI 7 (.mv (.t 12))] false)
 (.seq
 (.region [iI 13 (.mv (.t 0)),iI 14 (.call 70 [(.t 13)]),iI 8 (.mv (.t 14))] false)
 (.seq
 (.seq
 (.region [iI 15 (.mv (.t 0)),iI 16 (.nilck (.t 15)),iI 17 (.faddr 2 (.t 16)),iI 18 (.load false 1 (.t 17))] false)
 (.cond (.t 18)
 (.seq
 (.region [iI 6 (.mv (.c (.int .i64 0)))] false)
 .ret)
 .skip))
 (.seq
 (.seq
 (.region [iI 19 (.mv (.t 8)),iI 20 (.mv (.t 1)),iI 21 (.bin .lss (.t 19) (.t 20)),iI 22 (.mv (.t 21)),iG 23 22 false (.mv (.t 8)),iG 24 22 false (.mv (.t 2)),iG 25 22 false (.bin .gtr (.t 23) (.t 24)),iI 26 (.pick (.t 22) (.c (.bool true)) (.t 25))] false)
 (.cond (.t 26)
 (.seq
 (.region [iI 27 (.mv (.t 0)),iI 28 (.mv (.t 7)),iI 29 (.call 108 [(.t 27), (.t 28)])] false)
 (.seq
 (.region [iI 6 (.mv (.c (.int .i64 0)))] false)
 .ret))
 .skip))
 (.seq
 (.region [iI 30 (.mv (.t 8)),iI 6 (.mv (.t 30))] false)
 .ret))))))
def r71 : List ERes := [.t 6]
theorem c71 : chkF Tryz.prog Tryz.f71 3 e71 r71 = true := by kernel_rfl
def e72 : EC :=
 (.seq
 (.region [iI 2 (.alloc 66 [.int .i64 0, .int .i64 0, .str []])] false)
 (.seq
 (.region [iI 5 (.mv (.t 0)),iI 6 (.nilck (.t 5)),iI 7 (.faddr 1 (.t 6)),iI 8 (.load false 1 (.t 7)),iI 3 (.mv (.t 8))] false)
 (.seq
 (.region [iI 9 (.mv (.t 0)),iI 10 (.call 71 [(.t 9), (.c (.int .i64 1)), (.c (.int .i64 2))]),iI 11 (.build [.int .i64 0, .int .i64 0, .str []] [(0, 1, (.t 10))]),iI 4 (.alloc 66 [.int .i64 0, .int .i64 0, .str []]),iN (.store 3 (.t 4) (.t 11))] false)
 (.seq
 (.seq
 (.region [iI 12 (.faddr 0 (.t 4)),iI 13 (.load false 1 (.t 12)),iI 14 (.bin .eql (.t 13) (.c (.int .i64 1)))] false)
 (.cond (.t 14)
 (.region [iI 15 (.mv (.t 0)),iI 16 (.call 70 [(.t 15)]),iI 17 (.faddr 1 (.t 4)),iN (.store 1 (.t 17) (.t 16))] false)
 (.region [iI 18 (.mv (.t 0)),iI 19 (.call 69 [(.t 18), (.c (.int .i64 40))]),iI 20 (.faddr 2 (.t 4)),iN (.store 1 (.t 20) (.t 19))] false)))
 (.seq
 (.seq
 (.region [iI 21 (.mv (.t 0)),iI 22 (.nilck (.t 21)),iI 23 (.faddr 2 (.t 22)),iI 24 (.load false 1 (.t 23))] false)
 (.cond (.t 24)
 (.seq
 (.region [iI 25 (.mv (.t 0)),iI 26 (.mv (.t 3)),iI 27 (.call 108 [(.t 25), (.t 26)])] false)
 (.seq
 (.region [iI 28 (.build [.int .i64 0, .int .i64 0, .str []] []),iN (.store 3 (.t 2) (.t 28))] false)
 .ret))
 .skip))
 (.seq
 (.region [iI 29 (.load true 3 (.t 4)),iN (.store 3 (.t 2) (.t 29))] false)
 .ret))))))
def r72 : List ERes := [.cell true 3 2]
theorem c72 : chkF Tryz.prog Tryz.f72 1 e72 r72 = true := by kernel_rfl
def e73 : EC :=
 (.seq
 (.region [iI 2 (.mv (.c (.int .i64 0)))] false)
 (.seq
 (.seq
 (.region [iI 3 (.mv (.t 0)),iI 4 (.nilck (.t 3)),iI 5 (.faddr 2 (.t 4)),iI 6 (.load false 1 (.t 5)),iI 7 (.mv (.t 6)),iG 8 7 false (.mv (.t 0)),iG 9 7 false (.nilck (.t 8)),iG 10 7 false (.faddr 1 (.t 9)),iG 11 7 false (.load false 1 (.t 10)),iG 12 7 false (.mv (.t 0)),iG 13 7 false (.nilck (.t 12)),iG 14 7 false (.faddr 0 (.t 13)),iG 15 7 false (.load false 1 (.t 14)),iG 16 7 false (.len (.t 15)),iG 17 7 false (.bin .neq (.t 11) (.t 16)),iI 18 (.pick (.t 7) (.c (.bool true)) (.t 17))] true)
 (.cond (.t 18)
 (.seq
 (.region [iI 2 (.mv (.c (.int .i64 4)))] false)
 .ret)
 .skip))
 (.seq
 (.region [iI 2 (.mv (.c (.int .i64 0)))] false)
 .ret)))
def r73 : List ERes := [.t 2]
theorem c73 : chkF Tryz.prog Tryz.f73 1 e73 r73 = true := by kernel_rfl
def e79 : EC :=
 (.seq
 (.region [iI 2 (.box 64 (.t 0)),iI 3 (.box 66 (.t 1)),iI 4 (.mv (.c (.bool false)))] false)
 (.seq
 (.region [iI 6 (.load true 3 (.t 3)),iI 7 (.call 110 [(.t 6)]),iI 5 (.mv (.t 7))] false)
 (.seq
 (.region [iI 8 (.load true 3 (.t 2)),iI 9 (.call 111 [(.t 8)]),iI 10 (.mv (.t 9)),iG 11 10 true (.load true 3 (.t 3)),iG 12 10 true (.call 83 [(.t 11)]),iI 13 (.pick (.t 10) (.t 12) (.c (.bool false))),iI 14 (.mv (.t 13)),iG 15 14 true (.faddr 0 (.t 2)),iG 16 14 true (.load false 1 (.t 15)),iG 17 14 true (.faddr 0 (.t 3)),iG 18 14 true (.load false 1 (.t 17)),iG 19 14 true (.bin .eql (.t 16) (.t 18)),iI 20 (.pick (.t 14) (.t 19) (.c (.bool false))),iI 21 (.mv (.t 20)),iG 22 21 true (.mv (.t 5)),iG 23 21 true (.faddr 1 (.t 2)),iG 24 21 true (.load false 1 (.t 23)),iG 25 21 true (.bin .geq (.t 22) (.t 24)),iI 26 (.pick (.t 21) (.t 25) (.c (.bool false))),iI 27 (.mv (.t 26)),iG 28 27 true (.mv (.t 5)),iG 29 27 true (.faddr 2 (.t 2)),iG 30 27 true (.load false 1 (.t 29)),iG 31 27 true (.bin .leq (.t 28) (.t 30)),iI 32 (.pick (.t 27) (.t 31) (.c (.bool false))),iI 4 (.mv (.t 32))] false)
 .ret)))
def r79 : List ERes := [.t 4]
theorem c79 : chkF Tryz.prog Tryz.f79 2 e79 r79 = true := by kernel_rfl
def e83 : EC :=
 (.seq
 (.region [iI 1 (.box 66 (.t 0)),iI 2 (.mv (.c (.bool false)))] false)
 (.seq
 (.seq
 (.region [iI 3 (.faddr 0 (.t 1)),iI 4 (.load false 1 (.t 3))] false)
 (.block 0
 (.seq
 (.region [iI 6 (.bin .eql (.t 4) (.c (.int .i64 1))),iI 5 (.mv (.t 6))] false)
 (.cond (.t 5)
 (.seq
 (.region [iI 7 (.faddr 1 (.t 1)),iI 8 (.load false 1 (.t 7)),iI 9 (.bin .geq (.t 8) (.c (.int .i64 (-1000)))),iI 10 (.mv (.t 9)),iG 11 10 true (.faddr 1 (.t 1)),iG 12 10 true (.load false 1 (.t 11)),iG 13 10 true (.bin .leq (.t 12) (.c (.int .i64 1000))),iI 14 (.pick (.t 10) (.t 13) (.c (.bool false))),iI 15 (.mv (.t 14)),iG 16 15 true (.faddr 2 (.t 1)),iG 17 15 true (.load false 1 (.t 16)),iG 18 15 true (.bin .eql (.t 17) (.c (.str []))),iI 19 (.pick (.t 15) (.t 18) (.c (.bool false))),iI 2 (.mv (.t 19))] false)
 .ret)
 (.seq
 (.region [iI 21 (.bin .eql (.t 4) (.c (.int .i64 2))),iI 20 (.mv (.t 21))] false)
 (.cond (.t 20)
 (.seq
 (.region [iI 22 (.faddr 1 (.t 1)),iI 23 (.load false 1 (.t 22)),iI 24 (.bin .eql (.t 23) (.c (.int .i64 0))),iI 25 (.mv (.t 24)),iG 26 25 true (.faddr 2 (.t 1)),iG 27 25 true (.load false 1 (.t 26)),iG 28 25 true (.lenS (.t 27)),iG 29 25 true (.bin .leq (.t 28) (.c (.int .i64 40))),iI 30 (.pick (.t 25) (.t 29) (.c (.bool false))),iI 31 (.mv (.t 30)),iG 32 31 true (.faddr 2 (.t 1)),iG 33 31 true (.load false 1 (.t 32)),iG 34 31 true (.call 112 [(.t 33)]),iI 35 (.pick (.t 31) (.t 34) (.c (.bool false))),iI 2 (.mv (.t 35))] false)
 .ret)
 .skip))))))
 (.seq
 (.region [iI 2 (.mv (.c (.bool false)))] false)
 .ret)))
def r83 : List ERes := [.t 2]
theorem c83 : chkF Tryz.prog Tryz.f83 1 e83 r83 = true := by kernel_rfl
def e84 : EC :=
 (.seq
 (.region [iI 2 (.mv (.c (.bool false)))] false)
 (.seq
 (.region [iI 3 (.mv (.t 0)),iI 4 (.bin .geq (.t 3) (.c (.int .u8 97))),iI 5 (.mv (.t 4)),iG 6 5 true (.mv (.t 0)),iG 7 5 true (.bin .leq (.t 6) (.c (.int .u8 122))),iI 8 (.pick (.t 5) (.t 7) (.c (.bool false))),iI 9 (.mv (.t 8)),iG 10 9 false (.mv (.t 0)),iG 11 9 false (.bin .geq (.t 10) (.c (.int .u8 65))),iG 12 9 false (.mv (.t 11)),iG 13 12 true (.mv (.t 0)),iG 14 12 true (.bin .leq (.t 13) (.c (.int .u8 90))),iG 15 9 false (.pick (.t 12) (.t 14) (.c (.bool false))),iI 16 (.pick (.t 9) (.c (.bool true)) (.t 15)),iI 2 (.mv (.t 16))] false)
 .ret))
def r84 : List ERes := [.t 2]
theorem c84 : chkF Tryz.prog Tryz.f84 1 e84 r84 = true := by kernel_rfl
def e85 : EC :=
 (.seq
 (.region [iI 2 (.mv (.c (.bool false)))] false)
 (.seq
 (.region [iI 3 (.mv (.t 0)),iI 4 (.call 84 [(.t 3)]),iI 5 (.mv (.t 4)),iG 6 5 false (.mv (.t 0)),iG 7 5 false (.call 113 [(.t 6)]),iI 8 (.pick (.t 5) (.c (.bool true)) (.t 7)),iI 9 (.mv (.t 8)),iG 10 9 false (.mv (.t 0)),iG 11 9 false (.bin .eql (.t 10) (.c (.int .u8 95))),iI 12 (.pick (.t 9) (.c (.bool true)) (.t 11)),iI 2 (.mv (.t 12))] false)
 .ret))
def r85 : List ERes := [.t 2]
theorem c85 : chkF Tryz.prog Tryz.f85 1 e85 r85 = true := by kernel_rfl
def e86 : EC :=
 (.seq
 (.region [iI 2 (.box 64 (.t 0)),iI 3 (.box 66 (.t 1)),iI 4 (.mv (.c (.bool false)))] false)
 (.seq
 (.region [iI 5 (.load true 3 (.t 2)),iI 6 (.pcall 114 [(.t 5)]),iI 7 (.mv (.t 6)),iG 8 7 true (.load true 3 (.t 3)),iG 9 7 true (.pcall 56 [(.t 8)]),iI 10 (.pick (.t 7) (.t 9) (.c (.bool false))),iI 11 (.mv (.t 10)),iG 12 11 true (.faddr 0 (.t 2)),iG 13 11 true (.load false 1 (.t 12)),iG 14 11 true (.faddr 0 (.t 3)),iG 15 11 true (.load false 1 (.t 14)),iG 16 11 true (.bin .eql (.t 13) (.t 15)),iI 17 (.pick (.t 11) (.t 16) (.c (.bool false))),iI 18 (.mv (.t 17)),iG 19 18 true (.load true 3 (.t 3)),iG 20 18 true (.pcall 115 [(.t 19)]),iG 21 18 true (.faddr 1 (.t 2)),iG 22 18 true (.load false 1 (.t 21)),iG 23 18 true (.bin .geq (.t 20) (.t 22)),iI 24 (.pick (.t 18) (.t 23) (.c (.bool false))),iI 25 (.mv (.t 24)),iG 26 25 true (.load true 3 (.t 3)),iG 27 25 true (.pcall 115 [(.t 26)]),iG 28 25 true (.faddr 2 (.t 2)),iG 29 25 true (.load false 1 (.t 28)),iG 30 25 true (.bin .leq (.t 27) (.t 29)),iI 31 (.pick (.t 25) (.t 30) (.c (.bool false))),iI 4 (.mv (.t 31))] true)
 .ret))
def r86 : List ERes := [.t 4]
theorem c86 : chkF Tryz.prog Tryz.f86 2 e86 r86 = true := by kernel_rfl
def e91 : EC :=
 (.seq
 (.region [iI 2 (.alloc 66 [.int .i64 0, .int .i64 0, .str []]),iI 3 (.mv (.c (.int .i64 0))),iI 4 (.mv (.c (.int .i64 0)))] false)
 (.seq
 (.seq
 (.region [iI 10 (.mv (.t 0)),iI 11 (.call 119 [(.t 10)]),iI 5 (.mv (.t 11))] false)
 (.seq
 (.region [iI 12 (.mv (.t 5)),iI 13 (.bin .gtr (.t 12) (.c (.int .i64 0)))] false)
 (.cond (.t 13)
 (.seq
 (.region [iI 15 (.mv (.t 0)),iI 16 (.mv (.t 5)),iI 17 (.slS (.t 15) none (some (.t 16))),iI 18 (.call 50 [(.t 17)]),iI 14 (.mv (.t 18)),iI 19 (.extract 0 (.t 14)),iI 20 (.extract 1 (.t 14)),iI 6 (.mv (.t 19)),iI 7 (.mv (.t 20))] false)
 (.seq
 (.seq
 (.region [iI 21 (.mv (.t 7)),iI 22 (.bin .neq (.t 21) (.c (.raw .nilIface))),iI 23 (.mv (.t 22)),iG 24 23 false (.mv (.t 6)),iG 25 23 false (.bin .lss (.t 24) (.c (.int .i64 (-1000)))),iI 26 (.pick (.t 23) (.c (.bool true)) (.t 25)),iI 27 (.mv (.t 26)),iG 28 27 false (.mv (.t 6)),iG 29 27 false (.bin .gtr (.t 28) (.c (.int .i64 1000))),iI 30 (.pick (.t 27) (.c (.bool true)) (.t 29))] false)
 (.cond (.t 30)
 (.seq
 (.region [iI 31 (.build [.int .i64 0, .int .i64 0, .str []] []),iI 32 (.mv (.t 5)),iN (.store 3 (.t 2) (.t 31)),iI 3 (.mv (.t 32)),iI 4 (.mv (.c (.int .i64 2)))] false)
 .ret)
 .skip))
 (.seq
 (.region [iI 33 (.mv (.t 6)),iI 34 (.build [.int .i64 0, .int .i64 0, .str []] [(0, 1, (.c (.int .i64 1))), (1, 1, (.t 33))]),iI 35 (.mv (.t 5)),iN (.store 3 (.t 2) (.t 34)),iI 3 (.mv (.t 35)),iI 4 (.mv (.c (.int .i64 0)))] false)
 .ret)))
 .skip)))
 (.seq
 (.region [iI 37 (.mv (.t 0)),iI 38 (.call 120 [(.t 37)]),iI 36 (.mv (.t 38)),iI 39 (.extract 0 (.t 36)),iI 40 (.extract 1 (.t 36)),iI 8 (.mv (.t 39)),iI 9 (.mv (.t 40))] false)
 (.seq
 (.block 0
 (.seq
 (.region [iI 42 (.mv (.t 9)),iI 43 (.bin .eql (.t 42) (.c (.int .i64 0))),iI 41 (.mv (.t 43))] false)
 (.cond (.t 41)
 (.seq
 (.region [iI 44 (.build [.int .i64 0, .int .i64 0, .str []] []),iN (.store 3 (.t 2) (.t 44)),iI 3 (.mv (.c (.int .i64 0))),iI 4 (.mv (.c (.int .i64 3)))] false)
 .ret)
 (.seq
 (.region [iI 46 (.mv (.t 8)),iI 47 (.lenS (.t 46)),iI 48 (.bin .gtr (.t 47) (.c (.int .i64 40))),iI 45 (.mv (.t 48))] false)
 (.cond (.t 45)
 (.seq
 (.region [iI 49 (.build [.int .i64 0, .int .i64 0, .str []] []),iI 50 (.mv (.t 9)),iN (.store 3 (.t 2) (.t 49)),iI 3 (.mv (.t 50)),iI 4 (.mv (.c (.int .i64 2)))] false)
 .ret)
 .skip)))))
 (.seq
 (.region [iI 51 (.mv (.t 8)),iI 52 (.build [.int .i64 0, .int .i64 0, .str []] [(0, 1, (.c (.int .i64 2))), (2, 1, (.t 51))]),iI 53 (.mv (.t 9)),iN (.store 3 (.t 2) (.t 52)),iI 3 (.mv (.t 53)),iI 4 (.mv (.c (.int .i64 0)))] false)
 .ret)))))
def r91 : List ERes := [.cell true 3 2, .t 3, .t 4]
theorem c91 : chkF Tryz.prog Tryz.f91 1 e91 r91 = true := by kernel_rfl
def e95 : EC :=
 (.seq
 (.region [iI 2 (.mv (.c (.bool false)))] false)
 (.seq
 (.seq
 (.region [iI 3 (.mv (.c (.int .i64 0)))] false)
 (.block 0
 (.loop
 (.seq
 (.seq
 (.region [iI 4 (.mv (.t 3)),iI 5 (.mv (.t 0)),iI 6 (.lenS (.t 5)),iI 7 (.bin .lss (.t 4) (.t 6))] false)
 (.cond (.t 7)
 .skip
 (.exit 0)))
 (.seq
 (.block 1
 (.seq
 (.region [iI 10 (.mv (.t 0)),iI 11 (.mv (.t 3)),iI 12 (.idxS (.t 10) (.t 11)),iI 13 (.bin .lss (.t 12) (.c (.int .u8 32))),iI 14 (.mv (.t 13)),iG 15 14 false (.mv (.t 0)),iG 16 14 false (.mv (.t 3)),iG 17 14 false (.idxS (.t 15) (.t 16)),iG 18 14 false (.bin .gtr (.t 17) (.c (.int .u8 126))),iI 19 (.pick (.t 14) (.c (.bool true)) (.t 18))] false)
 (.cond (.t 19)
 (.seq
 (.region [iI 2 (.mv (.c (.bool false)))] false)
 .ret)
 .skip)))
 (.region [iI 8 (.mv (.t 3)),iI 9 (.bin .add (.t 8) (.c (.int .i64 1))),iI 3 (.mv (.t 9))] false))))))
 (.seq
 (.region [iI 2 (.mv (.c (.bool true)))] false)
 .ret)))
def r95 : List ERes := [.t 2]
theorem c95 : chkF Tryz.prog Tryz.f95 1 e95 r95 = true := by kernel_rfl
def e96 : EC :=
 (.seq
 (.region [iI 4 (.mv (.c (.nilS)))] false)
 (.seq
 (.region [iI 6 (.mv (.t 1)),iI 7 (.conv .u64 (.t 6)),iI 8 (.bin .shl (.t 7) (.c (.int .u64 1))),iI 9 (.mv (.t 1)),iI 10 (.bin .shr (.t 9) (.c (.int .u64 63))),iI 11 (.conv .u64 (.t 10)),iI 12 (.bin .xor (.t 8) (.t 11)),iI 5 (.mv (.t 12))] false)
 (.seq
 (.block 0
 (.loop
 (.seq
 (.seq
 (.region [iI 13 (.mv (.t 5)),iI 14 (.bin .geq (.t 13) (.c (.int .u64 128)))] false)
 (.cond (.t 14)
 .skip
 (.exit 0)))
 (.block 1
 (.seq
 (.region [iI 15 (.mv (.t 0)),iI 16 (.mv (.t 5)),iI 17 (.conv .u8 (.t 16)),iI 18 (.bin .or (.t 17) (.c (.int .u8 128))),iI 19 (.bslice 5 1 1 [.int .u8 0] [(0, (.t 18))]),iI 20 (.append 5 1 1 (.t 15) (.t 19)),iI 0 (.mv (.t 20))] false)
 (.region [iI 21 (.mv (.t 5)),iI 22 (.bin .shr (.t 21) (.c (.int .u64 7))),iI 5 (.mv (.t 22))] false))))))
 (.seq
 (.region [iI 23 (.mv (.t 0)),iI 24 (.mv (.t 5)),iI 25 (.conv .u8 (.t 24)),iI 26 (.bslice 5 1 1 [.int .u8 0] [(0, (.t 25))]),iI 27 (.append 5 1 1 (.t 23) (.t 26)),iI 4 (.mv (.t 27))] false)
 .ret))))
def r96 : List ERes := [.t 4]
theorem c96 : chkF Tryz.prog Tryz.f96 2 e96 r96 = true := by kernel_rfl
def e97 : EC :=
 (.seq
 (.region [iI 2 (.box 108 (.t 0)),iI 3 (.box 3 (.t 1)),iI 4 (.mv (.c (.nilS)))] false)
 (.seq
 (.region [iI 5 (.load false 1 (.t 2)),iI 6 (.mkfn 127 [(.t 2), (.t 3)]),iI 7 (.call 126 [(.t 5), (.t 6)]),iI 4 (.mv (.t 7))] false)
 .ret))
def r97 : List ERes := [.t 4]
theorem c97 : chkF Tryz.prog Tryz.f97 2 e97 r97 = true := by kernel_rfl
def e98 : EC :=
 (.seq
 (.region [iI 4 (.mv (.c (.int .i64 0)))] false)
 (.seq
 (.region [iI 5 (.mv (.c (.int .i64 0)))] false)
 (.seq
 (.seq
 (.region [iI 8 (.mv (.t 0)),iI 9 (.pnil false (.t 8)),iI 10 (.mv (.t 9)),iG 11 10 false (.mv (.t 0)),iG 12 10 false (.nilck (.t 11)),iG 13 10 false (.faddr 2 (.t 12)),iG 14 10 false (.load false 1 (.t 13)),iI 15 (.pick (.t 10) (.c (.bool true)) (.t 14))] false)
 (.cond (.t 15)
 (.seq
 (.region [iI 16 (.mv (.t 5)),iI 4 (.mv (.t 16))] false)
 .ret)
 .skip))
 (.seq
 (.region [iI 17 (.mv (.t 0)),iI 18 (.nilck (.t 17)),iI 19 (.faddr 1 (.t 18)),iI 20 (.load false 1 (.t 19)),iI 6 (.mv (.t 20))] false)
 (.seq
 (.region [iI 21 (.mv (.t 1)),iI 22 (.callv (.t 21) []),iI 7 (.mv (.t 22))] false)
 (.seq
 (.seq
 (.region [iI 23 (.mv (.t 0)),iI 24 (.nilck (.t 23)),iI 25 (.faddr 2 (.t 24)),iI 26 (.load false 1 (.t 25))] false)
 (.cond (.t 26)
 (.seq
 (.region [iI 27 (.mv (.t 0)),iI 28 (.mv (.t 6)),iI 29 (.nilck (.t 27)),iI 30 (.faddr 1 (.t 29)),iN (.store 1 (.t 30) (.t 28))] false)
 (.seq
 (.region [iI 31 (.mv (.t 5)),iI 4 (.mv (.t 31))] false)
 .ret))
 .skip))
 (.seq
 (.region [iI 32 (.mv (.t 7)),iI 4 (.mv (.t 32))] false)
 .ret)))))))
def r98 : List ERes := [.t 4]
theorem c98 : chkF Tryz.prog Tryz.f98 2 e98 r98 = true := by kernel_rfl
def e99 : EC :=
 (.seq
 (.region [iI 2 (.mv (.c (.int .i64 0)))] false)
 (.seq
 (.region [iI 3 (.mv (.c (.int .u64 0)))] false)
 (.seq
 (.seq
 (.region [iI 6 (.mv (.c (.int .i64 0)))] false)
 (.block 0
 (.loop
 (.seq
 (.region [iI 7 (.bin .lss (.t 6) (.c (.int .i64 10)))] false)
 (.seq
 (.cond (.t 7)
 .skip
 (.exit 0))
 (.seq
 (.block 1
 (.seq
 (.region [iI 8 (.mv (.t 6)),iI 4 (.mv (.t 8))] false)
 (.seq
 (.region [iI 9 (.mv (.t 0)),iI 10 (.call 129 [(.t 9), (.c (.int .i64 1))]),iI 5 (.mv (.t 10))] false)
 (.seq
 (.seq
 (.region [iI 11 (.mv (.t 0)),iI 12 (.nilck (.t 11)),iI 13 (.faddr 2 (.t 12)),iI 14 (.load false 1 (.t 13))] false)
 (.cond (.t 14)
 (.seq
 (.region [iI 2 (.mv (.c (.int .i64 0)))] false)
 .ret)
 .skip))
 (.seq
 (.region [iI 15 (.mv (.t 3)),iI 16 (.mv (.t 5)),iI 17 (.iaddr 1 (.t 16) (.c (.int .i64 0))),iI 18 (.load false 1 (.t 17)),iI 19 (.bin .and (.t 18) (.c (.int .u8 127))),iI 20 (.conv .u64 (.t 19)),iI 21 (.mv (.t 4)),iI 22 (.bin .mul (.c (.int .i64 7)) (.t 21)),iI 23 (.bin .shl (.t 20) (.t 22)),iI 24 (.bin .or (.t 15) (.t 23)),iI 3 (.mv (.t 24))] false)
 (.seq
 (.region [iI 25 (.mv (.t 5)),iI 26 (.iaddr 1 (.t 25) (.c (.int .i64 0))),iI 27 (.load false 1 (.t 26)),iI 28 (.bin .lss (.t 27) (.c (.int .u8 128)))] false)
 (.cond (.t 28)
 (.seq
 (.region [iI 29 (.mv (.t 0)),iI 30 (.mv (.t 5)),iI 31 (.iaddr 1 (.t 30) (.c (.int .i64 0))),iI 32 (.load false 1 (.t 31)),iI 33 (.bin .eql (.t 32) (.c (.int .u8 0))),iI 34 (.mv (.t 33)),iG 35 34 true (.mv (.t 4)),iG 36 34 true (.bin .gtr (.t 35) (.c (.int .i64 0))),iI 37 (.pick (.t 34) (.t 36) (.c (.bool false))),iI 38 (.mv (.t 37)),iG 39 38 false (.mv (.t 4)),iG 40 38 false (.bin .eql (.t 39) (.c (.int .i64 9))),iG 41 38 false (.mv (.t 40)),iG 42 41 true (.mv (.t 5)),iG 43 41 true (.iaddr 1 (.t 42) (.c (.int .i64 0))),iG 44 41 true (.load false 1 (.t 43)),iG 45 41 true (.bin .gtr (.t 44) (.c (.int .u8 1))),iG 46 38 false (.pick (.t 41) (.t 45) (.c (.bool false))),iI 47 (.pick (.t 38) (.c (.bool true)) (.t 46)),iI 48 (.nilck (.t 29)),iI 49 (.faddr 2 (.t 48)),iN (.store 1 (.t 49) (.t 47))] false)
 (.seq
 (.region [iI 50 (.mv (.t 3)),iI 51 (.bin .shr (.t 50) (.c (.int .u64 1))),iI 52 (.conv .i64 (.t 51)),iI 53 (.mv (.t 3)),iI 54 (.bin .and (.t 53) (.c (.int .u64 1))),iI 55 (.conv .i64 (.t 54)),iI 56 (.neg (.t 55)),iI 57 (.bin .xor (.t 52) (.t 56)),iI 2 (.mv (.t 57))] false)
 .ret))
 .skip)))))))
 (.region [iI 58 (.bin .add (.t 6) (.c (.int .i64 1))),iI 6 (.mv (.t 58))] false)))))))
 (.seq
 (.region [iI 59 (.mv (.t 0)),iI 60 (.nilck (.t 59)),iI 61 (.faddr 2 (.t 60)),iN (.store 1 (.t 61) (.c (.bool true)))] false)
 (.seq
 (.region [iI 2 (.mv (.c (.int .i64 0)))] false)
 .ret)))))
def r99 : List ERes := [.t 2]
theorem c99 : chkF Tryz.prog Tryz.f99 1 e99 r99 = true := by kernel_rfl
def e100 : EC :=
 (.seq
 (.region [iI 3 (.mv (.c (.int .i64 0)))] false)
 (.seq
 (.region [iI 4 (.load false 1 (.t 0)),iI 5 (.load false 1 (.t 1)),iI 6 (.load false 1 (.t 2)),iI 7 (.call 101 [(.t 4), (.t 5), (.t 6)]),iI 3 (.mv (.t 7))] false)
 .ret))
def r100 : List ERes := [.t 3]
theorem c100 : chkF Tryz.prog Tryz.f100 0 e100 r100 = true := by kernel_rfl
def e101 : EC :=
 (.seq
 (.region [iI 6 (.mv (.c (.int .i64 0)))] false)
 (.seq
 (.region [iI 8 (.mv (.t 0)),iI 9 (.call 99 [(.t 8)]),iI 7 (.mv (.t 9))] false)
 (.seq
 (.region [iI 10 (.mv (.t 0)),iI 11 (.mv (.t 0)),iI 12 (.nilck (.t 11)),iI 13 (.faddr 2 (.t 12)),iI 14 (.load false 1 (.t 13)),iI 15 (.mv (.t 14)),iG 16 15 false (.mv (.t 7)),iG 17 15 false (.mv (.t 1)),iG 18 15 false (.bin .lss (.t 16) (.t 17)),iI 19 (.pick (.t 15) (.c (.bool true)) (.t 18)),iI 20 (.mv (.t 19)),iG 21 20 false (.mv (.t 7)),iG 22 20 false (.mv (.t 2)),iG 23 20 false (.bin .gtr (.t 21) (.t 22)),iI 24 (.pick (.t 20) (.c (.bool true)) (.t 23)),iI 25 (.nilck (.t 10)),iI 26 (.faddr 2 (.t 25)),iN (.store 1 (.t 26) (.t 24))] false)
 (.seq
 (.region [iI 27 (.mv (.t 7)),iI 6 (.mv (.t 27))] false)
 .ret))))
def r101 : List ERes := [.t 6]
theorem c101 : chkF Tryz.prog Tryz.f101 3 e101 r101 = true := by kernel_rfl
def e102 : EC :=
 (.seq
 (.region [iI 4 (.alloc 66 [.int .i64 0, .int .i64 0, .str []])] false)
 (.seq
 (.region [iI 5 (.alloc 66 [.int .i64 0, .int .i64 0, .str []])] false)
 (.seq
 (.seq
 (.region [iI 8 (.mv (.t 0)),iI 9 (.pnil false (.t 8)),iI 10 (.mv (.t 9)),iG 11 10 false (.mv (.t 0)),iG 12 10 false (.nilck (.t 11)),iG 13 10 false (.faddr 2 (.t 12)),iG 14 10 false (.load false 1 (.t 13)),iI 15 (.pick (.t 10) (.c (.bool true)) (.t 14))] false)
 (.cond (.t 15)
 (.seq
 (.region [iI 16 (.load true 3 (.t 5)),iN (.store 3 (.t 4) (.t 16))] false)
 .ret)
 .skip))
 (.seq
 (.region [iI 17 (.mv (.t 0)),iI 18 (.nilck (.t 17)),iI 19 (.faddr 1 (.t 18)),iI 20 (.load false 1 (.t 19)),iI 6 (.mv (.t 20))] false)
 (.seq
 (.region [iI 21 (.mv (.t 1)),iI 22 (.callv (.t 21) []),iI 7 (.alloc 66 [.int .i64 0, .int .i64 0, .str []]),iN (.store 3 (.t 7) (.t 22))] false)
 (.seq
 (.seq
 (.region [iI 23 (.mv (.t 0)),iI 24 (.nilck (.t 23)),iI 25 (.faddr 2 (.t 24)),iI 26 (.load false 1 (.t 25))] false)
 (.cond (.t 26)
 (.seq
 (.region [iI 27 (.mv (.t 0)),iI 28 (.mv (.t 6)),iI 29 (.nilck (.t 27)),iI 30 (.faddr 1 (.t 29)),iN (.store 1 (.t 30) (.t 28))] false)
 (.seq
 (.region [iI 31 (.load true 3 (.t 5)),iN (.store 3 (.t 4) (.t 31))] false)
 .ret))
 .skip))
 (.seq
 (.region [iI 32 (.load true 3 (.t 7)),iN (.store 3 (.t 4) (.t 32))] false)
 .ret)))))))
def r102 : List ERes := [.cell true 3 4]
theorem c102 : chkF Tryz.prog Tryz.f102 2 e102 r102 = true := by kernel_rfl
def e103 : EC :=
 (.seq
 (.region [iI 2 (.alloc 66 [.int .i64 0, .int .i64 0, .str []])] false)
 (.seq
 (.region [iI 4 (.mv (.t 0)),iI 5 (.call 101 [(.t 4), (.c (.int .i64 1)), (.c (.int .i64 2))]),iI 6 (.build [.int .i64 0, .int .i64 0, .str []] [(0, 1, (.t 5))]),iI 3 (.alloc 66 [.int .i64 0, .int .i64 0, .str []]),iN (.store 3 (.t 3) (.t 6))] false)
 (.seq
 (.block 0
 (.seq
 (.region [iI 12 (.mv (.t 0)),iI 13 (.nilck (.t 12)),iI 14 (.faddr 2 (.t 13)),iI 15 (.load false 1 (.t 14)),iI 11 (.mv (.t 15))] false)
 (.cond (.t 11)
 .skip
 (.seq
 (.region [iI 17 (.faddr 0 (.t 3)),iI 18 (.load false 1 (.t 17)),iI 19 (.bin .eql (.t 18) (.c (.int .i64 1))),iI 16 (.mv (.t 19))] false)
 (.cond (.t 16)
 (.region [iI 20 (.mv (.t 0)),iI 21 (.call 99 [(.t 20)]),iI 22 (.faddr 1 (.t 3)),iN (.store 1 (.t 22) (.t 21))] false)
 (.region [iI 7 (.mv (.t 0)),iI 8 (.call 128 [(.t 7), (.c (.int .i64 40))]),iI 9 (.convS false (.t 8)),iI 10 (.faddr 2 (.t 3)),iN (.store 1 (.t 10) (.t 9))] false))))))
 (.seq
 (.region [iI 23 (.load true 3 (.t 3)),iN (.store 3 (.t 2) (.t 23))] false)
 .ret))))
def r103 : List ERes := [.cell true 3 2]
theorem c103 : chkF Tryz.prog Tryz.f103 1 e103 r103 = true := by kernel_rfl
def e104 : EC :=
 (.seq
 (.region [iI 2 (.mv (.c (.int .i64 0)))] false)
 (.seq
 (.seq
 (.region [iI 3 (.mv (.t 0)),iI 4 (.pnil false (.t 3))] false)
 (.cond (.t 4)
 (.seq
 (.region [iI 2 (.mv (.c (.int .i64 0)))] false)
 .ret)
 .skip))
 (.seq
 (.region [iI 5 (.mv (.t 0)),iI 6 (.nilck (.t 5)),iI 7 (.faddr 0 (.t 6)),iI 8 (.load false 1 (.t 7)),iI 9 (.len (.t 8)),iI 10 (.mv (.t 0)),iI 11 (.nilck (.t 10)),iI 12 (.faddr 1 (.t 11)),iI 13 (.load false 1 (.t 12)),iI 14 (.bin .sub (.t 9) (.t 13)),iI 2 (.mv (.t 14))] true)
 .ret)))
def r104 : List ERes := [.t 2]
theorem c104 : chkF Tryz.prog Tryz.f104 1 e104 r104 = true := by kernel_rfl
def e105 : EC :=
 (.seq
 (.region [iI 2 (.mv (.c (.nilS)))] false)
 (.seq
 (.region [iI 3 (.mv (.t 0)),iI 4 (.len (.t 3)),iI 5 (.call 106 [(.t 4)]),iI 6 (.mv (.t 0)),iI 7 (.append 5 1 1 (.t 5) (.t 6)),iI 2 (.mv (.t 7))] false)
 .ret))
def r105 : List ERes := [.t 2]
theorem c105 : chkF Tryz.prog Tryz.f105 1 e105 r105 = true := by kernel_rfl
def e106 : EC :=
 (.seq
 (.region [iI 2 (.mv (.c (.nilS)))] false)
 (.seq
 (.region [iI 5 (.mv (.t 0)),iI 6 (.conv .u64 (.t 5)),iI 7 (.bin .mul (.t 6) (.c (.int .u64 2))),iI 3 (.mv (.t 7))] false)
 (.seq
 (.seq
 (.region [iI 8 (.mv (.t 0)),iI 9 (.bin .lss (.t 8) (.c (.int .i64 0)))] false)
 (.cond (.t 9)
 (.region [iI 10 (.mv (.t 0)),iI 11 (.bin .add (.t 10) (.c (.int .i64 1))),iI 12 (.neg (.t 11)),iI 13 (.conv .u64 (.t 12)),iI 14 (.bin .mul (.t 13) (.c (.int .u64 2))),iI 15 (.bin .add (.t 14) (.c (.int .u64 1))),iI 3 (.mv (.t 15))] false)
 .skip))
 (.seq
 (.region [iI 4 (.mv (.c (.nilS)))] false)
 (.seq
 (.block 0
 (.loop
 (.seq
 (.seq
 (.region [iI 16 (.mv (.t 3)),iI 17 (.bin .geq (.t 16) (.c (.int .u64 128)))] false)
 (.cond (.t 17)
 .skip
 (.exit 0)))
 (.block 1
 (.seq
 (.region [iI 18 (.mv (.t 4)),iI 19 (.mv (.t 3)),iI 20 (.bin .rem (.t 19) (.c (.int .u64 128))),iI 21 (.conv .u8 (.t 20)),iI 22 (.bin .add (.t 21) (.c (.int .u8 128))),iI 23 (.bslice 5 1 1 [.int .u8 0] [(0, (.t 22))]),iI 24 (.append 5 1 1 (.t 18) (.t 23)),iI 4 (.mv (.t 24))] false)
 (.region [iI 25 (.mv (.t 3)),iI 26 (.bin .quo (.t 25) (.c (.int .u64 128))),iI 3 (.mv (.t 26))] false))))))
 (.seq
 (.region [iI 27 (.mv (.t 4)),iI 28 (.mv (.t 3)),iI 29 (.conv .u8 (.t 28)),iI 30 (.bslice 5 1 1 [.int .u8 0] [(0, (.t 29))]),iI 31 (.append 5 1 1 (.t 27) (.t 30)),iI 2 (.mv (.t 31))] false)
 .ret))))))
def r106 : List ERes := [.t 2]
theorem c106 : chkF Tryz.prog Tryz.f106 1 e106 r106 = true := by kernel_rfl
def e107 : EC :=
 (.seq
 (.region [iI 4 (.mv (.c (.nilS)))] false)
 (.seq
 (.region [iI 7 (.mv (.t 0)),iI 8 (.nilck (.t 7)),iI 9 (.faddr 1 (.t 8)),iI 10 (.load false 1 (.t 9)),iI 5 (.mv (.t 10))] false)
 (.seq
 (.region [iI 11 (.mv (.t 0)),iI 12 (.mv (.t 1)),iI 13 (.call 71 [(.t 11), (.c (.int .i64 0)), (.t 12)]),iI 6 (.mv (.t 13))] false)
 (.seq
 (.seq
 (.region [iI 14 (.mv (.t 0)),iI 15 (.nilck (.t 14)),iI 16 (.faddr 2 (.t 15)),iI 17 (.load false 1 (.t 16)),iI 18 (.mv (.t 17)),iG 19 18 false (.mv (.t 6)),iG 20 18 false (.mv (.t 0)),iG 21 18 false (.nilck (.t 20)),iG 22 18 false (.faddr 0 (.t 21)),iG 23 18 false (.load false 1 (.t 22)),iG 24 18 false (.len (.t 23)),iG 25 18 false (.mv (.t 0)),iG 26 18 false (.nilck (.t 25)),iG 27 18 false (.faddr 1 (.t 26)),iG 28 18 false (.load false 1 (.t 27)),iG 29 18 false (.bin .sub (.t 24) (.t 28)),iG 30 18 false (.bin .gtr (.t 19) (.t 29)),iI 31 (.pick (.t 18) (.c (.bool true)) (.t 30))] true)
 (.cond (.t 31)
 (.seq
 (.region [iI 32 (.mv (.t 0)),iI 33 (.mv (.t 5)),iI 34 (.call 108 [(.t 32), (.t 33)])] false)
 (.seq
 (.region [iI 4 (.mv (.c (.nilS)))] false)
 .ret))
 .skip))
 (.seq
 (.region [iI 35 (.mv (.t 0)),iI 36 (.nilck (.t 35)),iI 37 (.faddr 1 (.t 36)),iI 38 (.load false 1 (.t 37)),iI 39 (.mv (.t 6)),iI 40 (.bin .add (.t 38) (.t 39)),iI 41 (.nilck (.t 35)),iI 42 (.faddr 1 (.t 41)),iN (.store 1 (.t 42) (.t 40))] false)
 (.seq
 (.region [iI 43 (.bsliceO 5 1 0 [.int .u8 0] []),iI 44 (.mv (.t 0)),iI 45 (.nilck (.t 44)),iI 46 (.faddr 0 (.t 45)),iI 47 (.load false 1 (.t 46)),iI 48 (.mv (.t 0)),iI 49 (.nilck (.t 48)),iI 50 (.faddr 1 (.t 49)),iI 51 (.load false 1 (.t 50)),iI 52 (.mv (.t 6)),iI 53 (.bin .sub (.t 51) (.t 52)),iI 54 (.mv (.t 0)),iI 55 (.nilck (.t 54)),iI 56 (.faddr 1 (.t 55)),iI 57 (.load false 1 (.t 56)),iI 58 (.slV 1 (.t 47) (some (.t 53)) (some (.t 57)) none),iI 59 (.append 5 1 1 (.t 43) (.t 58)),iI 4 (.mv (.t 59))] true)
 .ret))))))
def r107 : List ERes := [.t 4]
theorem c107 : chkF Tryz.prog Tryz.f107 2 e107 r107 = true := by kernel_rfl
def e108 : EC :=
 (.region [iI 4 (.mv (.t 0)),iI 5 (.mv (.t 0)),iI 6 (.mv (.t 1)),iI 7 (.nilck (.t 4)),iI 8 (.faddr 1 (.t 7)),iN (.store 1 (.t 8) (.t 6)),iI 9 (.nilck (.t 5)),iI 10 (.faddr 2 (.t 9)),iN (.store 1 (.t 10) (.c (.bool true)))] false)
def r108 : List ERes := []
theorem c108 : chkF Tryz.prog Tryz.f108 2 e108 r108 = true := by kernel_rfl
def e109 : EC :=
 (.seq
 (.region [iI 2 (.mv (.c (.bool false)))] false)
 (.seq
 (.region [iI 3 (.mv (.t 0)),iI 4 (.bin .leq (.c (.int .u8 48)) (.t 3)),iI 5 (.mv (.t 4)),iG 6 5 true (.mv (.t 0)),iG 7 5 true (.bin .leq (.t 6) (.c (.int .u8 57))),iI 8 (.pick (.t 5) (.t 7) (.c (.bool false))),iI 2 (.mv (.t 8))] false)
 .ret))
def r109 : List ERes := [.t 2]
theorem c109 : chkF Tryz.prog Tryz.f109 1 e109 r109 = true := by kernel_rfl
def e110 : EC :=
 (.seq
 (.region [iI 1 (.box 66 (.t 0)),iI 2 (.mv (.c (.int .i64 0)))] false)
 (.seq
 (.seq
 (.region [iI 3 (.faddr 0 (.t 1)),iI 4 (.load false 1 (.t 3))] false)
 (.block 0
 (.seq
 (.region [iI 6 (.bin .eql (.t 4) (.c (.int .i64 1))),iI 5 (.mv (.t 6))] false)
 (.cond (.t 5)
 (.seq
 (.region [iI 7 (.faddr 1 (.t 1)),iI 8 (.load false 1 (.t 7)),iI 2 (.mv (.t 8))] false)
 .ret)
 (.seq
 (.region [iI 10 (.bin .eql (.t 4) (.c (.int .i64 2))),iI 9 (.mv (.t 10))] false)
 (.cond (.t 9)
 (.seq
 (.region [iI 11 (.faddr 2 (.t 1)),iI 12 (.load false 1 (.t 11)),iI 13 (.lenS (.t 12)),iI 2 (.mv (.t 13))] false)
 .ret)
 .skip))))))
 (.seq
 (.region [iI 2 (.mv (.c (.int .i64 0)))] false)
 .ret)))
def r110 : List ERes := [.t 2]
theorem c110 : chkF Tryz.prog Tryz.f110 1 e110 r110 = true := by kernel_rfl
def e111 : EC :=
 (.seq
 (.region [iI 1 (.box 64 (.t 0)),iI 2 (.mv (.c (.bool false)))] false)
 (.seq
 (.region [iI 3 (.mv (.c (.int .i64 0))),iI 4 (.mv (.c (.int .i64 0)))] false)
 (.seq
 (.seq
 (.region [iI 5 (.faddr 0 (.t 1)),iI 6 (.load false 1 (.t 5))] false)
 (.block 0
 (.seq
 (.region [iI 8 (.bin .eql (.t 6) (.c (.int .i64 1))),iI 7 (.mv (.t 8))] false)
 (.cond (.t 7)
 (.region [iI 3 (.mv (.c (.int .i64 (-1000)))),iI 4 (.mv (.c (.int .i64 1000)))] false)
 (.seq
 (.region [iI 10 (.bin .eql (.t 6) (.c (.int .i64 2))),iI 9 (.mv (.t 10))] false)
 (.cond (.t 9)
 (.region [iI 3 (.mv (.c (.int .i64 0))),iI 4 (.mv (.c (.int .i64 40)))] false)
 (.seq
 (.region [iI 2 (.mv (.c (.bool false)))] false)
 .ret)))))))
 (.seq
 (.region [iI 11 (.mv (.t 3)),iI 12 (.faddr 1 (.t 1)),iI 13 (.load false 1 (.t 12)),iI 14 (.bin .leq (.t 11) (.t 13)),iI 15 (.mv (.t 14)),iG 16 15 true (.faddr 1 (.t 1)),iG 17 15 true (.load false 1 (.t 16)),iG 18 15 true (.faddr 2 (.t 1)),iG 19 15 true (.load false 1 (.t 18)),iG 20 15 true (.bin .leq (.t 17) (.t 19)),iI 21 (.pick (.t 15) (.t 20) (.c (.bool false))),iI 22 (.mv (.t 21)),iG 23 22 true (.faddr 2 (.t 1)),iG 24 22 true (.load false 1 (.t 23)),iG 25 22 true (.mv (.t 4)),iG 26 22 true (.bin .leq (.t 24) (.t 25)),iI 27 (.pick (.t 22) (.t 26) (.c (.bool false))),iI 2 (.mv (.t 27))] false)
 .ret))))
def r111 : List ERes := [.t 2]
theorem c111 : chkF Tryz.prog Tryz.f111 1 e111 r111 = true := by kernel_rfl
def e112 : EC :=
 (.seq
 (.region [iI 2 (.mv (.c (.bool false)))] false)
 (.seq
 (.region [iI 3 (.mv (.t 0)),iI 4 (.call 130 [(.t 3), (.c (.fn 131 []))]),iI 5 (.not (.t 4)),iI 2 (.mv (.t 5))] false)
 .ret))
def r112 : List ERes := [.t 2]
theorem c112 : chkF Tryz.prog Tryz.f112 1 e112 r112 = true := by kernel_rfl
def e113 : EC :=
 (.seq
 (.region [iI 2 (.mv (.c (.bool false)))] false)
 (.seq
 (.region [iI 3 (.mv (.t 0)),iI 4 (.bin .geq (.t 3) (.c (.int .u8 48))),iI 5 (.mv (.t 4)),iG 6 5 true (.mv (.t 0)),iG 7 5 true (.bin .leq (.t 6) (.c (.int .u8 57))),iI 8 (.pick (.t 5) (.t 7) (.c (.bool false))),iI 2 (.mv (.t 8))] false)
 .ret))
def r113 : List ERes := [.t 2]
theorem c113 : chkF Tryz.prog Tryz.f113 1 e113 r113 = true := by kernel_rfl
def e114 : EC :=
 (.seq
 (.region [iI 1 (.box 64 (.t 0)),iI 2 (.mv (.c (.bool false)))] false)
 (.seq
 (.seq
 (.region [iI 3 (.faddr 0 (.t 1)),iI 4 (.load false 1 (.t 3))] false)
 (.block 0
 (.seq
 (.region [iI 6 (.bin .eql (.t 4) (.c (.int .i64 1))),iI 5 (.mv (.t 6))] false)
 (.cond (.t 5)
 (.seq
 (.region [iI 7 (.faddr 1 (.t 1)),iI 8 (.load false 1 (.t 7)),iI 9 (.bin .leq (.c (.int .i64 (-1000))) (.t 8)),iI 10 (.mv (.t 9)),iG 11 10 true (.faddr 1 (.t 1)),iG 12 10 true (.load false 1 (.t 11)),iG 13 10 true (.faddr 2 (.t 1)),iG 14 10 true (.load false 1 (.t 13)),iG 15 10 true (.bin .leq (.t 12) (.t 14)),iI 16 (.pick (.t 10) (.t 15) (.c (.bool false))),iI 17 (.mv (.t 16)),iG 18 17 true (.faddr 2 (.t 1)),iG 19 17 true (.load false 1 (.t 18)),iG 20 17 true (.bin .leq (.t 19) (.c (.int .i64 1000))),iI 21 (.pick (.t 17) (.t 20) (.c (.bool false))),iI 2 (.mv (.t 21))] false)
 .ret)
 (.seq
 (.region [iI 23 (.bin .eql (.t 4) (.c (.int .i64 2))),iI 22 (.mv (.t 23))] false)
 (.cond (.t 22)
 (.seq
 (.region [iI 24 (.faddr 1 (.t 1)),iI 25 (.load false 1 (.t 24)),iI 26 (.bin .leq (.c (.int .i64 0)) (.t 25)),iI 27 (.mv (.t 26)),iG 28 27 true (.faddr 1 (.t 1)),iG 29 27 true (.load false 1 (.t 28)),iG 30 27 true (.faddr 2 (.t 1)),iG 31 27 true (.load false 1 (.t 30)),iG 32 27 true (.bin .leq (.t 29) (.t 31)),iI 33 (.pick (.t 27) (.t 32) (.c (.bool false))),iI 34 (.mv (.t 33)),iG 35 34 true (.faddr 2 (.t 1)),iG 36 34 true (.load false 1 (.t 35)),iG 37 34 true (.bin .leq (.t 36) (.c (.int .i64 40))),iI 38 (.pick (.t 34) (.t 37) (.c (.bool false))),iI 2 (.mv (.t 38))] false)
 .ret)
 .skip))))))
 (.seq
 (.region [iI 2 (.mv (.c (.bool false)))] false)
 .ret)))
def r114 : List ERes := [.t 2]
theorem c114 : chkF Tryz.prog Tryz.f114 1 e114 r114 = true := by kernel_rfl
def e115 : EC :=
 (.seq
 (.region [iI 1 (.box 66 (.t 0)),iI 2 (.mv (.c (.int .i64 0)))] false)
 (.seq
 (.seq
 (.region [iI 3 (.faddr 0 (.t 1)),iI 4 (.load false 1 (.t 3))] false)
 (.block 0
 (.seq
 (.region [iI 6 (.bin .eql (.t 4) (.c (.int .i64 1))),iI 5 (.mv (.t 6))] false)
 (.cond (.t 5)
 (.seq
 (.region [iI 7 (.faddr 1 (.t 1)),iI 8 (.load false 1 (.t 7)),iI 2 (.mv (.t 8))] false)
 .ret)
 (.seq
 (.region [iI 10 (.bin .eql (.t 4) (.c (.int .i64 2))),iI 9 (.mv (.t 10))] false)
 (.cond (.t 9)
 (.seq
 (.region [iI 11 (.faddr 2 (.t 1)),iI 12 (.load false 1 (.t 11)),iI 13 (.lenS (.t 12)),iI 2 (.mv (.t 13))] false)
 .ret)
 .skip))))))
 (.seq
 (.region [iI 2 (.mv (.c (.int .i64 0)))] false)
 .ret)))
def r115 : List ERes := [.t 2]
theorem c115 : chkF Tryz.prog Tryz.f115 1 e115 r115 = true := by kernel_rfl
def e119 : EC :=
 (.seq
 (.region [iI 2 (.mv (.c (.int .i64 0)))] false)
 (.seq
 (.region [iI 3 (.mv (.c (.int .i64 0)))] false)
 (.seq
 (.seq
 (.region [iI 6 (.mv (.t 0)),iI 7 (.call 141 [(.t 6), (.c (.str [45]))])] false)
 (.cond (.t 7)
 (.region [iI 3 (.mv (.c (.int .i64 1)))] false)
 .skip))
 (.seq
 (.region [iI 8 (.mv (.t 3)),iI 4 (.mv (.t 8))] false)
 (.seq
 (.block 0
 (.loop
 (.seq
 (.seq
 (.region [iI 9 (.mv (.t 4)),iI 10 (.mv (.t 0)),iI 11 (.lenS (.t 10)),iI 12 (.bin .lss (.t 9) (.t 11)),iI 13 (.mv (.t 12)),iG 14 13 true (.mv (.t 0)),iG 15 13 true (.mv (.t 4)),iG 16 13 true (.idxS (.t 14) (.t 15)),iG 17 13 true (.bin .geq (.t 16) (.c (.int .u8 48))),iI 18 (.pick (.t 13) (.t 17) (.c (.bool false))),iI 19 (.mv (.t 18)),iG 20 19 true (.mv (.t 0)),iG 21 19 true (.mv (.t 4)),iG 22 19 true (.idxS (.t 20) (.t 21)),iG 23 19 true (.bin .leq (.t 22) (.c (.int .u8 57))),iI 24 (.pick (.t 19) (.t 23) (.c (.bool false)))] false)
 (.cond (.t 24)
 .skip
 (.exit 0)))
 (.block 1
 (.region [iI 25 (.mv (.t 4)),iI 26 (.bin .add (.t 25) (.c (.int .i64 1))),iI 4 (.mv (.t 26))] false)))))
 (.seq
 (.region [iI 27 (.mv (.t 0)),iI 28 (.mv (.t 3)),iI 29 (.mv (.t 4)),iI 30 (.slS (.t 27) (some (.t 28)) (some (.t 29))),iI 5 (.mv (.t 30))] false)
 (.seq
 (.seq
 (.region [iI 31 (.mv (.t 5)),iI 32 (.bin .eql (.t 31) (.c (.str []))),iI 33 (.mv (.t 32)),iG 34 33 false (.mv (.t 5)),iG 35 33 false (.idxS (.t 34) (.c (.int .i64 0))),iG 36 33 false (.bin .eql (.t 35) (.c (.int .u8 48))),iG 37 33 false (.mv (.t 36)),iG 38 37 true (.mv (.t 5)),iG 39 37 true (.lenS (.t 38)),iG 40 37 true (.bin .gtr (.t 39) (.c (.int .i64 1))),iG 41 37 true (.mv (.t 40)),iG 42 41 false (.mv (.t 3)),iG 43 41 false (.bin .eql (.t 42) (.c (.int .i64 1))),iG 44 37 true (.pick (.t 41) (.c (.bool true)) (.t 43)),iG 45 33 false (.pick (.t 37) (.t 44) (.c (.bool false))),iI 46 (.pick (.t 33) (.c (.bool true)) (.t 45))] false)
 (.cond (.t 46)
 (.seq
 (.region [iI 2 (.mv (.c (.int .i64 0)))] false)
 .ret)
 .skip))
 (.seq
 (.region [iI 47 (.mv (.t 4)),iI 2 (.mv (.t 47))] false)
 .ret))))))))
def r119 : List ERes := [.t 2]
theorem c119 : chkF Tryz.prog Tryz.f119 1 e119 r119 = true := by kernel_rfl
def e126 : EC :=
 (.seq
 (.region [iI 4 (.mv (.c (.nilS)))] false)
 (.seq
 (.region [iI 5 (.mv (.c (.nilS)))] false)
 (.seq
 (.seq
 (.region [iI 8 (.mv (.t 0)),iI 9 (.pnil false (.t 8)),iI 10 (.mv (.t 9)),iG 11 10 false (.mv (.t 0)),iG 12 10 false (.nilck (.t 11)),iG 13 10 false (.faddr 2 (.t 12)),iG 14 10 false (.load false 1 (.t 13)),iI 15 (.pick (.t 10) (.c (.bool true)) (.t 14))] false)
 (.cond (.t 15)
 (.seq
 (.region [iI 16 (.mv (.t 5)),iI 4 (.mv (.t 16))] false)
 .ret)
 .skip))
 (.seq
 (.region [iI 17 (.mv (.t 0)),iI 18 (.nilck (.t 17)),iI 19 (.faddr 1 (.t 18)),iI 20 (.load false 1 (.t 19)),iI 6 (.mv (.t 20))] false)
 (.seq
 (.region [iI 21 (.mv (.t 1)),iI 22 (.callv (.t 21) []),iI 7 (.mv (.t 22))] false)
 (.seq
 (.seq
 (.region [iI 23 (.mv (.t 0)),iI 24 (.nilck (.t 23)),iI 25 (.faddr 2 (.t 24)),iI 26 (.load false 1 (.t 25))] false)
 (.cond (.t 26)
 (.seq
 (.region [iI 27 (.mv (.t 0)),iI 28 (.mv (.t 6)),iI 29 (.nilck (.t 27)),iI 30 (.faddr 1 (.t 29)),iN (.store 1 (.t 30) (.t 28))] false)
 (.seq
 (.region [iI 31 (.mv (.t 5)),iI 4 (.mv (.t 31))] false)
 .ret))
 .skip))
 (.seq
 (.region [iI 32 (.mv (.t 7)),iI 4 (.mv (.t 32))] false)
 .ret)))))))
def r126 : List ERes := [.t 4]
theorem c126 : chkF Tryz.prog Tryz.f126 2 e126 r126 = true := by kernel_rfl
def e127 : EC :=
 (.seq
 (.region [iI 2 (.mv (.c (.nilS)))] false)
 (.seq
 (.region [iI 3 (.load false 1 (.t 0)),iI 4 (.load false 1 (.t 1)),iI 5 (.call 128 [(.t 3), (.t 4)]),iI 6 (.append 5 1 1 (.c (.nilS)) (.t 5)),iI 2 (.mv (.t 6))] false)
 .ret))
def r127 : List ERes := [.t 2]
theorem c127 : chkF Tryz.prog Tryz.f127 0 e127 r127 = true := by kernel_rfl
def e128 : EC :=
 (.seq
 (.region [iI 4 (.mv (.c (.nilS)))] false)
 (.seq
 (.region [iI 6 (.mv (.t 0)),iI 7 (.mv (.t 1)),iI 8 (.call 101 [(.t 6), (.c (.int .i64 0)), (.t 7)]),iI 5 (.mv (.t 8))] false)
 (.seq
 (.seq
 (.region [iI 9 (.mv (.t 0)),iI 10 (.nilck (.t 9)),iI 11 (.faddr 2 (.t 10)),iI 12 (.load false 1 (.t 11))] false)
 (.cond (.t 12)
 (.seq
 (.region [iI 4 (.mv (.c (.nilS)))] false)
 .ret)
 .skip))
 (.seq
 (.region [iI 13 (.mv (.t 0)),iI 14 (.mv (.t 5)),iI 15 (.call 129 [(.t 13), (.t 14)]),iI 4 (.mv (.t 15))] false)
 .ret))))
def r128 : List ERes := [.t 4]
theorem c128 : chkF Tryz.prog Tryz.f128 2 e128 r128 = true := by kernel_rfl
def e129 : EC :=
 (.seq
 (.region [iI 4 (.mv (.c (.nilS)))] false)
 (.seq
 (.seq
 (.region [iI 5 (.mv (.t 0)),iI 6 (.nilck (.t 5)),iI 7 (.faddr 2 (.t 6)),iI 8 (.load false 1 (.t 7)),iI 9 (.mv (.t 8)),iG 10 9 false (.mv (.t 1)),iG 11 9 false (.mv (.t 0)),iG 12 9 false (.nilck (.t 11)),iG 13 9 false (.faddr 0 (.t 12)),iG 14 9 false (.load false 1 (.t 13)),iG 15 9 false (.len (.t 14)),iG 16 9 false (.mv (.t 0)),iG 17 9 false (.nilck (.t 16)),iG 18 9 false (.faddr 1 (.t 17)),iG 19 9 false (.load false 1 (.t 18)),iG 20 9 false (.bin .sub (.t 15) (.t 19)),iG 21 9 false (.bin .gtr (.t 10) (.t 20)),iI 22 (.pick (.t 9) (.c (.bool true)) (.t 21))] true)
 (.cond (.t 22)
 (.seq
 (.region [iI 23 (.mv (.t 0)),iI 24 (.nilck (.t 23)),iI 25 (.faddr 2 (.t 24)),iN (.store 1 (.t 25) (.c (.bool true)))] false)
 (.seq
 (.region [iI 4 (.mv (.c (.nilS)))] false)
 .ret))
 .skip))
 (.seq
 (.region [iI 26 (.mv (.t 0)),iI 27 (.nilck (.t 26)),iI 28 (.faddr 1 (.t 27)),iI 29 (.load false 1 (.t 28)),iI 30 (.mv (.t 1)),iI 31 (.bin .add (.t 29) (.t 30)),iI 32 (.nilck (.t 26)),iI 33 (.faddr 1 (.t 32)),iN (.store 1 (.t 33) (.t 31))] false)
 (.seq
 (.region [iI 34 (.mv (.t 0)),iI 35 (.nilck (.t 34)),iI 36 (.faddr 0 (.t 35)),iI 37 (.load false 1 (.t 36)),iI 38 (.mv (.t 0)),iI 39 (.nilck (.t 38)),iI 40 (.faddr 1 (.t 39)),iI 41 (.load false 1 (.t 40)),iI 42 (.mv (.t 1)),iI 43 (.bin .sub (.t 41) (.t 42)),iI 44 (.mv (.t 0)),iI 45 (.nilck (.t 44)),iI 46 (.faddr 1 (.t 45)),iI 47 (.load false 1 (.t 46)),iI 48 (.slV 1 (.t 37) (some (.t 43)) (some (.t 47)) none),iI 4 (.mv (.t 48))] true)
 .ret))))
def r129 : List ERes := [.t 4]
theorem c129 : chkF Tryz.prog Tryz.f129 2 e129 r129 = true := by kernel_rfl
def e130 : EC :=
 (.seq
 (.region [iI 4 (.mv (.c (.bool false)))] false)
 (.seq
 (.region [iI 5 (.mv (.t 0)),iI 6 (.mv (.t 1)),iI 7 (.call 145 [(.t 5), (.t 6)]),iI 8 (.bin .geq (.t 7) (.c (.int .i64 0))),iI 4 (.mv (.t 8))] false)
 .ret))
def r130 : List ERes := [.t 4]
theorem c130 : chkF Tryz.prog Tryz.f130 2 e130 r130 = true := by kernel_rfl
def e131 : EC :=
 (.seq
 (.region [iI 2 (.mv (.c (.bool false)))] false)
 (.seq
 (.region [iI 3 (.mv (.t 0)),iI 4 (.bin .lss (.t 3) (.c (.int .i32 32))),iI 5 (.mv (.t 4)),iG 6 5 false (.mv (.t 0)),iG 7 5 false (.bin .gtr (.t 6) (.c (.int .i32 126))),iI 8 (.pick (.t 5) (.c (.bool true)) (.t 7)),iI 2 (.mv (.t 8))] false)
 .ret))
def r131 : List ERes := [.t 2]
theorem c131 : chkF Tryz.prog Tryz.f131 1 e131 r131 = true := by kernel_rfl
def e141 : EC :=
 (.seq
 (.region [iI 4 (.mv (.c (.bool false)))] false)
 (.seq
 (.region [iI 5 (.mv (.t 0)),iI 6 (.mv (.t 1)),iI 7 (.call 153 [(.t 5), (.t 6)]),iI 4 (.mv (.t 7))] false)
 .ret))
def r141 : List ERes := [.t 4]
theorem c141 : chkF Tryz.prog Tryz.f141 2 e141 r141 = true := by kernel_rfl
def e145 : EC :=
 (.seq
 (.region [iI 4 (.mv (.c (.int .i64 0)))] false)
 (.seq
 (.region [iI 5 (.mv (.t 0)),iI 6 (.mv (.t 1)),iI 7 (.call 156 [(.t 5), (.t 6), (.c (.bool true))]),iI 4 (.mv (.t 7))] false)
 .ret))
def r145 : List ERes := [.t 4]
theorem c145 : chkF Tryz.prog Tryz.f145 2 e145 r145 = true := by kernel_rfl
def e153 : EC :=
 (.seq
 (.region [iI 4 (.mv (.c (.bool false)))] false)
 (.seq
 (.region [iI 5 (.mv (.t 0)),iI 6 (.lenS (.t 5)),iI 7 (.mv (.t 1)),iI 8 (.lenS (.t 7)),iI 9 (.bin .geq (.t 6) (.t 8)),iI 10 (.mv (.t 9)),iG 11 10 true (.mv (.t 0)),iG 12 10 true (.mv (.t 1)),iG 13 10 true (.lenS (.t 12)),iG 14 10 true (.slS (.t 11) none (some (.t 13))),iG 15 10 true (.mv (.t 1)),iG 16 10 true (.bin .eql (.t 14) (.t 15)),iI 17 (.pick (.t 10) (.t 16) (.c (.bool false))),iI 4 (.mv (.t 17))] false)
 .ret))
def r153 : List ERes := [.t 4]
theorem c153 : chkF Tryz.prog Tryz.f153 2 e153 r153 = true := by kernel_rfl
def e49 : EC :=
 (.seq
 (.region [iI 2 (.alloc 66 [.int .i64 0, .int .i64 0, .str []]),iI 3 (.mv (.c (.int .i64 0)))] false)
 (.seq
 (.region [iI 8 (.mv (.t 0)),iI 9 (.call 91 [(.t 8)]),iI 7 (.mv (.t 9)),iI 10 (.extract 0 (.t 7)),iI 11 (.extract 1 (.t 7)),iI 12 (.extract 2 (.t 7)),iI 4 (.alloc 66 [.int .i64 0, .int .i64 0, .str []]),iN (.store 3 (.t 4) (.t 10)),iI 5 (.mv (.t 11)),iI 6 (.mv (.t 12))] false)
 (.seq
 (.seq
 (.region [iI 13 (.mv (.t 5)),iI 14 (.bin .eql (.t 13) (.c (.int .i64 0))),iI 15 (.mv (.t 14)),iG 16 15 false (.mv (.t 5)),iG 17 15 false (.mv (.t 0)),iG 18 15 false (.lenS (.t 17)),iG 19 15 false (.bin .neq (.t 16) (.t 18)),iI 20 (.pick (.t 15) (.c (.bool true)) (.t 19))] false)
 (.cond (.t 20)
 (.seq
 (.region [iI 21 (.build [.int .i64 0, .int .i64 0, .str []] []),iN (.store 3 (.t 2) (.t 21)),iI 3 (.mv (.c (.int .i64 3)))] false)
 .ret)
 .skip))
 (.seq
 (.region [iI 22 (.load true 3 (.t 4)),iI 23 (.mv (.t 6)),iN (.store 3 (.t 2) (.t 22)),iI 3 (.mv (.t 23))] false)
 .ret))))
def r49 : List ERes := [.cell true 3 2, .t 3]
theorem c49 : chkF Tryz.prog Tryz.f49 1 e49 r49 = true := by kernel_rfl
def e47 : EC :=
 (.seq
 (.region [iI 4 (.mv (.c (.str []))),iI 5 (.mv (.c (.str []))),iI 6 (.mv (.c (.bool false)))] false)
 (.seq
 (.region [iI 7 (.mv (.t 0)),iI 8 (.mv (.t 1)),iI 9 (.call 90 [(.t 7), (.t 8)]),iI 10 (.extract 0 (.t 9)),iI 11 (.extract 1 (.t 9)),iI 12 (.extract 2 (.t 9)),iI 4 (.mv (.t 10)),iI 5 (.mv (.t 11)),iI 6 (.mv (.t 12))] false)
 .ret))
def r47 : List ERes := [.t 4, .t 5, .t 6]
theorem c47 : chkF Tryz.prog Tryz.f47 2 e47 r47 = true := by kernel_rfl
def e5 : EC :=
 (.seq
 (.region [iI 1 (.box 27 (.t 0)),iI 2 (.mv (.c (.bool false)))] false)
 (.seq
 (.seq
 (.region [iI 6 (.call 9 []),iI 7 (.not (.t 6))] false)
 (.cond (.t 7)
 (.seq
 (.region [iI 2 (.mv (.c (.bool false)))] false)
 .ret)
 .skip))
 (.seq
 (.seq
 (.region [iI 8 (.load true 6 (.t 1)),iI 9 (.call 10 [(.t 8)]),iI 10 (.not (.t 9))] false)
 (.cond (.t 10)
 (.seq
 (.region [iI 2 (.mv (.c (.bool true)))] false)
 .ret)
 .skip))
 (.seq
 (.region [iI 11 (.load true 6 (.t 1)),iI 12 (.call 12 [(.t 11)]),iI 13 (.call 20 [(.t 12)]),iI 3 (.mv (.t 13))] false)
 (.seq
 (.region [iI 15 (.mv (.t 3)),iI 16 (.call 21 [(.t 15)]),iI 14 (.mv (.t 16)),iI 17 (.extract 0 (.t 14)),iI 18 (.extract 1 (.t 14)),iI 4 (.alloc 36 [.str [], .int .i64 0, .nilS, .nilS, .nilS, .nilS]),iN (.store 6 (.t 4) (.t 17)),iI 5 (.mv (.t 18))] false)
 (.seq
 (.region [iI 19 (.mv (.t 3)),iI 20 (.load true 6 (.t 1)),iI 21 (.pcall 23 [(.t 20)]),iI 22 (.pcall 22 [(.t 19), (.t 21)]),iI 23 (.mv (.t 22)),iG 24 23 true (.load true 6 (.t 1)),iG 25 23 true (.pcall 13 [(.t 24)]),iG 26 23 true (.not (.t 25)),iG 27 23 true (.mv (.t 26)),iG 28 27 false (.mv (.t 5)),iG 29 27 false (.bin .eql (.t 28) (.c (.int .i64 0))),iG 30 27 false (.mv (.t 29)),iG 31 30 true (.load true 6 (.t 4)),iG 32 30 true (.pcall 24 [(.t 31)]),iG 33 30 true (.load true 6 (.t 1)),iG 34 30 true (.pcall 15 [(.t 32), (.t 33)]),iG 35 27 false (.pick (.t 30) (.t 34) (.c (.bool false))),iG 36 23 true (.pick (.t 27) (.c (.bool true)) (.t 35)),iI 37 (.pick (.t 23) (.t 36) (.c (.bool false))),iI 2 (.mv (.t 37))] true)
 .ret))))))
def r5 : List ERes := [.t 2]
theorem c5 : chkF Tryz.prog Tryz.f5 1 e5 r5 = true := by kernel_rfl
def e6 : EC :=
 (.seq
 (.region [iI 2 (.mv (.c (.bool false)))] false)
 (.seq
 (.seq
 (.region [iI 7 (.call 9 []),iI 8 (.not (.t 7))] false)
 (.cond (.t 8)
 (.seq
 (.region [iI 2 (.mv (.c (.bool false)))] false)
 .ret)
 .skip))
 (.seq
 (.seq
 (.region [iI 9 (.mv (.t 0)),iI 10 (.len (.t 9)),iI 11 (.bin .gtr (.t 10) (.c (.int .i64 3000)))] false)
 (.cond (.t 11)
 (.seq
 (.region [iI 2 (.mv (.c (.bool true)))] false)
 .ret)
 .skip))
 (.seq
 (.region [iI 13 (.mv (.t 0)),iI 14 (.call 21 [(.t 13)]),iI 12 (.mv (.t 14)),iI 15 (.extract 0 (.t 12)),iI 16 (.extract 1 (.t 12)),iI 3 (.alloc 36 [.str [], .int .i64 0, .nilS, .nilS, .nilS, .nilS]),iN (.store 6 (.t 3) (.t 15)),iI 4 (.mv (.t 16))] false)
 (.seq
 (.region [iI 18 (.mv (.t 0)),iI 19 (.call 25 [(.t 18)]),iI 17 (.mv (.t 19)),iI 20 (.extract 0 (.t 17)),iI 21 (.extract 1 (.t 17)),iI 5 (.alloc 27 [.str [], .int .i64 0, .nilS, .nilS, .nilS, .nilS]),iN (.store 6 (.t 5) (.t 20)),iI 6 (.mv (.t 21))] false)
 (.seq
 (.region [iI 22 (.mv (.t 4)),iI 23 (.mv (.t 6)),iI 24 (.bin .eql (.t 22) (.t 23)),iI 25 (.mv (.t 24)),iG 26 25 true (.load true 6 (.t 3)),iG 27 25 true (.pcall 24 [(.t 26)]),iG 28 25 true (.load true 6 (.t 5)),iG 29 25 true (.pcall 15 [(.t 27), (.t 28)]),iI 30 (.pick (.t 25) (.t 29) (.c (.bool false))),iI 31 (.mv (.t 30)),iG 32 31 true (.mv (.t 4)),iG 33 31 true (.bin .neq (.t 32) (.c (.int .i64 0))),iG 34 31 true (.mv (.t 33)),iG 35 34 false (.load true 6 (.t 3)),iG 36 34 false (.pcall 20 [(.t 35)]),iG 37 34 false (.mv (.t 0)),iG 38 34 false (.pcall 22 [(.t 36), (.t 37)]),iG 39 31 true (.pick (.t 34) (.c (.bool true)) (.t 38)),iI 40 (.pick (.t 31) (.t 39) (.c (.bool false))),iI 2 (.mv (.t 40))] true)
 .ret))))))
def r6 : List ERes := [.t 2]
theorem c6 : chkF Tryz.prog Tryz.f6 1 e6 r6 = true := by kernel_rfl
def e20 : EC :=
 (.seq
 (.region [iI 1 (.box 36 (.t 0)),iI 2 (.mv (.c (.nilS)))] false)
 (.seq
 (.seq
 (.region [iI 12 (.load true 6 (.t 1)),iI 13 (.call 11 [(.t 12)]),iI 14 (.not (.t 13))] false)
 (.cond (.t 14)
 (.seq
 (.region [iI 2 (.mv (.c (.nilS)))] false)
 .ret)
 .skip))
 (.seq
 (.region [iI 15 (.faddr 0 (.t 1)),iI 16 (.loadD 1 false 1 (.t 15)),iI 17 (.callD [1] 58 [(.c (.nilS)), (.t 16)]),iI 18 (.faddr 1 (.t 1)),iI 19 (.loadD 1 false 1 (.t 18)),iI 20 (.faddr 2 (.t 1)),iI 21 (.loadD 1 false 1 (.t 20)),iI 22 (.len (.t 21)),iI 23 (.bslice 3 1 2 [.int .i64 0] [(0, (.t 19)), (1, (.t 22))]),iI 24 (.call 57 [(.t 17), (.t 23)]),iI 3 (.mv (.t 24))] true)
 (.seq
 (.seq
 (.region [iI 25 (.faddr 2 (.t 1)),iI 26 (.load false 1 (.t 25)),iI 27 (.len (.t 26)),iI 28 (.mv (.c (.int .i64 0)))] false)
 (.block 0
 (.loop
 (.seq
 (.region [iI 29 (.bin .lss (.t 28) (.t 27))] false)
 (.seq
 (.cond (.t 29)
 .skip
 (.exit 0))
 (.seq
 (.block 1
 (.seq
 (.region [iI 30 (.iaddr 7 (.t 26) (.t 28)),iI 31 (.load true 7 (.t 30)),iI 5 (.alloc 73 [.str [], .int .i64 0, .int .i64 0, .int .i64 0, .int .i64 0, .int .i64 0, .str []]),iN (.store 7 (.t 5) (.t 31))] false)
 (.region [iI 32 (.mv (.t 3)),iI 33 (.faddr 0 (.t 5)),iI 34 (.loadD 5 false 1 (.t 33)),iI 35 (.callD [5] 58 [(.t 32), (.t 34)]),iI 36 (.faddr 1 (.t 5)),iI 37 (.faddr 0 (.t 36)),iI 38 (.loadD 5 false 1 (.t 37)),iI 39 (.faddr 1 (.t 5)),iI 40 (.faddr 1 (.t 39)),iI 41 (.loadD 5 false 1 (.t 40)),iI 42 (.faddr 1 (.t 5)),iI 43 (.faddr 2 (.t 42)),iI 44 (.loadD 5 false 1 (.t 43)),iI 45 (.bslice 3 1 3 [.int .i64 0] [(0, (.t 38)), (1, (.t 41)), (2, (.t 44))]),iI 46 (.callD [5] 57 [(.t 35), (.t 45)]),iI 47 (.faddr 4 (.t 5)),iI 48 (.loadD 5 true 3 (.t 47)),iI 49 (.call 59 [(.t 46), (.t 48)]),iI 3 (.mv (.t 49))] true)))
 (.region [iI 50 (.bin .add (.t 28) (.c (.int .i64 1))),iI 28 (.mv (.t 50))] false)))))))
 (.seq
 (.region [iI 51 (.mv (.t 3)),iI 52 (.faddr 3 (.t 1)),iI 53 (.load false 1 (.t 52)),iI 54 (.len (.t 53)),iI 55 (.bslice 3 1 1 [.int .i64 0] [(0, (.t 54))]),iI 56 (.call 57 [(.t 51), (.t 55)]),iI 3 (.mv (.t 56))] false)
 (.seq
 (.seq
 (.region [iI 57 (.faddr 3 (.t 1)),iI 58 (.load false 1 (.t 57)),iI 59 (.len (.t 58)),iI 60 (.mv (.c (.int .i64 0)))] false)
 (.block 2
 (.loop
 (.seq
 (.region [iI 61 (.bin .lss (.t 60) (.t 59))] false)
 (.seq
 (.cond (.t 61)
 .skip
 (.exit 2))
 (.seq
 (.block 3
 (.seq
 (.region [iI 62 (.iaddr 3 (.t 58) (.t 60)),iI 63 (.load true 3 (.t 62)),iI 7 (.alloc 75 [.int .i64 0, .int .i64 0, .int .i64 0]),iN (.store 3 (.t 7) (.t 63))] false)
 (.region [iI 64 (.mv (.t 3)),iI 65 (.faddr 0 (.t 7)),iI 66 (.load false 1 (.t 65)),iI 67 (.faddr 1 (.t 7)),iI 68 (.load false 1 (.t 67)),iI 69 (.faddr 2 (.t 7)),iI 70 (.load false 1 (.t 69)),iI 71 (.bslice 3 1 3 [.int .i64 0] [(0, (.t 66)), (1, (.t 68)), (2, (.t 70))]),iI 72 (.call 57 [(.t 64), (.t 71)]),iI 3 (.mv (.t 72))] false)))
 (.region [iI 73 (.bin .add (.t 60) (.c (.int .i64 1))),iI 60 (.mv (.t 73))] false)))))))
 (.seq
 (.region [iI 74 (.mv (.t 3)),iI 75 (.faddr 4 (.t 1)),iI 76 (.load false 1 (.t 75)),iI 77 (.len (.t 76)),iI 78 (.bslice 3 1 1 [.int .i64 0] [(0, (.t 77))]),iI 79 (.call 57 [(.t 74), (.t 78)]),iI 3 (.mv (.t 79))] false)
 (.seq
 (.seq
 (.region [iI 80 (.faddr 4 (.t 1)),iI 81 (.load false 1 (.t 80)),iI 82 (.len (.t 81)),iI 83 (.mv (.c (.int .i64 0)))] false)
 (.block 4
 (.loop
 (.seq
 (.region [iI 84 (.bin .lss (.t 83) (.t 82))] false)
 (.seq
 (.cond (.t 84)
 .skip
 (.exit 4))
 (.seq
 (.block 5
 (.seq
 (.region [iI 85 (.iaddr 4 (.t 81) (.t 83)),iI 86 (.load true 4 (.t 85)),iI 9 (.alloc 78 [.int .i64 0, .int .i64 0, .int .i64 0, .int .i64 0]),iN (.store 4 (.t 9) (.t 86))] false)
 (.region [iI 87 (.mv (.t 3)),iI 88 (.faddr 0 (.t 9)),iI 89 (.load false 1 (.t 88)),iI 90 (.faddr 1 (.t 9)),iI 91 (.load false 1 (.t 90)),iI 92 (.faddr 2 (.t 9)),iI 93 (.load false 1 (.t 92)),iI 94 (.faddr 3 (.t 9)),iI 95 (.load false 1 (.t 94)),iI 96 (.bslice 3 1 4 [.int .i64 0] [(0, (.t 89)), (1, (.t 91)), (2, (.t 93)), (3, (.t 95))]),iI 97 (.call 57 [(.t 87), (.t 96)]),iI 3 (.mv (.t 97))] false)))
 (.region [iI 98 (.bin .add (.t 83) (.c (.int .i64 1))),iI 83 (.mv (.t 98))] false)))))))
 (.seq
 (.region [iI 99 (.mv (.t 3)),iI 100 (.faddr 5 (.t 1)),iI 101 (.load false 1 (.t 100)),iI 102 (.len (.t 101)),iI 103 (.bslice 3 1 1 [.int .i64 0] [(0, (.t 102))]),iI 104 (.call 57 [(.t 99), (.t 103)]),iI 3 (.mv (.t 104))] false)
 (.seq
 (.seq
 (.region [iI 105 (.faddr 5 (.t 1)),iI 106 (.load false 1 (.t 105)),iI 107 (.len (.t 106)),iI 108 (.mv (.c (.int .i64 0)))] false)
 (.block 6
 (.loop
 (.seq
 (.region [iI 109 (.bin .lss (.t 108) (.t 107))] false)
 (.seq
 (.cond (.t 109)
 .skip
 (.exit 6))
 (.seq
 (.block 7
 (.seq
 (.region [iI 110 (.iaddr 3 (.t 106) (.t 108)),iI 111 (.load true 3 (.t 110)),iI 11 (.alloc 43 [.int .i64 0, .int .i64 0, .str []]),iN (.store 3 (.t 11) (.t 111))] false)
 (.region [iI 112 (.mv (.t 3)),iI 113 (.faddr 0 (.t 11)),iI 114 (.loadD 11 false 1 (.t 113)),iI 115 (.faddr 1 (.t 11)),iI 116 (.loadD 11 false 1 (.t 115)),iI 117 (.bslice 3 1 2 [.int .i64 0] [(0, (.t 114)), (1, (.t 116))]),iI 118 (.callD [11] 57 [(.t 112), (.t 117)]),iI 119 (.faddr 2 (.t 11)),iI 120 (.loadD 11 false 1 (.t 119)),iI 121 (.call 58 [(.t 118), (.t 120)]),iI 3 (.mv (.t 121))] true)))
 (.region [iI 122 (.bin .add (.t 108) (.c (.int .i64 1))),iI 108 (.mv (.t 122))] false)))))))
 (.seq
 (.region [iI 123 (.mv (.t 3)),iI 2 (.mv (.t 123))] false)
 .ret)))))))))))
def r20 : List ERes := [.t 2]
theorem c20 : chkF Tryz.prog Tryz.f20 1 e20 r20 = true := by kernel_rfl
def e21 : EC :=
 (.seq
 (.region [iI 2 (.alloc 36 [.str [], .int .i64 0, .nilS, .nilS, .nilS, .nilS]),iI 3 (.mv (.c (.int .i64 0)))] false)
 (.seq
 (.region [iI 8 (.mv (.t 0)),iI 9 (.call 60 [(.t 8)]),iI 4 (.mv (.t 9))] false)
 (.seq
 (.region [iI 10 (.mv (.t 4)),iI 11 (.call 61 [(.t 10), (.c (.int .i64 16))]),iI 12 (.mv (.t 4)),iI 13 (.call 62 [(.t 12)]),iI 14 (.build [.str [], .int .i64 0, .nilS, .nilS, .nilS, .nilS] [(0, 1, (.t 11)), (1, 1, (.t 13))]),iI 5 (.alloc 36 [.str [], .int .i64 0, .nilS, .nilS, .nilS, .nilS]),iN (.store 6 (.t 5) (.t 14))] false)
 (.seq
 (.seq
 (.region [iI 15 (.mv (.t 4)),iI 16 (.call 63 [(.t 15), (.c (.int .i64 0)), (.c (.int .i64 12))]),iI 17 (.mv (.c (.int .i64 0)))] false)
 (.block 0
 (.loop
 (.seq
 (.region [iI 18 (.bin .lss (.t 17) (.t 16))] false)
 (.seq
 (.cond (.t 18)
 .skip
 (.exit 0))
 (.seq
 (.block 1
 (.seq
 (.region [iI 19 (.mv (.t 4)),iI 20 (.call 61 [(.t 19), (.c (.int .i64 16))]),iI 21 (.build [.str [], .int .i64 0, .int .i64 0, .int .i64 0, .int .i64 0, .int .i64 0, .str []] [(0, 1, (.t 20))]),iI 6 (.alloc 73 [.str [], .int .i64 0, .int .i64 0, .int .i64 0, .int .i64 0, .int .i64 0, .str []]),iN (.store 7 (.t 6) (.t 21))] false)
 (.seq
 (.region [iI 22 (.mv (.t 4)),iI 23 (.call 62 [(.t 22)]),iI 24 (.mv (.t 4)),iI 25 (.call 62 [(.t 24)]),iI 26 (.mv (.t 4)),iI 27 (.call 62 [(.t 26)]),iI 28 (.build [.int .i64 0, .int .i64 0, .int .i64 0] [(0, 1, (.t 23)), (1, 1, (.t 25)), (2, 1, (.t 27))]),iI 29 (.faddr 1 (.t 6)),iN (.store 3 (.t 29) (.t 28))] false)
 (.seq
 (.region [iI 30 (.mv (.t 4)),iI 31 (.call 64 [(.t 30)]),iI 32 (.faddr 4 (.t 6)),iN (.store 3 (.t 32) (.t 31))] false)
 (.region [iI 33 (.faddr 2 (.t 5)),iI 34 (.load false 1 (.t 33)),iI 35 (.load true 7 (.t 6)),iI 36 (.bslice 73 7 1 [.str [], .int .i64 0, .int .i64 0, .int .i64 0, .int .i64 0, .int .i64 0, .str []] [(0, (.t 35))]),iI 37 (.append 73 7 72 (.t 34) (.t 36)),iI 38 (.faddr 2 (.t 5)),iN (.store 1 (.t 38) (.t 37))] false)))))
 (.region [iI 39 (.bin .add (.t 17) (.c (.int .i64 1))),iI 17 (.mv (.t 39))] false)))))))
 (.seq
 (.seq
 (.region [iI 40 (.mv (.t 4)),iI 41 (.call 63 [(.t 40), (.c (.int .i64 0)), (.c (.int .i64 40))]),iI 42 (.mv (.c (.int .i64 0)))] false)
 (.block 2
 (.loop
 (.seq
 (.region [iI 43 (.bin .lss (.t 42) (.t 41))] false)
 (.seq
 (.cond (.t 43)
 .skip
 (.exit 2))
 (.seq
 (.block 3
 (.region [iI 44 (.faddr 3 (.t 5)),iI 45 (.loadD 5 false 1 (.t 44)),iI 46 (.mv (.t 4)),iI 47 (.callD [5] 62 [(.t 46)]),iI 48 (.mv (.t 4)),iI 49 (.callD [5] 62 [(.t 48)]),iI 50 (.mv (.t 4)),iI 51 (.callD [5] 62 [(.t 50)]),iI 52 (.build [.int .i64 0, .int .i64 0, .int .i64 0] [(0, 1, (.t 47)), (1, 1, (.t 49)), (2, 1, (.t 51))]),iI 53 (.bslice 75 3 1 [.int .i64 0, .int .i64 0, .int .i64 0] [(0, (.t 52))]),iI 54 (.append 75 3 24 (.t 45) (.t 53)),iI 55 (.faddr 3 (.t 5)),iN (.store 1 (.t 55) (.t 54))] true))
 (.region [iI 56 (.bin .add (.t 42) (.c (.int .i64 1))),iI 42 (.mv (.t 56))] false)))))))
 (.seq
 (.seq
 (.region [iI 57 (.mv (.t 4)),iI 58 (.call 63 [(.t 57), (.c (.int .i64 0)), (.c (.int .i64 40))]),iI 59 (.mv (.c (.int .i64 0)))] false)
 (.block 4
 (.loop
 (.seq
 (.region [iI 60 (.bin .lss (.t 59) (.t 58))] false)
 (.seq
 (.cond (.t 60)
 .skip
 (.exit 4))
 (.seq
 (.block 5
 (.region [iI 61 (.faddr 4 (.t 5)),iI 62 (.loadD 5 false 1 (.t 61)),iI 63 (.mv (.t 4)),iI 64 (.callD [5] 62 [(.t 63)]),iI 65 (.mv (.t 4)),iI 66 (.callD [5] 62 [(.t 65)]),iI 67 (.mv (.t 4)),iI 68 (.callD [5] 62 [(.t 67)]),iI 69 (.mv (.t 4)),iI 70 (.callD [5] 62 [(.t 69)]),iI 71 (.build [.int .i64 0, .int .i64 0, .int .i64 0, .int .i64 0] [(0, 1, (.t 64)), (1, 1, (.t 66)), (2, 1, (.t 68)), (3, 1, (.t 70))]),iI 72 (.bslice 78 4 1 [.int .i64 0, .int .i64 0, .int .i64 0, .int .i64 0] [(0, (.t 71))]),iI 73 (.append 78 4 32 (.t 62) (.t 72)),iI 74 (.faddr 4 (.t 5)),iN (.store 1 (.t 74) (.t 73))] true))
 (.region [iI 75 (.bin .add (.t 59) (.c (.int .i64 1))),iI 59 (.mv (.t 75))] false)))))))
 (.seq
 (.seq
 (.region [iI 76 (.mv (.t 4)),iI 77 (.call 63 [(.t 76), (.c (.int .i64 0)), (.c (.int .i64 1000))]),iI 78 (.mv (.c (.int .i64 0)))] false)
 (.block 6
 (.loop
 (.seq
 (.region [iI 79 (.bin .lss (.t 78) (.t 77))] false)
 (.seq
 (.cond (.t 79)
 .skip
 (.exit 6))
 (.seq
 (.block 7
 (.seq
 (.region [iI 80 (.mv (.t 4)),iI 81 (.call 62 [(.t 80)]),iI 82 (.mv (.t 4)),iI 83 (.call 62 [(.t 82)]),iI 84 (.build [.int .i64 0, .int .i64 0, .str []] [(0, 1, (.t 81)), (1, 1, (.t 83))]),iI 7 (.alloc 43 [.int .i64 0, .int .i64 0, .str []]),iN (.store 3 (.t 7) (.t 84))] false)
 (.seq
 (.region [iI 85 (.mv (.t 4)),iI 86 (.call 61 [(.t 85), (.c (.int .i64 40))]),iI 87 (.faddr 2 (.t 7)),iN (.store 1 (.t 87) (.t 86))] false)
 (.region [iI 88 (.faddr 5 (.t 5)),iI 89 (.load false 1 (.t 88)),iI 90 (.load true 3 (.t 7)),iI 91 (.bslice 43 3 1 [.int .i64 0, .int .i64 0, .str []] [(0, (.t 90))]),iI 92 (.append 43 3 32 (.t 89) (.t 91)),iI 93 (.faddr 5 (.t 5)),iN (.store 1 (.t 93) (.t 92))] false))))
 (.region [iI 94 (.bin .add (.t 78) (.c (.int .i64 1))),iI 78 (.mv (.t 94))] false)))))))
 (.seq
 (.seq
 (.region [iI 95 (.mv (.t 4)),iI 96 (.call 65 [(.t 95)]),iI 97 (.bin .neq (.t 96) (.c (.int .i64 0))),iI 98 (.mv (.t 97)),iG 99 98 false (.load true 6 (.t 5)),iG 100 98 false (.call 11 [(.t 99)]),iG 101 98 false (.not (.t 100)),iI 102 (.pick (.t 98) (.c (.bool true)) (.t 101))] false)
 (.cond (.t 102)
 (.seq
 (.region [iI 103 (.build [.str [], .int .i64 0, .nilS, .nilS, .nilS, .nilS] []),iN (.store 6 (.t 2) (.t 103)),iI 3 (.mv (.c (.int .i64 4)))] false)
 .ret)
 .skip))
 (.seq
 (.region [iI 104 (.load true 6 (.t 5)),iN (.store 6 (.t 2) (.t 104)),iI 3 (.mv (.c (.int .i64 0)))] false)
 .ret)))))))))
def r21 : List ERes := [.cell true 6 2, .t 3]
theorem c21 : chkF Tryz.prog Tryz.f21 1 e21 r21 = true := by kernel_rfl
def e23 : EC :=
 (.seq
 (.region [iI 1 (.box 27 (.t 0)),iI 2 (.mv (.c (.nilS)))] false)
 (.seq
 (.seq
 (.region [iI 11 (.load true 6 (.t 1)),iI 12 (.call 13 [(.t 11)]),iI 13 (.not (.t 12))] false)
 (.cond (.t 13)
 (.seq
 (.region [iI 2 (.mv (.c (.nilS)))] false)
 .ret)
 .skip))
 (.seq
 (.region [iI 14 (.faddr 0 (.t 1)),iI 15 (.loadD 1 false 1 (.t 14)),iI 16 (.callD [1] 66 [(.t 15)]),iI 17 (.faddr 1 (.t 1)),iI 18 (.loadD 1 false 1 (.t 17)),iI 19 (.faddr 2 (.t 1)),iI 20 (.loadD 1 false 1 (.t 19)),iI 21 (.len (.t 20)),iI 22 (.bslice 3 1 2 [.int .i64 0] [(0, (.t 18)), (1, (.t 21))]),iI 23 (.pcall 67 [(.t 22)]),iI 24 (.append 5 1 1 (.t 16) (.t 23)),iI 3 (.mv (.t 24))] true)
 (.seq
 (.seq
 (.region [iI 4 (.mv (.c (.int .i64 0)))] false)
 (.block 0
 (.loop
 (.seq
 (.seq
 (.region [iI 25 (.mv (.t 4)),iI 26 (.faddr 2 (.t 1)),iI 27 (.load false 1 (.t 26)),iI 28 (.len (.t 27)),iI 29 (.bin .lss (.t 25) (.t 28))] false)
 (.cond (.t 29)
 .skip
 (.exit 0)))
 (.seq
 (.block 1
 (.seq
 (.region [iI 32 (.faddr 2 (.t 1)),iI 33 (.load false 1 (.t 32)),iI 34 (.mv (.t 4)),iI 35 (.iaddr 7 (.t 33) (.t 34)),iI 36 (.load true 7 (.t 35)),iI 5 (.alloc 68 [.str [], .int .i64 0, .int .i64 0, .int .i64 0, .int .i64 0, .int .i64 0, .str []]),iN (.store 7 (.t 5) (.t 36))] false)
 (.seq
 (.region [iI 37 (.mv (.t 3)),iI 38 (.faddr 0 (.t 5)),iI 39 (.load false 1 (.t 38)),iI 40 (.pcall 66 [(.t 39)]),iI 41 (.append 5 1 1 (.t 37) (.t 40)),iI 42 (.faddr 1 (.t 5)),iI 43 (.faddr 0 (.t 42)),iI 44 (.load false 1 (.t 43)),iI 45 (.faddr 1 (.t 5)),iI 46 (.faddr 1 (.t 45)),iI 47 (.load false 1 (.t 46)),iI 48 (.faddr 1 (.t 5)),iI 49 (.faddr 2 (.t 48)),iI 50 (.load false 1 (.t 49)),iI 51 (.bslice 3 1 3 [.int .i64 0] [(0, (.t 44)), (1, (.t 47)), (2, (.t 50))]),iI 52 (.pcall 67 [(.t 51)]),iI 53 (.append 5 1 1 (.t 41) (.t 52)),iI 3 (.mv (.t 53))] true)
 (.region [iI 54 (.mv (.t 3)),iI 55 (.faddr 4 (.t 5)),iI 56 (.load true 3 (.t 55)),iI 57 (.call 68 [(.t 56)]),iI 58 (.append 5 1 1 (.t 54) (.t 57)),iI 3 (.mv (.t 58))] false))))
 (.region [iI 30 (.mv (.t 4)),iI 31 (.bin .add (.t 30) (.c (.int .i64 1))),iI 4 (.mv (.t 31))] false))))))
 (.seq
 (.region [iI 59 (.mv (.t 3)),iI 60 (.faddr 3 (.t 1)),iI 61 (.load false 1 (.t 60)),iI 62 (.len (.t 61)),iI 63 (.bslice 3 1 1 [.int .i64 0] [(0, (.t 62))]),iI 64 (.call 67 [(.t 63)]),iI 65 (.append 5 1 1 (.t 59) (.t 64)),iI 3 (.mv (.t 65))] false)
 (.seq
 (.seq
 (.region [iI 6 (.mv (.c (.int .i64 0)))] false)
 (.block 2
 (.loop
 (.seq
 (.seq
 (.region [iI 66 (.mv (.t 6)),iI 67 (.faddr 3 (.t 1)),iI 68 (.load false 1 (.t 67)),iI 69 (.len (.t 68)),iI 70 (.bin .lss (.t 66) (.t 69))] false)
 (.cond (.t 70)
 .skip
 (.exit 2)))
 (.seq
 (.block 3
 (.seq
 (.region [iI 73 (.faddr 3 (.t 1)),iI 74 (.load false 1 (.t 73)),iI 75 (.mv (.t 6)),iI 76 (.iaddr 3 (.t 74) (.t 75)),iI 77 (.load true 3 (.t 76)),iI 7 (.alloc 76 [.int .i64 0, .int .i64 0, .int .i64 0]),iN (.store 3 (.t 7) (.t 77))] false)
 (.region [iI 78 (.mv (.t 3)),iI 79 (.faddr 0 (.t 7)),iI 80 (.load false 1 (.t 79)),iI 81 (.faddr 1 (.t 7)),iI 82 (.load false 1 (.t 81)),iI 83 (.faddr 2 (.t 7)),iI 84 (.load false 1 (.t 83)),iI 85 (.bslice 3 1 3 [.int .i64 0] [(0, (.t 80)), (1, (.t 82)), (2, (.t 84))]),iI 86 (.call 67 [(.t 85)]),iI 87 (.append 5 1 1 (.t 78) (.t 86)),iI 3 (.mv (.t 87))] false)))
 (.region [iI 71 (.mv (.t 6)),iI 72 (.bin .add (.t 71) (.c (.int .i64 1))),iI 6 (.mv (.t 72))] false))))))
 (.seq
 (.region [iI 88 (.mv (.t 3)),iI 89 (.faddr 4 (.t 1)),iI 90 (.load false 1 (.t 89)),iI 91 (.len (.t 90)),iI 92 (.bslice 3 1 1 [.int .i64 0] [(0, (.t 91))]),iI 93 (.call 67 [(.t 92)]),iI 94 (.append 5 1 1 (.t 88) (.t 93)),iI 3 (.mv (.t 94))] false)
 (.seq
 (.seq
 (.region [iI 8 (.mv (.c (.int .i64 0)))] false)
 (.block 4
 (.loop
 (.seq
 (.seq
 (.region [iI 95 (.mv (.t 8)),iI 96 (.faddr 4 (.t 1)),iI 97 (.load false 1 (.t 96)),iI 98 (.len (.t 97)),iI 99 (.bin .lss (.t 95) (.t 98))] false)
 (.cond (.t 99)
 .skip
 (.exit 4)))
 (.seq
 (.block 5
 (.seq
 (.region [iI 102 (.faddr 4 (.t 1)),iI 103 (.load false 1 (.t 102)),iI 104 (.mv (.t 8)),iI 105 (.iaddr 4 (.t 103) (.t 104)),iI 106 (.load true 4 (.t 105)),iI 9 (.alloc 79 [.int .i64 0, .int .i64 0, .int .i64 0, .int .i64 0]),iN (.store 4 (.t 9) (.t 106))] false)
 (.region [iI 107 (.mv (.t 3)),iI 108 (.faddr 0 (.t 9)),iI 109 (.load false 1 (.t 108)),iI 110 (.faddr 1 (.t 9)),iI 111 (.load false 1 (.t 110)),iI 112 (.faddr 2 (.t 9)),iI 113 (.load false 1 (.t 112)),iI 114 (.faddr 3 (.t 9)),iI 115 (.load false 1 (.t 114)),iI 116 (.bslice 3 1 4 [.int .i64 0] [(0, (.t 109)), (1, (.t 111)), (2, (.t 113)), (3, (.t 115))]),iI 117 (.call 67 [(.t 116)]),iI 118 (.append 5 1 1 (.t 107) (.t 117)),iI 3 (.mv (.t 118))] false)))
 (.region [iI 100 (.mv (.t 8)),iI 101 (.bin .add (.t 100) (.c (.int .i64 1))),iI 8 (.mv (.t 101))] false))))))
 (.seq
 (.region [iI 119 (.mv (.t 3)),iI 120 (.faddr 5 (.t 1)),iI 121 (.load false 1 (.t 120)),iI 122 (.len (.t 121)),iI 123 (.bslice 3 1 1 [.int .i64 0] [(0, (.t 122))]),iI 124 (.call 67 [(.t 123)]),iI 125 (.append 5 1 1 (.t 119) (.t 124)),iI 3 (.mv (.t 125))] false)
 (.seq
 (.seq
 (.region [iI 10 (.mv (.c (.int .i64 0)))] false)
 (.block 6
 (.loop
 (.seq
 (.seq
 (.region [iI 126 (.mv (.t 10)),iI 127 (.faddr 5 (.t 1)),iI 128 (.load false 1 (.t 127)),iI 129 (.len (.t 128)),iI 130 (.bin .lss (.t 126) (.t 129))] false)
 (.cond (.t 130)
 .skip
 (.exit 6)))
 (.seq
 (.block 7
 (.region [iI 133 (.mv (.t 3)),iI 134 (.faddr 5 (.t 1)),iI 135 (.load false 1 (.t 134)),iI 136 (.mv (.t 10)),iI 137 (.iaddr 3 (.t 135) (.t 136)),iI 138 (.faddr 0 (.t 137)),iI 139 (.load false 1 (.t 138)),iI 140 (.faddr 5 (.t 1)),iI 141 (.load false 1 (.t 140)),iI 142 (.mv (.t 10)),iI 143 (.iaddr 3 (.t 141) (.t 142)),iI 144 (.faddr 1 (.t 143)),iI 145 (.load false 1 (.t 144)),iI 146 (.bslice 3 1 2 [.int .i64 0] [(0, (.t 139)), (1, (.t 145))]),iI 147 (.pcall 67 [(.t 146)]),iI 148 (.append 5 1 1 (.t 133) (.t 147)),iI 149 (.faddr 5 (.t 1)),iI 150 (.load false 1 (.t 149)),iI 151 (.mv (.t 10)),iI 152 (.iaddr 3 (.t 150) (.t 151)),iI 153 (.faddr 2 (.t 152)),iI 154 (.load false 1 (.t 153)),iI 155 (.pcall 66 [(.t 154)]),iI 156 (.append 5 1 1 (.t 148) (.t 155)),iI 3 (.mv (.t 156))] true))
 (.region [iI 131 (.mv (.t 10)),iI 132 (.bin .add (.t 131) (.c (.int .i64 1))),iI 10 (.mv (.t 132))] false))))))
 (.seq
 (.region [iI 157 (.mv (.t 3)),iI 2 (.mv (.t 157))] false)
 .ret)))))))))))
def r23 : List ERes := [.t 2]
theorem c23 : chkF Tryz.prog Tryz.f23 1 e23 r23 = true := by kernel_rfl
def e25 : EC :=
 (.seq
 (.region [iI 2 (.alloc 27 [.str [], .int .i64 0, .nilS, .nilS, .nilS, .nilS]),iI 3 (.mv (.c (.int .i64 0)))] false)
 (.seq
 (.region [iI 13 (.mv (.t 0)),iI 14 (.build [.nilS, .int .i64 0, .bool false] [(0, 1, (.t 13))]),iI 15 (.box 120 (.t 14)),iI 4 (.mv (.t 15))] false)
 (.seq
 (.region [iI 16 (.mv (.t 4)),iI 17 (.call 69 [(.t 16), (.c (.int .i64 16))]),iI 18 (.mv (.t 4)),iI 19 (.call 70 [(.t 18)]),iI 20 (.build [.str [], .int .i64 0, .nilS, .nilS, .nilS, .nilS] [(0, 1, (.t 17)), (1, 1, (.t 19))]),iI 5 (.alloc 27 [.str [], .int .i64 0, .nilS, .nilS, .nilS, .nilS]),iN (.store 6 (.t 5) (.t 20))] false)
 (.seq
 (.region [iI 21 (.mv (.t 4)),iI 22 (.call 71 [(.t 21), (.c (.int .i64 0)), (.c (.int .i64 12))]),iI 6 (.mv (.t 22))] false)
 (.seq
 (.seq
 (.region [iI 7 (.mv (.c (.int .i64 0)))] false)
 (.block 0
 (.loop
 (.seq
 (.seq
 (.region [iI 23 (.mv (.t 7)),iI 24 (.mv (.t 6)),iI 25 (.bin .lss (.t 23) (.t 24)),iI 26 (.mv (.t 25)),iG 27 26 true (.mv (.t 4)),iG 28 26 true (.nilck (.t 27)),iG 29 26 true (.faddr 2 (.t 28)),iG 30 26 true (.load false 1 (.t 29)),iG 31 26 true (.not (.t 30)),iI 32 (.pick (.t 26) (.t 31) (.c (.bool false)))] false)
 (.cond (.t 32)
 .skip
 (.exit 0)))
 (.seq
 (.block 1
 (.seq
 (.region [iI 35 (.mv (.t 4)),iI 36 (.call 69 [(.t 35), (.c (.int .i64 16))]),iI 37 (.build [.str [], .int .i64 0, .int .i64 0, .int .i64 0, .int .i64 0, .int .i64 0, .str []] [(0, 1, (.t 36))]),iI 8 (.alloc 68 [.str [], .int .i64 0, .int .i64 0, .int .i64 0, .int .i64 0, .int .i64 0, .str []]),iN (.store 7 (.t 8) (.t 37))] false)
 (.seq
 (.region [iI 38 (.mv (.t 4)),iI 39 (.call 70 [(.t 38)]),iI 40 (.mv (.t 4)),iI 41 (.call 70 [(.t 40)]),iI 42 (.mv (.t 4)),iI 43 (.call 70 [(.t 42)]),iI 44 (.build [.int .i64 0, .int .i64 0, .int .i64 0] [(0, 1, (.t 39)), (1, 1, (.t 41)), (2, 1, (.t 43))]),iI 45 (.faddr 1 (.t 8)),iN (.store 3 (.t 45) (.t 44))] false)
 (.seq
 (.region [iI 46 (.mv (.t 4)),iI 47 (.call 72 [(.t 46)]),iI 48 (.faddr 4 (.t 8)),iN (.store 3 (.t 48) (.t 47))] false)
 (.region [iI 49 (.faddr 2 (.t 5)),iI 50 (.load false 1 (.t 49)),iI 51 (.load true 7 (.t 8)),iI 52 (.bslice 68 7 1 [.str [], .int .i64 0, .int .i64 0, .int .i64 0, .int .i64 0, .int .i64 0, .str []] [(0, (.t 51))]),iI 53 (.append 68 7 72 (.t 50) (.t 52)),iI 54 (.faddr 2 (.t 5)),iN (.store 1 (.t 54) (.t 53))] false)))))
 (.region [iI 33 (.mv (.t 7)),iI 34 (.bin .add (.t 33) (.c (.int .i64 1))),iI 7 (.mv (.t 34))] false))))))
 (.seq
 (.region [iI 55 (.mv (.t 4)),iI 56 (.call 71 [(.t 55), (.c (.int .i64 0)), (.c (.int .i64 40))]),iI 6 (.mv (.t 56))] false)
 (.seq
 (.seq
 (.region [iI 9 (.mv (.c (.int .i64 0)))] false)
 (.block 2
 (.loop
 (.seq
 (.seq
 (.region [iI 57 (.mv (.t 9)),iI 58 (.mv (.t 6)),iI 59 (.bin .lss (.t 57) (.t 58)),iI 60 (.mv (.t 59)),iG 61 60 true (.mv (.t 4)),iG 62 60 true (.nilck (.t 61)),iG 63 60 true (.faddr 2 (.t 62)),iG 64 60 true (.load false 1 (.t 63)),iG 65 60 true (.not (.t 64)),iI 66 (.pick (.t 60) (.t 65) (.c (.bool false)))] false)
 (.cond (.t 66)
 .skip
 (.exit 2)))
 (.seq
 (.block 3
 (.region [iI 69 (.faddr 3 (.t 5)),iI 70 (.loadD 5 false 1 (.t 69)),iI 71 (.mv (.t 4)),iI 72 (.callD [5] 70 [(.t 71)]),iI 73 (.mv (.t 4)),iI 74 (.callD [5] 70 [(.t 73)]),iI 75 (.mv (.t 4)),iI 76 (.callD [5] 70 [(.t 75)]),iI 77 (.build [.int .i64 0, .int .i64 0, .int .i64 0] [(0, 1, (.t 72)), (1, 1, (.t 74)), (2, 1, (.t 76))]),iI 78 (.bslice 76 3 1 [.int .i64 0, .int .i64 0, .int .i64 0] [(0, (.t 77))]),iI 79 (.append 76 3 24 (.t 70) (.t 78)),iI 80 (.faddr 3 (.t 5)),iN (.store 1 (.t 80) (.t 79))] true))
 (.region [iI 67 (.mv (.t 9)),iI 68 (.bin .add (.t 67) (.c (.int .i64 1))),iI 9 (.mv (.t 68))] false))))))
 (.seq
 (.region [iI 81 (.mv (.t 4)),iI 82 (.call 71 [(.t 81), (.c (.int .i64 0)), (.c (.int .i64 40))]),iI 6 (.mv (.t 82))] false)
 (.seq
 (.seq
 (.region [iI 10 (.mv (.c (.int .i64 0)))] false)
 (.block 4
 (.loop
 (.seq
 (.seq
 (.region [iI 83 (.mv (.t 10)),iI 84 (.mv (.t 6)),iI 85 (.bin .lss (.t 83) (.t 84)),iI 86 (.mv (.t 85)),iG 87 86 true (.mv (.t 4)),iG 88 86 true (.nilck (.t 87)),iG 89 86 true (.faddr 2 (.t 88)),iG 90 86 true (.load false 1 (.t 89)),iG 91 86 true (.not (.t 90)),iI 92 (.pick (.t 86) (.t 91) (.c (.bool false)))] false)
 (.cond (.t 92)
 .skip
 (.exit 4)))
 (.seq
 (.block 5
 (.region [iI 95 (.faddr 4 (.t 5)),iI 96 (.loadD 5 false 1 (.t 95)),iI 97 (.mv (.t 4)),iI 98 (.callD [5] 70 [(.t 97)]),iI 99 (.mv (.t 4)),iI 100 (.callD [5] 70 [(.t 99)]),iI 101 (.mv (.t 4)),iI 102 (.callD [5] 70 [(.t 101)]),iI 103 (.mv (.t 4)),iI 104 (.callD [5] 70 [(.t 103)]),iI 105 (.build [.int .i64 0, .int .i64 0, .int .i64 0, .int .i64 0] [(0, 1, (.t 98)), (1, 1, (.t 100)), (2, 1, (.t 102)), (3, 1, (.t 104))]),iI 106 (.bslice 79 4 1 [.int .i64 0, .int .i64 0, .int .i64 0, .int .i64 0] [(0, (.t 105))]),iI 107 (.append 79 4 32 (.t 96) (.t 106)),iI 108 (.faddr 4 (.t 5)),iN (.store 1 (.t 108) (.t 107))] true))
 (.region [iI 93 (.mv (.t 10)),iI 94 (.bin .add (.t 93) (.c (.int .i64 1))),iI 10 (.mv (.t 94))] false))))))
 (.seq
 (.region [iI 109 (.mv (.t 4)),iI 110 (.call 71 [(.t 109), (.c (.int .i64 0)), (.c (.int .i64 1000))]),iI 6 (.mv (.t 110))] false)
 (.seq
 (.seq
 (.region [iI 11 (.mv (.c (.int .i64 0)))] false)
 (.block 6
 (.loop
 (.seq
 (.seq
 (.region [iI 111 (.mv (.t 11)),iI 112 (.mv (.t 6)),iI 113 (.bin .lss (.t 111) (.t 112)),iI 114 (.mv (.t 113)),iG 115 114 true (.mv (.t 4)),iG 116 114 true (.nilck (.t 115)),iG 117 114 true (.faddr 2 (.t 116)),iG 118 114 true (.load false 1 (.t 117)),iG 119 114 true (.not (.t 118)),iI 120 (.pick (.t 114) (.t 119) (.c (.bool false)))] false)
 (.cond (.t 120)
 .skip
 (.exit 6)))
 (.seq
 (.block 7
 (.seq
 (.region [iI 123 (.mv (.t 4)),iI 124 (.call 70 [(.t 123)]),iI 125 (.mv (.t 4)),iI 126 (.call 70 [(.t 125)]),iI 127 (.build [.int .i64 0, .int .i64 0, .str []] [(0, 1, (.t 124)), (1, 1, (.t 126))]),iI 12 (.alloc 41 [.int .i64 0, .int .i64 0, .str []]),iN (.store 3 (.t 12) (.t 127))] false)
 (.seq
 (.region [iI 128 (.mv (.t 4)),iI 129 (.call 69 [(.t 128), (.c (.int .i64 40))]),iI 130 (.faddr 2 (.t 12)),iN (.store 1 (.t 130) (.t 129))] false)
 (.region [iI 131 (.faddr 5 (.t 5)),iI 132 (.load false 1 (.t 131)),iI 133 (.load true 3 (.t 12)),iI 134 (.bslice 41 3 1 [.int .i64 0, .int .i64 0, .str []] [(0, (.t 133))]),iI 135 (.append 41 3 32 (.t 132) (.t 134)),iI 136 (.faddr 5 (.t 5)),iN (.store 1 (.t 136) (.t 135))] false))))
 (.region [iI 121 (.mv (.t 11)),iI 122 (.bin .add (.t 121) (.c (.int .i64 1))),iI 11 (.mv (.t 122))] false))))))
 (.seq
 (.seq
 (.region [iI 137 (.mv (.t 4)),iI 138 (.call 73 [(.t 137)]),iI 139 (.bin .neq (.t 138) (.c (.int .i64 0))),iI 140 (.mv (.t 139)),iG 141 140 false (.load true 6 (.t 5)),iG 142 140 false (.call 13 [(.t 141)]),iG 143 140 false (.not (.t 142)),iI 144 (.pick (.t 140) (.c (.bool true)) (.t 143))] false)
 (.cond (.t 144)
 (.seq
 (.region [iI 145 (.build [.str [], .int .i64 0, .nilS, .nilS, .nilS, .nilS] []),iN (.store 6 (.t 2) (.t 145)),iI 3 (.mv (.c (.int .i64 4)))] false)
 .ret)
 .skip))
 (.seq
 (.region [iI 146 (.load true 6 (.t 5)),iN (.store 6 (.t 2) (.t 146)),iI 3 (.mv (.c (.int .i64 0)))] false)
 .ret)))))))))))))
def r25 : List ERes := [.cell true 6 2, .t 3]
theorem c25 : chkF Tryz.prog Tryz.f25 1 e25 r25 = true := by kernel_rfl
def e90 : EC :=
 (.seq
 (.region [iI 4 (.mv (.c (.str []))),iI 5 (.mv (.c (.str []))),iI 6 (.mv (.c (.bool false)))] false)
 (.seq
 (.seq
 (.region [iI 8 (.mv (.t 0)),iI 9 (.mv (.t 1)),iI 10 (.call 118 [(.t 8), (.t 9)]),iI 7 (.mv (.t 10))] false)
 (.seq
 (.region [iI 11 (.mv (.t 7)),iI 12 (.bin .geq (.t 11) (.c (.int .i64 0)))] false)
 (.cond (.t 12)
 (.seq
 (.region [iI 13 (.mv (.t 0)),iI 14 (.mv (.t 7)),iI 15 (.slS (.t 13) none (some (.t 14))),iI 16 (.mv (.t 0)),iI 17 (.mv (.t 7)),iI 18 (.mv (.t 1)),iI 19 (.lenS (.t 18)),iI 20 (.bin .add (.t 17) (.t 19)),iI 21 (.slS (.t 16) (some (.t 20)) none),iI 4 (.mv (.t 15)),iI 5 (.mv (.t 21)),iI 6 (.mv (.c (.bool true)))] true)
 .ret)
 .skip)))
 (.seq
 (.region [iI 22 (.mv (.t 0)),iI 4 (.mv (.t 22)),iI 5 (.mv (.c (.str []))),iI 6 (.mv (.c (.bool false)))] false)
 .ret)))
def r90 : List ERes := [.t 4, .t 5, .t 6]
theorem c90 : chkF Tryz.prog Tryz.f90 2 e90 r90 = true := by kernel_rfl
end Go.Aw.T
