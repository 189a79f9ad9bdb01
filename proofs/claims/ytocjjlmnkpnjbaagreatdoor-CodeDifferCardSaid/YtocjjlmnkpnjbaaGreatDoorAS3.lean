/- Part of a proof; own work. -/
import Derived.Test.YtocjjlmnkpnjbaaGreatDoorProg
import Derived.Test.YtocjjlmnkpnjbaaGreatDoorAS2
namespace Go.Aw
open Go
set_option linter.unusedVariables false
set_option linter.unusedSimpArgs false
inductive CI where
 | c (e : EC)
 | blk (id : Nat)
 | rnd (body : EC)
def cpop (id : Nat) : List CI → Option (List CI)
 | .blk j :: k => bif j == id then some k else cpop id k
 | _ :: k => cpop id k
 | [] => none
def cresv (env : Env) (C : AHeap) : ERes → Option AV
 | .t n => some (env.get n)
 | .cell agg n a => match env.get a with
  | .ptr b o => match C.blk b with
   | some (_, cs) => crange cs agg o n
   | none => none
  | .rp row o => crange row agg o n
  | _ => none
def cresL (env : Env) (C : AHeap) : List ERes → Option (List AV)
 | [] => some []
 | r :: rs => match cresv env C r, cresL env C rs with
  | some v, some l => some (v :: l)
  | _, _ => none
def cres (rs : List ERes) (env : Env) (C : AHeap) : Option AV :=
 match rs with
 | [r] => cresv env C r
 | rs => (cresL env C rs).map .tup
abbrev Tab := FuncId → Option (EC × List ERes × Nat)
abbrev Lib := FuncId → List AV → Option AV
def run (tab : Tab) (lib : Lib) (cvs : List FuncId) : Nat → List ERes → List CI → Env → CS → Option (AV × CS)
 | 0, _, _, _, _ => none
 | n + 1, rs, k, env, c =>
  match k with
  | [] => (cres rs env c.H).map fun v => (v, c)
  | .blk _ :: k => run tab lib cvs n rs k env c
  | .rnd body :: k => run tab lib cvs n rs (.c body :: .rnd body :: k) env c
  | .c e :: k => match e with
   | .ret => (cres rs env c.H).map fun v => (v, c)
   | .skip => run tab lib cvs n rs k env c
   | .seq a b => run tab lib cvs n rs (.c a :: .c b :: k) env c
   | .block id b => run tab lib cvs n rs (.c b :: .blk id :: k) env c
   | .exit id => match cpop id k with
    | some k' => run tab lib cvs n rs k' env c
    | none => none
   | .cond x a b => match cev env x with
    | .bool true => run tab lib cvs n rs (.c a :: k) env c
    | .bool false => run tab lib cvs n rs (.c b :: k) env c
    | _ => none
   | .region ops _ =>
    match dmr cvs (fun f az c => match lib f (wkL az) with
     | some r => bif flatL (wkL az) && r.flat then some (r, c) else none
     | none => match tab f with
      | some (e, rs, m) => bif az.length == m then run tab lib cvs n rs [.c e] (initEnv az) c else none
      | none => none) ops env c with
    | some (_, env', c') => run tab lib cvs n rs k env' c'
    | none => none
   | .loop body => run tab lib cvs n rs (.c body :: .rnd body :: k) env c
   | .dfr _ _ _ => none
def clOf (tab : Tab) (lib : Lib) (cvs : List FuncId) (n : Nat) : Cl := fun f az c => match lib f (wkL az) with
 | some r => bif flatL (wkL az) && r.flat then some (r, c) else none
 | none => match tab f with
  | some (e, rs, m) => bif az.length == m then run tab lib cvs n rs [.c e] (initEnv az) c else none
  | none => none
def Inv (tab : Tab) (lib : Lib) (cvs : List FuncId) (rs : List ERes) (v : AV) (c1 : CS) (H0 : AHeap) (s0 : Sg) (body : EC) (k : List CI) (B : Nat) : Nat → Env → AHeap → Prop := fun m env' H' =>
 m ≤ B ∧ ∃ s env c, Sg.Le s0 s ∧ run tab lib cvs (m + 1) rs (.rnd body :: k) env c = some (v, c1) ∧ RnE s env env' ∧ HRc H0 s c H'
def IR (tab : Tab) (lib : Lib) (cvs : List FuncId) (rs : List ERes) (v : AV) (c1 : CS) (H0 : AHeap) (s0 : Sg) (n : Nat) : List CI → List Item → Prop
 | [], [] => True
 | .c e :: k, .c e' :: k' => e = e' ∧ IR tab lib cvs rs v c1 H0 s0 n k k'
 | .blk i :: k, .blk j :: k' => i = j ∧ IR tab lib cvs rs v c1 H0 s0 n k k'
 | .rnd b :: k, .round I m0 :: k' => n ≤ m0 ∧ (∃ B, n ≤ B + 1 ∧ I = Inv tab lib cvs rs v c1 H0 s0 b k B) ∧ IR tab lib cvs rs v c1 H0 s0 n k k'
 | _, _ => False
section
variable {P : Program} {tab : Tab} {lib : Lib} {cvs : List FuncId} {rs : List ERes} {v : AV} {c1 : CS} {H0 : AHeap} {s0 : Sg}
theorem IR.mono {n n' : Nat} (hn : n' ≤ n) : ∀ (k : List CI) (l : List Item), IR tab lib cvs rs v c1 H0 s0 n k l → IR tab lib cvs rs v c1 H0 s0 n' k l
 | [], [], _ => trivial
 | .c e :: k, .c e' :: k', h => ⟨h.1, IR.mono hn k k' h.2⟩
 | .blk i :: k, .blk j :: k', h => ⟨h.1, IR.mono hn k k' h.2⟩
 | .rnd b :: k, .round I m0 :: k', h => by
  obtain ⟨h1, ⟨B, h2, h3⟩, h4⟩ := h
  exact ⟨by omega, ⟨B, by omega, h3⟩, IR.mono hn k k' h4⟩
 | [], _ :: _, h => by cases h
 | .c _ :: _, [], h => by cases h
 | .c _ :: _, .blk _ :: _, h => by cases h
 | .c _ :: _, .round _ _ :: _, h => by cases h
 | .blk _ :: _, [], h => by cases h
 | .blk _ :: _, .c _ :: _, h => by cases h
 | .blk _ :: _, .round _ _ :: _, h => by cases h
 | .rnd _ :: _, [], h => by cases h
 | .rnd _ :: _, .c _ :: _, h => by cases h
 | .rnd _ :: _, .blk _ :: _, h => by cases h
theorem cpop_ok {n id : Nat} {k1 : List CI} : ∀ (k : List CI) (l : List Item), IR tab lib cvs rs v c1 H0 s0 n k l → cpop id k = some k1 → ∃ l1, popTo id l = some l1 ∧ IR tab lib cvs rs v c1 H0 s0 n k1 l1
 | [], _, _, h => by cases h
 | .c e :: k, .c e' :: k', h, hk => by
  simp only [cpop] at hk
  simp only [popTo]
  exact cpop_ok k k' h.2 hk
 | .blk i :: k, .blk j :: k', h, hk => by
  obtain ⟨rfl, h2⟩ := h
  simp only [cpop] at hk
  simp only [popTo]
  cases hi : i == id with
  | true =>
   rw [hi] at hk
   simp only [cond_true, Option.some.injEq] at hk
   subst hk
   rw [if_pos (by simpa using hi)]
   exact ⟨_, rfl, h2⟩
  | false =>
   rw [hi] at hk
   rw [if_neg (by simpa using hi)]
   exact cpop_ok k k' h2 hk
 | .rnd b :: k, .round I m0 :: k', h, hk => by
  simp only [cpop] at hk
  simp only [popTo]
  exact cpop_ok k k' h.2.2 hk
 | .c _ :: _, [], h, _ => by cases h
 | .c _ :: _, .blk _ :: _, h, _ => by cases h
 | .c _ :: _, .round _ _ :: _, h, _ => by cases h
 | .blk _ :: _, [], h, _ => by cases h
 | .blk _ :: _, .c _ :: _, h, _ => by cases h
 | .blk _ :: _, .round _ _ :: _, h, _ => by cases h
 | .rnd _ :: _, [], h, _ => by cases h
 | .rnd _ :: _, .c _ :: _, h, _ => by cases h
 | .rnd _ :: _, .blk _ :: _, h, _ => by cases h
variable {s : Sg} {env env' : Env} {H : AHeap} {c : CS}
theorem cresv_ok (he : RnE s env env') (hr : HRc H0 s c H) {r : ERes} {x : AV} (h : cresv env c.H r = some x) : ∃ x', r.ev env' H = some x' ∧ Rn s x x' := by
 cases r with
 | t n =>
  simp only [cresv, Option.some.injEq] at h
  subst h
  exact ⟨_, rfl, he n⟩
 | cell agg n a =>
  simp only [cresv] at h
  have ha := he a
  split at h
  ·rename_i b o e
   rw [e] at ha
   simp only [Rn] at ha
   obtain ⟨y, h1, h2⟩ := ha
   split at h
   ·rename_i T cs e2
    obtain ⟨x', cs', g1, g2, g3⟩ := hr.blk _ _ _ e2
    rw [h1] at g1
    cases g1
    obtain ⟨k1, v', k2, k3⟩ := crange_ok g3 h
    exact ⟨v', by simp only [ERes.ev, peval, EOpd.ev, h2, g2, if_pos k1, k2], k3⟩
   ·cases h
  ·rename_i row o e
   rw [e] at ha
   simp only [Rn] at ha
   obtain ⟨l, h2, h1⟩ := ha
   obtain ⟨k1, v', k2, k3⟩ := crange_ok h1 h
   exact ⟨v', by simp only [ERes.ev, peval, EOpd.ev, h2, if_pos k1, k2], k3⟩
  ·cases h
theorem cresL_ok (he : RnE s env env') (hr : HRc H0 s c H) : ∀ (l : List ERes) (x : List AV), cresL env c.H l = some x → ∃ x', l.mapM (ERes.ev env' H) = some x' ∧ RnL s x x'
 | [], x, h => by
  simp only [cresL, Option.some.injEq] at h
  subst h
  exact ⟨[], rfl, by simp only [RnL]⟩
 | r :: l, x, h => by
  simp only [cresL] at h
  split at h
  ·rename_i y ys e1 e2
   simp only [Option.some.injEq] at h
   subst h
   obtain ⟨y', g1, g2⟩ := cresv_ok he hr e1
   obtain ⟨ys', g3, g4⟩ := cresL_ok he hr l ys e2
   exact ⟨y' :: ys', by simp [List.mapM_cons, g1, g3], by simp only [RnL]; exact ⟨_, _, rfl, g2, g4⟩⟩
  ·cases h
theorem cres_ok (he : RnE s env env') (hr : HRc H0 s c H) {l : List ERes} {x : AV} (h : cres l env c.H = some x) : ∃ x', results l env' H = some x' ∧ Rn s x x' := by
 unfold cres at h
 split at h
 ·exact cresv_ok he hr h
 ·rename_i hn
  simp only [Option.map_eq_some_iff] at h
  obtain ⟨y, e, rfl⟩ := h
  obtain ⟨y', g1, g2⟩ := cresL_ok he hr l y e
  refine ⟨.tup y', ?_, by simp only [Rn]; exact ⟨_, rfl, g2⟩⟩
  unfold results
  split
  ·rename_i r
   exact absurd rfl (hn r)
  ·rw [g1]; rfl
theorem init_rn : ∀ {az az' : List AV}, RnL s az az' → RnE s (initEnv az) (initEnv az') := by
 intro az az' h j
 rw [initFrom_get, initFrom_get]
 simp only [Nat.zero_le, if_true, Nat.sub_zero]
 cases e : az[j]? with
 | none =>
  simp only [List.getD, e, Option.getD_none, Rn]
 | some a =>
  obtain ⟨a', g1, g2⟩ := h.get j a e
  simp only [List.getD, e, g1, Option.getD_some]
  exact g2
def TabOK (P : Program) (tab : Tab) : Prop := ∀ f e rs m, tab f = some (e, rs, m) → ∃ fn, P.funcs[f]? = some fn ∧ chkF P fn m e rs = true
def LibOK (P : Program) (lib : Lib) : Prop := ∀ f az r, lib f az = some r → flatL az = true → Pure P f az r
theorem AVLes.rvL {m : Mem} : ∀ {az bs : List AV} {l : List Value}, AVLes az bs → RvL m az l → RvL m bs l
 | [], _, _, h, k => by simp only [AVLes] at h; subst h; exact k
 | a :: az, _, _, h, k => by
  simp only [AVLes] at h
  obtain ⟨b, bs, rfl, h1, h2⟩ := h
  simp only [RvL] at k ⊢
  obtain ⟨v, vs, e1, e2, e3⟩ := k
  exact ⟨v, vs, e1, h1 m v e2, AVLes.rvL h2 e3⟩
theorem run_ok (hm : P.follows .mixedOrders = true) (htab : TabOK P tab) (hlib : LibOK P lib) (hcv : ∀ f ∈ cvs, callable P f = true) : ∀ (n : Nat) (rs : List ERes) (k : List CI) (env : Env) (c : CS) (v : AV) (c1 : CS), run tab lib cvs n rs k env c = some (v, c1) →
  ∀ (H0 : AHeap) (s0 s : Sg) (env' : Env) (H : AHeap) (l : List Item) (R : Out → AHeap → Prop), Sg.Le s0 s → RnE s env env' → HRc H0 s c H → IR tab lib cvs rs v c1 H0 s0 n k l → (∀ s' v' H', Sg.Le s0 s' → Rn s' v v' → HRc H0 s' c1 H' → R (.ret v') H') → AM P rs R l env' H := by
 intro n
 induction n using Nat.strongRecOn with
 | ind n ih =>
 intro rs k env c v c1 h H0 s0 s env' H l R hs he hr hi hR
 match n with
 | 0 => cases h
 | n + 1 =>
  have hcl : CallOK P (clOf tab lib cvs n) := by
   intro f az c v c' h H0 s az' H ha hr
   unfold clOf at h
   split at h
   ·rename_i r e
    cases hf : (flatL (wkL az) && r.flat) with
    | false => rw [hf] at h; cases h
    | true =>
     rw [hf] at h
     simp only [cond_true, Option.some.injEq, Prod.mk.injEq] at h
     obtain ⟨rfl, rfl⟩ := h
     simp only [Bool.and_eq_true] at hf
     have hp := hlib f _ _ e hf.1 H
     have hp' : ACalls P f az' H fun o H' => o = .ret r ∧ H' = H := fun m vs hH rh hv => hp m vs hH rh ((wkL_les _ _ ha hf.1).rvL hv)
     exact hp'.mono fun o H' ⟨e1, e2⟩ => ⟨o, H', by subst e1; exact AVLe.refl _, HSub.refl _, s, r, Sg.Le.refl s, e1, (AV.flat_rn r hf.2 r).2 rfl, by rw [e2]; exact hr⟩
   ·split at h
    ·rename_i e rs m e1
     cases hl : az.length == m with
     | false => rw [hl] at h; cases h
     | true =>
      rw [hl, cond_true] at h
      obtain ⟨fn, f1, f2⟩ := htab f e rs m e1
      have hl : az'.length = m := by rw [RnL.length ha]; simpa using hl
      subst hl
      exact acalls_of hm f1 f2 (ih n (Nat.lt_succ_self n) rs _ _ c v c' h H0 s s _ H _ _ (Sg.Le.refl s) (init_rn ha) hr ⟨rfl, trivial⟩ fun s' v' H' q1 q2 q3 => ⟨s', v', q1, rfl, q2, q3⟩)
    ·cases h
  have step : ∀ {k2 : List CI} {env2 : Env} {c2 : CS} {s2 : Sg} {env2' : Env} {H2 : AHeap} {l2 : List Item}, run tab lib cvs n rs k2 env2 c2 = some (v, c1) → Sg.Le s0 s2 → RnE s2 env2 env2' → HRc H0 s2 c2 H2 → IR tab lib cvs rs v c1 H0 s0 n k2 l2 → AM P rs R l2 env2' H2 :=
   fun h hs he hr hi => ih n (Nat.lt_succ_self n) rs _ _ _ v c1 h H0 s0 _ _ _ _ R hs he hr hi hR
  have down : ∀ {k2 l2}, IR tab lib cvs rs v c1 H0 s0 (n + 1) k2 l2 → IR tab lib cvs rs v c1 H0 s0 n k2 l2 := fun h => IR.mono (Nat.le_succ n) _ _ h
  have fin : ∀ {x : AV}, cres rs env c.H = some x → x = v → c = c1 → ∃ x', results rs env' H = some x' ∧ R (.ret x') H := by
   intro x hx e1 e2
   subst e1 e2
   obtain ⟨x', g1, g2⟩ := cres_ok he hr hx
   exact ⟨x', g1, hR s x' H hs g2 hr⟩
  match k, l, hi, h with
  | [], [], _, h =>
   simp only [run, Option.map_eq_some_iff, Prod.mk.injEq] at h
   obtain ⟨x, e1, e2, e3⟩ := h
   obtain ⟨x', g1, g2⟩ := fin e1 e2 e3
   exact .done g1 g2
  | .blk i :: k, .blk j :: l, hi, h => exact .blkEnd (step h hs he hr (down hi.2))
  | .rnd b :: k, .round I m0 :: l, hi, h =>
   obtain ⟨h1, ⟨B, h2, h3⟩, h4⟩ := hi
   subst h3
   exact .round n ⟨by omega, s, env, c, hs, h, he, hr⟩ (by omega)
  | .c e :: k, .c e' :: l, hi, h =>
   obtain ⟨rfl, hi⟩ := hi
   match e, h with
   | .ret, h =>
    simp only [run, Option.map_eq_some_iff, Prod.mk.injEq] at h
    obtain ⟨x, e1, e2, e3⟩ := h
    obtain ⟨x', g1, g2⟩ := fin e1 e2 e3
    exact .ret g1 g2
   | .skip, h => exact .skip (step h hs he hr (down hi))
   | .seq a b, h => exact .seq (step h hs he hr ⟨rfl, rfl, down hi⟩)
   | .block id b, h => exact .block (step h hs he hr ⟨rfl, rfl, down hi⟩)
   | .exit id, h =>
    simp only [run] at h
    split at h
    ·rename_i k' e
     obtain ⟨l1, g1, g2⟩ := cpop_ok k l hi e
     exact .exit g1 (step h hs he hr (down g2))
    ·cases h
   | .cond x a b, h =>
    have hx := cev_rn he x
    simp only [run] at h
    split at h
    ·rename_i e
     rw [e] at hx
     simp only [Rn] at hx
     exact .cond hx (fun _ => step h hs he hr ⟨rfl, down hi⟩) (fun hh => by cases hh)
    ·rename_i e
     rw [e] at hx
     simp only [Rn] at hx
     exact .cond hx (fun hh => by cases hh) (fun _ => step h hs he hr ⟨rfl, down hi⟩)
    ·cases h
   | .region ops draw, h =>
    have h' : (match dmr cvs (clOf tab lib cvs n) ops env c with
     | some (_, env', c') => run tab lib cvs n rs k env' c'
     | none => none) = some (v, c1) := h
    split at h'
    ·rename_i anns env1 c2 e
     exact .reg anns (dmr_ok hcl hcv ops env c anns env1 c2 e s env' H _ he hr fun s' e' H' q1 q2 q3 => step h' (hs.trans q1) q2 q3 (down hi))
    ·cases h'
   | .loop body, h =>
    refine .loop (Inv tab lib cvs rs v c1 H0 s0 body k n) n ⟨Nat.le_refl n, s, env, c, hs, h, he, hr⟩ fun m env2 H2 hI => ?_
    obtain ⟨hm', s2, env2c, c2, q1, q2, q3, q4⟩ := hI
    exact ih m (by omega) rs _ _ _ v c1 q2 H0 s0 s2 env2 H2 _ R q1 q3 q4 ⟨rfl, Nat.le_refl m, ⟨n, by omega, rfl⟩, IR.mono (by omega) _ _ hi⟩ hR
   | .dfr d f cap, h => cases h
  | [], _ :: _, hi, _ => cases hi
  | .c _ :: _, [], hi, _ => cases hi
  | .c _ :: _, .blk _ :: _, hi, _ => cases hi
  | .c _ :: _, .round _ _ :: _, hi, _ => cases hi
  | .blk _ :: _, [], hi, _ => cases hi
  | .blk _ :: _, .c _ :: _, hi, _ => cases hi
  | .blk _ :: _, .round _ _ :: _, hi, _ => cases hi
  | .rnd _ :: _, [], hi, _ => cases hi
  | .rnd _ :: _, .c _ :: _, hi, _ => cases hi
  | .rnd _ :: _, .blk _ :: _, hi, _ => cases hi
theorem pure_run (hm : P.follows .mixedOrders = true) (htab : TabOK P tab) (hlib : LibOK P lib) (hcv : ∀ f ∈ cvs, callable P f = true) {f : FuncId} {fn : Func} {e : EC} {rs : List ERes} {az : List AV} {r : AV} {n : Nat} {x : AV × CS}
  (hf : P.funcs[f]? = some fn) (hc : chkF P fn az.length e rs = true) (ha : flatL az = true) (h : run tab lib cvs n rs [.c e] (initEnv az) .new = some x) (hx : x.1.wk = r) (hr : r.flat = true) : Pure P f az r := by
 refine pure_intro hm hf hc fun H => ?_
 refine run_ok hm htab hlib hcv n rs _ _ _ x.1 x.2 h H ⟨[], []⟩ ⟨[], []⟩ _ H _ _ (Sg.Le.refl _) (init_rn ((flatL_rn az ha _).2 rfl)) (HRc.start H) ⟨rfl, trivial⟩ fun s' v' H' _ h2 h3 => ?_
 subst hx
 exact ⟨v', rfl, fun m y hy => wk_le x.1 v' h2 hr y hy, h3.base⟩
end
end Go.Aw
namespace Go.Aw.T
open Go Go.Aw Go.Proofs
set_option maxRecDepth 1000000
abbrev iI (d : Nat) (o : EOp) : EI := ⟨some d, none, o⟩
abbrev iG (d j : Nat) (b : Bool) (o : EOp) : EI := ⟨some d, some (j, b), o⟩
abbrev iN (o : EOp) : EI := ⟨none, none, o⟩
def e11 : EC :=
 (.seq
 (.region [iI 1 (.box 36 (.t 0)),iI 2 (.mv (.c (.bool false)))] false)
 (.seq
 (.seq
 (.region [iI 5 (.faddr 0 (.t 1)),iI 6 (.load false 1 (.t 5)),iI 7 (.call 29 [(.t 6)]),iI 8 (.not (.t 7)),iI 9 (.mv (.t 8)),iG 10 9 false (.faddr 1 (.t 1)),iG 11 9 false (.load false 1 (.t 10)),iG 12 9 false (.call 30 [(.t 11), (.c (.int .i64 0)), (.c (.int .i64 5))]),iG 13 9 false (.not (.t 12)),iI 14 (.pick (.t 9) (.c (.bool true)) (.t 13)),iI 15 (.mv (.t 14)),iG 16 15 false (.faddr 5 (.t 1)),iG 17 15 false (.load false 1 (.t 16)),iG 18 15 false (.len (.t 17)),iG 19 15 false (.call 30 [(.t 18), (.c (.int .i64 1)), (.c (.int .i64 1000))]),iG 20 15 false (.not (.t 19)),iI 21 (.pick (.t 15) (.c (.bool true)) (.t 20)),iI 22 (.mv (.t 21)),iG 23 22 false (.load true 6 (.t 1)),iG 24 22 false (.call 31 [(.t 23)]),iG 25 22 false (.not (.t 24)),iI 26 (.pick (.t 22) (.c (.bool true)) (.t 25)),iI 27 (.mv (.t 26)),iG 28 27 false (.load true 6 (.t 1)),iG 29 27 false (.call 32 [(.t 28)]),iG 30 27 false (.not (.t 29)),iI 31 (.pick (.t 27) (.c (.bool true)) (.t 30))] false)
 (.cond (.t 31)
 (.seq
 (.region [iI 2 (.mv (.c (.bool false)))] false)
 .ret)
 .skip))
 (.seq
 (.seq
 (.region [iI 32 (.faddr 5 (.t 1)),iI 33 (.load false 1 (.t 32)),iI 34 (.len (.t 33)),iI 35 (.mv (.c (.int .i64 0)))] false)
 (.block 0
 (.loop
 (.seq
 (.region [iI 36 (.bin .lss (.t 35) (.t 34))] false)
 (.seq
 (.cond (.t 36)
 .skip
 (.exit 0))
 (.seq
 (.block 1
 (.seq
 (.region [iI 37 (.iaddr 3 (.t 33) (.t 35)),iI 38 (.load true 3 (.t 37)),iI 4 (.alloc 43 [.int .i64 0, .int .i64 0, .str []]),iN (.store 3 (.t 4) (.t 38))] false)
 (.seq
 (.seq
 (.region [iI 39 (.load true 3 (.t 4)),iI 40 (.call 33 [(.t 39)]),iI 41 (.not (.t 40))] false)
 (.cond (.t 41)
 (.seq
 (.region [iI 2 (.mv (.c (.bool false)))] false)
 .ret)
 .skip))
 (.seq
 (.region [iI 42 (.faddr 0 (.t 4)),iI 43 (.load false 1 (.t 42))] false)
 (.block 2
 (.seq
 (.seq
 (.region [iI 45 (.bin .eql (.t 43) (.c (.int .i64 3))),iI 44 (.mv (.t 45))] false)
 (.cond (.t 44)
 .skip
 (.region [iI 46 (.bin .eql (.t 43) (.c (.int .i64 5))),iI 44 (.mv (.t 46))] false)))
 (.cond (.t 44)
 (.seq
 (.region [iI 47 (.faddr 1 (.t 4)),iI 48 (.load false 1 (.t 47)),iI 49 (.faddr 2 (.t 1)),iI 50 (.load false 1 (.t 49)),iI 51 (.len (.t 50)),iI 52 (.bin .geq (.t 48) (.t 51))] false)
 (.cond (.t 52)
 (.seq
 (.region [iI 2 (.mv (.c (.bool false)))] false)
 .ret)
 .skip))
 (.seq
 (.seq
 (.region [iI 54 (.bin .eql (.t 43) (.c (.int .i64 19))),iI 53 (.mv (.t 54))] false)
 (.cond (.t 53)
 .skip
 (.seq
 (.region [iI 55 (.bin .eql (.t 43) (.c (.int .i64 20))),iI 53 (.mv (.t 55))] false)
 (.cond (.t 53)
 .skip
 (.region [iI 56 (.bin .eql (.t 43) (.c (.int .i64 22))),iI 53 (.mv (.t 56))] false)))))
 (.cond (.t 53)
 (.seq
 (.region [iI 57 (.load true 6 (.t 1)),iI 58 (.faddr 1 (.t 4)),iI 59 (.load false 1 (.t 58)),iI 60 (.call 34 [(.t 57), (.t 59)]),iI 61 (.not (.t 60))] false)
 (.cond (.t 61)
 (.seq
 (.region [iI 2 (.mv (.c (.bool false)))] false)
 .ret)
 .skip))
 .skip)))))))))
 (.region [iI 62 (.bin .add (.t 35) (.c (.int .i64 1))),iI 35 (.mv (.t 62))] false)))))))
 (.seq
 (.region [iI 2 (.mv (.c (.bool true)))] false)
 .ret))))
def r11 : List ERes := [.t 2]
theorem c11 : chkF Tryz.prog Tryz.f11 1 e11 r11 = true := by kernel_rfl
def e14 : EC :=
 (.seq
 (.region [iI 2 (.box 36 (.t 0)),iI 3 (.box 36 (.t 1)),iI 4 (.mv (.c (.bool false)))] false)
 (.seq
 (.region [iI 5 (.faddr 0 (.t 2)),iI 6 (.load false 1 (.t 5)),iI 7 (.faddr 0 (.t 3)),iI 8 (.load false 1 (.t 7)),iI 9 (.bin .eql (.t 6) (.t 8)),iI 10 (.mv (.t 9)),iG 11 10 true (.faddr 1 (.t 2)),iG 12 10 true (.load false 1 (.t 11)),iG 13 10 true (.faddr 1 (.t 3)),iG 14 10 true (.load false 1 (.t 13)),iG 15 10 true (.bin .eql (.t 12) (.t 14)),iI 16 (.pick (.t 10) (.t 15) (.c (.bool false))),iI 17 (.mv (.t 16)),iG 18 17 true (.faddr 2 (.t 2)),iG 19 17 true (.load false 1 (.t 18)),iG 20 17 true (.faddr 2 (.t 3)),iG 21 17 true (.load false 1 (.t 20)),iG 22 17 true (.call 39 [(.t 19), (.t 21)]),iI 23 (.pick (.t 17) (.t 22) (.c (.bool false))),iI 24 (.mv (.t 23)),iG 25 24 true (.faddr 3 (.t 2)),iG 26 24 true (.load false 1 (.t 25)),iG 27 24 true (.faddr 3 (.t 3)),iG 28 24 true (.load false 1 (.t 27)),iG 29 24 true (.call 40 [(.t 26), (.t 28)]),iI 30 (.pick (.t 24) (.t 29) (.c (.bool false))),iI 31 (.mv (.t 30)),iG 32 31 true (.faddr 4 (.t 2)),iG 33 31 true (.load false 1 (.t 32)),iG 34 31 true (.faddr 4 (.t 3)),iG 35 31 true (.load false 1 (.t 34)),iG 36 31 true (.call 41 [(.t 33), (.t 35)]),iI 37 (.pick (.t 31) (.t 36) (.c (.bool false))),iI 38 (.mv (.t 37)),iG 39 38 true (.faddr 5 (.t 2)),iG 40 38 true (.load false 1 (.t 39)),iG 41 38 true (.faddr 5 (.t 3)),iG 42 38 true (.load false 1 (.t 41)),iG 43 38 true (.call 42 [(.t 40), (.t 42)]),iI 44 (.pick (.t 38) (.t 43) (.c (.bool false))),iI 4 (.mv (.t 44))] false)
 .ret))
def r14 : List ERes := [.t 4]
theorem c14 : chkF Tryz.prog Tryz.f14 2 e14 r14 = true := by kernel_rfl
def e16 : EC :=
 (.seq
 (.region [iI 1 (.box 43 (.t 0)),iI 2 (.mv (.c (.str [])))] false)
 (.seq
 (.seq
 (.region [iI 7 (.load true 3 (.t 1)),iI 8 (.call 33 [(.t 7)]),iI 9 (.not (.t 8))] false)
 (.cond (.t 9)
 (.seq
 (.region [iI 2 (.mv (.c (.str [63])))] false)
 .ret)
 .skip))
 (.seq
 (.region [iI 10 (.pcall 43 []),iI 11 (.faddr 0 (.t 1)),iI 12 (.load false 1 (.t 11)),iI 13 (.idxA false 25 1 (.t 10) (.t 12)),iI 3 (.mv (.t 13))] true)
 (.seq
 (.seq
 (.region [iI 14 (.faddr 0 (.t 1)),iI 15 (.load false 1 (.t 14)),iI 16 (.bin .eql (.t 15) (.c (.int .i64 2)))] false)
 (.cond (.t 16)
 (.seq
 (.region [iI 17 (.mv (.t 3)),iI 18 (.bin .add (.t 17) (.c (.str [32]))),iI 19 (.faddr 2 (.t 1)),iI 20 (.load false 1 (.t 19)),iI 21 (.build [.int .i64 0, .int .i64 0, .str []] [(0, 1, (.c (.int .i64 2))), (2, 1, (.t 20))]),iI 22 (.call 44 [(.t 21)]),iI 23 (.bin .add (.t 18) (.t 22)),iI 2 (.mv (.t 23))] false)
 .ret)
 .skip))
 (.seq
 (.seq
 (.region [iI 25 (.faddr 0 (.t 1)),iI 26 (.load false 1 (.t 25)),iI 27 (.call 45 [(.t 26)]),iI 24 (.mv (.t 27)),iI 28 (.extract 0 (.t 24)),iI 29 (.extract 1 (.t 24)),iI 30 (.extract 2 (.t 24)),iI 4 (.mv (.t 28)),iI 5 (.mv (.t 29)),iI 6 (.mv (.t 30))] false)
 (.seq
 (.region [iI 31 (.mv (.t 6))] false)
 (.cond (.t 31)
 (.seq
 (.region [iI 32 (.mv (.t 3)),iI 33 (.bin .add (.t 32) (.c (.str [32]))),iI 34 (.faddr 1 (.t 1)),iI 35 (.load false 1 (.t 34)),iI 36 (.call 46 [(.t 35)]),iI 37 (.bin .add (.t 33) (.t 36)),iI 2 (.mv (.t 37))] false)
 .ret)
 .skip)))
 (.seq
 (.region [iI 38 (.mv (.t 3)),iI 2 (.mv (.t 38))] false)
 .ret))))))
def r16 : List ERes := [.t 2]
theorem c16 : chkF Tryz.prog Tryz.f16 1 e16 r16 = true := by kernel_rfl
def e17 : EC :=
 (.seq
 (.region [iI 2 (.alloc 43 [.int .i64 0, .int .i64 0, .str []]),iI 3 (.mv (.c (.int .i64 0)))] false)
 (.seq
 (.region [iI 12 (.mv (.t 0)),iI 13 (.call 47 [(.t 12), (.c (.str [32]))]),iI 11 (.mv (.t 13)),iI 14 (.extract 0 (.t 11)),iI 15 (.extract 1 (.t 11)),iI 16 (.extract 2 (.t 11)),iI 4 (.mv (.t 14)),iI 5 (.mv (.t 15)),iI 6 (.mv (.t 16))] false)
 (.seq
 (.region [iI 17 (.call 43 []),iI 7 (.alloc 85 [.str [], .str [], .str [], .str [], .str [], .str [], .str [], .str [], .str [], .str [], .str [], .str [], .str [], .str [], .str [], .str [], .str [], .str [], .str [], .str [], .str [], .str [], .str [], .str [], .str []]),iN (.store 25 (.t 7) (.t 17))] false)
 (.seq
 (.region [iI 18 (.slA 25 1 (.t 7)),iI 19 (.mv (.t 4)),iI 20 (.call 48 [(.t 18), (.t 19)]),iI 21 (.build [.int .i64 0, .int .i64 0, .str []] [(0, 1, (.t 20))]),iI 8 (.alloc 43 [.int .i64 0, .int .i64 0, .str []]),iN (.store 3 (.t 8) (.t 21))] false)
 (.seq
 (.seq
 (.region [iI 22 (.faddr 0 (.t 8)),iI 23 (.load false 1 (.t 22)),iI 24 (.bin .lss (.t 23) (.c (.int .i64 1)))] false)
 (.cond (.t 24)
 (.seq
 (.region [iI 25 (.build [.int .i64 0, .int .i64 0, .str []] []),iN (.store 3 (.t 2) (.t 25)),iI 3 (.mv (.c (.int .i64 3)))] false)
 .ret)
 .skip))
 (.seq
 (.seq
 (.region [iI 26 (.mv (.t 6)),iI 27 (.mv (.t 26)),iG 28 27 true (.faddr 0 (.t 8)),iG 29 27 true (.load false 1 (.t 28)),iG 30 27 true (.bin .eql (.t 29) (.c (.int .i64 2))),iI 31 (.pick (.t 27) (.t 30) (.c (.bool false)))] false)
 (.cond (.t 31)
 (.seq
 (.region [iI 33 (.mv (.t 5)),iI 34 (.call 49 [(.t 33)]),iI 32 (.mv (.t 34)),iI 35 (.extract 0 (.t 32)),iI 36 (.extract 1 (.t 32)),iI 9 (.alloc 66 [.int .i64 0, .int .i64 0, .str []]),iN (.store 3 (.t 9) (.t 35)),iI 10 (.mv (.t 36))] false)
 (.region [iI 37 (.faddr 2 (.t 9)),iI 38 (.load false 1 (.t 37)),iI 39 (.faddr 2 (.t 8)),iN (.store 1 (.t 39) (.t 38))] false))
 (.seq
 (.region [iI 40 (.mv (.t 6))] false)
 (.cond (.t 40)
 (.region [iI 42 (.mv (.t 5)),iI 43 (.call 50 [(.t 42)]),iI 41 (.mv (.t 43)),iI 44 (.extract 0 (.t 41)),iI 45 (.extract 1 (.t 41)),iI 46 (.faddr 1 (.t 8)),iN (.store 1 (.t 46) (.t 44))] false)
 .skip))))
 (.seq
 (.seq
 (.region [iI 47 (.load true 3 (.t 8)),iI 48 (.call 16 [(.t 47)]),iI 49 (.mv (.t 0)),iI 50 (.bin .neq (.t 48) (.t 49))] false)
 (.cond (.t 50)
 (.seq
 (.region [iI 51 (.build [.int .i64 0, .int .i64 0, .str []] []),iN (.store 3 (.t 2) (.t 51)),iI 3 (.mv (.c (.int .i64 3)))] false)
 .ret)
 .skip))
 (.seq
 (.region [iI 52 (.load true 3 (.t 8)),iN (.store 3 (.t 2) (.t 52)),iI 3 (.mv (.c (.int .i64 0)))] false)
 .ret))))))))
def r17 : List ERes := [.cell true 3 2, .t 3]
theorem c17 : chkF Tryz.prog Tryz.f17 1 e17 r17 = true := by kernel_rfl
def e27 : EC :=
 (.seq
 (.region [iI 1 (.box 36 (.t 0)),iI 2 (.mv (.c (.nilS)))] false)
 (.seq
 (.seq
 (.region [iI 13 (.load true 6 (.t 1)),iI 14 (.call 11 [(.t 13)]),iI 15 (.not (.t 14))] false)
 (.cond (.t 15)
 (.seq
 (.region [iI 2 (.mv (.c (.nilS)))] false)
 .ret)
 .skip))
 (.seq
 (.region [iI 16 (.faddr 0 (.t 1)),iI 17 (.load false 1 (.t 16)),iI 18 (.bin .add (.c (.str [115, 101, 114, 118, 105, 99, 101, 32])) (.t 17)),iI 19 (.bin .add (.t 18) (.c (.str [32, 114, 111, 108, 101]))),iI 20 (.faddr 1 (.t 1)),iI 21 (.load false 1 (.t 20)),iI 22 (.bslice 3 1 1 [.int .i64 0] [(0, (.t 21))]),iI 23 (.call 74 [(.t 19), (.t 22)]),iI 24 (.bsliceO 9 1 1 [.str []] [(0, (.t 23))]),iI 3 (.mv (.t 24))] false)
 (.seq
 (.seq
 (.region [iI 25 (.faddr 2 (.t 1)),iI 26 (.load false 1 (.t 25)),iI 27 (.len (.t 26)),iI 28 (.mv (.c (.int .i64 0)))] false)
 (.block 0
 (.loop
 (.seq
 (.region [iI 29 (.bin .lss (.t 28) (.t 27))] false)
 (.seq
 (.cond (.t 29)
 .skip
 (.exit 0))
 (.seq
 (.block 1
 (.seq
 (.region [iI 30 (.iaddr 7 (.t 26) (.t 28)),iI 31 (.load true 7 (.t 30)),iI 5 (.alloc 73 [.str [], .int .i64 0, .int .i64 0, .int .i64 0, .int .i64 0, .int .i64 0, .str []]),iN (.store 7 (.t 5) (.t 31))] false)
 (.seq
 (.region [iI 6 (.mv (.c (.str [105, 110, 116])))] false)
 (.seq
 (.seq
 (.region [iI 32 (.faddr 1 (.t 5)),iI 33 (.faddr 0 (.t 32)),iI 34 (.load false 1 (.t 33)),iI 35 (.bin .eql (.t 34) (.c (.int .i64 2)))] false)
 (.cond (.t 35)
 (.region [iI 6 (.mv (.c (.str [116, 101, 120, 116])))] false)
 .skip))
 (.region [iI 36 (.mv (.t 3)),iI 37 (.faddr 0 (.t 5)),iI 38 (.load false 1 (.t 37)),iI 39 (.bin .add (.c (.str [118, 97, 114, 32])) (.t 38)),iI 40 (.bin .add (.t 39) (.c (.str [32]))),iI 41 (.mv (.t 6)),iI 42 (.bin .add (.t 40) (.t 41)),iI 43 (.faddr 1 (.t 5)),iI 44 (.faddr 1 (.t 43)),iI 45 (.load false 1 (.t 44)),iI 46 (.faddr 1 (.t 5)),iI 47 (.faddr 2 (.t 46)),iI 48 (.load false 1 (.t 47)),iI 49 (.bslice 3 1 2 [.int .i64 0] [(0, (.t 45)), (1, (.t 48))]),iI 50 (.pcall 74 [(.t 42), (.t 49)]),iI 51 (.bin .add (.t 50) (.c (.str [32]))),iI 52 (.faddr 4 (.t 5)),iI 53 (.load true 3 (.t 52)),iI 54 (.pcall 44 [(.t 53)]),iI 55 (.bin .add (.t 51) (.t 54)),iI 56 (.bslice 9 1 1 [.str []] [(0, (.t 55))]),iI 57 (.append 9 1 16 (.t 36) (.t 56)),iI 3 (.mv (.t 57))] true)))))
 (.region [iI 58 (.bin .add (.t 28) (.c (.int .i64 1))),iI 28 (.mv (.t 58))] false)))))))
 (.seq
 (.seq
 (.region [iI 59 (.faddr 3 (.t 1)),iI 60 (.load false 1 (.t 59)),iI 61 (.len (.t 60)),iI 62 (.mv (.c (.int .i64 0)))] false)
 (.block 2
 (.loop
 (.seq
 (.region [iI 63 (.bin .lss (.t 62) (.t 61))] false)
 (.seq
 (.cond (.t 63)
 .skip
 (.exit 2))
 (.seq
 (.block 3
 (.seq
 (.region [iI 64 (.iaddr 3 (.t 60) (.t 62)),iI 65 (.load true 3 (.t 64)),iI 8 (.alloc 75 [.int .i64 0, .int .i64 0, .int .i64 0]),iN (.store 3 (.t 8) (.t 65))] false)
 (.region [iI 66 (.mv (.t 3)),iI 67 (.faddr 0 (.t 8)),iI 68 (.load false 1 (.t 67)),iI 69 (.faddr 1 (.t 8)),iI 70 (.load false 1 (.t 69)),iI 71 (.faddr 2 (.t 8)),iI 72 (.load false 1 (.t 71)),iI 73 (.bslice 3 1 3 [.int .i64 0] [(0, (.t 68)), (1, (.t 70)), (2, (.t 72))]),iI 74 (.call 74 [(.c (.str [111, 110])), (.t 73)]),iI 75 (.bslice 9 1 1 [.str []] [(0, (.t 74))]),iI 76 (.append 9 1 16 (.t 66) (.t 75)),iI 3 (.mv (.t 76))] false)))
 (.region [iI 77 (.bin .add (.t 62) (.c (.int .i64 1))),iI 62 (.mv (.t 77))] false)))))))
 (.seq
 (.seq
 (.region [iI 78 (.faddr 4 (.t 1)),iI 79 (.load false 1 (.t 78)),iI 80 (.len (.t 79)),iI 81 (.mv (.c (.int .i64 0)))] false)
 (.block 4
 (.loop
 (.seq
 (.region [iI 82 (.bin .lss (.t 81) (.t 80))] false)
 (.seq
 (.cond (.t 82)
 .skip
 (.exit 4))
 (.seq
 (.block 5
 (.seq
 (.region [iI 83 (.iaddr 4 (.t 79) (.t 81)),iI 84 (.load true 4 (.t 83)),iI 10 (.alloc 78 [.int .i64 0, .int .i64 0, .int .i64 0, .int .i64 0]),iN (.store 4 (.t 10) (.t 84))] false)
 (.region [iI 85 (.mv (.t 3)),iI 86 (.faddr 0 (.t 10)),iI 87 (.load false 1 (.t 86)),iI 88 (.faddr 1 (.t 10)),iI 89 (.load false 1 (.t 88)),iI 90 (.faddr 2 (.t 10)),iI 91 (.load false 1 (.t 90)),iI 92 (.faddr 3 (.t 10)),iI 93 (.load false 1 (.t 92)),iI 94 (.bslice 3 1 4 [.int .i64 0] [(0, (.t 87)), (1, (.t 89)), (2, (.t 91)), (3, (.t 93))]),iI 95 (.call 74 [(.c (.str [111, 102, 102, 101, 114])), (.t 94)]),iI 96 (.bslice 9 1 1 [.str []] [(0, (.t 95))]),iI 97 (.append 9 1 16 (.t 85) (.t 96)),iI 3 (.mv (.t 97))] false)))
 (.region [iI 98 (.bin .add (.t 81) (.c (.int .i64 1))),iI 81 (.mv (.t 98))] false)))))))
 (.seq
 (.seq
 (.region [iI 99 (.faddr 5 (.t 1)),iI 100 (.load false 1 (.t 99)),iI 101 (.len (.t 100)),iI 102 (.mv (.c (.int .i64 0)))] false)
 (.block 6
 (.loop
 (.seq
 (.region [iI 103 (.bin .lss (.t 102) (.t 101))] false)
 (.seq
 (.cond (.t 103)
 .skip
 (.exit 6))
 (.seq
 (.block 7
 (.seq
 (.region [iI 104 (.mv (.t 102)),iI 105 (.iaddr 3 (.t 100) (.t 102)),iI 106 (.load true 3 (.t 105)),iI 12 (.alloc 43 [.int .i64 0, .int .i64 0, .str []]),iI 11 (.mv (.t 104)),iN (.store 3 (.t 12) (.t 106))] false)
 (.region [iI 107 (.mv (.t 3)),iI 108 (.mv (.t 11)),iI 109 (.pcall 46 [(.t 108)]),iI 110 (.bin .add (.t 109) (.c (.str [58, 32]))),iI 111 (.load true 3 (.t 12)),iI 112 (.pcall 16 [(.t 111)]),iI 113 (.bin .add (.t 110) (.t 112)),iI 114 (.bslice 9 1 1 [.str []] [(0, (.t 113))]),iI 115 (.append 9 1 16 (.t 107) (.t 114)),iI 3 (.mv (.t 115))] true)))
 (.region [iI 116 (.bin .add (.t 102) (.c (.int .i64 1))),iI 102 (.mv (.t 116))] false)))))))
 (.seq
 (.region [iI 117 (.mv (.t 3)),iI 2 (.mv (.t 117))] false)
 .ret))))))))
def r27 : List ERes := [.t 2]
theorem c27 : chkF Tryz.prog Tryz.f27 1 e27 r27 = true := by kernel_rfl
def e29 : EC :=
 (.seq
 (.region [iI 2 (.mv (.c (.bool false)))] false)
 (.seq
 (.seq
 (.region [iI 4 (.mv (.t 0)),iI 5 (.bin .eql (.t 4) (.c (.str []))),iI 6 (.mv (.t 5)),iG 7 6 false (.mv (.t 0)),iG 8 6 false (.lenS (.t 7)),iG 9 6 false (.bin .gtr (.t 8) (.c (.int .i64 16))),iI 10 (.pick (.t 6) (.c (.bool true)) (.t 9)),iI 11 (.mv (.t 10)),iG 12 11 false (.mv (.t 0)),iG 13 11 false (.idxS (.t 12) (.c (.int .i64 0))),iG 14 11 false (.call 75 [(.t 13)]),iG 15 11 false (.not (.t 14)),iI 16 (.pick (.t 11) (.c (.bool true)) (.t 15))] false)
 (.cond (.t 16)
 (.seq
 (.region [iI 2 (.mv (.c (.bool false)))] false)
 .ret)
 .skip))
 (.seq
 (.seq
 (.region [iI 17 (.mv (.t 0)),iI 18 (.lenS (.t 17)),iI 19 (.mv (.c (.int .i64 0)))] false)
 (.block 0
 (.loop
 (.seq
 (.region [iI 20 (.bin .lss (.t 19) (.t 18))] false)
 (.seq
 (.cond (.t 20)
 .skip
 (.exit 0))
 (.seq
 (.block 1
 (.seq
 (.region [iI 21 (.mv (.t 19)),iI 3 (.mv (.t 21))] false)
 (.seq
 (.region [iI 22 (.mv (.t 0)),iI 23 (.mv (.t 3)),iI 24 (.idxS (.t 22) (.t 23)),iI 25 (.call 76 [(.t 24)]),iI 26 (.not (.t 25))] false)
 (.cond (.t 26)
 (.seq
 (.region [iI 2 (.mv (.c (.bool false)))] false)
 .ret)
 .skip))))
 (.region [iI 27 (.bin .add (.t 19) (.c (.int .i64 1))),iI 19 (.mv (.t 27))] false)))))))
 (.seq
 (.region [iI 2 (.mv (.c (.bool true)))] false)
 .ret))))
def r29 : List ERes := [.t 2]
theorem c29 : chkF Tryz.prog Tryz.f29 1 e29 r29 = true := by kernel_rfl
def e30 : EC :=
 (.seq
 (.region [iI 6 (.mv (.c (.bool false)))] false)
 (.seq
 (.region [iI 7 (.mv (.t 0)),iI 8 (.mv (.t 1)),iI 9 (.bin .geq (.t 7) (.t 8)),iI 10 (.mv (.t 9)),iG 11 10 true (.mv (.t 0)),iG 12 10 true (.mv (.t 2)),iG 13 10 true (.bin .leq (.t 11) (.t 12)),iI 14 (.pick (.t 10) (.t 13) (.c (.bool false))),iI 6 (.mv (.t 14))] false)
 .ret))
def r30 : List ERes := [.t 6]
theorem c30 : chkF Tryz.prog Tryz.f30 3 e30 r30 = true := by kernel_rfl
def e31 : EC :=
 (.seq
 (.region [iI 1 (.box 36 (.t 0)),iI 2 (.mv (.c (.bool false)))] false)
 (.seq
 (.seq
 (.region [iI 6 (.faddr 2 (.t 1)),iI 7 (.load false 1 (.t 6)),iI 8 (.len (.t 7)),iI 9 (.mv (.c (.int .i64 0)))] false)
 (.block 0
 (.loop
 (.seq
 (.region [iI 10 (.bin .lss (.t 9) (.t 8))] false)
 (.seq
 (.cond (.t 10)
 .skip
 (.exit 0))
 (.seq
 (.block 1
 (.seq
 (.region [iI 11 (.mv (.t 9)),iI 12 (.iaddr 7 (.t 7) (.t 9)),iI 13 (.load true 7 (.t 12)),iI 4 (.alloc 73 [.str [], .int .i64 0, .int .i64 0, .int .i64 0, .int .i64 0, .int .i64 0, .str []]),iI 3 (.mv (.t 11)),iN (.store 7 (.t 4) (.t 13))] false)
 (.seq
 (.region [iI 14 (.mkfn 77 [(.t 4)]),iI 5 (.mv (.t 14))] false)
 (.seq
 (.region [iI 15 (.faddr 0 (.t 4)),iI 16 (.load false 1 (.t 15)),iI 17 (.call 29 [(.t 16)]),iI 18 (.not (.t 17)),iI 19 (.mv (.t 18)),iG 20 19 false (.faddr 2 (.t 1)),iG 21 19 false (.load false 1 (.t 20)),iG 22 19 false (.mv (.t 5)),iG 23 19 false (.call 78 [(.t 21), (.t 22)]),iG 24 19 false (.mv (.t 3)),iG 25 19 false (.bin .neq (.t 23) (.t 24)),iI 26 (.pick (.t 19) (.c (.bool true)) (.t 25)),iI 27 (.mv (.t 26)),iG 28 27 false (.faddr 1 (.t 4)),iG 29 27 false (.load true 3 (.t 28)),iG 30 27 false (.faddr 4 (.t 4)),iG 31 27 false (.load true 3 (.t 30)),iG 32 27 false (.call 79 [(.t 29), (.t 31)]),iG 33 27 false (.not (.t 32)),iI 34 (.pick (.t 27) (.c (.bool true)) (.t 33))] false)
 (.cond (.t 34)
 (.seq
 (.region [iI 2 (.mv (.c (.bool false)))] false)
 .ret)
 .skip)))))
 (.region [iI 35 (.bin .add (.t 9) (.c (.int .i64 1))),iI 9 (.mv (.t 35))] false)))))))
 (.seq
 (.region [iI 36 (.faddr 2 (.t 1)),iI 37 (.load false 1 (.t 36)),iI 38 (.len (.t 37)),iI 39 (.bin .leq (.t 38) (.c (.int .i64 12))),iI 2 (.mv (.t 39))] false)
 .ret)))
def r31 : List ERes := [.t 2]
theorem c31 : chkF Tryz.prog Tryz.f31 1 e31 r31 = true := by kernel_rfl
def e32 : EC :=
 (.seq
 (.region [iI 1 (.box 36 (.t 0)),iI 2 (.mv (.c (.bool false)))] false)
 (.seq
 (.seq
 (.region [iI 8 (.faddr 3 (.t 1)),iI 9 (.load false 1 (.t 8)),iI 10 (.len (.t 9)),iI 11 (.mv (.c (.int .i64 0)))] false)
 (.block 0
 (.loop
 (.seq
 (.region [iI 12 (.bin .lss (.t 11) (.t 10))] false)
 (.seq
 (.cond (.t 12)
 .skip
 (.exit 0))
 (.seq
 (.block 1
 (.seq
 (.region [iI 13 (.mv (.t 11)),iI 14 (.iaddr 3 (.t 9) (.t 11)),iI 15 (.load true 3 (.t 14)),iI 4 (.alloc 75 [.int .i64 0, .int .i64 0, .int .i64 0]),iI 3 (.mv (.t 13)),iN (.store 3 (.t 4) (.t 15))] false)
 (.seq
 (.region [iI 16 (.mkfn 80 [(.t 4)]),iI 5 (.mv (.t 16))] false)
 (.seq
 (.region [iI 17 (.load true 6 (.t 1)),iI 18 (.faddr 0 (.t 4)),iI 19 (.load false 1 (.t 18)),iI 20 (.faddr 1 (.t 4)),iI 21 (.load false 1 (.t 20)),iI 22 (.call 81 [(.t 17), (.t 19), (.t 21)]),iI 23 (.not (.t 22)),iI 24 (.mv (.t 23)),iG 25 24 false (.load true 6 (.t 1)),iG 26 24 false (.faddr 2 (.t 4)),iG 27 24 false (.load false 1 (.t 26)),iG 28 24 false (.call 34 [(.t 25), (.t 27)]),iG 29 24 false (.not (.t 28)),iI 30 (.pick (.t 24) (.c (.bool true)) (.t 29)),iI 31 (.mv (.t 30)),iG 32 31 false (.faddr 3 (.t 1)),iG 33 31 false (.load false 1 (.t 32)),iG 34 31 false (.mv (.t 5)),iG 35 31 false (.call 82 [(.t 33), (.t 34)]),iG 36 31 false (.mv (.t 3)),iG 37 31 false (.bin .neq (.t 35) (.t 36)),iI 38 (.pick (.t 31) (.c (.bool true)) (.t 37))] false)
 (.cond (.t 38)
 (.seq
 (.region [iI 2 (.mv (.c (.bool false)))] false)
 .ret)
 .skip)))))
 (.region [iI 39 (.bin .add (.t 11) (.c (.int .i64 1))),iI 11 (.mv (.t 39))] false)))))))
 (.seq
 (.seq
 (.region [iI 40 (.faddr 4 (.t 1)),iI 41 (.load false 1 (.t 40)),iI 42 (.len (.t 41)),iI 43 (.mv (.c (.int .i64 0)))] false)
 (.block 2
 (.loop
 (.seq
 (.region [iI 44 (.bin .lss (.t 43) (.t 42))] false)
 (.seq
 (.cond (.t 44)
 .skip
 (.exit 2))
 (.seq
 (.block 3
 (.seq
 (.region [iI 45 (.iaddr 4 (.t 41) (.t 43)),iI 46 (.load true 4 (.t 45)),iI 7 (.alloc 78 [.int .i64 0, .int .i64 0, .int .i64 0, .int .i64 0]),iN (.store 4 (.t 7) (.t 46))] false)
 (.seq
 (.region [iI 47 (.load true 6 (.t 1)),iI 48 (.faddr 0 (.t 7)),iI 49 (.load false 1 (.t 48)),iI 50 (.faddr 1 (.t 7)),iI 51 (.load false 1 (.t 50)),iI 52 (.call 81 [(.t 47), (.t 49), (.t 51)]),iI 53 (.not (.t 52)),iI 54 (.mv (.t 53)),iG 55 54 false (.load true 6 (.t 1)),iG 56 54 false (.faddr 3 (.t 7)),iG 57 54 false (.load false 1 (.t 56)),iG 58 54 false (.call 34 [(.t 55), (.t 57)]),iG 59 54 false (.not (.t 58)),iI 60 (.pick (.t 54) (.c (.bool true)) (.t 59)),iI 61 (.mv (.t 60)),iG 62 61 false (.faddr 2 (.t 7)),iG 63 61 false (.load false 1 (.t 62)),iG 64 61 false (.bin .neq (.t 63) (.c (.int .i64 (-1)))),iG 65 61 false (.mv (.t 64)),iG 66 65 true (.load true 6 (.t 1)),iG 67 65 true (.faddr 2 (.t 7)),iG 68 65 true (.load false 1 (.t 67)),iG 69 65 true (.call 34 [(.t 66), (.t 68)]),iG 70 65 true (.not (.t 69)),iG 71 61 false (.pick (.t 65) (.t 70) (.c (.bool false))),iI 72 (.pick (.t 61) (.c (.bool true)) (.t 71))] false)
 (.cond (.t 72)
 (.seq
 (.region [iI 2 (.mv (.c (.bool false)))] false)
 .ret)
 .skip))))
 (.region [iI 73 (.bin .add (.t 43) (.c (.int .i64 1))),iI 43 (.mv (.t 73))] false)))))))
 (.seq
 (.region [iI 74 (.faddr 3 (.t 1)),iI 75 (.load false 1 (.t 74)),iI 76 (.len (.t 75)),iI 77 (.bin .leq (.t 76) (.c (.int .i64 40))),iI 78 (.mv (.t 77)),iG 79 78 true (.faddr 4 (.t 1)),iG 80 78 true (.load false 1 (.t 79)),iG 81 78 true (.len (.t 80)),iG 82 78 true (.bin .leq (.t 81) (.c (.int .i64 40))),iI 83 (.pick (.t 78) (.t 82) (.c (.bool false))),iI 2 (.mv (.t 83))] false)
 .ret))))
def r32 : List ERes := [.t 2]
theorem c32 : chkF Tryz.prog Tryz.f32 1 e32 r32 = true := by kernel_rfl
def e33 : EC :=
 (.seq
 (.region [iI 1 (.box 43 (.t 0)),iI 2 (.mv (.c (.bool false)))] false)
 (.seq
 (.seq
 (.region [iI 6 (.faddr 0 (.t 1)),iI 7 (.load false 1 (.t 6)),iI 8 (.bin .eql (.t 7) (.c (.int .i64 2)))] false)
 (.cond (.t 8)
 (.seq
 (.region [iI 9 (.faddr 1 (.t 1)),iI 10 (.load false 1 (.t 9)),iI 11 (.bin .eql (.t 10) (.c (.int .i64 0))),iI 12 (.mv (.t 11)),iG 13 12 true (.faddr 2 (.t 1)),iG 14 12 true (.load false 1 (.t 13)),iG 15 12 true (.build [.int .i64 0, .int .i64 0, .str []] [(0, 1, (.c (.int .i64 2))), (2, 1, (.t 14))]),iG 16 12 true (.call 83 [(.t 15)]),iI 17 (.pick (.t 12) (.t 16) (.c (.bool false))),iI 2 (.mv (.t 17))] false)
 .ret)
 .skip))
 (.seq
 (.seq
 (.region [iI 19 (.faddr 0 (.t 1)),iI 20 (.load false 1 (.t 19)),iI 21 (.call 45 [(.t 20)]),iI 18 (.mv (.t 21)),iI 22 (.extract 0 (.t 18)),iI 23 (.extract 1 (.t 18)),iI 24 (.extract 2 (.t 18)),iI 3 (.mv (.t 22)),iI 4 (.mv (.t 23)),iI 5 (.mv (.t 24))] false)
 (.seq
 (.region [iI 25 (.mv (.t 5))] false)
 (.cond (.t 25)
 (.seq
 (.region [iI 26 (.faddr 1 (.t 1)),iI 27 (.load false 1 (.t 26)),iI 28 (.mv (.t 3)),iI 29 (.mv (.t 4)),iI 30 (.call 30 [(.t 27), (.t 28), (.t 29)]),iI 31 (.mv (.t 30)),iG 32 31 true (.faddr 2 (.t 1)),iG 33 31 true (.load false 1 (.t 32)),iG 34 31 true (.bin .eql (.t 33) (.c (.str []))),iI 35 (.pick (.t 31) (.t 34) (.c (.bool false))),iI 2 (.mv (.t 35))] false)
 .ret)
 .skip)))
 (.seq
 (.region [iI 36 (.faddr 0 (.t 1)),iI 37 (.load false 1 (.t 36)),iI 38 (.call 30 [(.t 37), (.c (.int .i64 1)), (.c (.int .i64 24))]),iI 39 (.mv (.t 38)),iG 40 39 true (.faddr 1 (.t 1)),iG 41 39 true (.load false 1 (.t 40)),iG 42 39 true (.bin .eql (.t 41) (.c (.int .i64 0))),iI 43 (.pick (.t 39) (.t 42) (.c (.bool false))),iI 44 (.mv (.t 43)),iG 45 44 true (.faddr 2 (.t 1)),iG 46 44 true (.load false 1 (.t 45)),iG 47 44 true (.bin .eql (.t 46) (.c (.str []))),iI 48 (.pick (.t 44) (.t 47) (.c (.bool false))),iI 2 (.mv (.t 48))] false)
 .ret))))
def r33 : List ERes := [.t 2]
theorem c33 : chkF Tryz.prog Tryz.f33 1 e33 r33 = true := by kernel_rfl
def e34 : EC :=
 (.seq
 (.region [iI 2 (.box 36 (.t 0)),iI 4 (.mv (.c (.bool false)))] false)
 (.seq
 (.region [iI 5 (.mv (.t 1)),iI 6 (.faddr 5 (.t 2)),iI 7 (.load false 1 (.t 6)),iI 8 (.len (.t 7)),iI 9 (.bin .sub (.t 8) (.c (.int .i64 1))),iI 10 (.call 30 [(.t 5), (.c (.int .i64 0)), (.t 9)]),iI 4 (.mv (.t 10))] false)
 .ret))
def r34 : List ERes := [.t 4]
theorem c34 : chkF Tryz.prog Tryz.f34 2 e34 r34 = true := by kernel_rfl
def e39 : EC :=
 (.seq
 (.region [iI 4 (.mv (.c (.bool false)))] false)
 (.seq
 (.seq
 (.region [iI 6 (.mv (.t 0)),iI 7 (.len (.t 6)),iI 8 (.mv (.t 1)),iI 9 (.len (.t 8)),iI 10 (.bin .neq (.t 7) (.t 9))] false)
 (.cond (.t 10)
 (.seq
 (.region [iI 4 (.mv (.c (.bool false)))] false)
 .ret)
 .skip))
 (.seq
 (.seq
 (.region [iI 11 (.mv (.t 0)),iI 12 (.len (.t 11)),iI 13 (.mv (.c (.int .i64 0)))] false)
 (.block 0
 (.loop
 (.seq
 (.region [iI 14 (.bin .lss (.t 13) (.t 12))] false)
 (.seq
 (.cond (.t 14)
 .skip
 (.exit 0))
 (.seq
 (.block 1
 (.seq
 (.region [iI 15 (.mv (.t 13)),iI 5 (.mv (.t 15))] false)
 (.seq
 (.region [iI 16 (.mv (.t 0)),iI 17 (.mv (.t 5)),iI 18 (.iaddr 7 (.t 16) (.t 17)),iI 19 (.load true 7 (.t 18)),iI 20 (.mv (.t 1)),iI 21 (.mv (.t 5)),iI 22 (.iaddr 7 (.t 20) (.t 21)),iI 23 (.load true 7 (.t 22)),iI 24 (.eqA true 73 [.s, .i .i64, .i .i64, .i .i64, .i .i64, .i .i64, .s] (.t 19) (.t 23))] true)
 (.cond (.t 24)
 (.seq
 (.region [iI 4 (.mv (.c (.bool false)))] false)
 .ret)
 .skip))))
 (.region [iI 25 (.bin .add (.t 13) (.c (.int .i64 1))),iI 13 (.mv (.t 25))] false)))))))
 (.seq
 (.region [iI 4 (.mv (.c (.bool true)))] false)
 .ret))))
def r39 : List ERes := [.t 4]
theorem c39 : chkF Tryz.prog Tryz.f39 2 e39 r39 = true := by kernel_rfl
def e40 : EC :=
 (.seq
 (.region [iI 4 (.mv (.c (.bool false)))] false)
 (.seq
 (.seq
 (.region [iI 6 (.mv (.t 0)),iI 7 (.len (.t 6)),iI 8 (.mv (.t 1)),iI 9 (.len (.t 8)),iI 10 (.bin .neq (.t 7) (.t 9))] false)
 (.cond (.t 10)
 (.seq
 (.region [iI 4 (.mv (.c (.bool false)))] false)
 .ret)
 .skip))
 (.seq
 (.seq
 (.region [iI 11 (.mv (.t 0)),iI 12 (.len (.t 11)),iI 13 (.mv (.c (.int .i64 0)))] false)
 (.block 0
 (.loop
 (.seq
 (.region [iI 14 (.bin .lss (.t 13) (.t 12))] false)
 (.seq
 (.cond (.t 14)
 .skip
 (.exit 0))
 (.seq
 (.block 1
 (.seq
 (.region [iI 15 (.mv (.t 13)),iI 5 (.mv (.t 15))] false)
 (.seq
 (.region [iI 16 (.mv (.t 0)),iI 17 (.mv (.t 5)),iI 18 (.iaddr 3 (.t 16) (.t 17)),iI 19 (.load true 3 (.t 18)),iI 20 (.mv (.t 1)),iI 21 (.mv (.t 5)),iI 22 (.iaddr 3 (.t 20) (.t 21)),iI 23 (.load true 3 (.t 22)),iI 24 (.eqA true 75 [.i .i64, .i .i64, .i .i64] (.t 19) (.t 23))] true)
 (.cond (.t 24)
 (.seq
 (.region [iI 4 (.mv (.c (.bool false)))] false)
 .ret)
 .skip))))
 (.region [iI 25 (.bin .add (.t 13) (.c (.int .i64 1))),iI 13 (.mv (.t 25))] false)))))))
 (.seq
 (.region [iI 4 (.mv (.c (.bool true)))] false)
 .ret))))
def r40 : List ERes := [.t 4]
theorem c40 : chkF Tryz.prog Tryz.f40 2 e40 r40 = true := by kernel_rfl
def e41 : EC :=
 (.seq
 (.region [iI 4 (.mv (.c (.bool false)))] false)
 (.seq
 (.seq
 (.region [iI 6 (.mv (.t 0)),iI 7 (.len (.t 6)),iI 8 (.mv (.t 1)),iI 9 (.len (.t 8)),iI 10 (.bin .neq (.t 7) (.t 9))] false)
 (.cond (.t 10)
 (.seq
 (.region [iI 4 (.mv (.c (.bool false)))] false)
 .ret)
 .skip))
 (.seq
 (.seq
 (.region [iI 11 (.mv (.t 0)),iI 12 (.len (.t 11)),iI 13 (.mv (.c (.int .i64 0)))] false)
 (.block 0
 (.loop
 (.seq
 (.region [iI 14 (.bin .lss (.t 13) (.t 12))] false)
 (.seq
 (.cond (.t 14)
 .skip
 (.exit 0))
 (.seq
 (.block 1
 (.seq
 (.region [iI 15 (.mv (.t 13)),iI 5 (.mv (.t 15))] false)
 (.seq
 (.region [iI 16 (.mv (.t 0)),iI 17 (.mv (.t 5)),iI 18 (.iaddr 4 (.t 16) (.t 17)),iI 19 (.load true 4 (.t 18)),iI 20 (.mv (.t 1)),iI 21 (.mv (.t 5)),iI 22 (.iaddr 4 (.t 20) (.t 21)),iI 23 (.load true 4 (.t 22)),iI 24 (.eqA true 78 [.i .i64, .i .i64, .i .i64, .i .i64] (.t 19) (.t 23))] true)
 (.cond (.t 24)
 (.seq
 (.region [iI 4 (.mv (.c (.bool false)))] false)
 .ret)
 .skip))))
 (.region [iI 25 (.bin .add (.t 13) (.c (.int .i64 1))),iI 13 (.mv (.t 25))] false)))))))
 (.seq
 (.region [iI 4 (.mv (.c (.bool true)))] false)
 .ret))))
def r41 : List ERes := [.t 4]
theorem c41 : chkF Tryz.prog Tryz.f41 2 e41 r41 = true := by kernel_rfl
def e42 : EC :=
 (.seq
 (.region [iI 4 (.mv (.c (.bool false)))] false)
 (.seq
 (.seq
 (.region [iI 6 (.mv (.t 0)),iI 7 (.len (.t 6)),iI 8 (.mv (.t 1)),iI 9 (.len (.t 8)),iI 10 (.bin .neq (.t 7) (.t 9))] false)
 (.cond (.t 10)
 (.seq
 (.region [iI 4 (.mv (.c (.bool false)))] false)
 .ret)
 .skip))
 (.seq
 (.seq
 (.region [iI 11 (.mv (.t 0)),iI 12 (.len (.t 11)),iI 13 (.mv (.c (.int .i64 0)))] false)
 (.block 0
 (.loop
 (.seq
 (.region [iI 14 (.bin .lss (.t 13) (.t 12))] false)
 (.seq
 (.cond (.t 14)
 .skip
 (.exit 0))
 (.seq
 (.block 1
 (.seq
 (.region [iI 15 (.mv (.t 13)),iI 5 (.mv (.t 15))] false)
 (.seq
 (.region [iI 16 (.mv (.t 0)),iI 17 (.mv (.t 5)),iI 18 (.iaddr 3 (.t 16) (.t 17)),iI 19 (.load true 3 (.t 18)),iI 20 (.mv (.t 1)),iI 21 (.mv (.t 5)),iI 22 (.iaddr 3 (.t 20) (.t 21)),iI 23 (.load true 3 (.t 22)),iI 24 (.eqA true 43 [.i .i64, .i .i64, .s] (.t 19) (.t 23))] true)
 (.cond (.t 24)
 (.seq
 (.region [iI 4 (.mv (.c (.bool false)))] false)
 .ret)
 .skip))))
 (.region [iI 25 (.bin .add (.t 13) (.c (.int .i64 1))),iI 13 (.mv (.t 25))] false)))))))
 (.seq
 (.region [iI 4 (.mv (.c (.bool true)))] false)
 .ret))))
def r42 : List ERes := [.t 4]
theorem c42 : chkF Tryz.prog Tryz.f42 2 e42 r42 = true := by kernel_rfl
def e43 : EC :=
 (.seq
 (.region [iI 0 (.alloc 85 [.str [], .str [], .str [], .str [], .str [], .str [], .str [], .str [], .str [], .str [], .str [], .str [], .str [], .str [], .str [], .str [], .str [], .str [], .str [], .str [], .str [], .str [], .str [], .str [], .str []])] false)
 (.seq
 (.region [iI 1 (.build [.str [], .str [], .str [], .str [], .str [], .str [], .str [], .str [], .str [], .str [], .str [], .str [], .str [], .str [], .str [], .str [], .str [], .str [], .str [], .str [], .str [], .str [], .str [], .str [], .str []] [(1, 1, (.c (.str [105, 110, 116]))), (2, 1, (.c (.str [116, 101, 120, 116]))), (3, 1, (.c (.str [108, 111, 97, 100]))), (4, 1, (.c (.str [112, 97, 114, 97, 109]))), (5, 1, (.c (.str [115, 116, 111, 114, 101]))), (6, 1, (.c (.str [97, 100, 100]))), (7, 1, (.c (.str [115, 117, 98]))), (8, 1, (.c (.str [109, 117, 108]))), (9, 1, (.c (.str [100, 105, 118]))), (10, 1, (.c (.str [114, 101, 109]))), (11, 1, (.c (.str [110, 101, 103]))), (12, 1, (.c (.str [101, 113, 117, 97, 108]))), (13, 1, (.c (.str [108, 101, 115, 115]))), (14, 1, (.c (.str [110, 111, 116]))), (15, 1, (.c (.str [97, 110, 100]))), (16, 1, (.c (.str [111, 114]))), (17, 1, (.c (.str [106, 111, 105, 110]))), (18, 1, (.c (.str [108, 101, 110]))), (19, 1, (.c (.str [106, 117, 109, 112]))), (20, 1, (.c (.str [122, 101, 114, 111]))), (21, 1, (.c (.str [98, 101, 103, 105, 110]))), (22, 1, (.c (.str [97, 103, 97, 105, 110]))), (23, 1, (.c (.str [100, 111, 110, 101]))), (24, 1, (.c (.str [115, 116, 111, 112])))]),iN (.store 25 (.t 0) (.t 1))] false)
 .ret))
def r43 : List ERes := [.cell true 25 0]
theorem c43 : chkF Tryz.prog Tryz.f43 0 e43 r43 = true := by kernel_rfl
def e45 : EC :=
 (.seq
 (.region [iI 2 (.mv (.c (.int .i64 0))),iI 3 (.mv (.c (.int .i64 0))),iI 4 (.mv (.c (.bool false)))] false)
 (.seq
 (.seq
 (.region [iI 5 (.mv (.t 0))] false)
 (.block 0
 (.seq
 (.region [iI 7 (.bin .eql (.t 5) (.c (.int .i64 1))),iI 6 (.mv (.t 7))] false)
 (.cond (.t 6)
 (.seq
 (.region [iI 2 (.mv (.c (.int .i64 (-1000)))),iI 3 (.mv (.c (.int .i64 1000))),iI 4 (.mv (.c (.bool true)))] false)
 .ret)
 (.seq
 (.seq
 (.region [iI 9 (.bin .eql (.t 5) (.c (.int .i64 3))),iI 8 (.mv (.t 9))] false)
 (.cond (.t 8)
 .skip
 (.region [iI 10 (.bin .eql (.t 5) (.c (.int .i64 5))),iI 8 (.mv (.t 10))] false)))
 (.cond (.t 8)
 (.seq
 (.region [iI 2 (.mv (.c (.int .i64 0))),iI 3 (.mv (.c (.int .i64 11))),iI 4 (.mv (.c (.bool true)))] false)
 .ret)
 (.seq
 (.region [iI 12 (.bin .eql (.t 5) (.c (.int .i64 4))),iI 11 (.mv (.t 12))] false)
 (.cond (.t 11)
 (.seq
 (.region [iI 2 (.mv (.c (.int .i64 0))),iI 3 (.mv (.c (.int .i64 3))),iI 4 (.mv (.c (.bool true)))] false)
 .ret)
 (.seq
 (.seq
 (.region [iI 14 (.bin .eql (.t 5) (.c (.int .i64 19))),iI 13 (.mv (.t 14))] false)
 (.cond (.t 13)
 .skip
 (.seq
 (.region [iI 15 (.bin .eql (.t 5) (.c (.int .i64 20))),iI 13 (.mv (.t 15))] false)
 (.cond (.t 13)
 .skip
 (.region [iI 16 (.bin .eql (.t 5) (.c (.int .i64 22))),iI 13 (.mv (.t 16))] false)))))
 (.cond (.t 13)
 (.seq
 (.region [iI 2 (.mv (.c (.int .i64 0))),iI 3 (.mv (.c (.int .i64 999))),iI 4 (.mv (.c (.bool true)))] false)
 .ret)
 (.seq
 (.region [iI 18 (.bin .eql (.t 5) (.c (.int .i64 21))),iI 17 (.mv (.t 18))] false)
 (.cond (.t 17)
 (.seq
 (.region [iI 2 (.mv (.c (.int .i64 1))),iI 3 (.mv (.c (.int .i64 50))),iI 4 (.mv (.c (.bool true)))] false)
 .ret)
 .skip))))))))))))
 (.seq
 (.region [iI 2 (.mv (.c (.int .i64 0))),iI 3 (.mv (.c (.int .i64 0))),iI 4 (.mv (.c (.bool false)))] false)
 .ret)))
def r45 : List ERes := [.t 2, .t 3, .t 4]
theorem c45 : chkF Tryz.prog Tryz.f45 1 e45 r45 = true := by kernel_rfl
def e48 : EC :=
 (.seq
 (.region [iI 4 (.mv (.c (.int .i64 0)))] false)
 (.seq
 (.seq
 (.region [iI 6 (.mv (.t 0)),iI 7 (.len (.t 6)),iI 8 (.mv (.c (.int .i64 0)))] false)
 (.block 0
 (.loop
 (.seq
 (.region [iI 9 (.bin .lss (.t 8) (.t 7))] false)
 (.seq
 (.cond (.t 9)
 .skip
 (.exit 0))
 (.seq
 (.block 1
 (.seq
 (.region [iI 10 (.mv (.t 8)),iI 5 (.mv (.t 10))] false)
 (.seq
 (.region [iI 11 (.mv (.t 1)),iI 12 (.mv (.t 0)),iI 13 (.mv (.t 5)),iI 14 (.iaddr 1 (.t 12) (.t 13)),iI 15 (.load false 1 (.t 14)),iI 16 (.bin .eql (.t 11) (.t 15))] false)
 (.cond (.t 16)
 (.seq
 (.region [iI 17 (.mv (.t 5)),iI 4 (.mv (.t 17))] false)
 .ret)
 .skip))))
 (.region [iI 18 (.bin .add (.t 8) (.c (.int .i64 1))),iI 8 (.mv (.t 18))] false)))))))
 (.seq
 (.region [iI 4 (.mv (.c (.int .i64 (-1))))] false)
 .ret)))
def r48 : List ERes := [.t 4]
theorem c48 : chkF Tryz.prog Tryz.f48 2 e48 r48 = true := by kernel_rfl
def e57 : EC :=
 (.seq
 (.region [iI 4 (.mv (.c (.nilS)))] false)
 (.seq
 (.seq
 (.region [iI 7 (.mv (.t 1)),iI 8 (.len (.t 7)),iI 9 (.mv (.c (.int .i64 0)))] false)
 (.block 0
 (.loop
 (.seq
 (.region [iI 10 (.bin .lss (.t 9) (.t 8))] false)
 (.seq
 (.cond (.t 10)
 .skip
 (.exit 0))
 (.seq
 (.block 1
 (.seq
 (.region [iI 11 (.iaddr 1 (.t 7) (.t 9)),iI 12 (.load false 1 (.t 11)),iI 6 (.mv (.t 12))] false)
 (.region [iI 13 (.mv (.t 0)),iI 14 (.mv (.t 6)),iI 15 (.call 96 [(.t 13), (.t 14)]),iI 0 (.mv (.t 15))] false)))
 (.region [iI 16 (.bin .add (.t 9) (.c (.int .i64 1))),iI 9 (.mv (.t 16))] false)))))))
 (.seq
 (.region [iI 17 (.mv (.t 0)),iI 4 (.mv (.t 17))] false)
 .ret)))
def r57 : List ERes := [.t 4]
theorem c57 : chkF Tryz.prog Tryz.f57 2 e57 r57 = true := by kernel_rfl
def e58 : EC :=
 (.seq
 (.region [iI 4 (.mv (.c (.nilS)))] false)
 (.seq
 (.region [iI 5 (.mv (.t 0)),iI 6 (.mv (.t 1)),iI 7 (.lenS (.t 6)),iI 8 (.call 96 [(.t 5), (.t 7)]),iI 9 (.mv (.t 1)),iI 10 (.append 5 1 1 (.t 8) (.t 9)),iI 4 (.mv (.t 10))] false)
 .ret))
def r58 : List ERes := [.t 4]
theorem c58 : chkF Tryz.prog Tryz.f58 2 e58 r58 = true := by kernel_rfl
def e59 : EC :=
 (.seq
 (.region [iI 3 (.box 66 (.t 1)),iI 4 (.mv (.c (.nilS)))] false)
 (.seq
 (.region [iI 5 (.mv (.t 0)),iI 6 (.faddr 0 (.t 3)),iI 7 (.load false 1 (.t 6)),iI 8 (.call 96 [(.t 5), (.t 7)]),iI 0 (.mv (.t 8))] false)
 (.seq
 (.seq
 (.region [iI 9 (.faddr 0 (.t 3)),iI 10 (.load false 1 (.t 9))] false)
 (.block 0
 (.seq
 (.region [iI 12 (.bin .eql (.t 10) (.c (.int .i64 1))),iI 11 (.mv (.t 12))] false)
 (.cond (.t 11)
 (.seq
 (.region [iI 13 (.mv (.t 0)),iI 14 (.faddr 1 (.t 3)),iI 15 (.load false 1 (.t 14)),iI 16 (.call 96 [(.t 13), (.t 15)]),iI 4 (.mv (.t 16))] false)
 .ret)
 (.seq
 (.region [iI 18 (.bin .eql (.t 10) (.c (.int .i64 2))),iI 17 (.mv (.t 18))] false)
 (.cond (.t 17)
 (.seq
 (.region [iI 19 (.mv (.t 0)),iI 20 (.faddr 2 (.t 3)),iI 21 (.load false 1 (.t 20)),iI 22 (.call 58 [(.t 19), (.t 21)]),iI 4 (.mv (.t 22))] false)
 .ret)
 .skip))))))
 (.seq
 (.region [iI 23 (.mv (.t 0)),iI 4 (.mv (.t 23))] false)
 .ret))))
def r59 : List ERes := [.t 4]
theorem c59 : chkF Tryz.prog Tryz.f59 2 e59 r59 = true := by kernel_rfl
def e60 : EC :=
 (.seq
 (.region [iI 2 (.mv (.c (.raw (.pointer none))))] false)
 (.seq
 (.region [iI 3 (.mv (.t 0)),iI 4 (.append 5 1 1 (.c (.nilS)) (.t 3)),iI 5 (.build [.nilS, .int .i64 0, .bool false] [(0, 1, (.t 4))]),iI 6 (.box 139 (.t 5)),iI 2 (.mv (.t 6))] false)
 .ret))
def r60 : List ERes := [.t 2]
theorem c60 : chkF Tryz.prog Tryz.f60 1 e60 r60 = true := by kernel_rfl
def e61 : EC :=
 (.seq
 (.region [iI 4 (.mv (.c (.str [])))] false)
 (.seq
 (.region [iI 5 (.mv (.t 0)),iI 6 (.mv (.t 1)),iI 7 (.call 97 [(.t 5), (.t 6)]),iI 8 (.convS false (.t 7)),iI 4 (.mv (.t 8))] false)
 .ret))
def r61 : List ERes := [.t 4]
theorem c61 : chkF Tryz.prog Tryz.f61 2 e61 r61 = true := by kernel_rfl
def e62 : EC :=
 (.seq
 (.region [iI 2 (.mv (.c (.int .i64 0)))] false)
 (.seq
 (.region [iI 3 (.mv (.t 0)),iI 4 (.mv (.t 0)),iI 5 (.mkfnB 99 [(.t 4)]),iI 6 (.call 98 [(.t 3), (.t 5)]),iI 2 (.mv (.t 6))] false)
 .ret))
def r62 : List ERes := [.t 2]
theorem c62 : chkF Tryz.prog Tryz.f62 1 e62 r62 = true := by kernel_rfl
def e63 : EC :=
 (.seq
 (.region [iI 3 (.box 108 (.t 0)),iI 4 (.box 3 (.t 1)),iI 5 (.box 3 (.t 2)),iI 6 (.mv (.c (.int .i64 0)))] false)
 (.seq
 (.region [iI 7 (.load false 1 (.t 3)),iI 8 (.mkfn 100 [(.t 3), (.t 4), (.t 5)]),iI 9 (.call 98 [(.t 7), (.t 8)]),iI 6 (.mv (.t 9))] false)
 .ret))
def r63 : List ERes := [.t 6]
theorem c63 : chkF Tryz.prog Tryz.f63 3 e63 r63 = true := by kernel_rfl
def e64 : EC :=
 (.seq
 (.region [iI 2 (.alloc 66 [.int .i64 0, .int .i64 0, .str []])] false)
 (.seq
 (.region [iI 3 (.mv (.t 0)),iI 4 (.mv (.t 0)),iI 5 (.mkfnB 103 [(.t 4)]),iI 6 (.call 102 [(.t 3), (.t 5)]),iN (.store 3 (.t 2) (.t 6))] false)
 .ret))
def r64 : List ERes := [.cell true 3 2]
theorem c64 : chkF Tryz.prog Tryz.f64 1 e64 r64 = true := by kernel_rfl
def e65 : EC :=
 (.seq
 (.region [iI 2 (.mv (.c (.int .i64 0)))] false)
 (.seq
 (.block 0
 (.seq
 (.region [iI 4 (.mv (.t 0)),iI 5 (.pnil false (.t 4)),iI 3 (.mv (.t 5))] false)
 (.cond (.t 3)
 (.seq
 (.region [iI 2 (.mv (.c (.int .i64 7)))] false)
 .ret)
 (.seq
 (.region [iI 7 (.mv (.t 0)),iI 8 (.nilck (.t 7)),iI 9 (.faddr 2 (.t 8)),iI 10 (.load false 1 (.t 9)),iI 11 (.mv (.t 10)),iG 12 11 false (.mv (.t 0)),iG 13 11 false (.call 104 [(.t 12)]),iG 14 11 false (.bin .gtr (.t 13) (.c (.int .i64 0))),iI 15 (.pick (.t 11) (.c (.bool true)) (.t 14)),iI 6 (.mv (.t 15))] false)
 (.cond (.t 6)
 (.seq
 (.region [iI 2 (.mv (.c (.int .i64 4)))] false)
 .ret)
 .skip)))))
 (.seq
 (.region [iI 2 (.mv (.c (.int .i64 0)))] false)
 .ret)))
def r65 : List ERes := [.t 2]
theorem c65 : chkF Tryz.prog Tryz.f65 1 e65 r65 = true := by kernel_rfl
def e74 : EC :=
 (.seq
 (.region [iI 4 (.mv (.c (.str [])))] false)
 (.seq
 (.seq
 (.region [iI 7 (.mv (.t 1)),iI 8 (.len (.t 7)),iI 9 (.mv (.c (.int .i64 0)))] false)
 (.block 0
 (.loop
 (.seq
 (.region [iI 10 (.bin .lss (.t 9) (.t 8))] false)
 (.seq
 (.cond (.t 10)
 .skip
 (.exit 0))
 (.seq
 (.block 1
 (.seq
 (.region [iI 11 (.iaddr 1 (.t 7) (.t 9)),iI 12 (.load false 1 (.t 11)),iI 6 (.mv (.t 12))] false)
 (.region [iI 13 (.mv (.t 0)),iI 14 (.mv (.t 6)),iI 15 (.call 46 [(.t 14)]),iI 16 (.bin .add (.c (.str [32])) (.t 15)),iI 17 (.bin .add (.t 13) (.t 16)),iI 0 (.mv (.t 17))] false)))
 (.region [iI 18 (.bin .add (.t 9) (.c (.int .i64 1))),iI 9 (.mv (.t 18))] false)))))))
 (.seq
 (.region [iI 19 (.mv (.t 0)),iI 4 (.mv (.t 19))] false)
 .ret)))
def r74 : List ERes := [.t 4]
theorem c74 : chkF Tryz.prog Tryz.f74 2 e74 r74 = true := by kernel_rfl
def e75 : EC :=
 (.seq
 (.region [iI 2 (.mv (.c (.bool false)))] false)
 (.seq
 (.region [iI 3 (.mv (.t 0)),iI 4 (.bin .leq (.c (.int .u8 97)) (.t 3)),iI 5 (.mv (.t 4)),iG 6 5 true (.mv (.t 0)),iG 7 5 true (.bin .leq (.t 6) (.c (.int .u8 122))),iI 8 (.pick (.t 5) (.t 7) (.c (.bool false))),iI 9 (.mv (.t 8)),iG 10 9 false (.mv (.t 0)),iG 11 9 false (.bin .leq (.c (.int .u8 65)) (.t 10)),iG 12 9 false (.mv (.t 11)),iG 13 12 true (.mv (.t 0)),iG 14 12 true (.bin .leq (.t 13) (.c (.int .u8 90))),iG 15 9 false (.pick (.t 12) (.t 14) (.c (.bool false))),iI 16 (.pick (.t 9) (.c (.bool true)) (.t 15)),iI 2 (.mv (.t 16))] false)
 .ret))
def r75 : List ERes := [.t 2]
theorem c75 : chkF Tryz.prog Tryz.f75 1 e75 r75 = true := by kernel_rfl
def e76 : EC :=
 (.seq
 (.region [iI 2 (.mv (.c (.bool false)))] false)
 (.seq
 (.region [iI 3 (.mv (.t 0)),iI 4 (.call 75 [(.t 3)]),iI 5 (.mv (.t 4)),iG 6 5 false (.mv (.t 0)),iG 7 5 false (.call 109 [(.t 6)]),iI 8 (.pick (.t 5) (.c (.bool true)) (.t 7)),iI 9 (.mv (.t 8)),iG 10 9 false (.mv (.t 0)),iG 11 9 false (.bin .eql (.t 10) (.c (.int .u8 95))),iI 12 (.pick (.t 9) (.c (.bool true)) (.t 11)),iI 2 (.mv (.t 12))] false)
 .ret))
def r76 : List ERes := [.t 2]
theorem c76 : chkF Tryz.prog Tryz.f76 1 e76 r76 = true := by kernel_rfl
def e77 : EC :=
 (.seq
 (.region [iI 2 (.box 73 (.t 0)),iI 3 (.mv (.c (.bool false)))] false)
 (.seq
 (.region [iI 4 (.faddr 0 (.t 2)),iI 5 (.load false 1 (.t 4)),iI 6 (.faddr 0 (.t 1)),iI 7 (.load false 1 (.t 6)),iI 8 (.bin .eql (.t 5) (.t 7)),iI 3 (.mv (.t 8))] false)
 .ret))
def r77 : List ERes := [.t 3]
theorem c77 : chkF Tryz.prog Tryz.f77 1 e77 r77 = true := by kernel_rfl
def e78 : EC :=
 (.seq
 (.region [iI 4 (.mv (.c (.int .i64 0)))] false)
 (.seq
 (.seq
 (.region [iI 6 (.mv (.t 0)),iI 7 (.len (.t 6)),iI 8 (.mv (.c (.int .i64 0)))] false)
 (.block 0
 (.loop
 (.seq
 (.region [iI 9 (.bin .lss (.t 8) (.t 7))] false)
 (.seq
 (.cond (.t 9)
 .skip
 (.exit 0))
 (.seq
 (.block 1
 (.seq
 (.region [iI 10 (.mv (.t 8)),iI 5 (.mv (.t 10))] false)
 (.seq
 (.region [iI 11 (.mv (.t 1)),iI 12 (.mv (.t 0)),iI 13 (.mv (.t 5)),iI 14 (.iaddr 7 (.t 12) (.t 13)),iI 15 (.load true 7 (.t 14)),iI 16 (.callv (.t 11) [(.t 15)])] false)
 (.cond (.t 16)
 (.seq
 (.region [iI 17 (.mv (.t 5)),iI 4 (.mv (.t 17))] false)
 .ret)
 .skip))))
 (.region [iI 18 (.bin .add (.t 8) (.c (.int .i64 1))),iI 8 (.mv (.t 18))] false)))))))
 (.seq
 (.region [iI 4 (.mv (.c (.int .i64 (-1))))] false)
 .ret)))
def r78 : List ERes := [.t 4]
theorem c78 : chkF Tryz.prog Tryz.f78 2 e78 r78 = true := by kernel_rfl
def e80 : EC :=
 (.seq
 (.region [iI 2 (.box 75 (.t 0)),iI 3 (.mv (.c (.bool false)))] false)
 (.seq
 (.region [iI 4 (.faddr 0 (.t 2)),iI 5 (.load false 1 (.t 4)),iI 6 (.faddr 0 (.t 1)),iI 7 (.load false 1 (.t 6)),iI 8 (.bin .eql (.t 5) (.t 7)),iI 9 (.mv (.t 8)),iG 10 9 true (.faddr 1 (.t 2)),iG 11 9 true (.load false 1 (.t 10)),iG 12 9 true (.faddr 1 (.t 1)),iG 13 9 true (.load false 1 (.t 12)),iG 14 9 true (.bin .eql (.t 11) (.t 13)),iI 15 (.pick (.t 9) (.t 14) (.c (.bool false))),iI 3 (.mv (.t 15))] false)
 .ret))
def r80 : List ERes := [.t 3]
theorem c80 : chkF Tryz.prog Tryz.f80 1 e80 r80 = true := by kernel_rfl
def e81 : EC :=
 (.seq
 (.region [iI 3 (.box 36 (.t 0)),iI 6 (.mv (.c (.bool false)))] false)
 (.seq
 (.region [iI 7 (.mv (.t 1)),iI 8 (.call 30 [(.t 7), (.c (.int .i64 0)), (.c (.int .i64 5))]),iI 9 (.mv (.t 8)),iG 10 9 true (.mv (.t 1)),iG 11 9 true (.faddr 1 (.t 3)),iG 12 9 true (.load false 1 (.t 11)),iG 13 9 true (.bin .neq (.t 10) (.t 12)),iI 14 (.pick (.t 9) (.t 13) (.c (.bool false))),iI 15 (.mv (.t 14)),iG 16 15 true (.mv (.t 2)),iG 17 15 true (.call 30 [(.t 16), (.c (.int .i64 0)), (.c (.int .i64 39))]),iI 18 (.pick (.t 15) (.t 17) (.c (.bool false))),iI 6 (.mv (.t 18))] false)
 .ret))
def r81 : List ERes := [.t 6]
theorem c81 : chkF Tryz.prog Tryz.f81 3 e81 r81 = true := by kernel_rfl
def e82 : EC :=
 (.seq
 (.region [iI 4 (.mv (.c (.int .i64 0)))] false)
 (.seq
 (.seq
 (.region [iI 6 (.mv (.t 0)),iI 7 (.len (.t 6)),iI 8 (.mv (.c (.int .i64 0)))] false)
 (.block 0
 (.loop
 (.seq
 (.region [iI 9 (.bin .lss (.t 8) (.t 7))] false)
 (.seq
 (.cond (.t 9)
 .skip
 (.exit 0))
 (.seq
 (.block 1
 (.seq
 (.region [iI 10 (.mv (.t 8)),iI 5 (.mv (.t 10))] false)
 (.seq
 (.region [iI 11 (.mv (.t 1)),iI 12 (.mv (.t 0)),iI 13 (.mv (.t 5)),iI 14 (.iaddr 3 (.t 12) (.t 13)),iI 15 (.load true 3 (.t 14)),iI 16 (.callv (.t 11) [(.t 15)])] false)
 (.cond (.t 16)
 (.seq
 (.region [iI 17 (.mv (.t 5)),iI 4 (.mv (.t 17))] false)
 .ret)
 .skip))))
 (.region [iI 18 (.bin .add (.t 8) (.c (.int .i64 1))),iI 8 (.mv (.t 18))] false)))))))
 (.seq
 (.region [iI 4 (.mv (.c (.int .i64 (-1))))] false)
 .ret)))
def r82 : List ERes := [.t 4]
theorem c82 : chkF Tryz.prog Tryz.f82 2 e82 r82 = true := by kernel_rfl
def e9 : EC :=
 (.seq
 (.region [iI 0 (.mv (.c (.bool false)))] false)
 (.seq
 (.region [iI 7 (.call 17 [(.c (.str [116, 101, 120, 116, 32, 34, 97, 92, 34, 98, 34]))]),iI 6 (.mv (.t 7)),iI 8 (.extract 0 (.t 6)),iI 9 (.extract 1 (.t 6)),iI 1 (.alloc 43 [.int .i64 0, .int .i64 0, .str []]),iN (.store 3 (.t 1) (.t 8)),iI 2 (.mv (.t 9))] false)
 (.seq
 (.region [iI 10 (.build [.int .i64 0, .int .i64 0, .str []] [(0, 1, (.c (.int .i64 24)))]),iI 11 (.bslice 43 3 1 [.int .i64 0, .int .i64 0, .str []] [(0, (.t 10))]),iI 12 (.build [.str [], .int .i64 0, .nilS, .nilS, .nilS, .nilS] [(0, 1, (.c (.str [115]))), (5, 1, (.t 11))]),iI 3 (.alloc 36 [.str [], .int .i64 0, .nilS, .nilS, .nilS, .nilS]),iN (.store 6 (.t 3) (.t 12))] false)
 (.seq
 (.region [iI 14 (.load true 6 (.t 3)),iI 15 (.call 20 [(.t 14)]),iI 16 (.call 21 [(.t 15)]),iI 13 (.mv (.t 16)),iI 17 (.extract 0 (.t 13)),iI 18 (.extract 1 (.t 13)),iI 4 (.alloc 36 [.str [], .int .i64 0, .nilS, .nilS, .nilS, .nilS]),iN (.store 6 (.t 4) (.t 17)),iI 5 (.mv (.t 18))] false)
 (.seq
 (.region [iI 19 (.mv (.t 2)),iI 20 (.bin .eql (.t 19) (.c (.int .i64 0))),iI 21 (.mv (.t 20)),iG 22 21 true (.mv (.t 5)),iG 23 21 true (.bin .eql (.t 22) (.c (.int .i64 0))),iI 24 (.pick (.t 21) (.t 23) (.c (.bool false))),iI 25 (.mv (.t 24)),iG 26 25 true (.load true 3 (.t 1)),iG 27 25 true (.build [.int .i64 0, .int .i64 0, .str []] [(0, 1, (.c (.int .i64 2))), (2, 1, (.c (.str [97, 34, 98])))]),iG 28 25 true (.eqA false 43 [.i .i64, .i .i64, .s] (.t 26) (.t 27)),iI 29 (.pick (.t 25) (.t 28) (.c (.bool false))),iI 30 (.mv (.t 29)),iG 31 30 true (.build [.int .i64 0, .int .i64 0, .str []] [(0, 1, (.c (.int .i64 1))), (1, 1, (.c (.int .i64 (-3))))]),iG 32 30 true (.call 16 [(.t 31)]),iG 33 30 true (.bin .eql (.t 32) (.c (.str [105, 110, 116, 32, 45, 51]))),iI 34 (.pick (.t 30) (.t 33) (.c (.bool false))),iI 35 (.mv (.t 34)),iG 36 35 true (.build [.int .i64 0, .int .i64 0, .str []] [(0, 1, (.c (.int .i64 24)))]),iG 37 35 true (.call 16 [(.t 36)]),iG 38 35 true (.bin .eql (.t 37) (.c (.str [115, 116, 111, 112]))),iI 39 (.pick (.t 35) (.t 38) (.c (.bool false))),iI 40 (.mv (.t 39)),iG 41 40 true (.load true 6 (.t 3)),iG 42 40 true (.call 11 [(.t 41)]),iI 43 (.pick (.t 40) (.t 42) (.c (.bool false))),iI 44 (.mv (.t 43)),iG 45 44 true (.load true 6 (.t 3)),iG 46 44 true (.load true 6 (.t 4)),iG 47 44 true (.call 14 [(.t 45), (.t 46)]),iI 48 (.pick (.t 44) (.t 47) (.c (.bool false))),iI 49 (.mv (.t 48)),iG 50 49 true (.load true 6 (.t 3)),iG 51 49 true (.call 27 [(.t 50)]),iG 52 49 true (.len (.t 51)),iG 53 49 true (.bin .eql (.t 52) (.c (.int .i64 2))),iI 54 (.pick (.t 49) (.t 53) (.c (.bool false))),iI 0 (.mv (.t 54))] false)
 .ret)))))
def r9 : List ERes := [.t 0]
theorem c9 : chkF Tryz.prog Tryz.f9 0 e9 r9 = true := by kernel_rfl
def e10 : EC :=
 (.seq
 (.region [iI 1 (.box 27 (.t 0)),iI 2 (.mv (.c (.bool false)))] false)
 (.seq
 (.seq
 (.region [iI 3 (.mv (.c (.int .i64 0)))] false)
 (.block 0
 (.loop
 (.seq
 (.seq
 (.region [iI 5 (.mv (.t 3)),iI 6 (.faddr 5 (.t 1)),iI 7 (.load false 1 (.t 6)),iI 8 (.len (.t 7)),iI 9 (.bin .lss (.t 5) (.t 8))] false)
 (.cond (.t 9)
 .skip
 (.exit 0)))
 (.seq
 (.block 1
 (.seq
 (.region [iI 12 (.faddr 5 (.t 1)),iI 13 (.load false 1 (.t 12)),iI 14 (.mv (.t 3)),iI 15 (.iaddr 3 (.t 13) (.t 14)),iI 16 (.faddr 2 (.t 15)),iI 17 (.load false 1 (.t 16)),iI 18 (.lenS (.t 17)),iI 19 (.bin .gtr (.t 18) (.c (.int .i64 100)))] false)
 (.cond (.t 19)
 (.seq
 (.region [iI 2 (.mv (.c (.bool false)))] false)
 .ret)
 .skip)))
 (.region [iI 10 (.mv (.t 3)),iI 11 (.bin .add (.t 10) (.c (.int .i64 1))),iI 3 (.mv (.t 11))] false))))))
 (.seq
 (.seq
 (.region [iI 4 (.mv (.c (.int .i64 0)))] false)
 (.block 2
 (.loop
 (.seq
 (.seq
 (.region [iI 20 (.mv (.t 4)),iI 21 (.faddr 2 (.t 1)),iI 22 (.load false 1 (.t 21)),iI 23 (.len (.t 22)),iI 24 (.bin .lss (.t 20) (.t 23))] false)
 (.cond (.t 24)
 .skip
 (.exit 2)))
 (.seq
 (.block 3
 (.seq
 (.region [iI 27 (.faddr 2 (.t 1)),iI 28 (.load false 1 (.t 27)),iI 29 (.mv (.t 4)),iI 30 (.iaddr 7 (.t 28) (.t 29)),iI 31 (.faddr 0 (.t 30)),iI 32 (.load false 1 (.t 31)),iI 33 (.lenS (.t 32)),iI 34 (.bin .gtr (.t 33) (.c (.int .i64 100))),iI 35 (.mv (.t 34)),iG 36 35 false (.faddr 2 (.t 1)),iG 37 35 false (.load false 1 (.t 36)),iG 38 35 false (.mv (.t 4)),iG 39 35 false (.iaddr 7 (.t 37) (.t 38)),iG 40 35 false (.faddr 4 (.t 39)),iG 41 35 false (.faddr 2 (.t 40)),iG 42 35 false (.load false 1 (.t 41)),iG 43 35 false (.lenS (.t 42)),iG 44 35 false (.bin .gtr (.t 43) (.c (.int .i64 100))),iI 45 (.pick (.t 35) (.c (.bool true)) (.t 44))] false)
 (.cond (.t 45)
 (.seq
 (.region [iI 2 (.mv (.c (.bool false)))] false)
 .ret)
 .skip)))
 (.region [iI 25 (.mv (.t 4)),iI 26 (.bin .add (.t 25) (.c (.int .i64 1))),iI 4 (.mv (.t 26))] false))))))
 (.seq
 (.region [iI 46 (.faddr 0 (.t 1)),iI 47 (.load false 1 (.t 46)),iI 48 (.lenS (.t 47)),iI 49 (.bin .leq (.t 48) (.c (.int .i64 100))),iI 50 (.mv (.t 49)),iG 51 50 true (.faddr 2 (.t 1)),iG 52 50 true (.load false 1 (.t 51)),iG 53 50 true (.len (.t 52)),iG 54 50 true (.bin .leq (.t 53) (.c (.int .i64 20))),iI 55 (.pick (.t 50) (.t 54) (.c (.bool false))),iI 56 (.mv (.t 55)),iG 57 56 true (.faddr 3 (.t 1)),iG 58 56 true (.load false 1 (.t 57)),iG 59 56 true (.len (.t 58)),iG 60 56 true (.bin .leq (.t 59) (.c (.int .i64 60))),iI 61 (.pick (.t 56) (.t 60) (.c (.bool false))),iI 62 (.mv (.t 61)),iG 63 62 true (.faddr 4 (.t 1)),iG 64 62 true (.load false 1 (.t 63)),iG 65 62 true (.len (.t 64)),iG 66 62 true (.bin .leq (.t 65) (.c (.int .i64 60))),iI 67 (.pick (.t 62) (.t 66) (.c (.bool false))),iI 68 (.mv (.t 67)),iG 69 68 true (.faddr 5 (.t 1)),iG 70 68 true (.load false 1 (.t 69)),iG 71 68 true (.len (.t 70)),iG 72 68 true (.bin .leq (.t 71) (.c (.int .i64 300))),iI 73 (.pick (.t 68) (.t 72) (.c (.bool false))),iI 2 (.mv (.t 73))] false)
 .ret))))
def r10 : List ERes := [.t 2]
theorem c10 : chkF Tryz.prog Tryz.f10 1 e10 r10 = true := by kernel_rfl
def e12 : EC :=
 (.seq
 (.region [iI 1 (.box 27 (.t 0)),iI 2 (.alloc 36 [.str [], .int .i64 0, .nilS, .nilS, .nilS, .nilS])] false)
 (.seq
 (.region [iI 8 (.faddr 0 (.t 1)),iI 9 (.load false 1 (.t 8)),iI 10 (.faddr 1 (.t 1)),iI 11 (.load false 1 (.t 10)),iI 12 (.build [.str [], .int .i64 0, .nilS, .nilS, .nilS, .nilS] [(0, 1, (.t 9)), (1, 1, (.t 11))]),iI 3 (.alloc 36 [.str [], .int .i64 0, .nilS, .nilS, .nilS, .nilS]),iN (.store 6 (.t 3) (.t 12))] false)
 (.seq
 (.seq
 (.region [iI 4 (.mv (.c (.int .i64 0)))] false)
 (.block 0
 (.loop
 (.seq
 (.seq
 (.region [iI 13 (.mv (.t 4)),iI 14 (.faddr 2 (.t 1)),iI 15 (.load false 1 (.t 14)),iI 16 (.len (.t 15)),iI 17 (.bin .lss (.t 13) (.t 16))] false)
 (.cond (.t 17)
 .skip
 (.exit 0)))
 (.seq
 (.block 1
 (.region [iI 20 (.faddr 2 (.t 3)),iI 21 (.load false 1 (.t 20)),iI 22 (.faddr 2 (.t 1)),iI 23 (.load false 1 (.t 22)),iI 24 (.mv (.t 4)),iI 25 (.iaddr 7 (.t 23) (.t 24)),iI 26 (.load true 7 (.t 25)),iI 27 (.bslice 73 7 1 [.str [], .int .i64 0, .int .i64 0, .int .i64 0, .int .i64 0, .int .i64 0, .str []] [(0, (.t 26))]),iI 28 (.appendM 73 7 72 (.t 21) (.t 27)),iI 29 (.faddr 2 (.t 3)),iN (.store 1 (.t 29) (.t 28))] true))
 (.region [iI 18 (.mv (.t 4)),iI 19 (.bin .add (.t 18) (.c (.int .i64 1))),iI 4 (.mv (.t 19))] false))))))
 (.seq
 (.seq
 (.region [iI 5 (.mv (.c (.int .i64 0)))] false)
 (.block 2
 (.loop
 (.seq
 (.seq
 (.region [iI 30 (.mv (.t 5)),iI 31 (.faddr 3 (.t 1)),iI 32 (.load false 1 (.t 31)),iI 33 (.len (.t 32)),iI 34 (.bin .lss (.t 30) (.t 33))] false)
 (.cond (.t 34)
 .skip
 (.exit 2)))
 (.seq
 (.block 3
 (.region [iI 37 (.faddr 3 (.t 3)),iI 38 (.load false 1 (.t 37)),iI 39 (.faddr 3 (.t 1)),iI 40 (.load false 1 (.t 39)),iI 41 (.mv (.t 5)),iI 42 (.iaddr 3 (.t 40) (.t 41)),iI 43 (.load true 3 (.t 42)),iI 44 (.bslice 75 3 1 [.int .i64 0, .int .i64 0, .int .i64 0] [(0, (.t 43))]),iI 45 (.appendM 75 3 24 (.t 38) (.t 44)),iI 46 (.faddr 3 (.t 3)),iN (.store 1 (.t 46) (.t 45))] true))
 (.region [iI 35 (.mv (.t 5)),iI 36 (.bin .add (.t 35) (.c (.int .i64 1))),iI 5 (.mv (.t 36))] false))))))
 (.seq
 (.seq
 (.region [iI 6 (.mv (.c (.int .i64 0)))] false)
 (.block 4
 (.loop
 (.seq
 (.seq
 (.region [iI 47 (.mv (.t 6)),iI 48 (.faddr 4 (.t 1)),iI 49 (.load false 1 (.t 48)),iI 50 (.len (.t 49)),iI 51 (.bin .lss (.t 47) (.t 50))] false)
 (.cond (.t 51)
 .skip
 (.exit 4)))
 (.seq
 (.block 5
 (.region [iI 54 (.faddr 4 (.t 3)),iI 55 (.load false 1 (.t 54)),iI 56 (.faddr 4 (.t 1)),iI 57 (.load false 1 (.t 56)),iI 58 (.mv (.t 6)),iI 59 (.iaddr 4 (.t 57) (.t 58)),iI 60 (.load true 4 (.t 59)),iI 61 (.bslice 78 4 1 [.int .i64 0, .int .i64 0, .int .i64 0, .int .i64 0] [(0, (.t 60))]),iI 62 (.appendM 78 4 32 (.t 55) (.t 61)),iI 63 (.faddr 4 (.t 3)),iN (.store 1 (.t 63) (.t 62))] true))
 (.region [iI 52 (.mv (.t 6)),iI 53 (.bin .add (.t 52) (.c (.int .i64 1))),iI 6 (.mv (.t 53))] false))))))
 (.seq
 (.seq
 (.region [iI 7 (.mv (.c (.int .i64 0)))] false)
 (.block 6
 (.loop
 (.seq
 (.seq
 (.region [iI 64 (.mv (.t 7)),iI 65 (.faddr 5 (.t 1)),iI 66 (.load false 1 (.t 65)),iI 67 (.len (.t 66)),iI 68 (.bin .lss (.t 64) (.t 67))] false)
 (.cond (.t 68)
 .skip
 (.exit 6)))
 (.seq
 (.block 7
 (.region [iI 71 (.faddr 5 (.t 3)),iI 72 (.load false 1 (.t 71)),iI 73 (.faddr 5 (.t 1)),iI 74 (.load false 1 (.t 73)),iI 75 (.mv (.t 7)),iI 76 (.iaddr 3 (.t 74) (.t 75)),iI 77 (.load true 3 (.t 76)),iI 78 (.bslice 43 3 1 [.int .i64 0, .int .i64 0, .str []] [(0, (.t 77))]),iI 79 (.appendM 43 3 32 (.t 72) (.t 78)),iI 80 (.faddr 5 (.t 3)),iN (.store 1 (.t 80) (.t 79))] true))
 (.region [iI 69 (.mv (.t 7)),iI 70 (.bin .add (.t 69) (.c (.int .i64 1))),iI 7 (.mv (.t 70))] false))))))
 (.seq
 (.region [iI 81 (.load true 6 (.t 3)),iN (.store 6 (.t 2) (.t 81))] false)
 .ret)))))))
def r12 : List ERes := [.cell true 6 2]
theorem c12 : chkF Tryz.prog Tryz.f12 1 e12 r12 = true := by kernel_rfl
def e13 : EC :=
 (.seq
 (.region [iI 1 (.box 27 (.t 0)),iI 2 (.mv (.c (.bool false)))] false)
 (.seq
 (.region [iI 11 (.faddr 5 (.t 1)),iI 12 (.load false 1 (.t 11)),iI 13 (.len (.t 12)),iI 3 (.mv (.t 13))] false)
 (.seq
 (.seq
 (.region [iI 14 (.faddr 0 (.t 1)),iI 15 (.load false 1 (.t 14)),iI 16 (.call 35 [(.t 15)]),iI 17 (.not (.t 16)),iI 18 (.mv (.t 17)),iG 19 18 false (.faddr 1 (.t 1)),iG 20 18 false (.load false 1 (.t 19)),iG 21 18 false (.bin .lss (.t 20) (.c (.int .i64 0))),iI 22 (.pick (.t 18) (.c (.bool true)) (.t 21)),iI 23 (.mv (.t 22)),iG 24 23 false (.faddr 1 (.t 1)),iG 25 23 false (.load false 1 (.t 24)),iG 26 23 false (.bin .geq (.t 25) (.c (.int .i64 6))),iI 27 (.pick (.t 23) (.c (.bool true)) (.t 26)),iI 28 (.mv (.t 27)),iG 29 28 false (.faddr 2 (.t 1)),iG 30 28 false (.load false 1 (.t 29)),iG 31 28 false (.call 36 [(.t 30)]),iG 32 28 false (.not (.t 31)),iI 33 (.pick (.t 28) (.c (.bool true)) (.t 32)),iI 34 (.mv (.t 33)),iG 35 34 false (.faddr 3 (.t 1)),iG 36 34 false (.load false 1 (.t 35)),iG 37 34 false (.len (.t 36)),iG 38 34 false (.bin .gtr (.t 37) (.c (.int .i64 40))),iI 39 (.pick (.t 34) (.c (.bool true)) (.t 38)),iI 40 (.mv (.t 39)),iG 41 40 false (.faddr 4 (.t 1)),iG 42 40 false (.load false 1 (.t 41)),iG 43 40 false (.len (.t 42)),iG 44 40 false (.bin .gtr (.t 43) (.c (.int .i64 40))),iI 45 (.pick (.t 40) (.c (.bool true)) (.t 44)),iI 46 (.mv (.t 45)),iG 47 46 false (.mv (.t 3)),iG 48 46 false (.bin .lss (.t 47) (.c (.int .i64 1))),iI 49 (.pick (.t 46) (.c (.bool true)) (.t 48)),iI 50 (.mv (.t 49)),iG 51 50 false (.mv (.t 3)),iG 52 50 false (.bin .gtr (.t 51) (.c (.int .i64 1000))),iI 53 (.pick (.t 50) (.c (.bool true)) (.t 52))] false)
 (.cond (.t 53)
 (.seq
 (.region [iI 2 (.mv (.c (.bool false)))] false)
 .ret)
 .skip))
 (.seq
 (.seq
 (.region [iI 4 (.mv (.c (.int .i64 0)))] false)
 (.block 0
 (.loop
 (.seq
 (.seq
 (.region [iI 54 (.mv (.t 4)),iI 55 (.faddr 3 (.t 1)),iI 56 (.load false 1 (.t 55)),iI 57 (.len (.t 56)),iI 58 (.bin .lss (.t 54) (.t 57))] false)
 (.cond (.t 58)
 .skip
 (.exit 0)))
 (.seq
 (.block 1
 (.seq
 (.region [iI 61 (.faddr 3 (.t 1)),iI 62 (.load false 1 (.t 61)),iI 63 (.mv (.t 4)),iI 64 (.iaddr 3 (.t 62) (.t 63)),iI 65 (.load true 3 (.t 64)),iI 5 (.alloc 76 [.int .i64 0, .int .i64 0, .int .i64 0]),iN (.store 3 (.t 5) (.t 65))] false)
 (.seq
 (.seq
 (.region [iI 66 (.faddr 0 (.t 5)),iI 67 (.load false 1 (.t 66)),iI 68 (.faddr 1 (.t 5)),iI 69 (.load false 1 (.t 68)),iI 70 (.faddr 1 (.t 1)),iI 71 (.load false 1 (.t 70)),iI 72 (.call 37 [(.t 67), (.t 69), (.t 71)]),iI 73 (.not (.t 72)),iI 74 (.mv (.t 73)),iG 75 74 false (.faddr 2 (.t 5)),iG 76 74 false (.load false 1 (.t 75)),iG 77 74 false (.bin .lss (.t 76) (.c (.int .i64 0))),iI 78 (.pick (.t 74) (.c (.bool true)) (.t 77)),iI 79 (.mv (.t 78)),iG 80 79 false (.faddr 2 (.t 5)),iG 81 79 false (.load false 1 (.t 80)),iG 82 79 false (.mv (.t 3)),iG 83 79 false (.bin .geq (.t 81) (.t 82)),iI 84 (.pick (.t 79) (.c (.bool true)) (.t 83))] false)
 (.cond (.t 84)
 (.seq
 (.region [iI 2 (.mv (.c (.bool false)))] false)
 .ret)
 .skip))
 (.seq
 (.region [iI 6 (.mv (.c (.int .i64 0)))] false)
 (.block 2
 (.loop
 (.seq
 (.seq
 (.region [iI 85 (.mv (.t 6)),iI 86 (.mv (.t 4)),iI 87 (.bin .lss (.t 85) (.t 86))] false)
 (.cond (.t 87)
 .skip
 (.exit 2)))
 (.seq
 (.block 3
 (.seq
 (.region [iI 90 (.faddr 3 (.t 1)),iI 91 (.load false 1 (.t 90)),iI 92 (.mv (.t 6)),iI 93 (.iaddr 3 (.t 91) (.t 92)),iI 94 (.faddr 0 (.t 93)),iI 95 (.load false 1 (.t 94)),iI 96 (.faddr 0 (.t 5)),iI 97 (.load false 1 (.t 96)),iI 98 (.bin .eql (.t 95) (.t 97)),iI 99 (.mv (.t 98)),iG 100 99 true (.faddr 3 (.t 1)),iG 101 99 true (.load false 1 (.t 100)),iG 102 99 true (.mv (.t 6)),iG 103 99 true (.iaddr 3 (.t 101) (.t 102)),iG 104 99 true (.faddr 1 (.t 103)),iG 105 99 true (.load false 1 (.t 104)),iG 106 99 true (.faddr 1 (.t 5)),iG 107 99 true (.load false 1 (.t 106)),iG 108 99 true (.bin .eql (.t 105) (.t 107)),iI 109 (.pick (.t 99) (.t 108) (.c (.bool false)))] true)
 (.cond (.t 109)
 (.seq
 (.region [iI 2 (.mv (.c (.bool false)))] false)
 .ret)
 .skip)))
 (.region [iI 88 (.mv (.t 6)),iI 89 (.bin .add (.t 88) (.c (.int .i64 1))),iI 6 (.mv (.t 89))] false)))))))))
 (.region [iI 59 (.mv (.t 4)),iI 60 (.bin .add (.t 59) (.c (.int .i64 1))),iI 4 (.mv (.t 60))] false))))))
 (.seq
 (.seq
 (.region [iI 7 (.mv (.c (.int .i64 0)))] false)
 (.block 4
 (.loop
 (.seq
 (.seq
 (.region [iI 110 (.mv (.t 7)),iI 111 (.faddr 4 (.t 1)),iI 112 (.load false 1 (.t 111)),iI 113 (.len (.t 112)),iI 114 (.bin .lss (.t 110) (.t 113))] false)
 (.cond (.t 114)
 .skip
 (.exit 4)))
 (.seq
 (.block 5
 (.seq
 (.region [iI 117 (.faddr 4 (.t 1)),iI 118 (.load false 1 (.t 117)),iI 119 (.mv (.t 7)),iI 120 (.iaddr 4 (.t 118) (.t 119)),iI 121 (.load true 4 (.t 120)),iI 8 (.alloc 79 [.int .i64 0, .int .i64 0, .int .i64 0, .int .i64 0]),iN (.store 4 (.t 8) (.t 121))] false)
 (.seq
 (.region [iI 122 (.faddr 0 (.t 8)),iI 123 (.load false 1 (.t 122)),iI 124 (.faddr 1 (.t 8)),iI 125 (.load false 1 (.t 124)),iI 126 (.faddr 1 (.t 1)),iI 127 (.load false 1 (.t 126)),iI 128 (.call 37 [(.t 123), (.t 125), (.t 127)]),iI 129 (.not (.t 128)),iI 130 (.mv (.t 129)),iG 131 130 false (.faddr 2 (.t 8)),iG 132 130 false (.load false 1 (.t 131)),iG 133 130 false (.bin .lss (.t 132) (.c (.int .i64 (-1)))),iI 134 (.pick (.t 130) (.c (.bool true)) (.t 133)),iI 135 (.mv (.t 134)),iG 136 135 false (.faddr 2 (.t 8)),iG 137 135 false (.load false 1 (.t 136)),iG 138 135 false (.mv (.t 3)),iG 139 135 false (.bin .geq (.t 137) (.t 138)),iI 140 (.pick (.t 135) (.c (.bool true)) (.t 139)),iI 141 (.mv (.t 140)),iG 142 141 false (.faddr 3 (.t 8)),iG 143 141 false (.load false 1 (.t 142)),iG 144 141 false (.bin .lss (.t 143) (.c (.int .i64 0))),iI 145 (.pick (.t 141) (.c (.bool true)) (.t 144)),iI 146 (.mv (.t 145)),iG 147 146 false (.faddr 3 (.t 8)),iG 148 146 false (.load false 1 (.t 147)),iG 149 146 false (.mv (.t 3)),iG 150 146 false (.bin .geq (.t 148) (.t 149)),iI 151 (.pick (.t 146) (.c (.bool true)) (.t 150))] false)
 (.cond (.t 151)
 (.seq
 (.region [iI 2 (.mv (.c (.bool false)))] false)
 .ret)
 .skip))))
 (.region [iI 115 (.mv (.t 7)),iI 116 (.bin .add (.t 115) (.c (.int .i64 1))),iI 7 (.mv (.t 116))] false))))))
 (.seq
 (.seq
 (.region [iI 9 (.mv (.c (.int .i64 0)))] false)
 (.block 6
 (.loop
 (.seq
 (.seq
 (.region [iI 152 (.mv (.t 9)),iI 153 (.mv (.t 3)),iI 154 (.bin .lss (.t 152) (.t 153))] false)
 (.cond (.t 154)
 .skip
 (.exit 6)))
 (.seq
 (.block 7
 (.seq
 (.region [iI 157 (.faddr 5 (.t 1)),iI 158 (.load false 1 (.t 157)),iI 159 (.mv (.t 9)),iI 160 (.iaddr 3 (.t 158) (.t 159)),iI 161 (.load true 3 (.t 160)),iI 10 (.alloc 41 [.int .i64 0, .int .i64 0, .str []]),iN (.store 3 (.t 10) (.t 161))] false)
 (.seq
 (.region [iI 162 (.load true 3 (.t 10)),iI 163 (.call 19 [(.t 162)]),iI 164 (.not (.t 163)),iI 165 (.mv (.t 164)),iG 166 165 false (.faddr 0 (.t 10)),iG 167 165 false (.load false 1 (.t 166)),iG 168 165 false (.call 38 [(.t 167)]),iG 169 165 false (.mv (.t 168)),iG 170 169 true (.faddr 1 (.t 10)),iG 171 169 true (.load false 1 (.t 170)),iG 172 169 true (.mv (.t 3)),iG 173 169 true (.bin .geq (.t 171) (.t 172)),iG 174 165 false (.pick (.t 169) (.t 173) (.c (.bool false))),iI 175 (.pick (.t 165) (.c (.bool true)) (.t 174)),iI 176 (.mv (.t 175)),iG 177 176 false (.faddr 0 (.t 10)),iG 178 176 false (.load false 1 (.t 177)),iG 179 176 false (.bin .eql (.t 178) (.c (.int .i64 3))),iG 180 176 false (.mv (.t 179)),iG 181 180 false (.faddr 0 (.t 10)),iG 182 180 false (.load false 1 (.t 181)),iG 183 180 false (.bin .eql (.t 182) (.c (.int .i64 5))),iG 184 176 false (.pick (.t 180) (.c (.bool true)) (.t 183)),iG 185 176 false (.mv (.t 184)),iG 186 185 true (.faddr 1 (.t 10)),iG 187 185 true (.load false 1 (.t 186)),iG 188 185 true (.faddr 2 (.t 1)),iG 189 185 true (.load false 1 (.t 188)),iG 190 185 true (.len (.t 189)),iG 191 185 true (.bin .geq (.t 187) (.t 190)),iG 192 176 false (.pick (.t 185) (.t 191) (.c (.bool false))),iI 193 (.pick (.t 176) (.c (.bool true)) (.t 192))] false)
 (.cond (.t 193)
 (.seq
 (.region [iI 2 (.mv (.c (.bool false)))] false)
 .ret)
 .skip))))
 (.region [iI 155 (.mv (.t 9)),iI 156 (.bin .add (.t 155) (.c (.int .i64 1))),iI 9 (.mv (.t 156))] false))))))
 (.seq
 (.region [iI 2 (.mv (.c (.bool true)))] false)
 .ret)))))))
def r13 : List ERes := [.t 2]
theorem c13 : chkF Tryz.prog Tryz.f13 1 e13 r13 = true := by kernel_rfl
def e15 : EC :=
 (.seq
 (.region [iI 2 (.box 27 (.t 0)),iI 3 (.box 27 (.t 1)),iI 4 (.mv (.c (.bool false)))] false)
 (.seq
 (.seq
 (.region [iI 9 (.faddr 0 (.t 2)),iI 10 (.load false 1 (.t 9)),iI 11 (.faddr 0 (.t 3)),iI 12 (.load false 1 (.t 11)),iI 13 (.bin .neq (.t 10) (.t 12)),iI 14 (.mv (.t 13)),iG 15 14 false (.faddr 1 (.t 2)),iG 16 14 false (.load false 1 (.t 15)),iG 17 14 false (.faddr 1 (.t 3)),iG 18 14 false (.load false 1 (.t 17)),iG 19 14 false (.bin .neq (.t 16) (.t 18)),iI 20 (.pick (.t 14) (.c (.bool true)) (.t 19)),iI 21 (.mv (.t 20)),iG 22 21 false (.faddr 2 (.t 2)),iG 23 21 false (.load false 1 (.t 22)),iG 24 21 false (.len (.t 23)),iG 25 21 false (.faddr 2 (.t 3)),iG 26 21 false (.load false 1 (.t 25)),iG 27 21 false (.len (.t 26)),iG 28 21 false (.bin .neq (.t 24) (.t 27)),iI 29 (.pick (.t 21) (.c (.bool true)) (.t 28)),iI 30 (.mv (.t 29)),iG 31 30 false (.faddr 3 (.t 2)),iG 32 30 false (.load false 1 (.t 31)),iG 33 30 false (.len (.t 32)),iG 34 30 false (.faddr 3 (.t 3)),iG 35 30 false (.load false 1 (.t 34)),iG 36 30 false (.len (.t 35)),iG 37 30 false (.bin .neq (.t 33) (.t 36)),iI 38 (.pick (.t 30) (.c (.bool true)) (.t 37)),iI 39 (.mv (.t 38)),iG 40 39 false (.faddr 4 (.t 2)),iG 41 39 false (.load false 1 (.t 40)),iG 42 39 false (.len (.t 41)),iG 43 39 false (.faddr 4 (.t 3)),iG 44 39 false (.load false 1 (.t 43)),iG 45 39 false (.len (.t 44)),iG 46 39 false (.bin .neq (.t 42) (.t 45)),iI 47 (.pick (.t 39) (.c (.bool true)) (.t 46)),iI 48 (.mv (.t 47)),iG 49 48 false (.faddr 5 (.t 2)),iG 50 48 false (.load false 1 (.t 49)),iG 51 48 false (.len (.t 50)),iG 52 48 false (.faddr 5 (.t 3)),iG 53 48 false (.load false 1 (.t 52)),iG 54 48 false (.len (.t 53)),iG 55 48 false (.bin .neq (.t 51) (.t 54)),iI 56 (.pick (.t 48) (.c (.bool true)) (.t 55))] false)
 (.cond (.t 56)
 (.seq
 (.region [iI 4 (.mv (.c (.bool false)))] false)
 .ret)
 .skip))
 (.seq
 (.seq
 (.region [iI 5 (.mv (.c (.int .i64 0)))] false)
 (.block 0
 (.loop
 (.seq
 (.seq
 (.region [iI 57 (.mv (.t 5)),iI 58 (.faddr 2 (.t 2)),iI 59 (.load false 1 (.t 58)),iI 60 (.len (.t 59)),iI 61 (.bin .lss (.t 57) (.t 60))] false)
 (.cond (.t 61)
 .skip
 (.exit 0)))
 (.seq
 (.block 1
 (.seq
 (.region [iI 64 (.faddr 2 (.t 2)),iI 65 (.load false 1 (.t 64)),iI 66 (.mv (.t 5)),iI 67 (.iaddr 7 (.t 65) (.t 66)),iI 68 (.load true 7 (.t 67)),iI 69 (.faddr 2 (.t 3)),iI 70 (.load false 1 (.t 69)),iI 71 (.mv (.t 5)),iI 72 (.iaddr 7 (.t 70) (.t 71)),iI 73 (.load true 7 (.t 72)),iI 74 (.eqA true 68 [.s, .i .i64, .i .i64, .i .i64, .i .i64, .i .i64, .s] (.t 68) (.t 73))] true)
 (.cond (.t 74)
 (.seq
 (.region [iI 4 (.mv (.c (.bool false)))] false)
 .ret)
 .skip)))
 (.region [iI 62 (.mv (.t 5)),iI 63 (.bin .add (.t 62) (.c (.int .i64 1))),iI 5 (.mv (.t 63))] false))))))
 (.seq
 (.seq
 (.region [iI 6 (.mv (.c (.int .i64 0)))] false)
 (.block 2
 (.loop
 (.seq
 (.seq
 (.region [iI 75 (.mv (.t 6)),iI 76 (.faddr 3 (.t 2)),iI 77 (.load false 1 (.t 76)),iI 78 (.len (.t 77)),iI 79 (.bin .lss (.t 75) (.t 78))] false)
 (.cond (.t 79)
 .skip
 (.exit 2)))
 (.seq
 (.block 3
 (.seq
 (.region [iI 82 (.faddr 3 (.t 2)),iI 83 (.load false 1 (.t 82)),iI 84 (.mv (.t 6)),iI 85 (.iaddr 3 (.t 83) (.t 84)),iI 86 (.load true 3 (.t 85)),iI 87 (.faddr 3 (.t 3)),iI 88 (.load false 1 (.t 87)),iI 89 (.mv (.t 6)),iI 90 (.iaddr 3 (.t 88) (.t 89)),iI 91 (.load true 3 (.t 90)),iI 92 (.eqA true 76 [.i .i64, .i .i64, .i .i64] (.t 86) (.t 91))] true)
 (.cond (.t 92)
 (.seq
 (.region [iI 4 (.mv (.c (.bool false)))] false)
 .ret)
 .skip)))
 (.region [iI 80 (.mv (.t 6)),iI 81 (.bin .add (.t 80) (.c (.int .i64 1))),iI 6 (.mv (.t 81))] false))))))
 (.seq
 (.seq
 (.region [iI 7 (.mv (.c (.int .i64 0)))] false)
 (.block 4
 (.loop
 (.seq
 (.seq
 (.region [iI 93 (.mv (.t 7)),iI 94 (.faddr 4 (.t 2)),iI 95 (.load false 1 (.t 94)),iI 96 (.len (.t 95)),iI 97 (.bin .lss (.t 93) (.t 96))] false)
 (.cond (.t 97)
 .skip
 (.exit 4)))
 (.seq
 (.block 5
 (.seq
 (.region [iI 100 (.faddr 4 (.t 2)),iI 101 (.load false 1 (.t 100)),iI 102 (.mv (.t 7)),iI 103 (.iaddr 4 (.t 101) (.t 102)),iI 104 (.load true 4 (.t 103)),iI 105 (.faddr 4 (.t 3)),iI 106 (.load false 1 (.t 105)),iI 107 (.mv (.t 7)),iI 108 (.iaddr 4 (.t 106) (.t 107)),iI 109 (.load true 4 (.t 108)),iI 110 (.eqA true 79 [.i .i64, .i .i64, .i .i64, .i .i64] (.t 104) (.t 109))] true)
 (.cond (.t 110)
 (.seq
 (.region [iI 4 (.mv (.c (.bool false)))] false)
 .ret)
 .skip)))
 (.region [iI 98 (.mv (.t 7)),iI 99 (.bin .add (.t 98) (.c (.int .i64 1))),iI 7 (.mv (.t 99))] false))))))
 (.seq
 (.seq
 (.region [iI 8 (.mv (.c (.int .i64 0)))] false)
 (.block 6
 (.loop
 (.seq
 (.seq
 (.region [iI 111 (.mv (.t 8)),iI 112 (.faddr 5 (.t 2)),iI 113 (.load false 1 (.t 112)),iI 114 (.len (.t 113)),iI 115 (.bin .lss (.t 111) (.t 114))] false)
 (.cond (.t 115)
 .skip
 (.exit 6)))
 (.seq
 (.block 7
 (.seq
 (.region [iI 118 (.faddr 5 (.t 2)),iI 119 (.load false 1 (.t 118)),iI 120 (.mv (.t 8)),iI 121 (.iaddr 3 (.t 119) (.t 120)),iI 122 (.load true 3 (.t 121)),iI 123 (.faddr 5 (.t 3)),iI 124 (.load false 1 (.t 123)),iI 125 (.mv (.t 8)),iI 126 (.iaddr 3 (.t 124) (.t 125)),iI 127 (.load true 3 (.t 126)),iI 128 (.eqA true 41 [.i .i64, .i .i64, .s] (.t 122) (.t 127))] true)
 (.cond (.t 128)
 (.seq
 (.region [iI 4 (.mv (.c (.bool false)))] false)
 .ret)
 .skip)))
 (.region [iI 116 (.mv (.t 8)),iI 117 (.bin .add (.t 116) (.c (.int .i64 1))),iI 8 (.mv (.t 117))] false))))))
 (.seq
 (.region [iI 4 (.mv (.c (.bool true)))] false)
 .ret)))))))
def r15 : List ERes := [.t 4]
theorem c15 : chkF Tryz.prog Tryz.f15 2 e15 r15 = true := by kernel_rfl
def e19 : EC :=
 (.seq
 (.region [iI 1 (.box 41 (.t 0)),iI 2 (.mv (.c (.bool false)))] false)
 (.seq
 (.seq
 (.region [iI 5 (.faddr 0 (.t 1)),iI 6 (.load false 1 (.t 5)),iI 7 (.bin .lss (.t 6) (.c (.int .i64 1))),iI 8 (.mv (.t 7)),iG 9 8 false (.faddr 0 (.t 1)),iG 10 8 false (.load false 1 (.t 9)),iG 11 8 false (.bin .gtr (.t 10) (.c (.int .i64 24))),iI 12 (.pick (.t 8) (.c (.bool true)) (.t 11))] false)
 (.cond (.t 12)
 (.seq
 (.region [iI 2 (.mv (.c (.bool false)))] false)
 .ret)
 .skip))
 (.seq
 (.region [iI 14 (.faddr 0 (.t 1)),iI 15 (.load false 1 (.t 14)),iI 16 (.call 52 [(.t 15)]),iI 13 (.mv (.t 16)),iI 17 (.extract 0 (.t 13)),iI 18 (.extract 1 (.t 13)),iI 3 (.mv (.t 17)),iI 4 (.mv (.t 18))] false)
 (.seq
 (.seq
 (.region [iI 19 (.faddr 1 (.t 1)),iI 20 (.load false 1 (.t 19)),iI 21 (.mv (.t 3)),iI 22 (.bin .lss (.t 20) (.t 21)),iI 23 (.mv (.t 22)),iG 24 23 false (.faddr 1 (.t 1)),iG 25 23 false (.load false 1 (.t 24)),iG 26 23 false (.mv (.t 4)),iG 27 23 false (.bin .gtr (.t 25) (.t 26)),iI 28 (.pick (.t 23) (.c (.bool true)) (.t 27))] false)
 (.cond (.t 28)
 (.seq
 (.region [iI 2 (.mv (.c (.bool false)))] false)
 .ret)
 .skip))
 (.seq
 (.seq
 (.region [iI 29 (.faddr 0 (.t 1)),iI 30 (.load false 1 (.t 29)),iI 31 (.bin .eql (.t 30) (.c (.int .i64 2)))] false)
 (.cond (.t 31)
 (.seq
 (.region [iI 32 (.faddr 2 (.t 1)),iI 33 (.load false 1 (.t 32)),iI 34 (.call 55 [(.t 33)]),iI 35 (.call 56 [(.t 34)]),iI 2 (.mv (.t 35))] false)
 .ret)
 .skip))
 (.seq
 (.region [iI 36 (.faddr 2 (.t 1)),iI 37 (.load false 1 (.t 36)),iI 38 (.bin .eql (.t 37) (.c (.str []))),iI 2 (.mv (.t 38))] false)
 .ret))))))
def r19 : List ERes := [.t 2]
theorem c19 : chkF Tryz.prog Tryz.f19 1 e19 r19 = true := by kernel_rfl
def e35 : EC :=
 (.seq
 (.region [iI 2 (.mv (.c (.bool false)))] false)
 (.seq
 (.seq
 (.region [iI 4 (.mv (.t 0)),iI 5 (.bin .eql (.t 4) (.c (.str []))),iI 6 (.mv (.t 5)),iG 7 6 false (.mv (.t 0)),iG 8 6 false (.idxS (.t 7) (.c (.int .i64 0))),iG 9 6 false (.call 84 [(.t 8)]),iG 10 6 false (.not (.t 9)),iI 11 (.pick (.t 6) (.c (.bool true)) (.t 10)),iI 12 (.mv (.t 11)),iG 13 12 false (.mv (.t 0)),iG 14 12 false (.lenS (.t 13)),iG 15 12 false (.bin .gtr (.t 14) (.c (.int .i64 16))),iI 16 (.pick (.t 12) (.c (.bool true)) (.t 15))] false)
 (.cond (.t 16)
 (.seq
 (.region [iI 2 (.mv (.c (.bool false)))] false)
 .ret)
 .skip))
 (.seq
 (.seq
 (.region [iI 3 (.mv (.c (.int .i64 0)))] false)
 (.block 0
 (.loop
 (.seq
 (.seq
 (.region [iI 17 (.mv (.t 3)),iI 18 (.mv (.t 0)),iI 19 (.lenS (.t 18)),iI 20 (.bin .lss (.t 17) (.t 19))] false)
 (.cond (.t 20)
 .skip
 (.exit 0)))
 (.seq
 (.block 1
 (.seq
 (.region [iI 23 (.mv (.t 0)),iI 24 (.mv (.t 3)),iI 25 (.idxS (.t 23) (.t 24)),iI 26 (.call 85 [(.t 25)]),iI 27 (.not (.t 26))] false)
 (.cond (.t 27)
 (.seq
 (.region [iI 2 (.mv (.c (.bool false)))] false)
 .ret)
 .skip)))
 (.region [iI 21 (.mv (.t 3)),iI 22 (.bin .add (.t 21) (.c (.int .i64 1))),iI 3 (.mv (.t 22))] false))))))
 (.seq
 (.region [iI 2 (.mv (.c (.bool true)))] false)
 .ret))))
def r35 : List ERes := [.t 2]
theorem c35 : chkF Tryz.prog Tryz.f35 1 e35 r35 = true := by kernel_rfl
def e36 : EC :=
 (.seq
 (.region [iI 2 (.mv (.c (.bool false)))] false)
 (.seq
 (.seq
 (.region [iI 3 (.mv (.c (.int .i64 0)))] false)
 (.block 0
 (.loop
 (.seq
 (.seq
 (.region [iI 5 (.mv (.t 3)),iI 6 (.mv (.t 0)),iI 7 (.len (.t 6)),iI 8 (.bin .lss (.t 5) (.t 7))] false)
 (.cond (.t 8)
 .skip
 (.exit 0)))
 (.seq
 (.block 1
 (.seq
 (.seq
 (.region [iI 11 (.mv (.t 0)),iI 12 (.mv (.t 3)),iI 13 (.iaddr 7 (.t 11) (.t 12)),iI 14 (.faddr 0 (.t 13)),iI 15 (.load false 1 (.t 14)),iI 16 (.pcall 35 [(.t 15)]),iI 17 (.not (.t 16)),iI 18 (.mv (.t 17)),iG 19 18 false (.mv (.t 0)),iG 20 18 false (.mv (.t 3)),iG 21 18 false (.iaddr 7 (.t 19) (.t 20)),iG 22 18 false (.faddr 1 (.t 21)),iG 23 18 false (.load true 3 (.t 22)),iG 24 18 false (.mv (.t 0)),iG 25 18 false (.mv (.t 3)),iG 26 18 false (.iaddr 7 (.t 24) (.t 25)),iG 27 18 false (.faddr 4 (.t 26)),iG 28 18 false (.load true 3 (.t 27)),iG 29 18 false (.pcall 86 [(.t 23), (.t 28)]),iG 30 18 false (.not (.t 29)),iI 31 (.pick (.t 18) (.c (.bool true)) (.t 30))] true)
 (.cond (.t 31)
 (.seq
 (.region [iI 2 (.mv (.c (.bool false)))] false)
 .ret)
 .skip))
 (.seq
 (.region [iI 4 (.mv (.c (.int .i64 0)))] false)
 (.block 2
 (.loop
 (.seq
 (.seq
 (.region [iI 32 (.mv (.t 4)),iI 33 (.mv (.t 3)),iI 34 (.bin .lss (.t 32) (.t 33))] false)
 (.cond (.t 34)
 .skip
 (.exit 2)))
 (.seq
 (.block 3
 (.seq
 (.region [iI 37 (.mv (.t 0)),iI 38 (.mv (.t 4)),iI 39 (.iaddr 7 (.t 37) (.t 38)),iI 40 (.faddr 0 (.t 39)),iI 41 (.load false 1 (.t 40)),iI 42 (.mv (.t 0)),iI 43 (.mv (.t 3)),iI 44 (.iaddr 7 (.t 42) (.t 43)),iI 45 (.faddr 0 (.t 44)),iI 46 (.load false 1 (.t 45)),iI 47 (.bin .eql (.t 41) (.t 46))] true)
 (.cond (.t 47)
 (.seq
 (.region [iI 2 (.mv (.c (.bool false)))] false)
 .ret)
 .skip)))
 (.region [iI 35 (.mv (.t 4)),iI 36 (.bin .add (.t 35) (.c (.int .i64 1))),iI 4 (.mv (.t 36))] false))))))))
 (.region [iI 9 (.mv (.t 3)),iI 10 (.bin .add (.t 9) (.c (.int .i64 1))),iI 3 (.mv (.t 10))] false))))))
 (.seq
 (.region [iI 48 (.mv (.t 0)),iI 49 (.len (.t 48)),iI 50 (.bin .leq (.t 49) (.c (.int .i64 12))),iI 2 (.mv (.t 50))] false)
 .ret)))
def r36 : List ERes := [.t 2]
theorem c36 : chkF Tryz.prog Tryz.f36 1 e36 r36 = true := by kernel_rfl
def e37 : EC :=
 (.seq
 (.region [iI 6 (.mv (.c (.bool false)))] false)
 (.seq
 (.region [iI 7 (.mv (.t 0)),iI 8 (.bin .geq (.t 7) (.c (.int .i64 0))),iI 9 (.mv (.t 8)),iG 10 9 true (.mv (.t 0)),iG 11 9 true (.bin .lss (.t 10) (.c (.int .i64 6))),iI 12 (.pick (.t 9) (.t 11) (.c (.bool false))),iI 13 (.mv (.t 12)),iG 14 13 true (.mv (.t 0)),iG 15 13 true (.mv (.t 2)),iG 16 13 true (.bin .neq (.t 14) (.t 15)),iI 17 (.pick (.t 13) (.t 16) (.c (.bool false))),iI 18 (.mv (.t 17)),iG 19 18 true (.mv (.t 1)),iG 20 18 true (.bin .geq (.t 19) (.c (.int .i64 0))),iI 21 (.pick (.t 18) (.t 20) (.c (.bool false))),iI 22 (.mv (.t 21)),iG 23 22 true (.mv (.t 1)),iG 24 22 true (.bin .lss (.t 23) (.c (.int .i64 40))),iI 25 (.pick (.t 22) (.t 24) (.c (.bool false))),iI 6 (.mv (.t 25))] false)
 .ret))
def r37 : List ERes := [.t 6]
theorem c37 : chkF Tryz.prog Tryz.f37 3 e37 r37 = true := by kernel_rfl
def e38 : EC :=
 (.seq
 (.region [iI 2 (.mv (.c (.bool false)))] false)
 (.seq
 (.region [iI 3 (.mv (.t 0)),iI 4 (.bin .eql (.t 3) (.c (.int .i64 19))),iI 5 (.mv (.t 4)),iG 6 5 false (.mv (.t 0)),iG 7 5 false (.bin .eql (.t 6) (.c (.int .i64 20))),iI 8 (.pick (.t 5) (.c (.bool true)) (.t 7)),iI 9 (.mv (.t 8)),iG 10 9 false (.mv (.t 0)),iG 11 9 false (.bin .eql (.t 10) (.c (.int .i64 22))),iI 12 (.pick (.t 9) (.c (.bool true)) (.t 11)),iI 2 (.mv (.t 12))] false)
 .ret))
def r38 : List ERes := [.t 2]
theorem c38 : chkF Tryz.prog Tryz.f38 1 e38 r38 = true := by kernel_rfl
def e52 : EC :=
 (.seq
 (.region [iI 2 (.mv (.c (.int .i64 0))),iI 3 (.mv (.c (.int .i64 0)))] false)
 (.seq
 (.seq
 (.region [iI 4 (.mv (.t 0))] false)
 (.block 0
 (.seq
 (.region [iI 6 (.bin .eql (.t 4) (.c (.int .i64 1))),iI 5 (.mv (.t 6))] false)
 (.cond (.t 5)
 (.seq
 (.region [iI 2 (.mv (.c (.int .i64 (-1000)))),iI 3 (.mv (.c (.int .i64 1000)))] false)
 .ret)
 (.seq
 (.seq
 (.region [iI 8 (.bin .eql (.t 4) (.c (.int .i64 3))),iI 7 (.mv (.t 8))] false)
 (.cond (.t 7)
 .skip
 (.region [iI 9 (.bin .eql (.t 4) (.c (.int .i64 5))),iI 7 (.mv (.t 9))] false)))
 (.cond (.t 7)
 (.seq
 (.region [iI 2 (.mv (.c (.int .i64 0))),iI 3 (.mv (.c (.int .i64 11)))] false)
 .ret)
 (.seq
 (.region [iI 11 (.bin .eql (.t 4) (.c (.int .i64 4))),iI 10 (.mv (.t 11))] false)
 (.cond (.t 10)
 (.seq
 (.region [iI 2 (.mv (.c (.int .i64 0))),iI 3 (.mv (.c (.int .i64 3)))] false)
 .ret)
 (.seq
 (.seq
 (.region [iI 13 (.bin .eql (.t 4) (.c (.int .i64 19))),iI 12 (.mv (.t 13))] false)
 (.cond (.t 12)
 .skip
 (.seq
 (.region [iI 14 (.bin .eql (.t 4) (.c (.int .i64 20))),iI 12 (.mv (.t 14))] false)
 (.cond (.t 12)
 .skip
 (.region [iI 15 (.bin .eql (.t 4) (.c (.int .i64 22))),iI 12 (.mv (.t 15))] false)))))
 (.cond (.t 12)
 (.seq
 (.region [iI 2 (.mv (.c (.int .i64 0))),iI 3 (.mv (.c (.int .i64 999)))] false)
 .ret)
 (.seq
 (.region [iI 17 (.bin .eql (.t 4) (.c (.int .i64 21))),iI 16 (.mv (.t 17))] false)
 (.cond (.t 16)
 (.seq
 (.region [iI 2 (.mv (.c (.int .i64 1))),iI 3 (.mv (.c (.int .i64 50)))] false)
 .ret)
 .skip))))))))))))
 (.seq
 (.region [iI 2 (.mv (.c (.int .i64 0))),iI 3 (.mv (.c (.int .i64 0)))] false)
 .ret)))
def r52 : List ERes := [.t 2, .t 3]
theorem c52 : chkF Tryz.prog Tryz.f52 1 e52 r52 = true := by kernel_rfl
def e55 : EC :=
 (.seq
 (.region [iI 2 (.alloc 66 [.int .i64 0, .int .i64 0, .str []])] false)
 (.seq
 (.region [iI 3 (.mv (.t 0)),iI 4 (.build [.int .i64 0, .int .i64 0, .str []] [(0, 1, (.c (.int .i64 2))), (2, 1, (.t 3))]),iN (.store 3 (.t 2) (.t 4))] false)
 .ret))
def r55 : List ERes := [.cell true 3 2]
theorem c55 : chkF Tryz.prog Tryz.f55 1 e55 r55 = true := by kernel_rfl
def e56 : EC :=
 (.seq
 (.region [iI 1 (.box 66 (.t 0)),iI 2 (.mv (.c (.bool false)))] false)
 (.seq
 (.seq
 (.region [iI 3 (.faddr 0 (.t 1)),iI 4 (.load false 1 (.t 3))] false)
 (.block 0
 (.seq
 (.region [iI 6 (.bin .eql (.t 4) (.c (.int .i64 1))),iI 5 (.mv (.t 6))] false)
 (.cond (.t 5)
 (.seq
 (.region [iI 7 (.faddr 1 (.t 1)),iI 8 (.load false 1 (.t 7)),iI 9 (.bin .geq (.t 8) (.c (.int .i64 (-1000)))),iI 10 (.mv (.t 9)),iG 11 10 true (.faddr 1 (.t 1)),iG 12 10 true (.load false 1 (.t 11)),iG 13 10 true (.bin .leq (.t 12) (.c (.int .i64 1000))),iI 14 (.pick (.t 10) (.t 13) (.c (.bool false))),iI 15 (.mv (.t 14)),iG 16 15 true (.faddr 2 (.t 1)),iG 17 15 true (.load false 1 (.t 16)),iG 18 15 true (.bin .eql (.t 17) (.c (.str []))),iI 19 (.pick (.t 15) (.t 18) (.c (.bool false))),iI 2 (.mv (.t 19))] false)
 .ret)
 (.seq
 (.region [iI 21 (.bin .eql (.t 4) (.c (.int .i64 2))),iI 20 (.mv (.t 21))] false)
 (.cond (.t 20)
 (.seq
 (.region [iI 22 (.faddr 1 (.t 1)),iI 23 (.load false 1 (.t 22)),iI 24 (.bin .eql (.t 23) (.c (.int .i64 0))),iI 25 (.mv (.t 24)),iG 26 25 true (.faddr 2 (.t 1)),iG 27 25 true (.load false 1 (.t 26)),iG 28 25 true (.lenS (.t 27)),iG 29 25 true (.bin .leq (.t 28) (.c (.int .i64 40))),iI 30 (.pick (.t 25) (.t 29) (.c (.bool false))),iI 31 (.mv (.t 30)),iG 32 31 true (.faddr 2 (.t 1)),iG 33 31 true (.load false 1 (.t 32)),iG 34 31 true (.call 95 [(.t 33)]),iI 35 (.pick (.t 31) (.t 34) (.c (.bool false))),iI 2 (.mv (.t 35))] false)
 .ret)
 .skip))))))
 (.seq
 (.region [iI 2 (.mv (.c (.bool false)))] false)
 .ret)))
def r56 : List ERes := [.t 2]
theorem c56 : chkF Tryz.prog Tryz.f56 1 e56 r56 = true := by kernel_rfl
def e79 : EC :=
 (.seq
 (.region [iI 2 (.box 64 (.t 0)),iI 3 (.box 66 (.t 1)),iI 4 (.mv (.c (.bool false)))] false)
 (.seq
 (.region [iI 6 (.load true 3 (.t 3)),iI 7 (.call 110 [(.t 6)]),iI 5 (.mv (.t 7))] false)
 (.seq
 (.region [iI 8 (.load true 3 (.t 2)),iI 9 (.call 111 [(.t 8)]),iI 10 (.mv (.t 9)),iG 11 10 true (.load true 3 (.t 3)),iG 12 10 true (.call 83 [(.t 11)]),iI 13 (.pick (.t 10) (.t 12) (.c (.bool false))),iI 14 (.mv (.t 13)),iG 15 14 true (.faddr 0 (.t 2)),iG 16 14 true (.load false 1 (.t 15)),iG 17 14 true (.faddr 0 (.t 3)),iG 18 14 true (.load false 1 (.t 17)),iG 19 14 true (.bin .eql (.t 16) (.t 18)),iI 20 (.pick (.t 14) (.t 19) (.c (.bool false))),iI 21 (.mv (.t 20)),iG 22 21 true (.mv (.t 5)),iG 23 21 true (.faddr 1 (.t 2)),iG 24 21 true (.load false 1 (.t 23)),iG 25 21 true (.bin .geq (.t 22) (.t 24)),iI 26 (.pick (.t 21) (.t 25) (.c (.bool false))),iI 27 (.mv (.t 26)),iG 28 27 true (.mv (.t 5)),iG 29 27 true (.faddr 2 (.t 2)),iG 30 27 true (.load false 1 (.t 29)),iG 31 27 true (.bin .leq (.t 28) (.t 30)),iI 32 (.pick (.t 27) (.t 31) (.c (.bool false))),iI 4 (.mv (.t 32))] false)
 .ret)))
def r79 : List ERes := [.t 4]
theorem c79 : chkF Tryz.prog Tryz.f79 2 e79 r79 = true := by kernel_rfl
def e83 : EC :=
 (.seq
 (.region [iI 1 (.box 66 (.t 0)),iI 2 (.mv (.c (.bool false)))] false)
 (.seq
 (.seq
 (.region [iI 3 (.faddr 0 (.t 1)),iI 4 (.load false 1 (.t 3))] false)
 (.block 0
 (.seq
 (.region [iI 6 (.bin .eql (.t 4) (.c (.int .i64 1))),iI 5 (.mv (.t 6))] false)
 (.cond (.t 5)
 (.seq
 (.region [iI 7 (.faddr 1 (.t 1)),iI 8 (.load false 1 (.t 7)),iI 9 (.bin .geq (.t 8) (.c (.int .i64 (-1000)))),iI 10 (.mv (.t 9)),iG 11 10 true (.faddr 1 (.t 1)),iG 12 10 true (.load false 1 (.t 11)),iG 13 10 true (.bin .leq (.t 12) (.c (.int .i64 1000))),iI 14 (.pick (.t 10) (.t 13) (.c (.bool false))),iI 15 (.mv (.t 14)),iG 16 15 true (.faddr 2 (.t 1)),iG 17 15 true (.load false 1 (.t 16)),iG 18 15 true (.bin .eql (.t 17) (.c (.str []))),iI 19 (.pick (.t 15) (.t 18) (.c (.bool false))),iI 2 (.mv (.t 19))] false)
 .ret)
 (.seq
 (.region [iI 21 (.bin .eql (.t 4) (.c (.int .i64 2))),iI 20 (.mv (.t 21))] false)
 (.cond (.t 20)
 (.seq
 (.region [iI 22 (.faddr 1 (.t 1)),iI 23 (.load false 1 (.t 22)),iI 24 (.bin .eql (.t 23) (.c (.int .i64 0))),iI 25 (.mv (.t 24)),iG 26 25 true (.faddr 2 (.t 1)),iG 27 25 true (.load false 1 (.t 26)),iG 28 25 true (.lenS (.t 27)),iG 29 25 true (.bin .leq (.t 28) (.c (.int .i64 40))),iI 30 (.pick (.t 25) (.t 29) (.c (.bool false))),iI 31 (.mv (.t 30)),iG 32 31 true (.faddr 2 (.t 1)),iG 33 31 true (.load false 1 (.t 32)),iG 34 31 true (.call 112 [(.t 33)]),iI 35 (.pick (.t 31) (.t 34) (.c (.bool false))),iI 2 (.mv (.t 35))] false)
 .ret)
 .skip))))))
 (.seq
 (.region [iI 2 (.mv (.c (.bool false)))] false)
 .ret)))
def r83 : List ERes := [.t 2]
theorem c83 : chkF Tryz.prog Tryz.f83 1 e83 r83 = true := by kernel_rfl
def e84 : EC :=
 (.seq
 (.region [iI 2 (.mv (.c (.bool false)))] false)
 (.seq
 (.region [iI 3 (.mv (.t 0)),iI 4 (.bin .geq (.t 3) (.c (.int .u8 97))),iI 5 (.mv (.t 4)),iG 6 5 true (.mv (.t 0)),iG 7 5 true (.bin .leq (.t 6) (.c (.int .u8 122))),iI 8 (.pick (.t 5) (.t 7) (.c (.bool false))),iI 9 (.mv (.t 8)),iG 10 9 false (.mv (.t 0)),iG 11 9 false (.bin .geq (.t 10) (.c (.int .u8 65))),iG 12 9 false (.mv (.t 11)),iG 13 12 true (.mv (.t 0)),iG 14 12 true (.bin .leq (.t 13) (.c (.int .u8 90))),iG 15 9 false (.pick (.t 12) (.t 14) (.c (.bool false))),iI 16 (.pick (.t 9) (.c (.bool true)) (.t 15)),iI 2 (.mv (.t 16))] false)
 .ret))
def r84 : List ERes := [.t 2]
theorem c84 : chkF Tryz.prog Tryz.f84 1 e84 r84 = true := by kernel_rfl
def e85 : EC :=
 (.seq
 (.region [iI 2 (.mv (.c (.bool false)))] false)
 (.seq
 (.region [iI 3 (.mv (.t 0)),iI 4 (.call 84 [(.t 3)]),iI 5 (.mv (.t 4)),iG 6 5 false (.mv (.t 0)),iG 7 5 false (.call 113 [(.t 6)]),iI 8 (.pick (.t 5) (.c (.bool true)) (.t 7)),iI 9 (.mv (.t 8)),iG 10 9 false (.mv (.t 0)),iG 11 9 false (.bin .eql (.t 10) (.c (.int .u8 95))),iI 12 (.pick (.t 9) (.c (.bool true)) (.t 11)),iI 2 (.mv (.t 12))] false)
 .ret))
def r85 : List ERes := [.t 2]
theorem c85 : chkF Tryz.prog Tryz.f85 1 e85 r85 = true := by kernel_rfl
def e86 : EC :=
 (.seq
 (.region [iI 2 (.box 64 (.t 0)),iI 3 (.box 66 (.t 1)),iI 4 (.mv (.c (.bool false)))] false)
 (.seq
 (.region [iI 5 (.load true 3 (.t 2)),iI 6 (.pcall 114 [(.t 5)]),iI 7 (.mv (.t 6)),iG 8 7 true (.load true 3 (.t 3)),iG 9 7 true (.pcall 56 [(.t 8)]),iI 10 (.pick (.t 7) (.t 9) (.c (.bool false))),iI 11 (.mv (.t 10)),iG 12 11 true (.faddr 0 (.t 2)),iG 13 11 true (.load false 1 (.t 12)),iG 14 11 true (.faddr 0 (.t 3)),iG 15 11 true (.load false 1 (.t 14)),iG 16 11 true (.bin .eql (.t 13) (.t 15)),iI 17 (.pick (.t 11) (.t 16) (.c (.bool false))),iI 18 (.mv (.t 17)),iG 19 18 true (.load true 3 (.t 3)),iG 20 18 true (.pcall 115 [(.t 19)]),iG 21 18 true (.faddr 1 (.t 2)),iG 22 18 true (.load false 1 (.t 21)),iG 23 18 true (.bin .geq (.t 20) (.t 22)),iI 24 (.pick (.t 18) (.t 23) (.c (.bool false))),iI 25 (.mv (.t 24)),iG 26 25 true (.load true 3 (.t 3)),iG 27 25 true (.pcall 115 [(.t 26)]),iG 28 25 true (.faddr 2 (.t 2)),iG 29 25 true (.load false 1 (.t 28)),iG 30 25 true (.bin .leq (.t 27) (.t 29)),iI 31 (.pick (.t 25) (.t 30) (.c (.bool false))),iI 4 (.mv (.t 31))] true)
 .ret))
def r86 : List ERes := [.t 4]
theorem c86 : chkF Tryz.prog Tryz.f86 2 e86 r86 = true := by kernel_rfl
def e91 : EC :=
 (.seq
 (.region [iI 2 (.alloc 66 [.int .i64 0, .int .i64 0, .str []]),iI 3 (.mv (.c (.int .i64 0))),iI 4 (.mv (.c (.int .i64 0)))] false)
 (.seq
 (.seq
 (.region [iI 10 (.mv (.t 0)),iI 11 (.call 119 [(.t 10)]),iI 5 (.mv (.t 11))] false)
 (.seq
 (.region [iI 12 (.mv (.t 5)),iI 13 (.bin .gtr (.t 12) (.c (.int .i64 0)))] false)
 (.cond (.t 13)
 (.seq
 (.region [iI 15 (.mv (.t 0)),iI 16 (.mv (.t 5)),iI 17 (.slS (.t 15) none (some (.t 16))),iI 18 (.call 50 [(.t 17)]),iI 14 (.mv (.t 18)),iI 19 (.extract 0 (.t 14)),iI 20 (.extract 1 (.t 14)),iI 6 (.mv (.t 19)),iI 7 (.mv (.t 20))] false)
 (.seq
 (.seq
 (.region [iI 21 (.mv (.t 7)),iI 22 (.bin .neq (.t 21) (.c (.raw .nilIface))),iI 23 (.mv (.t 22)),iG 24 23 false (.mv (.t 6)),iG 25 23 false (.bin .lss (.t 24) (.c (.int .i64 (-1000)))),iI 26 (.pick (.t 23) (.c (.bool true)) (.t 25)),iI 27 (.mv (.t 26)),iG 28 27 false (.mv (.t 6)),iG 29 27 false (.bin .gtr (.t 28) (.c (.int .i64 1000))),iI 30 (.pick (.t 27) (.c (.bool true)) (.t 29))] false)
 (.cond (.t 30)
 (.seq
 (.region [iI 31 (.build [.int .i64 0, .int .i64 0, .str []] []),iI 32 (.mv (.t 5)),iN (.store 3 (.t 2) (.t 31)),iI 3 (.mv (.t 32)),iI 4 (.mv (.c (.int .i64 2)))] false)
 .ret)
 .skip))
 (.seq
 (.region [iI 33 (.mv (.t 6)),iI 34 (.build [.int .i64 0, .int .i64 0, .str []] [(0, 1, (.c (.int .i64 1))), (1, 1, (.t 33))]),iI 35 (.mv (.t 5)),iN (.store 3 (.t 2) (.t 34)),iI 3 (.mv (.t 35)),iI 4 (.mv (.c (.int .i64 0)))] false)
 .ret)))
 .skip)))
 (.seq
 (.region [iI 37 (.mv (.t 0)),iI 38 (.call 120 [(.t 37)]),iI 36 (.mv (.t 38)),iI 39 (.extract 0 (.t 36)),iI 40 (.extract 1 (.t 36)),iI 8 (.mv (.t 39)),iI 9 (.mv (.t 40))] false)
 (.seq
 (.block 0
 (.seq
 (.region [iI 42 (.mv (.t 9)),iI 43 (.bin .eql (.t 42) (.c (.int .i64 0))),iI 41 (.mv (.t 43))] false)
 (.cond (.t 41)
 (.seq
 (.region [iI 44 (.build [.int .i64 0, .int .i64 0, .str []] []),iN (.store 3 (.t 2) (.t 44)),iI 3 (.mv (.c (.int .i64 0))),iI 4 (.mv (.c (.int .i64 3)))] false)
 .ret)
 (.seq
 (.region [iI 46 (.mv (.t 8)),iI 47 (.lenS (.t 46)),iI 48 (.bin .gtr (.t 47) (.c (.int .i64 40))),iI 45 (.mv (.t 48))] false)
 (.cond (.t 45)
 (.seq
 (.region [iI 49 (.build [.int .i64 0, .int .i64 0, .str []] []),iI 50 (.mv (.t 9)),iN (.store 3 (.t 2) (.t 49)),iI 3 (.mv (.t 50)),iI 4 (.mv (.c (.int .i64 2)))] false)
 .ret)
 .skip)))))
 (.seq
 (.region [iI 51 (.mv (.t 8)),iI 52 (.build [.int .i64 0, .int .i64 0, .str []] [(0, 1, (.c (.int .i64 2))), (2, 1, (.t 51))]),iI 53 (.mv (.t 9)),iN (.store 3 (.t 2) (.t 52)),iI 3 (.mv (.t 53)),iI 4 (.mv (.c (.int .i64 0)))] false)
 .ret)))))
def r91 : List ERes := [.cell true 3 2, .t 3, .t 4]
theorem c91 : chkF Tryz.prog Tryz.f91 1 e91 r91 = true := by kernel_rfl
def e95 : EC :=
 (.seq
 (.region [iI 2 (.mv (.c (.bool false)))] false)
 (.seq
 (.seq
 (.region [iI 3 (.mv (.c (.int .i64 0)))] false)
 (.block 0
 (.loop
 (.seq
 (.seq
 (.region [iI 4 (.mv (.t 3)),iI 5 (.mv (.t 0)),iI 6 (.lenS (.t 5)),iI 7 (.bin .lss (.t 4) (.t 6))] false)
 (.cond (.t 7)
 .skip
 (.exit 0)))
 (.seq
 (.block 1
 (.seq
 (.region [iI 10 (.mv (.t 0)),iI 11 (.mv (.t 3)),iI 12 (.idxS (.t 10) (.t 11)),iI 13 (.bin .lss (.t 12) (.c (.int .u8 32))),iI 14 (.mv (.t 13)),iG 15 14 false (.mv (.t 0)),iG 16 14 false (.mv (.t 3)),iG 17 14 false (.idxS (.t 15) (.t 16)),iG 18 14 false (.bin .gtr (.t 17) (.c (.int .u8 126))),iI 19 (.pick (.t 14) (.c (.bool true)) (.t 18))] false)
 (.cond (.t 19)
 (.seq
 (.region [iI 2 (.mv (.c (.bool false)))] false)
 .ret)
 .skip)))
 (.region [iI 8 (.mv (.t 3)),iI 9 (.bin .add (.t 8) (.c (.int .i64 1))),iI 3 (.mv (.t 9))] false))))))
 (.seq
 (.region [iI 2 (.mv (.c (.bool true)))] false)
 .ret)))
def r95 : List ERes := [.t 2]
theorem c95 : chkF Tryz.prog Tryz.f95 1 e95 r95 = true := by kernel_rfl
def e96 : EC :=
 (.seq
 (.region [iI 4 (.mv (.c (.nilS)))] false)
 (.seq
 (.region [iI 6 (.mv (.t 1)),iI 7 (.conv .u64 (.t 6)),iI 8 (.bin .shl (.t 7) (.c (.int .u64 1))),iI 9 (.mv (.t 1)),iI 10 (.bin .shr (.t 9) (.c (.int .u64 63))),iI 11 (.conv .u64 (.t 10)),iI 12 (.bin .xor (.t 8) (.t 11)),iI 5 (.mv (.t 12))] false)
 (.seq
 (.block 0
 (.loop
 (.seq
 (.seq
 (.region [iI 13 (.mv (.t 5)),iI 14 (.bin .geq (.t 13) (.c (.int .u64 128)))] false)
 (.cond (.t 14)
 .skip
 (.exit 0)))
 (.block 1
 (.seq
 (.region [iI 15 (.mv (.t 0)),iI 16 (.mv (.t 5)),iI 17 (.conv .u8 (.t 16)),iI 18 (.bin .or (.t 17) (.c (.int .u8 128))),iI 19 (.bslice 5 1 1 [.int .u8 0] [(0, (.t 18))]),iI 20 (.append 5 1 1 (.t 15) (.t 19)),iI 0 (.mv (.t 20))] false)
 (.region [iI 21 (.mv (.t 5)),iI 22 (.bin .shr (.t 21) (.c (.int .u64 7))),iI 5 (.mv (.t 22))] false))))))
 (.seq
 (.region [iI 23 (.mv (.t 0)),iI 24 (.mv (.t 5)),iI 25 (.conv .u8 (.t 24)),iI 26 (.bslice 5 1 1 [.int .u8 0] [(0, (.t 25))]),iI 27 (.append 5 1 1 (.t 23) (.t 26)),iI 4 (.mv (.t 27))] false)
 .ret))))
def r96 : List ERes := [.t 4]
theorem c96 : chkF Tryz.prog Tryz.f96 2 e96 r96 = true := by kernel_rfl
def e97 : EC :=
 (.seq
 (.region [iI 2 (.box 108 (.t 0)),iI 3 (.box 3 (.t 1)),iI 4 (.mv (.c (.nilS)))] false)
 (.seq
 (.region [iI 5 (.load false 1 (.t 2)),iI 6 (.mkfn 127 [(.t 2), (.t 3)]),iI 7 (.call 126 [(.t 5), (.t 6)]),iI 4 (.mv (.t 7))] false)
 .ret))
def r97 : List ERes := [.t 4]
theorem c97 : chkF Tryz.prog Tryz.f97 2 e97 r97 = true := by kernel_rfl
def e98 : EC :=
 (.seq
 (.region [iI 4 (.mv (.c (.int .i64 0)))] false)
 (.seq
 (.region [iI 5 (.mv (.c (.int .i64 0)))] false)
 (.seq
 (.seq
 (.region [iI 8 (.mv (.t 0)),iI 9 (.pnil false (.t 8)),iI 10 (.mv (.t 9)),iG 11 10 false (.mv (.t 0)),iG 12 10 false (.nilck (.t 11)),iG 13 10 false (.faddr 2 (.t 12)),iG 14 10 false (.load false 1 (.t 13)),iI 15 (.pick (.t 10) (.c (.bool true)) (.t 14))] false)
 (.cond (.t 15)
 (.seq
 (.region [iI 16 (.mv (.t 5)),iI 4 (.mv (.t 16))] false)
 .ret)
 .skip))
 (.seq
 (.region [iI 17 (.mv (.t 0)),iI 18 (.nilck (.t 17)),iI 19 (.faddr 1 (.t 18)),iI 20 (.load false 1 (.t 19)),iI 6 (.mv (.t 20))] false)
 (.seq
 (.region [iI 21 (.mv (.t 1)),iI 22 (.callv (.t 21) []),iI 7 (.mv (.t 22))] false)
 (.seq
 (.seq
 (.region [iI 23 (.mv (.t 0)),iI 24 (.nilck (.t 23)),iI 25 (.faddr 2 (.t 24)),iI 26 (.load false 1 (.t 25))] false)
 (.cond (.t 26)
 (.seq
 (.region [iI 27 (.mv (.t 0)),iI 28 (.mv (.t 6)),iI 29 (.nilck (.t 27)),iI 30 (.faddr 1 (.t 29)),iN (.store 1 (.t 30) (.t 28))] false)
 (.seq
 (.region [iI 31 (.mv (.t 5)),iI 4 (.mv (.t 31))] false)
 .ret))
 .skip))
 (.seq
 (.region [iI 32 (.mv (.t 7)),iI 4 (.mv (.t 32))] false)
 .ret)))))))
def r98 : List ERes := [.t 4]
theorem c98 : chkF Tryz.prog Tryz.f98 2 e98 r98 = true := by kernel_rfl
def e99 : EC :=
 (.seq
 (.region [iI 2 (.mv (.c (.int .i64 0)))] false)
 (.seq
 (.region [iI 3 (.mv (.c (.int .u64 0)))] false)
 (.seq
 (.seq
 (.region [iI 6 (.mv (.c (.int .i64 0)))] false)
 (.block 0
 (.loop
 (.seq
 (.region [iI 7 (.bin .lss (.t 6) (.c (.int .i64 10)))] false)
 (.seq
 (.cond (.t 7)
 .skip
 (.exit 0))
 (.seq
 (.block 1
 (.seq
 (.region [iI 8 (.mv (.t 6)),iI 4 (.mv (.t 8))] false)
 (.seq
 (.region [iI 9 (.mv (.t 0)),iI 10 (.call 129 [(.t 9), (.c (.int .i64 1))]),iI 5 (.mv (.t 10))] false)
 (.seq
 (.seq
 (.region [iI 11 (.mv (.t 0)),iI 12 (.nilck (.t 11)),iI 13 (.faddr 2 (.t 12)),iI 14 (.load false 1 (.t 13))] false)
 (.cond (.t 14)
 (.seq
 (.region [iI 2 (.mv (.c (.int .i64 0)))] false)
 .ret)
 .skip))
 (.seq
 (.region [iI 15 (.mv (.t 3)),iI 16 (.mv (.t 5)),iI 17 (.iaddr 1 (.t 16) (.c (.int .i64 0))),iI 18 (.load false 1 (.t 17)),iI 19 (.bin .and (.t 18) (.c (.int .u8 127))),iI 20 (.conv .u64 (.t 19)),iI 21 (.mv (.t 4)),iI 22 (.bin .mul (.c (.int .i64 7)) (.t 21)),iI 23 (.bin .shl (.t 20) (.t 22)),iI 24 (.bin .or (.t 15) (.t 23)),iI 3 (.mv (.t 24))] false)
 (.seq
 (.region [iI 25 (.mv (.t 5)),iI 26 (.iaddr 1 (.t 25) (.c (.int .i64 0))),iI 27 (.load false 1 (.t 26)),iI 28 (.bin .lss (.t 27) (.c (.int .u8 128)))] false)
 (.cond (.t 28)
 (.seq
 (.region [iI 29 (.mv (.t 0)),iI 30 (.mv (.t 5)),iI 31 (.iaddr 1 (.t 30) (.c (.int .i64 0))),iI 32 (.load false 1 (.t 31)),iI 33 (.bin .eql (.t 32) (.c (.int .u8 0))),iI 34 (.mv (.t 33)),iG 35 34 true (.mv (.t 4)),iG 36 34 true (.bin .gtr (.t 35) (.c (.int .i64 0))),iI 37 (.pick (.t 34) (.t 36) (.c (.bool false))),iI 38 (.mv (.t 37)),iG 39 38 false (.mv (.t 4)),iG 40 38 false (.bin .eql (.t 39) (.c (.int .i64 9))),iG 41 38 false (.mv (.t 40)),iG 42 41 true (.mv (.t 5)),iG 43 41 true (.iaddr 1 (.t 42) (.c (.int .i64 0))),iG 44 41 true (.load false 1 (.t 43)),iG 45 41 true (.bin .gtr (.t 44) (.c (.int .u8 1))),iG 46 38 false (.pick (.t 41) (.t 45) (.c (.bool false))),iI 47 (.pick (.t 38) (.c (.bool true)) (.t 46)),iI 48 (.nilck (.t 29)),iI 49 (.faddr 2 (.t 48)),iN (.store 1 (.t 49) (.t 47))] false)
 (.seq
 (.region [iI 50 (.mv (.t 3)),iI 51 (.bin .shr (.t 50) (.c (.int .u64 1))),iI 52 (.conv .i64 (.t 51)),iI 53 (.mv (.t 3)),iI 54 (.bin .and (.t 53) (.c (.int .u64 1))),iI 55 (.conv .i64 (.t 54)),iI 56 (.neg (.t 55)),iI 57 (.bin .xor (.t 52) (.t 56)),iI 2 (.mv (.t 57))] false)
 .ret))
 .skip)))))))
 (.region [iI 58 (.bin .add (.t 6) (.c (.int .i64 1))),iI 6 (.mv (.t 58))] false)))))))
 (.seq
 (.region [iI 59 (.mv (.t 0)),iI 60 (.nilck (.t 59)),iI 61 (.faddr 2 (.t 60)),iN (.store 1 (.t 61) (.c (.bool true)))] false)
 (.seq
 (.region [iI 2 (.mv (.c (.int .i64 0)))] false)
 .ret)))))
def r99 : List ERes := [.t 2]
theorem c99 : chkF Tryz.prog Tryz.f99 1 e99 r99 = true := by kernel_rfl
def e100 : EC :=
 (.seq
 (.region [iI 3 (.mv (.c (.int .i64 0)))] false)
 (.seq
 (.region [iI 4 (.load false 1 (.t 0)),iI 5 (.load false 1 (.t 1)),iI 6 (.load false 1 (.t 2)),iI 7 (.call 101 [(.t 4), (.t 5), (.t 6)]),iI 3 (.mv (.t 7))] false)
 .ret))
def r100 : List ERes := [.t 3]
def e101 : EC :=
 (.seq
 (.region [iI 6 (.mv (.c (.int .i64 0)))] false)
 (.seq
 (.region [iI 8 (.mv (.t 0)),iI 9 (.call 99 [(.t 8)]),iI 7 (.mv (.t 9))] false)
 (.seq
 (.region [iI 10 (.mv (.t 0)),iI 11 (.mv (.t 0)),iI 12 (.nilck (.t 11)),iI 13 (.faddr 2 (.t 12)),iI 14 (.load false 1 (.t 13)),iI 15 (.mv (.t 14)),iG 16 15 false (.mv (.t 7)),iG 17 15 false (.mv (.t 1)),iG 18 15 false (.bin .lss (.t 16) (.t 17)),iI 19 (.pick (.t 15) (.c (.bool true)) (.t 18)),iI 20 (.mv (.t 19)),iG 21 20 false (.mv (.t 7)),iG 22 20 false (.mv (.t 2)),iG 23 20 false (.bin .gtr (.t 21) (.t 22)),iI 24 (.pick (.t 20) (.c (.bool true)) (.t 23)),iI 25 (.nilck (.t 10)),iI 26 (.faddr 2 (.t 25)),iN (.store 1 (.t 26) (.t 24))] false)
 (.seq
 (.region [iI 27 (.mv (.t 7)),iI 6 (.mv (.t 27))] false)
 .ret))))
def r101 : List ERes := [.t 6]
theorem c101 : chkF Tryz.prog Tryz.f101 3 e101 r101 = true := by kernel_rfl
def e102 : EC :=
 (.seq
 (.region [iI 4 (.alloc 66 [.int .i64 0, .int .i64 0, .str []])] false)
 (.seq
 (.region [iI 5 (.alloc 66 [.int .i64 0, .int .i64 0, .str []])] false)
 (.seq
 (.seq
 (.region [iI 8 (.mv (.t 0)),iI 9 (.pnil false (.t 8)),iI 10 (.mv (.t 9)),iG 11 10 false (.mv (.t 0)),iG 12 10 false (.nilck (.t 11)),iG 13 10 false (.faddr 2 (.t 12)),iG 14 10 false (.load false 1 (.t 13)),iI 15 (.pick (.t 10) (.c (.bool true)) (.t 14))] false)
 (.cond (.t 15)
 (.seq
 (.region [iI 16 (.load true 3 (.t 5)),iN (.store 3 (.t 4) (.t 16))] false)
 .ret)
 .skip))
 (.seq
 (.region [iI 17 (.mv (.t 0)),iI 18 (.nilck (.t 17)),iI 19 (.faddr 1 (.t 18)),iI 20 (.load false 1 (.t 19)),iI 6 (.mv (.t 20))] false)
 (.seq
 (.region [iI 21 (.mv (.t 1)),iI 22 (.callv (.t 21) []),iI 7 (.alloc 66 [.int .i64 0, .int .i64 0, .str []]),iN (.store 3 (.t 7) (.t 22))] false)
 (.seq
 (.seq
 (.region [iI 23 (.mv (.t 0)),iI 24 (.nilck (.t 23)),iI 25 (.faddr 2 (.t 24)),iI 26 (.load false 1 (.t 25))] false)
 (.cond (.t 26)
 (.seq
 (.region [iI 27 (.mv (.t 0)),iI 28 (.mv (.t 6)),iI 29 (.nilck (.t 27)),iI 30 (.faddr 1 (.t 29)),iN (.store 1 (.t 30) (.t 28))] false)
 (.seq
 (.region [iI 31 (.load true 3 (.t 5)),iN (.store 3 (.t 4) (.t 31))] false)
 .ret))
 .skip))
 (.seq
 (.region [iI 32 (.load true 3 (.t 7)),iN (.store 3 (.t 4) (.t 32))] false)
 .ret)))))))
def r102 : List ERes := [.cell true 3 4]
theorem c102 : chkF Tryz.prog Tryz.f102 2 e102 r102 = true := by kernel_rfl
def e103 : EC :=
 (.seq
 (.region [iI 2 (.alloc 66 [.int .i64 0, .int .i64 0, .str []])] false)
 (.seq
 (.region [iI 4 (.mv (.t 0)),iI 5 (.call 101 [(.t 4), (.c (.int .i64 1)), (.c (.int .i64 2))]),iI 6 (.build [.int .i64 0, .int .i64 0, .str []] [(0, 1, (.t 5))]),iI 3 (.alloc 66 [.int .i64 0, .int .i64 0, .str []]),iN (.store 3 (.t 3) (.t 6))] false)
 (.seq
 (.block 0
 (.seq
 (.region [iI 12 (.mv (.t 0)),iI 13 (.nilck (.t 12)),iI 14 (.faddr 2 (.t 13)),iI 15 (.load false 1 (.t 14)),iI 11 (.mv (.t 15))] false)
 (.cond (.t 11)
 .skip
 (.seq
 (.region [iI 17 (.faddr 0 (.t 3)),iI 18 (.load false 1 (.t 17)),iI 19 (.bin .eql (.t 18) (.c (.int .i64 1))),iI 16 (.mv (.t 19))] false)
 (.cond (.t 16)
 (.region [iI 20 (.mv (.t 0)),iI 21 (.call 99 [(.t 20)]),iI 22 (.faddr 1 (.t 3)),iN (.store 1 (.t 22) (.t 21))] false)
 (.region [iI 7 (.mv (.t 0)),iI 8 (.call 128 [(.t 7), (.c (.int .i64 40))]),iI 9 (.convS false (.t 8)),iI 10 (.faddr 2 (.t 3)),iN (.store 1 (.t 10) (.t 9))] false))))))
 (.seq
 (.region [iI 23 (.load true 3 (.t 3)),iN (.store 3 (.t 2) (.t 23))] false)
 .ret))))
def r103 : List ERes := [.cell true 3 2]
theorem c103 : chkF Tryz.prog Tryz.f103 1 e103 r103 = true := by kernel_rfl
def e104 : EC :=
 (.seq
 (.region [iI 2 (.mv (.c (.int .i64 0)))] false)
 (.seq
 (.seq
 (.region [iI 3 (.mv (.t 0)),iI 4 (.pnil false (.t 3))] false)
 (.cond (.t 4)
 (.seq
 (.region [iI 2 (.mv (.c (.int .i64 0)))] false)
 .ret)
 .skip))
 (.seq
 (.region [iI 5 (.mv (.t 0)),iI 6 (.nilck (.t 5)),iI 7 (.faddr 0 (.t 6)),iI 8 (.load false 1 (.t 7)),iI 9 (.len (.t 8)),iI 10 (.mv (.t 0)),iI 11 (.nilck (.t 10)),iI 12 (.faddr 1 (.t 11)),iI 13 (.load false 1 (.t 12)),iI 14 (.bin .sub (.t 9) (.t 13)),iI 2 (.mv (.t 14))] true)
 .ret)))
def r104 : List ERes := [.t 2]
theorem c104 : chkF Tryz.prog Tryz.f104 1 e104 r104 = true := by kernel_rfl
def e109 : EC :=
 (.seq
 (.region [iI 2 (.mv (.c (.bool false)))] false)
 (.seq
 (.region [iI 3 (.mv (.t 0)),iI 4 (.bin .leq (.c (.int .u8 48)) (.t 3)),iI 5 (.mv (.t 4)),iG 6 5 true (.mv (.t 0)),iG 7 5 true (.bin .leq (.t 6) (.c (.int .u8 57))),iI 8 (.pick (.t 5) (.t 7) (.c (.bool false))),iI 2 (.mv (.t 8))] false)
 .ret))
def r109 : List ERes := [.t 2]
theorem c109 : chkF Tryz.prog Tryz.f109 1 e109 r109 = true := by kernel_rfl
def e110 : EC :=
 (.seq
 (.region [iI 1 (.box 66 (.t 0)),iI 2 (.mv (.c (.int .i64 0)))] false)
 (.seq
 (.seq
 (.region [iI 3 (.faddr 0 (.t 1)),iI 4 (.load false 1 (.t 3))] false)
 (.block 0
 (.seq
 (.region [iI 6 (.bin .eql (.t 4) (.c (.int .i64 1))),iI 5 (.mv (.t 6))] false)
 (.cond (.t 5)
 (.seq
 (.region [iI 7 (.faddr 1 (.t 1)),iI 8 (.load false 1 (.t 7)),iI 2 (.mv (.t 8))] false)
 .ret)
 (.seq
 (.region [iI 10 (.bin .eql (.t 4) (.c (.int .i64 2))),iI 9 (.mv (.t 10))] false)
 (.cond (.t 9)
 (.seq
 (.region [iI 11 (.faddr 2 (.t 1)),iI 12 (.load false 1 (.t 11)),iI 13 (.lenS (.t 12)),iI 2 (.mv (.t 13))] false)
 .ret)
 .skip))))))
 (.seq
 (.region [iI 2 (.mv (.c (.int .i64 0)))] false)
 .ret)))
def r110 : List ERes := [.t 2]
theorem c110 : chkF Tryz.prog Tryz.f110 1 e110 r110 = true := by kernel_rfl
def e111 : EC :=
 (.seq
 (.region [iI 1 (.box 64 (.t 0)),iI 2 (.mv (.c (.bool false)))] false)
 (.seq
 (.region [iI 3 (.mv (.c (.int .i64 0))),iI 4 (.mv (.c (.int .i64 0)))] false)
 (.seq
 (.seq
 (.region [iI 5 (.faddr 0 (.t 1)),iI 6 (.load false 1 (.t 5))] false)
 (.block 0
 (.seq
 (.region [iI 8 (.bin .eql (.t 6) (.c (.int .i64 1))),iI 7 (.mv (.t 8))] false)
 (.cond (.t 7)
 (.region [iI 3 (.mv (.c (.int .i64 (-1000)))),iI 4 (.mv (.c (.int .i64 1000)))] false)
 (.seq
 (.region [iI 10 (.bin .eql (.t 6) (.c (.int .i64 2))),iI 9 (.mv (.t 10))] false)
 (.cond (.t 9)
 (.region [iI 3 (.mv (.c (.int .i64 0))),iI 4 (.mv (.c (.int .i64 40)))] false)
 (.seq
 (.region [iI 2 (.mv (.c (.bool false)))] false)
 .ret)))))))
 (.seq
 (.region [iI 11 (.mv (.t 3)),iI 12 (.faddr 1 (.t 1)),iI 13 (.load false 1 (.t 12)),iI 14 (.bin .leq (.t 11) (.t 13)),iI 15 (.mv (.t 14)),iG 16 15 true (.faddr 1 (.t 1)),iG 17 15 true (.load false 1 (.t 16)),iG 18 15 true (.faddr 2 (.t 1)),iG 19 15 true (.load false 1 (.t 18)),iG 20 15 true (.bin .leq (.t 17) (.t 19)),iI 21 (.pick (.t 15) (.t 20) (.c (.bool false))),iI 22 (.mv (.t 21)),iG 23 22 true (.faddr 2 (.t 1)),iG 24 22 true (.load false 1 (.t 23)),iG 25 22 true (.mv (.t 4)),iG 26 22 true (.bin .leq (.t 24) (.t 25)),iI 27 (.pick (.t 22) (.t 26) (.c (.bool false))),iI 2 (.mv (.t 27))] false)
 .ret))))
def r111 : List ERes := [.t 2]
theorem c111 : chkF Tryz.prog Tryz.f111 1 e111 r111 = true := by kernel_rfl
def e112 : EC :=
 (.seq
 (.region [iI 2 (.mv (.c (.bool false)))] false)
 (.seq
 (.region [iI 3 (.mv (.t 0)),iI 4 (.call 130 [(.t 3), (.c (.fn 131 []))]),iI 5 (.not (.t 4)),iI 2 (.mv (.t 5))] false)
 .ret))
def r112 : List ERes := [.t 2]
theorem c112 : chkF Tryz.prog Tryz.f112 1 e112 r112 = true := by kernel_rfl
def e113 : EC :=
 (.seq
 (.region [iI 2 (.mv (.c (.bool false)))] false)
 (.seq
 (.region [iI 3 (.mv (.t 0)),iI 4 (.bin .geq (.t 3) (.c (.int .u8 48))),iI 5 (.mv (.t 4)),iG 6 5 true (.mv (.t 0)),iG 7 5 true (.bin .leq (.t 6) (.c (.int .u8 57))),iI 8 (.pick (.t 5) (.t 7) (.c (.bool false))),iI 2 (.mv (.t 8))] false)
 .ret))
def r113 : List ERes := [.t 2]
theorem c113 : chkF Tryz.prog Tryz.f113 1 e113 r113 = true := by kernel_rfl
def e114 : EC :=
 (.seq
 (.region [iI 1 (.box 64 (.t 0)),iI 2 (.mv (.c (.bool false)))] false)
 (.seq
 (.seq
 (.region [iI 3 (.faddr 0 (.t 1)),iI 4 (.load false 1 (.t 3))] false)
 (.block 0
 (.seq
 (.region [iI 6 (.bin .eql (.t 4) (.c (.int .i64 1))),iI 5 (.mv (.t 6))] false)
 (.cond (.t 5)
 (.seq
 (.region [iI 7 (.faddr 1 (.t 1)),iI 8 (.load false 1 (.t 7)),iI 9 (.bin .leq (.c (.int .i64 (-1000))) (.t 8)),iI 10 (.mv (.t 9)),iG 11 10 true (.faddr 1 (.t 1)),iG 12 10 true (.load false 1 (.t 11)),iG 13 10 true (.faddr 2 (.t 1)),iG 14 10 true (.load false 1 (.t 13)),iG 15 10 true (.bin .leq (.t 12) (.t 14)),iI 16 (.pick (.t 10) (.t 15) (.c (.bool false))),iI 17 (.mv (.t 16)),iG 18 17 true (.faddr 2 (.t 1)),iG 19 17 true (.load false 1 (.t 18)),iG 20 17 true (.bin .leq (.t 19) (.c (.int .i64 1000))),iI 21 (.pick (.t 17) (.t 20) (.c (.bool false))),iI 2 (.mv (.t 21))] false)
 .ret)
 (.seq
 (.region [iI 23 (.bin .eql (.t 4) (.c (.int .i64 2))),iI 22 (.mv (.t 23))] false)
 (.cond (.t 22)
 (.seq
 (.region [iI 24 (.faddr 1 (.t 1)),iI 25 (.load false 1 (.t 24)),iI 26 (.bin .leq (.c (.int .i64 0)) (.t 25)),iI 27 (.mv (.t 26)),iG 28 27 true (.faddr 1 (.t 1)),iG 29 27 true (.load false 1 (.t 28)),iG 30 27 true (.faddr 2 (.t 1)),iG 31 27 true (.load false 1 (.t 30)),iG 32 27 true (.bin .leq (.t 29) (.t 31)),iI 33 (.pick (.t 27) (.t 32) (.c (.bool false))),iI 34 (.mv (.t 33)),iG 35 34 true (.faddr 2 (.t 1)),iG 36 34 true (.load false 1 (.t 35)),iG 37 34 true (.bin .leq (.t 36) (.c (.int .i64 40))),iI 38 (.pick (.t 34) (.t 37) (.c (.bool false))),iI 2 (.mv (.t 38))] false)
 .ret)
 .skip))))))
 (.seq
 (.region [iI 2 (.mv (.c (.bool false)))] false)
 .ret)))
def r114 : List ERes := [.t 2]
theorem c114 : chkF Tryz.prog Tryz.f114 1 e114 r114 = true := by kernel_rfl
def e115 : EC :=
 (.seq
 (.region [iI 1 (.box 66 (.t 0)),iI 2 (.mv (.c (.int .i64 0)))] false)
 (.seq
 (.seq
 (.region [iI 3 (.faddr 0 (.t 1)),iI 4 (.load false 1 (.t 3))] false)
 (.block 0
 (.seq
 (.region [iI 6 (.bin .eql (.t 4) (.c (.int .i64 1))),iI 5 (.mv (.t 6))] false)
 (.cond (.t 5)
 (.seq
 (.region [iI 7 (.faddr 1 (.t 1)),iI 8 (.load false 1 (.t 7)),iI 2 (.mv (.t 8))] false)
 .ret)
 (.seq
 (.region [iI 10 (.bin .eql (.t 4) (.c (.int .i64 2))),iI 9 (.mv (.t 10))] false)
 (.cond (.t 9)
 (.seq
 (.region [iI 11 (.faddr 2 (.t 1)),iI 12 (.load false 1 (.t 11)),iI 13 (.lenS (.t 12)),iI 2 (.mv (.t 13))] false)
 .ret)
 .skip))))))
 (.seq
 (.region [iI 2 (.mv (.c (.int .i64 0)))] false)
 .ret)))
def r115 : List ERes := [.t 2]
theorem c115 : chkF Tryz.prog Tryz.f115 1 e115 r115 = true := by kernel_rfl
def e119 : EC :=
 (.seq
 (.region [iI 2 (.mv (.c (.int .i64 0)))] false)
 (.seq
 (.region [iI 3 (.mv (.c (.int .i64 0)))] false)
 (.seq
 (.seq
 (.region [iI 6 (.mv (.t 0)),iI 7 (.call 141 [(.t 6), (.c (.str [45]))])] false)
 (.cond (.t 7)
 (.region [iI 3 (.mv (.c (.int .i64 1)))] false)
 .skip))
 (.seq
 (.region [iI 8 (.mv (.t 3)),iI 4 (.mv (.t 8))] false)
 (.seq
 (.block 0
 (.loop
 (.seq
 (.seq
 (.region [iI 9 (.mv (.t 4)),iI 10 (.mv (.t 0)),iI 11 (.lenS (.t 10)),iI 12 (.bin .lss (.t 9) (.t 11)),iI 13 (.mv (.t 12)),iG 14 13 true (.mv (.t 0)),iG 15 13 true (.mv (.t 4)),iG 16 13 true (.idxS (.t 14) (.t 15)),iG 17 13 true (.bin .geq (.t 16) (.c (.int .u8 48))),iI 18 (.pick (.t 13) (.t 17) (.c (.bool false))),iI 19 (.mv (.t 18)),iG 20 19 true (.mv (.t 0)),iG 21 19 true (.mv (.t 4)),iG 22 19 true (.idxS (.t 20) (.t 21)),iG 23 19 true (.bin .leq (.t 22) (.c (.int .u8 57))),iI 24 (.pick (.t 19) (.t 23) (.c (.bool false)))] false)
 (.cond (.t 24)
 .skip
 (.exit 0)))
 (.block 1
 (.region [iI 25 (.mv (.t 4)),iI 26 (.bin .add (.t 25) (.c (.int .i64 1))),iI 4 (.mv (.t 26))] false)))))
 (.seq
 (.region [iI 27 (.mv (.t 0)),iI 28 (.mv (.t 3)),iI 29 (.mv (.t 4)),iI 30 (.slS (.t 27) (some (.t 28)) (some (.t 29))),iI 5 (.mv (.t 30))] false)
 (.seq
 (.seq
 (.region [iI 31 (.mv (.t 5)),iI 32 (.bin .eql (.t 31) (.c (.str []))),iI 33 (.mv (.t 32)),iG 34 33 false (.mv (.t 5)),iG 35 33 false (.idxS (.t 34) (.c (.int .i64 0))),iG 36 33 false (.bin .eql (.t 35) (.c (.int .u8 48))),iG 37 33 false (.mv (.t 36)),iG 38 37 true (.mv (.t 5)),iG 39 37 true (.lenS (.t 38)),iG 40 37 true (.bin .gtr (.t 39) (.c (.int .i64 1))),iG 41 37 true (.mv (.t 40)),iG 42 41 false (.mv (.t 3)),iG 43 41 false (.bin .eql (.t 42) (.c (.int .i64 1))),iG 44 37 true (.pick (.t 41) (.c (.bool true)) (.t 43)),iG 45 33 false (.pick (.t 37) (.t 44) (.c (.bool false))),iI 46 (.pick (.t 33) (.c (.bool true)) (.t 45))] false)
 (.cond (.t 46)
 (.seq
 (.region [iI 2 (.mv (.c (.int .i64 0)))] false)
 .ret)
 .skip))
 (.seq
 (.region [iI 47 (.mv (.t 4)),iI 2 (.mv (.t 47))] false)
 .ret))))))))
def r119 : List ERes := [.t 2]
theorem c119 : chkF Tryz.prog Tryz.f119 1 e119 r119 = true := by kernel_rfl
def e126 : EC :=
 (.seq
 (.region [iI 4 (.mv (.c (.nilS)))] false)
 (.seq
 (.region [iI 5 (.mv (.c (.nilS)))] false)
 (.seq
 (.seq
 (.region [iI 8 (.mv (.t 0)),iI 9 (.pnil false (.t 8)),iI 10 (.mv (.t 9)),iG 11 10 false (.mv (.t 0)),iG 12 10 false (.nilck (.t 11)),iG 13 10 false (.faddr 2 (.t 12)),iG 14 10 false (.load false 1 (.t 13)),iI 15 (.pick (.t 10) (.c (.bool true)) (.t 14))] false)
 (.cond (.t 15)
 (.seq
 (.region [iI 16 (.mv (.t 5)),iI 4 (.mv (.t 16))] false)
 .ret)
 .skip))
 (.seq
 (.region [iI 17 (.mv (.t 0)),iI 18 (.nilck (.t 17)),iI 19 (.faddr 1 (.t 18)),iI 20 (.load false 1 (.t 19)),iI 6 (.mv (.t 20))] false)
 (.seq
 (.region [iI 21 (.mv (.t 1)),iI 22 (.callv (.t 21) []),iI 7 (.mv (.t 22))] false)
 (.seq
 (.seq
 (.region [iI 23 (.mv (.t 0)),iI 24 (.nilck (.t 23)),iI 25 (.faddr 2 (.t 24)),iI 26 (.load false 1 (.t 25))] false)
 (.cond (.t 26)
 (.seq
 (.region [iI 27 (.mv (.t 0)),iI 28 (.mv (.t 6)),iI 29 (.nilck (.t 27)),iI 30 (.faddr 1 (.t 29)),iN (.store 1 (.t 30) (.t 28))] false)
 (.seq
 (.region [iI 31 (.mv (.t 5)),iI 4 (.mv (.t 31))] false)
 .ret))
 .skip))
 (.seq
 (.region [iI 32 (.mv (.t 7)),iI 4 (.mv (.t 32))] false)
 .ret)))))))
def r126 : List ERes := [.t 4]
theorem c126 : chkF Tryz.prog Tryz.f126 2 e126 r126 = true := by kernel_rfl
def e127 : EC :=
 (.seq
 (.region [iI 2 (.mv (.c (.nilS)))] false)
 (.seq
 (.region [iI 3 (.load false 1 (.t 0)),iI 4 (.load false 1 (.t 1)),iI 5 (.call 128 [(.t 3), (.t 4)]),iI 6 (.append 5 1 1 (.c (.nilS)) (.t 5)),iI 2 (.mv (.t 6))] false)
 .ret))
def r127 : List ERes := [.t 2]
def e128 : EC :=
 (.seq
 (.region [iI 4 (.mv (.c (.nilS)))] false)
 (.seq
 (.region [iI 6 (.mv (.t 0)),iI 7 (.mv (.t 1)),iI 8 (.call 101 [(.t 6), (.c (.int .i64 0)), (.t 7)]),iI 5 (.mv (.t 8))] false)
 (.seq
 (.seq
 (.region [iI 9 (.mv (.t 0)),iI 10 (.nilck (.t 9)),iI 11 (.faddr 2 (.t 10)),iI 12 (.load false 1 (.t 11))] false)
 (.cond (.t 12)
 (.seq
 (.region [iI 4 (.mv (.c (.nilS)))] false)
 .ret)
 .skip))
 (.seq
 (.region [iI 13 (.mv (.t 0)),iI 14 (.mv (.t 5)),iI 15 (.call 129 [(.t 13), (.t 14)]),iI 4 (.mv (.t 15))] false)
 .ret))))
def r128 : List ERes := [.t 4]
theorem c128 : chkF Tryz.prog Tryz.f128 2 e128 r128 = true := by kernel_rfl
def e129 : EC :=
 (.seq
 (.region [iI 4 (.mv (.c (.nilS)))] false)
 (.seq
 (.seq
 (.region [iI 5 (.mv (.t 0)),iI 6 (.nilck (.t 5)),iI 7 (.faddr 2 (.t 6)),iI 8 (.load false 1 (.t 7)),iI 9 (.mv (.t 8)),iG 10 9 false (.mv (.t 1)),iG 11 9 false (.mv (.t 0)),iG 12 9 false (.nilck (.t 11)),iG 13 9 false (.faddr 0 (.t 12)),iG 14 9 false (.load false 1 (.t 13)),iG 15 9 false (.len (.t 14)),iG 16 9 false (.mv (.t 0)),iG 17 9 false (.nilck (.t 16)),iG 18 9 false (.faddr 1 (.t 17)),iG 19 9 false (.load false 1 (.t 18)),iG 20 9 false (.bin .sub (.t 15) (.t 19)),iG 21 9 false (.bin .gtr (.t 10) (.t 20)),iI 22 (.pick (.t 9) (.c (.bool true)) (.t 21))] true)
 (.cond (.t 22)
 (.seq
 (.region [iI 23 (.mv (.t 0)),iI 24 (.nilck (.t 23)),iI 25 (.faddr 2 (.t 24)),iN (.store 1 (.t 25) (.c (.bool true)))] false)
 (.seq
 (.region [iI 4 (.mv (.c (.nilS)))] false)
 .ret))
 .skip))
 (.seq
 (.region [iI 26 (.mv (.t 0)),iI 27 (.nilck (.t 26)),iI 28 (.faddr 1 (.t 27)),iI 29 (.load false 1 (.t 28)),iI 30 (.mv (.t 1)),iI 31 (.bin .add (.t 29) (.t 30)),iI 32 (.nilck (.t 26)),iI 33 (.faddr 1 (.t 32)),iN (.store 1 (.t 33) (.t 31))] false)
 (.seq
 (.region [iI 34 (.mv (.t 0)),iI 35 (.nilck (.t 34)),iI 36 (.faddr 0 (.t 35)),iI 37 (.load false 1 (.t 36)),iI 38 (.mv (.t 0)),iI 39 (.nilck (.t 38)),iI 40 (.faddr 1 (.t 39)),iI 41 (.load false 1 (.t 40)),iI 42 (.mv (.t 1)),iI 43 (.bin .sub (.t 41) (.t 42)),iI 44 (.mv (.t 0)),iI 45 (.nilck (.t 44)),iI 46 (.faddr 1 (.t 45)),iI 47 (.load false 1 (.t 46)),iI 48 (.slV 1 (.t 37) (some (.t 43)) (some (.t 47)) none),iI 4 (.mv (.t 48))] true)
 .ret))))
def r129 : List ERes := [.t 4]
theorem c129 : chkF Tryz.prog Tryz.f129 2 e129 r129 = true := by kernel_rfl
def e130 : EC :=
 (.seq
 (.region [iI 4 (.mv (.c (.bool false)))] false)
 (.seq
 (.region [iI 5 (.mv (.t 0)),iI 6 (.mv (.t 1)),iI 7 (.call 145 [(.t 5), (.t 6)]),iI 8 (.bin .geq (.t 7) (.c (.int .i64 0))),iI 4 (.mv (.t 8))] false)
 .ret))
def r130 : List ERes := [.t 4]
theorem c130 : chkF Tryz.prog Tryz.f130 2 e130 r130 = true := by kernel_rfl
def e131 : EC :=
 (.seq
 (.region [iI 2 (.mv (.c (.bool false)))] false)
 (.seq
 (.region [iI 3 (.mv (.t 0)),iI 4 (.bin .lss (.t 3) (.c (.int .i32 32))),iI 5 (.mv (.t 4)),iG 6 5 false (.mv (.t 0)),iG 7 5 false (.bin .gtr (.t 6) (.c (.int .i32 126))),iI 8 (.pick (.t 5) (.c (.bool true)) (.t 7)),iI 2 (.mv (.t 8))] false)
 .ret))
def r131 : List ERes := [.t 2]
theorem c131 : chkF Tryz.prog Tryz.f131 1 e131 r131 = true := by kernel_rfl
def e141 : EC :=
 (.seq
 (.region [iI 4 (.mv (.c (.bool false)))] false)
 (.seq
 (.region [iI 5 (.mv (.t 0)),iI 6 (.mv (.t 1)),iI 7 (.call 153 [(.t 5), (.t 6)]),iI 4 (.mv (.t 7))] false)
 .ret))
def r141 : List ERes := [.t 4]
theorem c141 : chkF Tryz.prog Tryz.f141 2 e141 r141 = true := by kernel_rfl
def e145 : EC :=
 (.seq
 (.region [iI 4 (.mv (.c (.int .i64 0)))] false)
 (.seq
 (.region [iI 5 (.mv (.t 0)),iI 6 (.mv (.t 1)),iI 7 (.call 156 [(.t 5), (.t 6), (.c (.bool true))]),iI 4 (.mv (.t 7))] false)
 .ret))
def r145 : List ERes := [.t 4]
theorem c145 : chkF Tryz.prog Tryz.f145 2 e145 r145 = true := by kernel_rfl
def e153 : EC :=
 (.seq
 (.region [iI 4 (.mv (.c (.bool false)))] false)
 (.seq
 (.region [iI 5 (.mv (.t 0)),iI 6 (.lenS (.t 5)),iI 7 (.mv (.t 1)),iI 8 (.lenS (.t 7)),iI 9 (.bin .geq (.t 6) (.t 8)),iI 10 (.mv (.t 9)),iG 11 10 true (.mv (.t 0)),iG 12 10 true (.mv (.t 1)),iG 13 10 true (.lenS (.t 12)),iG 14 10 true (.slS (.t 11) none (some (.t 13))),iG 15 10 true (.mv (.t 1)),iG 16 10 true (.bin .eql (.t 14) (.t 15)),iI 17 (.pick (.t 10) (.t 16) (.c (.bool false))),iI 4 (.mv (.t 17))] false)
 .ret))
def r153 : List ERes := [.t 4]
theorem c153 : chkF Tryz.prog Tryz.f153 2 e153 r153 = true := by kernel_rfl
def e49 : EC :=
 (.seq
 (.region [iI 2 (.alloc 66 [.int .i64 0, .int .i64 0, .str []]),iI 3 (.mv (.c (.int .i64 0)))] false)
 (.seq
 (.region [iI 8 (.mv (.t 0)),iI 9 (.call 91 [(.t 8)]),iI 7 (.mv (.t 9)),iI 10 (.extract 0 (.t 7)),iI 11 (.extract 1 (.t 7)),iI 12 (.extract 2 (.t 7)),iI 4 (.alloc 66 [.int .i64 0, .int .i64 0, .str []]),iN (.store 3 (.t 4) (.t 10)),iI 5 (.mv (.t 11)),iI 6 (.mv (.t 12))] false)
 (.seq
 (.seq
 (.region [iI 13 (.mv (.t 5)),iI 14 (.bin .eql (.t 13) (.c (.int .i64 0))),iI 15 (.mv (.t 14)),iG 16 15 false (.mv (.t 5)),iG 17 15 false (.mv (.t 0)),iG 18 15 false (.lenS (.t 17)),iG 19 15 false (.bin .neq (.t 16) (.t 18)),iI 20 (.pick (.t 15) (.c (.bool true)) (.t 19))] false)
 (.cond (.t 20)
 (.seq
 (.region [iI 21 (.build [.int .i64 0, .int .i64 0, .str []] []),iN (.store 3 (.t 2) (.t 21)),iI 3 (.mv (.c (.int .i64 3)))] false)
 .ret)
 .skip))
 (.seq
 (.region [iI 22 (.load true 3 (.t 4)),iI 23 (.mv (.t 6)),iN (.store 3 (.t 2) (.t 22)),iI 3 (.mv (.t 23))] false)
 .ret))))
def r49 : List ERes := [.cell true 3 2, .t 3]
theorem c49 : chkF Tryz.prog Tryz.f49 1 e49 r49 = true := by kernel_rfl
def e44 : EC :=
 (.seq
 (.region [iI 1 (.box 66 (.t 0)),iI 2 (.mv (.c (.str [])))] false)
 (.seq
 (.block 0
 (.seq
 (.region [iI 6 (.load true 3 (.t 1)),iI 7 (.call 83 [(.t 6)]),iI 8 (.not (.t 7)),iI 5 (.mv (.t 8))] false)
 (.cond (.t 5)
 (.seq
 (.region [iI 2 (.mv (.c (.str [63])))] false)
 .ret)
 (.seq
 (.region [iI 10 (.faddr 0 (.t 1)),iI 11 (.load false 1 (.t 10)),iI 12 (.bin .eql (.t 11) (.c (.int .i64 1))),iI 9 (.mv (.t 12))] false)
 (.cond (.t 9)
 (.seq
 (.region [iI 13 (.faddr 1 (.t 1)),iI 14 (.load false 1 (.t 13)),iI 15 (.call 46 [(.t 14)]),iI 2 (.mv (.t 15))] false)
 .ret)
 .skip)))))
 (.seq
 (.region [iI 3 (.alloc 131 [.raw (.pointer none), .nilS])] false)
 (.seq
 (.region [iI 16 (.call 87 [(.t 3), (.c (.int .u8 34))])] false)
 (.seq
 (.seq
 (.region [iI 17 (.faddr 2 (.t 1)),iI 18 (.load false 1 (.t 17)),iI 19 (.lenS (.t 18)),iI 20 (.mv (.c (.int .i64 0)))] false)
 (.block 1
 (.loop
 (.seq
 (.region [iI 21 (.bin .lss (.t 20) (.t 19))] false)
 (.seq
 (.cond (.t 21)
 .skip
 (.exit 1))
 (.seq
 (.block 2
 (.seq
 (.region [iI 22 (.mv (.t 20)),iI 4 (.mv (.t 22))] false)
 (.seq
 (.seq
 (.region [iI 23 (.faddr 2 (.t 1)),iI 24 (.load false 1 (.t 23)),iI 25 (.mv (.t 4)),iI 26 (.idxS (.t 24) (.t 25)),iI 27 (.bin .eql (.t 26) (.c (.int .u8 34))),iI 28 (.mv (.t 27)),iG 29 28 false (.faddr 2 (.t 1)),iG 30 28 false (.load false 1 (.t 29)),iG 31 28 false (.mv (.t 4)),iG 32 28 false (.idxS (.t 30) (.t 31)),iG 33 28 false (.bin .eql (.t 32) (.c (.int .u8 92))),iI 34 (.pick (.t 28) (.c (.bool true)) (.t 33))] false)
 (.cond (.t 34)
 (.region [iI 35 (.call 87 [(.t 3), (.c (.int .u8 92))])] false)
 .skip))
 (.region [iI 36 (.faddr 2 (.t 1)),iI 37 (.load false 1 (.t 36)),iI 38 (.mv (.t 4)),iI 39 (.idxS (.t 37) (.t 38)),iI 40 (.call 87 [(.t 3), (.t 39)])] false))))
 (.region [iI 41 (.bin .add (.t 20) (.c (.int .i64 1))),iI 20 (.mv (.t 41))] false)))))))
 (.seq
 (.region [iI 42 (.call 87 [(.t 3), (.c (.int .u8 34))])] false)
 (.seq
 (.region [iI 43 (.call 88 [(.t 3)]),iI 2 (.mv (.t 43))] false)
 .ret)))))))
def r44 : List ERes := [.t 2]
theorem c44 : chkF Tryz.prog Tryz.f44 1 e44 r44 = true := by kernel_rfl
def e47 : EC :=
 (.seq
 (.region [iI 4 (.mv (.c (.str []))),iI 5 (.mv (.c (.str []))),iI 6 (.mv (.c (.bool false)))] false)
 (.seq
 (.region [iI 7 (.mv (.t 0)),iI 8 (.mv (.t 1)),iI 9 (.call 90 [(.t 7), (.t 8)]),iI 10 (.extract 0 (.t 9)),iI 11 (.extract 1 (.t 9)),iI 12 (.extract 2 (.t 9)),iI 4 (.mv (.t 10)),iI 5 (.mv (.t 11)),iI 6 (.mv (.t 12))] false)
 .ret))
def r47 : List ERes := [.t 4, .t 5, .t 6]
theorem c47 : chkF Tryz.prog Tryz.f47 2 e47 r47 = true := by kernel_rfl
def e3 : EC :=
 (.seq
 (.region [iI 2 (.box 27 (.t 0)),iI 3 (.box 27 (.t 1)),iI 4 (.mv (.c (.bool false)))] false)
 (.seq
 (.seq
 (.region [iI 5 (.call 9 []),iI 6 (.not (.t 5))] false)
 (.cond (.t 6)
 (.seq
 (.region [iI 4 (.mv (.c (.bool false)))] false)
 .ret)
 .skip))
 (.seq
 (.seq
 (.region [iI 7 (.load true 6 (.t 2)),iI 8 (.call 10 [(.t 7)]),iI 9 (.not (.t 8)),iI 10 (.mv (.t 9)),iG 11 10 false (.load true 6 (.t 3)),iG 12 10 false (.call 10 [(.t 11)]),iG 13 10 false (.not (.t 12)),iI 14 (.pick (.t 10) (.c (.bool true)) (.t 13))] false)
 (.cond (.t 14)
 (.seq
 (.region [iI 4 (.mv (.c (.bool true)))] false)
 .ret)
 .skip))
 (.seq
 (.region [iI 15 (.load true 6 (.t 2)),iI 16 (.pcall 12 [(.t 15)]),iI 17 (.pcall 11 [(.t 16)]),iI 18 (.load true 6 (.t 2)),iI 19 (.pcall 13 [(.t 18)]),iI 20 (.binB .eql (.t 17) (.t 19)),iI 21 (.mv (.t 20)),iG 22 21 true (.load true 6 (.t 2)),iG 23 21 true (.pcall 12 [(.t 22)]),iG 24 21 true (.load true 6 (.t 3)),iG 25 21 true (.pcall 12 [(.t 24)]),iG 26 21 true (.pcall 14 [(.t 23), (.t 25)]),iG 27 21 true (.load true 6 (.t 2)),iG 28 21 true (.load true 6 (.t 3)),iG 29 21 true (.pcall 15 [(.t 27), (.t 28)]),iG 30 21 true (.binB .eql (.t 26) (.t 29)),iI 31 (.pick (.t 21) (.t 30) (.c (.bool false))),iI 32 (.mv (.t 31)),iG 33 32 true (.load true 6 (.t 2)),iG 34 32 true (.pcall 12 [(.t 33)]),iG 35 32 true (.load true 6 (.t 2)),iG 36 32 true (.pcall 12 [(.t 35)]),iG 37 32 true (.pcall 14 [(.t 34), (.t 36)]),iI 38 (.pick (.t 32) (.t 37) (.c (.bool false))),iI 4 (.mv (.t 38))] true)
 .ret))))
def r3 : List ERes := [.t 4]
theorem c3 : chkF Tryz.prog Tryz.f3 2 e3 r3 = true := by kernel_rfl
def e20 : EC :=
 (.seq
 (.region [iI 1 (.box 36 (.t 0)),iI 2 (.mv (.c (.nilS)))] false)
 (.seq
 (.seq
 (.region [iI 12 (.load true 6 (.t 1)),iI 13 (.call 11 [(.t 12)]),iI 14 (.not (.t 13))] false)
 (.cond (.t 14)
 (.seq
 (.region [iI 2 (.mv (.c (.nilS)))] false)
 .ret)
 .skip))
 (.seq
 (.region [iI 15 (.faddr 0 (.t 1)),iI 16 (.loadD 1 false 1 (.t 15)),iI 17 (.callD [1] 58 [(.c (.nilS)), (.t 16)]),iI 18 (.faddr 1 (.t 1)),iI 19 (.loadD 1 false 1 (.t 18)),iI 20 (.faddr 2 (.t 1)),iI 21 (.loadD 1 false 1 (.t 20)),iI 22 (.len (.t 21)),iI 23 (.bslice 3 1 2 [.int .i64 0] [(0, (.t 19)), (1, (.t 22))]),iI 24 (.call 57 [(.t 17), (.t 23)]),iI 3 (.mv (.t 24))] true)
 (.seq
 (.seq
 (.region [iI 25 (.faddr 2 (.t 1)),iI 26 (.load false 1 (.t 25)),iI 27 (.len (.t 26)),iI 28 (.mv (.c (.int .i64 0)))] false)
 (.block 0
 (.loop
 (.seq
 (.region [iI 29 (.bin .lss (.t 28) (.t 27))] false)
 (.seq
 (.cond (.t 29)
 .skip
 (.exit 0))
 (.seq
 (.block 1
 (.seq
 (.region [iI 30 (.iaddr 7 (.t 26) (.t 28)),iI 31 (.load true 7 (.t 30)),iI 5 (.alloc 73 [.str [], .int .i64 0, .int .i64 0, .int .i64 0, .int .i64 0, .int .i64 0, .str []]),iN (.store 7 (.t 5) (.t 31))] false)
 (.region [iI 32 (.mv (.t 3)),iI 33 (.faddr 0 (.t 5)),iI 34 (.loadD 5 false 1 (.t 33)),iI 35 (.callD [5] 58 [(.t 32), (.t 34)]),iI 36 (.faddr 1 (.t 5)),iI 37 (.faddr 0 (.t 36)),iI 38 (.loadD 5 false 1 (.t 37)),iI 39 (.faddr 1 (.t 5)),iI 40 (.faddr 1 (.t 39)),iI 41 (.loadD 5 false 1 (.t 40)),iI 42 (.faddr 1 (.t 5)),iI 43 (.faddr 2 (.t 42)),iI 44 (.loadD 5 false 1 (.t 43)),iI 45 (.bslice 3 1 3 [.int .i64 0] [(0, (.t 38)), (1, (.t 41)), (2, (.t 44))]),iI 46 (.callD [5] 57 [(.t 35), (.t 45)]),iI 47 (.faddr 4 (.t 5)),iI 48 (.loadD 5 true 3 (.t 47)),iI 49 (.call 59 [(.t 46), (.t 48)]),iI 3 (.mv (.t 49))] true)))
 (.region [iI 50 (.bin .add (.t 28) (.c (.int .i64 1))),iI 28 (.mv (.t 50))] false)))))))
 (.seq
 (.region [iI 51 (.mv (.t 3)),iI 52 (.faddr 3 (.t 1)),iI 53 (.load false 1 (.t 52)),iI 54 (.len (.t 53)),iI 55 (.bslice 3 1 1 [.int .i64 0] [(0, (.t 54))]),iI 56 (.call 57 [(.t 51), (.t 55)]),iI 3 (.mv (.t 56))] false)
 (.seq
 (.seq
 (.region [iI 57 (.faddr 3 (.t 1)),iI 58 (.load false 1 (.t 57)),iI 59 (.len (.t 58)),iI 60 (.mv (.c (.int .i64 0)))] false)
 (.block 2
 (.loop
 (.seq
 (.region [iI 61 (.bin .lss (.t 60) (.t 59))] false)
 (.seq
 (.cond (.t 61)
 .skip
 (.exit 2))
 (.seq
 (.block 3
 (.seq
 (.region [iI 62 (.iaddr 3 (.t 58) (.t 60)),iI 63 (.load true 3 (.t 62)),iI 7 (.alloc 75 [.int .i64 0, .int .i64 0, .int .i64 0]),iN (.store 3 (.t 7) (.t 63))] false)
 (.region [iI 64 (.mv (.t 3)),iI 65 (.faddr 0 (.t 7)),iI 66 (.load false 1 (.t 65)),iI 67 (.faddr 1 (.t 7)),iI 68 (.load false 1 (.t 67)),iI 69 (.faddr 2 (.t 7)),iI 70 (.load false 1 (.t 69)),iI 71 (.bslice 3 1 3 [.int .i64 0] [(0, (.t 66)), (1, (.t 68)), (2, (.t 70))]),iI 72 (.call 57 [(.t 64), (.t 71)]),iI 3 (.mv (.t 72))] false)))
 (.region [iI 73 (.bin .add (.t 60) (.c (.int .i64 1))),iI 60 (.mv (.t 73))] false)))))))
 (.seq
 (.region [iI 74 (.mv (.t 3)),iI 75 (.faddr 4 (.t 1)),iI 76 (.load false 1 (.t 75)),iI 77 (.len (.t 76)),iI 78 (.bslice 3 1 1 [.int .i64 0] [(0, (.t 77))]),iI 79 (.call 57 [(.t 74), (.t 78)]),iI 3 (.mv (.t 79))] false)
 (.seq
 (.seq
 (.region [iI 80 (.faddr 4 (.t 1)),iI 81 (.load false 1 (.t 80)),iI 82 (.len (.t 81)),iI 83 (.mv (.c (.int .i64 0)))] false)
 (.block 4
 (.loop
 (.seq
 (.region [iI 84 (.bin .lss (.t 83) (.t 82))] false)
 (.seq
 (.cond (.t 84)
 .skip
 (.exit 4))
 (.seq
 (.block 5
 (.seq
 (.region [iI 85 (.iaddr 4 (.t 81) (.t 83)),iI 86 (.load true 4 (.t 85)),iI 9 (.alloc 78 [.int .i64 0, .int .i64 0, .int .i64 0, .int .i64 0]),iN (.store 4 (.t 9) (.t 86))] false)
 (.region [iI 87 (.mv (.t 3)),iI 88 (.faddr 0 (.t 9)),iI 89 (.load false 1 (.t 88)),iI 90 (.faddr 1 (.t 9)),iI 91 (.load false 1 (.t 90)),iI 92 (.faddr 2 (.t 9)),iI 93 (.load false 1 (.t 92)),iI 94 (.faddr 3 (.t 9)),iI 95 (.load false 1 (.t 94)),iI 96 (.bslice 3 1 4 [.int .i64 0] [(0, (.t 89)), (1, (.t 91)), (2, (.t 93)), (3, (.t 95))]),iI 97 (.call 57 [(.t 87), (.t 96)]),iI 3 (.mv (.t 97))] false)))
 (.region [iI 98 (.bin .add (.t 83) (.c (.int .i64 1))),iI 83 (.mv (.t 98))] false)))))))
 (.seq
 (.region [iI 99 (.mv (.t 3)),iI 100 (.faddr 5 (.t 1)),iI 101 (.load false 1 (.t 100)),iI 102 (.len (.t 101)),iI 103 (.bslice 3 1 1 [.int .i64 0] [(0, (.t 102))]),iI 104 (.call 57 [(.t 99), (.t 103)]),iI 3 (.mv (.t 104))] false)
 (.seq
 (.seq
 (.region [iI 105 (.faddr 5 (.t 1)),iI 106 (.load false 1 (.t 105)),iI 107 (.len (.t 106)),iI 108 (.mv (.c (.int .i64 0)))] false)
 (.block 6
 (.loop
 (.seq
 (.region [iI 109 (.bin .lss (.t 108) (.t 107))] false)
 (.seq
 (.cond (.t 109)
 .skip
 (.exit 6))
 (.seq
 (.block 7
 (.seq
 (.region [iI 110 (.iaddr 3 (.t 106) (.t 108)),iI 111 (.load true 3 (.t 110)),iI 11 (.alloc 43 [.int .i64 0, .int .i64 0, .str []]),iN (.store 3 (.t 11) (.t 111))] false)
 (.region [iI 112 (.mv (.t 3)),iI 113 (.faddr 0 (.t 11)),iI 114 (.loadD 11 false 1 (.t 113)),iI 115 (.faddr 1 (.t 11)),iI 116 (.loadD 11 false 1 (.t 115)),iI 117 (.bslice 3 1 2 [.int .i64 0] [(0, (.t 114)), (1, (.t 116))]),iI 118 (.callD [11] 57 [(.t 112), (.t 117)]),iI 119 (.faddr 2 (.t 11)),iI 120 (.loadD 11 false 1 (.t 119)),iI 121 (.call 58 [(.t 118), (.t 120)]),iI 3 (.mv (.t 121))] true)))
 (.region [iI 122 (.bin .add (.t 108) (.c (.int .i64 1))),iI 108 (.mv (.t 122))] false)))))))
 (.seq
 (.region [iI 123 (.mv (.t 3)),iI 2 (.mv (.t 123))] false)
 .ret)))))))))))
def r20 : List ERes := [.t 2]
theorem c20 : chkF Tryz.prog Tryz.f20 1 e20 r20 = true := by kernel_rfl
def e21 : EC :=
 (.seq
 (.region [iI 2 (.alloc 36 [.str [], .int .i64 0, .nilS, .nilS, .nilS, .nilS]),iI 3 (.mv (.c (.int .i64 0)))] false)
 (.seq
 (.region [iI 8 (.mv (.t 0)),iI 9 (.call 60 [(.t 8)]),iI 4 (.mv (.t 9))] false)
 (.seq
 (.region [iI 10 (.mv (.t 4)),iI 11 (.call 61 [(.t 10), (.c (.int .i64 16))]),iI 12 (.mv (.t 4)),iI 13 (.call 62 [(.t 12)]),iI 14 (.build [.str [], .int .i64 0, .nilS, .nilS, .nilS, .nilS] [(0, 1, (.t 11)), (1, 1, (.t 13))]),iI 5 (.alloc 36 [.str [], .int .i64 0, .nilS, .nilS, .nilS, .nilS]),iN (.store 6 (.t 5) (.t 14))] false)
 (.seq
 (.seq
 (.region [iI 15 (.mv (.t 4)),iI 16 (.call 63 [(.t 15), (.c (.int .i64 0)), (.c (.int .i64 12))]),iI 17 (.mv (.c (.int .i64 0)))] false)
 (.block 0
 (.loop
 (.seq
 (.region [iI 18 (.bin .lss (.t 17) (.t 16))] false)
 (.seq
 (.cond (.t 18)
 .skip
 (.exit 0))
 (.seq
 (.block 1
 (.seq
 (.region [iI 19 (.mv (.t 4)),iI 20 (.call 61 [(.t 19), (.c (.int .i64 16))]),iI 21 (.build [.str [], .int .i64 0, .int .i64 0, .int .i64 0, .int .i64 0, .int .i64 0, .str []] [(0, 1, (.t 20))]),iI 6 (.alloc 73 [.str [], .int .i64 0, .int .i64 0, .int .i64 0, .int .i64 0, .int .i64 0, .str []]),iN (.store 7 (.t 6) (.t 21))] false)
 (.seq
 (.region [iI 22 (.mv (.t 4)),iI 23 (.call 62 [(.t 22)]),iI 24 (.mv (.t 4)),iI 25 (.call 62 [(.t 24)]),iI 26 (.mv (.t 4)),iI 27 (.call 62 [(.t 26)]),iI 28 (.build [.int .i64 0, .int .i64 0, .int .i64 0] [(0, 1, (.t 23)), (1, 1, (.t 25)), (2, 1, (.t 27))]),iI 29 (.faddr 1 (.t 6)),iN (.store 3 (.t 29) (.t 28))] false)
 (.seq
 (.region [iI 30 (.mv (.t 4)),iI 31 (.call 64 [(.t 30)]),iI 32 (.faddr 4 (.t 6)),iN (.store 3 (.t 32) (.t 31))] false)
 (.region [iI 33 (.faddr 2 (.t 5)),iI 34 (.load false 1 (.t 33)),iI 35 (.load true 7 (.t 6)),iI 36 (.bslice 73 7 1 [.str [], .int .i64 0, .int .i64 0, .int .i64 0, .int .i64 0, .int .i64 0, .str []] [(0, (.t 35))]),iI 37 (.append 73 7 72 (.t 34) (.t 36)),iI 38 (.faddr 2 (.t 5)),iN (.store 1 (.t 38) (.t 37))] false)))))
 (.region [iI 39 (.bin .add (.t 17) (.c (.int .i64 1))),iI 17 (.mv (.t 39))] false)))))))
 (.seq
 (.seq
 (.region [iI 40 (.mv (.t 4)),iI 41 (.call 63 [(.t 40), (.c (.int .i64 0)), (.c (.int .i64 40))]),iI 42 (.mv (.c (.int .i64 0)))] false)
 (.block 2
 (.loop
 (.seq
 (.region [iI 43 (.bin .lss (.t 42) (.t 41))] false)
 (.seq
 (.cond (.t 43)
 .skip
 (.exit 2))
 (.seq
 (.block 3
 (.region [iI 44 (.faddr 3 (.t 5)),iI 45 (.loadD 5 false 1 (.t 44)),iI 46 (.mv (.t 4)),iI 47 (.callD [5] 62 [(.t 46)]),iI 48 (.mv (.t 4)),iI 49 (.callD [5] 62 [(.t 48)]),iI 50 (.mv (.t 4)),iI 51 (.callD [5] 62 [(.t 50)]),iI 52 (.build [.int .i64 0, .int .i64 0, .int .i64 0] [(0, 1, (.t 47)), (1, 1, (.t 49)), (2, 1, (.t 51))]),iI 53 (.bslice 75 3 1 [.int .i64 0, .int .i64 0, .int .i64 0] [(0, (.t 52))]),iI 54 (.append 75 3 24 (.t 45) (.t 53)),iI 55 (.faddr 3 (.t 5)),iN (.store 1 (.t 55) (.t 54))] true))
 (.region [iI 56 (.bin .add (.t 42) (.c (.int .i64 1))),iI 42 (.mv (.t 56))] false)))))))
 (.seq
 (.seq
 (.region [iI 57 (.mv (.t 4)),iI 58 (.call 63 [(.t 57), (.c (.int .i64 0)), (.c (.int .i64 40))]),iI 59 (.mv (.c (.int .i64 0)))] false)
 (.block 4
 (.loop
 (.seq
 (.region [iI 60 (.bin .lss (.t 59) (.t 58))] false)
 (.seq
 (.cond (.t 60)
 .skip
 (.exit 4))
 (.seq
 (.block 5
 (.region [iI 61 (.faddr 4 (.t 5)),iI 62 (.loadD 5 false 1 (.t 61)),iI 63 (.mv (.t 4)),iI 64 (.callD [5] 62 [(.t 63)]),iI 65 (.mv (.t 4)),iI 66 (.callD [5] 62 [(.t 65)]),iI 67 (.mv (.t 4)),iI 68 (.callD [5] 62 [(.t 67)]),iI 69 (.mv (.t 4)),iI 70 (.callD [5] 62 [(.t 69)]),iI 71 (.build [.int .i64 0, .int .i64 0, .int .i64 0, .int .i64 0] [(0, 1, (.t 64)), (1, 1, (.t 66)), (2, 1, (.t 68)), (3, 1, (.t 70))]),iI 72 (.bslice 78 4 1 [.int .i64 0, .int .i64 0, .int .i64 0, .int .i64 0] [(0, (.t 71))]),iI 73 (.append 78 4 32 (.t 62) (.t 72)),iI 74 (.faddr 4 (.t 5)),iN (.store 1 (.t 74) (.t 73))] true))
 (.region [iI 75 (.bin .add (.t 59) (.c (.int .i64 1))),iI 59 (.mv (.t 75))] false)))))))
 (.seq
 (.seq
 (.region [iI 76 (.mv (.t 4)),iI 77 (.call 63 [(.t 76), (.c (.int .i64 0)), (.c (.int .i64 1000))]),iI 78 (.mv (.c (.int .i64 0)))] false)
 (.block 6
 (.loop
 (.seq
 (.region [iI 79 (.bin .lss (.t 78) (.t 77))] false)
 (.seq
 (.cond (.t 79)
 .skip
 (.exit 6))
 (.seq
 (.block 7
 (.seq
 (.region [iI 80 (.mv (.t 4)),iI 81 (.call 62 [(.t 80)]),iI 82 (.mv (.t 4)),iI 83 (.call 62 [(.t 82)]),iI 84 (.build [.int .i64 0, .int .i64 0, .str []] [(0, 1, (.t 81)), (1, 1, (.t 83))]),iI 7 (.alloc 43 [.int .i64 0, .int .i64 0, .str []]),iN (.store 3 (.t 7) (.t 84))] false)
 (.seq
 (.region [iI 85 (.mv (.t 4)),iI 86 (.call 61 [(.t 85), (.c (.int .i64 40))]),iI 87 (.faddr 2 (.t 7)),iN (.store 1 (.t 87) (.t 86))] false)
 (.region [iI 88 (.faddr 5 (.t 5)),iI 89 (.load false 1 (.t 88)),iI 90 (.load true 3 (.t 7)),iI 91 (.bslice 43 3 1 [.int .i64 0, .int .i64 0, .str []] [(0, (.t 90))]),iI 92 (.append 43 3 32 (.t 89) (.t 91)),iI 93 (.faddr 5 (.t 5)),iN (.store 1 (.t 93) (.t 92))] false))))
 (.region [iI 94 (.bin .add (.t 78) (.c (.int .i64 1))),iI 78 (.mv (.t 94))] false)))))))
 (.seq
 (.seq
 (.region [iI 95 (.mv (.t 4)),iI 96 (.call 65 [(.t 95)]),iI 97 (.bin .neq (.t 96) (.c (.int .i64 0))),iI 98 (.mv (.t 97)),iG 99 98 false (.load true 6 (.t 5)),iG 100 98 false (.call 11 [(.t 99)]),iG 101 98 false (.not (.t 100)),iI 102 (.pick (.t 98) (.c (.bool true)) (.t 101))] false)
 (.cond (.t 102)
 (.seq
 (.region [iI 103 (.build [.str [], .int .i64 0, .nilS, .nilS, .nilS, .nilS] []),iN (.store 6 (.t 2) (.t 103)),iI 3 (.mv (.c (.int .i64 4)))] false)
 .ret)
 .skip))
 (.seq
 (.region [iI 104 (.load true 6 (.t 5)),iN (.store 6 (.t 2) (.t 104)),iI 3 (.mv (.c (.int .i64 0)))] false)
 .ret)))))))))
def r21 : List ERes := [.cell true 6 2, .t 3]
theorem c21 : chkF Tryz.prog Tryz.f21 1 e21 r21 = true := by kernel_rfl
def e90 : EC :=
 (.seq
 (.region [iI 4 (.mv (.c (.str []))),iI 5 (.mv (.c (.str []))),iI 6 (.mv (.c (.bool false)))] false)
 (.seq
 (.seq
 (.region [iI 8 (.mv (.t 0)),iI 9 (.mv (.t 1)),iI 10 (.call 118 [(.t 8), (.t 9)]),iI 7 (.mv (.t 10))] false)
 (.seq
 (.region [iI 11 (.mv (.t 7)),iI 12 (.bin .geq (.t 11) (.c (.int .i64 0)))] false)
 (.cond (.t 12)
 (.seq
 (.region [iI 13 (.mv (.t 0)),iI 14 (.mv (.t 7)),iI 15 (.slS (.t 13) none (some (.t 14))),iI 16 (.mv (.t 0)),iI 17 (.mv (.t 7)),iI 18 (.mv (.t 1)),iI 19 (.lenS (.t 18)),iI 20 (.bin .add (.t 17) (.t 19)),iI 21 (.slS (.t 16) (some (.t 20)) none),iI 4 (.mv (.t 15)),iI 5 (.mv (.t 21)),iI 6 (.mv (.c (.bool true)))] true)
 .ret)
 .skip)))
 (.seq
 (.region [iI 22 (.mv (.t 0)),iI 4 (.mv (.t 22)),iI 5 (.mv (.c (.str []))),iI 6 (.mv (.c (.bool false)))] false)
 .ret)))
def r90 : List ERes := [.t 4, .t 5, .t 6]
theorem c90 : chkF Tryz.prog Tryz.f90 2 e90 r90 = true := by kernel_rfl
end Go.Aw.T
