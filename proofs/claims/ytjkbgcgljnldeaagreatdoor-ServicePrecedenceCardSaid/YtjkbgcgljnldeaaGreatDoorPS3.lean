/- Part of a proof; own work. -/
import Derived.Test.YtjkbgcgljnldeaaGreatDoorPS2
namespace Go.Aw
open Go
set_option linter.unusedVariables false
set_option linter.unusedSimpArgs false
def RnO (s : Sg) : Out → Out → Prop
  | .ret a, .ret b => Rn s a b
  | .pan a, .pan b => Rn s a b
  | _, _ => False
def FC (P : Program) (f : FuncId) (az : List AV) (c : CS) (Q : Out → CS → Prop) : Prop :=
  ∀ H0 s az' H, RnL s az az' → HRc H0 s c H → ACalls P f az' H fun o' H' => ∃ s' o c1, Sg.Le s s' ∧ Q o c1 ∧ RnO s' o o' ∧ HRc H0 s' c1 H'
def Rt (v : AV) (c1 : CS) : Out → CS → Prop := fun o c => o = .ret v ∧ c = c1
inductive JI where
  | c (e : EC)
  | blk (id : Nat)
  | rnd (I : Nat → Env → CS → Prop) (m0 : Nat)
def JI.tr (H0 : AHeap) (s0 : Sg) : JI → Item
  | .c e => .c e
  | .blk id => .blk id
  | .rnd I m0 => .round (fun m env' H' => ∃ s env c, Sg.Le s0 s ∧ I m env c ∧ RnE s env env' ∧ HRc H0 s c H') m0
def jpop (id : Nat) : List JI → Option (List JI)
  | .blk j :: k => bif j == id then some k else jpop id k
  | _ :: k => jpop id k
  | [] => none
theorem jpop_ok {H0 : AHeap} {s0 : Sg} {id : Nat} : ∀ {k k' : List JI}, jpop id k = some k' → popTo id (k.map (JI.tr H0 s0)) = some (k'.map (JI.tr H0 s0))
  | [], _, h => by cases h
  | .c _ :: k, _, h => by simp only [jpop] at h; simp only [List.map_cons, JI.tr, popTo]; exact jpop_ok h
  | .rnd _ _ :: k, _, h => by simp only [jpop] at h; simp only [List.map_cons, JI.tr, popTo]; exact jpop_ok h
  | .blk j :: k, _, h => by
    simp only [jpop] at h
    simp only [List.map_cons, JI.tr, popTo]
    cases hi : j == id with
    | true => rw [hi] at h; cases h; rw [if_pos (by simpa using hi)]
    | false => rw [hi] at h; rw [if_neg (by simpa using hi)]; exact jpop_ok h
def J (P : Program) (rs : List ERes) (n0 t0 : Nat) (k : List JI) (Q : Out → CS → Prop) (env : Env) (c : CS) : Prop :=
  ∀ H0 s0 s env' H (R : Out → AHeap → Prop), s0.b.length = n0 → s0.t.length = t0 → Sg.Le s0 s → RnE s env env' → HRc H0 s c H → (∀ s' o o' c1 H', Sg.Le s0 s' → Q o c1 → RnO s' o o' → HRc H0 s' c1 H' → R o' H') → AM P rs R (k.map (JI.tr H0 s0)) env' H
def DJ (P : Program) (anns : List AV) (l : List EI) (env : Env) (c : CS) (K : Env → CS → Prop) (Rp : AV → CS → Prop) : Prop :=
  ∀ H0 s env' H (K' : Env → AHeap → Prop) (Rp' : AV → AHeap → Prop), RnE s env env' → HRc H0 s c H → (∀ s' e e' c1 H', Sg.Le s s' → K e c1 → RnE s' e e' → HRc H0 s' c1 H' → K' e' H') → (∀ s' v v' c1 H', Sg.Le s s' → Rp v c1 → Rn s' v v' → HRc H0 s' c1 H' → Rp' v' H') → DM P (annotate l anns) env' H K' Rp'
variable {P : Program} {rs : List ERes} {n0 t0 : Nat} {k : List JI} {Q : Out → CS → Prop} {env : Env} {c c1 : CS} {v : AV}
theorem J.ret (hv : cres rs env c.H = some v) (h : Q (.ret v) c) : J P rs n0 t0 (.c .ret :: k) Q env c := fun H0 s0 s env' H R hn ht hs he hr hR => by
  obtain ⟨v', g1, g2⟩ := cres_ok he hr hv
  exact .ret g1 (hR s (.ret v) (.ret v') c H hs h g2 hr)
theorem J.done (hv : cres rs env c.H = some v) (h : Q (.ret v) c) : J P rs n0 t0 [] Q env c := fun H0 s0 s env' H R hn ht hs he hr hR => by
  obtain ⟨v', g1, g2⟩ := cres_ok he hr hv
  exact .done g1 (hR s (.ret v) (.ret v') c H hs h g2 hr)
theorem J.skip (h : J P rs n0 t0 k Q env c) : J P rs n0 t0 (.c .skip :: k) Q env c := fun H0 s0 s env' H R hn ht hs he hr hR => .skip (h H0 s0 s env' H R hn ht hs he hr hR)
theorem J.blkEnd {id : Nat} (h : J P rs n0 t0 k Q env c) : J P rs n0 t0 (.blk id :: k) Q env c := fun H0 s0 s env' H R hn ht hs he hr hR => .blkEnd (h H0 s0 s env' H R hn ht hs he hr hR)
theorem J.seq {a b : EC} (h : J P rs n0 t0 (.c a :: .c b :: k) Q env c) : J P rs n0 t0 (.c (.seq a b) :: k) Q env c := fun H0 s0 s env' H R hn ht hs he hr hR => .seq (h H0 s0 s env' H R hn ht hs he hr hR)
theorem J.block {id : Nat} {b : EC} (h : J P rs n0 t0 (.c b :: .blk id :: k) Q env c) : J P rs n0 t0 (.c (.block id b) :: k) Q env c := fun H0 s0 s env' H R hn ht hs he hr hR => .block (h H0 s0 s env' H R hn ht hs he hr hR)
theorem J.exit {id : Nat} {k' : List JI} (hk : jpop id k = some k') (h : J P rs n0 t0 k' Q env c) : J P rs n0 t0 (.c (.exit id) :: k) Q env c := fun H0 s0 s env' H R hn ht hs he hr hR => .exit (jpop_ok hk) (h H0 s0 s env' H R hn ht hs he hr hR)
theorem J.cond {x : EOpd} {a b : EC} {t : Bool} (hc : cev env x = .bool t) (h1 : t = true → J P rs n0 t0 (.c a :: k) Q env c) (h2 : t = false → J P rs n0 t0 (.c b :: k) Q env c) : J P rs n0 t0 (.c (.cond x a b) :: k) Q env c := fun H0 s0 s env' H R hn ht hs he hr hR => by
  have hx := cev_rn he x
  rw [hc] at hx
  simp only [Rn] at hx
  exact .cond hx (fun e => h1 e H0 s0 s env' H R hn ht hs he hr hR) (fun e => h2 e H0 s0 s env' H R hn ht hs he hr hR)
theorem J.cT {x : EOpd} {a b : EC} (hc : cev env x = .bool true) (h : J P rs n0 t0 (.c a :: k) Q env c) : J P rs n0 t0 (.c (.cond x a b) :: k) Q env c := J.cond hc (fun _ => h) (fun e => by cases e)
theorem J.cF {x : EOpd} {a b : EC} (hc : cev env x = .bool false) (h : J P rs n0 t0 (.c b :: k) Q env c) : J P rs n0 t0 (.c (.cond x a b) :: k) Q env c := J.cond hc (fun e => by cases e) (fun _ => h)
theorem J.reg {ops : List EI} {draw : Bool} {anns : List AV} (h : DJ P anns ops env c (fun e c1 => J P rs n0 t0 k Q e c1) (fun v c1 => Q (.pan v) c1)) : J P rs n0 t0 (.c (.region ops draw) :: k) Q env c := fun H0 s0 s env' H R hn ht hs he hr hR =>
  .region anns _ (h H0 s env' H _ _ he hr (fun s' e e' c1 H' q1 q2 q3 q4 => q2 H0 s0 s' e' H' R hn ht (hs.trans q1) q3 q4 hR) (fun s' v v' c1 H' q1 q2 q3 q4 => hR s' (.pan v) (.pan v') c1 H' (hs.trans q1) q2 q3 q4)) fun _ _ h => h
theorem J.loop {body : EC} (I : Nat → Env → CS → Prop) (m : Nat) (h0 : I m env c) (h : ∀ m' e c', I m' e c' → J P rs n0 t0 (.c body :: .rnd I m' :: k) Q e c') : J P rs n0 t0 (.c (.loop body) :: k) Q env c := fun H0 s0 s env' H R hn ht hs he hr hR =>
  .loop (fun m env' H' => ∃ s env c, Sg.Le s0 s ∧ I m env c ∧ RnE s env env' ∧ HRc H0 s c H') m ⟨s, env, c, hs, h0, he, hr⟩ fun m' e' H' ⟨s2, e2, c2, q1, q2, q3, q4⟩ => h m' e2 c2 q2 H0 s0 s2 e' H' R hn ht q1 q3 q4 hR
theorem J.round {I : Nat → Env → CS → Prop} {m0 : Nat} (m : Nat) (h0 : I m env c) (h1 : m < m0) : J P rs n0 t0 (.rnd I m0 :: k) Q env c := fun H0 s0 s env' H R hn ht hs he hr hR =>
  .round m ⟨s, env, c, hs, h0, he, hr⟩ h1
def EHas (env : Env) : Env → Prop
  | [] => True
  | p :: l => env.get p.1 = p.2 ∧ EHas env l
theorem EHas.get : ∀ {E : Env}, EHas env E → ∀ j, E.get j = env.get j ∨ E.get j = .top
  | [], _, j => .inr rfl
  | (k, v) :: E, h, j => by
    simp only [EHas] at h
    simp only [Env.get]
    cases hk : k == j with
    | true => have : k = j := by simpa using hk
              subst this; exact .inl h.1.symm
    | false => exact EHas.get h.2 j
theorem RnE.weak {s : Sg} {E env' : Env} (h : ∀ j, E.get j = env.get j ∨ E.get j = .top) (he : RnE s env env') : RnE s E env' := fun j => by
  rcases h j with e | e
  · rw [e]; exact he j
  · rw [e]; simp only [Rn]
abbrev BL := List (Nat × TypeId × List AV)
abbrev TL := List (Nat × Own)
def lkB : BL → Nat → Option (TypeId × List AV)
  | [], _ => none
  | (k, x) :: l, j => bif k == j then some x else lkB l j
def lkT : TL → Nat → Option Own
  | [], _ => none
  | (k, x) :: l, j => bif k == j then some x else lkT l j
def CS.of (nb nt : Nat) (bl : BL) (tl : TL) : CS := ⟨⟨lkB bl, lkT tl⟩, nb, nt⟩
def HasB (H : AHeap) : BL → Prop
  | [] => True
  | p :: l => H.blk p.1 = some p.2 ∧ HasB H l
def HasT (H : AHeap) : TL → Prop
  | [] => True
  | p :: l => H.tok p.1 = some p.2 ∧ HasT H l
theorem HasB.get {H : AHeap} : ∀ {l : BL}, HasB H l → ∀ j y, lkB l j = some y → H.blk j = some y
  | [], _, _, _, e => by cases e
  | (k, x) :: l, h, j, y, e => by
    simp only [HasB] at h
    simp only [lkB] at e
    cases hk : k == j with
    | true => rw [hk] at e; cases e
              have : k = j := by simpa using hk
              subst this; exact h.1
    | false => rw [hk] at e; exact HasB.get h.2 j y e
theorem HasT.get {H : AHeap} : ∀ {l : TL}, HasT H l → ∀ j y, lkT l j = some y → H.tok j = some y
  | [], _, _, _, e => by cases e
  | (k, x) :: l, h, j, y, e => by
    simp only [HasT] at h
    simp only [lkT] at e
    cases hk : k == j with
    | true => rw [hk] at e; cases e
              have : k = j := by simpa using hk
              subst this; exact h.1
    | false => rw [hk] at e; exact HasT.get h.2 j y e
mutual
def AV.bd (n t : Nat) : AV → Bool
  | .ptr b _ => Nat.blt b n
  | .agg cs => bdL n t cs
  | .tup cs => bdL n t cs
  | .vs _ rows => flatR rows
  | .own x _ rows => Nat.blt x t && flatR rows
  | .ms x _ => Nat.blt x t
  | .mp x _ _ => Nat.blt x t
  | .rp row _ => flatL row
  | .fn _ cap => bdL n t cap
  | .ifc _ v => v.bd n t
  | _ => true
def bdL (n t : Nat) : List AV → Bool
  | [] => true
  | a :: az => a.bd n t && bdL n t az
end
theorem flatL_any {s s' : Sg} {az l : List AV} (h : flatL az = true) (hr : RnL s az l) : RnL s' az l := (flatL_rn az h l).2 ((flatL_rn az h l).1 hr)
theorem flatR_any {s s' : Sg} {az l : List (List AV)} (h : flatR az = true) (hr : RnR s az l) : RnR s' az l := (flatR_rn az h l).2 ((flatR_rn az h l).1 hr)
theorem blt_lt {i n : Nat} (h : Nat.blt i n = true) : i < n := by simpa [Nat.blt_eq] using h
theorem take_get {l : List Nat} {n i x : Nat} (h : l[i]? = some x) (hi : Nat.blt i n = true) : (l.take n)[i]? = some x := by
  rw [List.getElem?_take, if_pos (blt_lt hi), h]
mutual
theorem Rn.cut {s : Sg} {n t : Nat} : ∀ (a v : AV), Rn s a v → a.bd n t = true → Rn ⟨s.b.take n, s.t.take t⟩ a v
  | .top, _, _, _ => by simp only [Rn]
  | .ptr b o, _, h, hb => by simp only [AV.bd] at hb; simp only [Rn] at *; obtain ⟨x, h1, h2⟩ := h; exact ⟨x, take_get h1 hb, h2⟩
  | .agg cs, _, h, hb => by simp only [AV.bd] at hb; simp only [Rn] at *; obtain ⟨l, h1, h2⟩ := h; exact ⟨l, h1, RnL.cut cs l h2 hb⟩
  | .tup cs, _, h, hb => by simp only [AV.bd] at hb; simp only [Rn] at *; obtain ⟨l, h1, h2⟩ := h; exact ⟨l, h1, RnL.cut cs l h2 hb⟩
  | .vs _ rows, _, h, hb => by
    simp only [AV.bd] at hb
    simp only [Rn] at *
    obtain ⟨l, h1, h2⟩ := h
    exact ⟨l, h1, flatR_any hb h2⟩
  | .own x _ rows, _, h, hb => by
    simp only [AV.bd, Bool.and_eq_true] at hb
    simp only [Rn] at *
    obtain ⟨y, l, h0, h1, h2⟩ := h
    exact ⟨y, l, take_get h0 hb.1, h1, flatR_any hb.2 h2⟩
  | .ms x _, _, h, hb => by simp only [AV.bd] at hb; simp only [Rn] at *; obtain ⟨x, h1, h2⟩ := h; exact ⟨x, take_get h1 hb, h2⟩
  | .mp x _ _, _, h, hb => by simp only [AV.bd] at hb; simp only [Rn] at *; obtain ⟨x, h1, h2⟩ := h; exact ⟨x, take_get h1 hb, h2⟩
  | .rp row _, _, h, hb => by
    simp only [AV.bd] at hb
    simp only [Rn] at *
    obtain ⟨l, h1, h2⟩ := h
    exact ⟨l, h1, flatL_any hb h2⟩
  | .fn _ cap, _, h, hb => by simp only [AV.bd] at hb; simp only [Rn] at *; obtain ⟨l, h1, h2⟩ := h; exact ⟨l, h1, RnL.cut cap l h2 hb⟩
  | .ifc _ v, _, h, hb => by simp only [AV.bd] at hb; simp only [Rn] at *; obtain ⟨x, h1, h2⟩ := h; exact ⟨x, h1, Rn.cut v x h2 hb⟩
  | .bool _, _, h, _ => by simp only [Rn] at *; exact h
  | .int _ _, _, h, _ => by simp only [Rn] at *; exact h
  | .str _, _, h, _ => by simp only [Rn] at *; exact h
  | .raw _, _, h, _ => by simp only [Rn] at *; exact h
theorem RnL.cut {s : Sg} {n t : Nat} : ∀ (az l : List AV), RnL s az l → bdL n t az = true → RnL ⟨s.b.take n, s.t.take t⟩ az l
  | [], _, h, _ => by simp only [RnL] at *; exact h
  | a :: az, _, h, hb => by simp only [bdL, Bool.and_eq_true] at hb; simp only [RnL] at *; obtain ⟨v, vs, h1, h2, h3⟩ := h; exact ⟨v, vs, h1, Rn.cut a v h2 hb.1, RnL.cut az vs h3 hb.2⟩
end
def bdE (n t : Nat) : Env → Bool
  | [] => true
  | p :: l => p.2.bd n t && bdE n t l
def bdB (n t : Nat) : BL → Bool
  | [] => true
  | p :: l => Nat.blt p.1 n && (bdL n t p.2.2 && bdB n t l)
def bdO : Option (List (List AV)) → Bool
  | none => true
  | some rows => flatR rows
def bdT (n t : Nat) : TL → Bool
  | [] => true
  | p :: l => Nat.blt p.1 t && (bdO p.2.con && bdT n t l)
theorem bdE_get {n t : Nat} : ∀ {E : Env}, bdE n t E = true → ∀ j, (E.get j).bd n t = true
  | [], _, j => rfl
  | (k, v) :: E, h, j => by
    simp only [bdE, Bool.and_eq_true] at h
    simp only [Env.get]
    cases k == j with
    | true => exact h.1
    | false => exact bdE_get h.2 j
theorem bdB_get {n t : Nat} : ∀ {l : BL}, bdB n t l = true → ∀ j T cs, lkB l j = some (T, cs) → Nat.blt j n = true ∧ bdL n t cs = true
  | [], _, _, _, _, e => by cases e
  | (k, x) :: l, h, j, T, cs, e => by
    simp only [bdB, Bool.and_eq_true] at h
    simp only [lkB] at e
    cases hk : k == j with
    | true => rw [hk] at e; cases e
              have : k = j := by simpa using hk
              subst this; exact ⟨h.1, h.2.1⟩
    | false => rw [hk] at e; exact bdB_get h.2.2 j T cs e
theorem bdT_get {n t : Nat} : ∀ {l : TL}, bdT n t l = true → ∀ j o, lkT l j = some o → Nat.blt j t = true ∧ bdO o.con = true
  | [], _, _, _, e => by cases e
  | (k, x) :: l, h, j, o, e => by
    simp only [bdT, Bool.and_eq_true] at h
    simp only [lkT] at e
    cases hk : k == j with
    | true => rw [hk] at e; cases e
              have : k = j := by simpa using hk
              subst this; exact ⟨h.1, h.2.1⟩
    | false => rw [hk] at e; exact bdT_get h.2.2 j o e
theorem HRc.cut {H0 H : AHeap} {s : Sg} {n t : Nat} {bl : BL} {tl : TL} (hr : HRc H0 s c H) (hb : HasB c.H bl) (ht : HasT c.H tl) (hn : n ≤ c.nb) (hm : t ≤ c.nt) (kb : bdB n t bl = true) (kt : bdT n t tl = true) : HRc H0 ⟨s.b.take n, s.t.take t⟩ (CS.of n t bl tl) H where
  base := hr.base
  blk := fun b T cs e => by
    obtain ⟨g1, g2⟩ := bdB_get kb b T cs e
    obtain ⟨x, cs', h1, h2, h3⟩ := hr.blk b T cs (hb.get b _ e)
    exact ⟨x, cs', take_get h1 g1, h2, RnL.cut _ _ h3 g2⟩
  tok := fun b o e => by
    obtain ⟨g1, g2⟩ := bdT_get kt b o e
    obtain ⟨x, o', h1, h2, h3, h4, h5, h6, h7⟩ := hr.tok b o (ht.get b _ e)
    refine ⟨x, o', take_get h1 g1, h2, h3, h4, h5, h6, ?_⟩
    cases hc : o.con with
    | none => rw [hc] at h7; exact h7
    | some rows =>
      rw [hc] at h7 g2
      simp only [bdO] at g2
      obtain ⟨l, q1, q2⟩ := h7
      exact ⟨l, q1, flatR_any g2 q2⟩
  newb := fun b x e => by
    rw [List.getElem?_take] at e
    split at e
    · exact hr.newb b x e
    · cases e
  newt := fun b x e => by
    rw [List.getElem?_take] at e
    split at e
    · exact hr.newt b x e
    · cases e
  injb := fun b b' x e e' => by
    rw [List.getElem?_take] at e e'
    split at e
    · split at e'
      · exact hr.injb b b' x e e'
      · cases e'
    · cases e
  injt := fun b b' x e e' => by
    rw [List.getElem?_take] at e e'
    split at e
    · split at e'
      · exact hr.injt b b' x e e'
      · cases e'
    · cases e
  nb := by simp only [CS.of, List.length_take]; rw [← hr.nb]; omega
  nt := by simp only [CS.of, List.length_take]; rw [← hr.nt]; omega
theorem Sg.Le.cut {s0 s : Sg} {n t : Nat} (h : Sg.Le s0 s) (hn : s0.b.length ≤ n) (ht : s0.t.length ≤ t) : Sg.Le s0 ⟨s.b.take n, s.t.take t⟩ where
  b := fun i x e => by
    have : i < s0.b.length := (List.getElem?_eq_some_iff.1 e).1
    rw [List.getElem?_take, if_pos (by omega)]
    exact h.b i x e
  t := fun i x e => by
    have : i < s0.t.length := (List.getElem?_eq_some_iff.1 e).1
    rw [List.getElem?_take, if_pos (by omega)]
    exact h.t i x e
theorem J.cut (n t : Nat) (E : Env) (bl : BL) (tl : TL) (he : EHas env E) (hb : HasB c.H bl) (ht : HasT c.H tl) (hn : (Nat.ble n0 n && (Nat.ble n c.nb && (Nat.ble t0 t && Nat.ble t c.nt))) = true) (hd : (bdE n t E && (bdB n t bl && bdT n t tl)) = true) (h : J P rs n0 t0 k Q E (CS.of n t bl tl)) : J P rs n0 t0 k Q env c := fun H0 s0 s env' H R h1 h2 hs hE hr hR => by
  simp only [Bool.and_eq_true, Nat.ble_eq] at hn hd
  obtain ⟨a1, a2, a3, a4⟩ := hn
  obtain ⟨b1, b2, b3⟩ := hd
  refine h H0 s0 ⟨s.b.take n, s.t.take t⟩ env' H R h1 h2 (hs.cut (by omega) (by omega)) (fun j => ?_) (hr.cut hb ht a2 a4 b2 b3) hR
  exact Rn.cut _ _ (RnE.weak he.get hE j) (bdE_get b1 j)
theorem J.keep (E : Env) (bl : BL) (tl : TL) (he : EHas env E) (hb : HasB c.H bl) (ht : HasT c.H tl) (h : J P rs n0 t0 k Q E (CS.of c.nb c.nt bl tl)) : J P rs n0 t0 k Q env c := fun H0 s0 s env' H R h1 h2 hs hE hr hR => by
  refine h H0 s0 s env' H R h1 h2 hs (RnE.weak he.get hE) ⟨⟨hr.base, fun b T cs e => hr.blk b T cs (hb.get b _ e), fun b o e => hr.tok b o (ht.get b _ e), hr.newb, hr.newt, hr.injb, hr.injt⟩, hr.nb, hr.nt⟩ hR
end Go.Aw
namespace Go.Aw
open Go
set_option linter.unusedVariables false
set_option linter.unusedSimpArgs false
def IJ (P : Program) (op : EOp) (env : Env) (c : CS) (S Sp : AV → CS → Prop) : Prop :=
  ∀ H0 s env' H (K Rp : AV → AHeap → Prop), RnE s env env' → HRc H0 s c H → (∀ s' v v' c1 H', Sg.Le s s' → S v c1 → Rn s' v v' → HRc H0 s' c1 H' → K v' H') → (∀ s' v v' c1 H', Sg.Le s s' → Sp v c1 → Rn s' v v' → HRc H0 s' c1 H' → Rp v' H') → IStep P op env' H K Rp
section
variable {P : Program} {rs : List ERes} {n0 t0 : Nat} {k : List JI} {Q : Out → CS → Prop} {env : Env} {c c1 : CS} {v r : AV} {anns : List AV} {l : List EI} {K : Env → CS → Prop} {Rp : AV → CS → Prop} {d : Option Nat} {g : Option (Nat × Bool)} {op : EOp} {f : FuncId} {args : List EOpd} {az cap : List AV} {x : EOpd}
theorem DJ.nil (h : K env c) : DJ P [] [] env c K Rp := fun H0 s env' H K' Rp' he hr hK hRp => by
  exact hK s env env' c H (Sg.Le.refl s) h he hr
theorem DJ.opr {S : AV → CS → Prop} (hw : wanted ⟨d, g, op⟩ env = some true) (hp : isP op = false) (hi : IJ P op env c S Rp) (h : ∀ v c1, S v c1 → DJ P anns l (env.put d v) c1 K Rp) : DJ P anns (⟨d, g, op⟩ :: l) env c K Rp := fun H0 s env' H K' Rp' he hr hK hRp => by
  have q : DM P (⟨d, g, op⟩ :: annotate l anns) env' H K' Rp' := DM.step (wanted_ok he hw) (hi H0 s env' H _ _ he hr (fun s' v v' c1 H' a1 a2 a3 a4 => h v c1 a2 H0 s' _ H' K' Rp' ((he.mono a1).put a3 d) a4 (fun s2 e e' c2 H2 b1 b2 b3 b4 => hK s2 e e' c2 H2 (a1.trans b1) b2 b3 b4) (fun s2 e e' c2 H2 b1 b2 b3 b4 => hRp s2 e e' c2 H2 (a1.trans b1) b2 b3 b4)) hRp)
  cases op <;> first | (simp [isP] at hp; done) | (cases anns <;> simpa only [annotate] using q)
abbrev noCl : Cl := fun _ _ _ => none
abbrev ost (op : EOp) (env : Env) (c : CS) : Option (AV × CS) := cstp [] noCl op env c
theorem IJ.o (h : ost op env c = some (v, c1)) : IJ P op env c (fun v' c' => v' = v ∧ c' = c1) Rp := fun H0 s env' H K Rp he hr hK hRp =>
  cstp_ok (cvs := []) (cl := noCl) (fun _ _ _ _ _ h => by cases h) (fun _ h => by simp at h) he hr h fun s' v' H' q1 q2 q3 => hK s' v v' c1 H' q1 ⟨rfl, rfl⟩ q2 q3
theorem DJ.o (hw : wanted ⟨d, g, op⟩ env = some true) (hp : isP op = false) (hs : ost op env c = some (v, c1)) (h : DJ P anns l (env.put d v) c1 K Rp) : DJ P anns (⟨d, g, op⟩ :: l) env c K Rp :=
  DJ.opr hw hp (IJ.o hs) fun v' c' ⟨e1, e2⟩ => by rw [e1, e2]; exact h
theorem DJ.sk (hw : wanted ⟨d, g, op⟩ env = some false) (hp : isP op = false) (h : DJ P anns l (env.put d .undef) c K Rp) : DJ P anns (⟨d, g, op⟩ :: l) env c K Rp := fun H0 s env' H K' Rp' he hr hK hRp => by
  have q : DM P (⟨d, g, op⟩ :: annotate l anns) env' H K' Rp' := DM.skip (wanted_ok he hw) (h H0 s _ H K' Rp' (he.put (by simp only [Rn]) d) hr hK hRp)
  cases op <;> first | (simp [isP] at hp; done) | (cases anns <;> simpa only [annotate] using q)
theorem DJ.skP (hw : wanted ⟨d, g, op⟩ env = some false) (hp : isP op = true) (h : DJ P anns l (env.put d .undef) c K Rp) : DJ P (r :: anns) (⟨d, g, op⟩ :: l) env c K Rp := fun H0 s env' H K' Rp' he hr hK hRp => by
  have hw' := wanted_ok he hw
  have q := h H0 s (env'.put d AV.undef) H K' Rp' (he.put (by simp only [Rn]) d) hr hK hRp
  cases op <;> first | (simp [isP] at hp; done) | (simp only [annotate]; exact DM.skip hw' q)
theorem DJ.u {d : Nat} (hp : isP op = false) (hs : ost op env c = some (v, c1)) (h : DJ P anns l ((d, v) :: env) c1 K Rp) : DJ P anns (⟨some d, none, op⟩ :: l) env c K Rp := DJ.o rfl hp hs h
theorem DJ.u0 (hp : isP op = false) (hs : ost op env c = some (v, c1)) (h : DJ P anns l env c1 K Rp) : DJ P anns (⟨none, none, op⟩ :: l) env c K Rp := DJ.o rfl hp hs h
theorem annot_g {g g' : Option (Nat × Bool)} {H0 H : AHeap} {env' : Env} {Kf : Env → AHeap → Prop} {Rf : AV → AHeap → Prop} (h : ∀ i, wanted ⟨d, g, i⟩ env' = wanted ⟨d, g', i⟩ env') (k : DM P (annotate (⟨d, g', op⟩ :: l) anns) env' H Kf Rf) : DM P (annotate (⟨d, g, op⟩ :: l) anns) env' H Kf Rf := by
  cases op <;> cases anns <;> simp only [annotate, DM] at k ⊢ <;> rw [h] <;> exact k
theorem DJ.gd {j : Nat} {t b : Bool} (hb : env.get j = .bool b) (ht : b = t) (h : DJ P anns (⟨d, none, op⟩ :: l) env c K Rp) : DJ P anns (⟨d, some (j, t), op⟩ :: l) env c K Rp := fun H0 s env' H K' Rp' he hr hK hRp => by
  subst ht
  refine annot_g (H0 := H0) (g' := none) (fun i => ?_) (h H0 s env' H K' Rp' he hr hK hRp)
  have := he j
  rw [hb] at this
  simp only [Rn] at this
  simp only [wanted, this, beq_self_eq_true]
theorem DJ.g1 {j : Nat} (hb : env.get j = .bool true) (h : DJ P anns (⟨d, none, op⟩ :: l) env c K Rp) : DJ P anns (⟨d, some (j, true), op⟩ :: l) env c K Rp := DJ.gd hb rfl h
theorem DJ.g2 {j : Nat} (hb : env.get j = .bool false) (h : DJ P anns (⟨d, none, op⟩ :: l) env c K Rp) : DJ P anns (⟨d, some (j, false), op⟩ :: l) env c K Rp := DJ.gd hb rfl h
theorem DJ.g3 {j : Nat} (hb : env.get j = .bool true) (hp : isP op = false) (h : DJ P anns l (env.put d .undef) c K Rp) : DJ P anns (⟨d, some (j, false), op⟩ :: l) env c K Rp := DJ.sk (by simp only [wanted, hb]; rfl) hp h
theorem DJ.g4 {j : Nat} (hb : env.get j = .bool false) (hp : isP op = false) (h : DJ P anns l (env.put d .undef) c K Rp) : DJ P anns (⟨d, some (j, true), op⟩ :: l) env c K Rp := DJ.sk (by simp only [wanted, hb]; rfl) hp h
theorem DJ.g5 {j : Nat} {t : Bool} (hb : env.get j = .undef) (hp : isP op = false) (h : DJ P anns l (env.put d .undef) c K Rp) : DJ P anns (⟨d, some (j, t), op⟩ :: l) env c K Rp := DJ.sk (by simp only [wanted, hb]; rfl) hp h
theorem DJ.g6 {j : Nat} (hb : env.get j = .bool true) (hp : isP op = true) (h : DJ P anns l (env.put d .undef) c K Rp) : DJ P (.undef :: anns) (⟨d, some (j, false), op⟩ :: l) env c K Rp := DJ.skP (by simp only [wanted, hb]; rfl) hp h
theorem DJ.pc (hw : wanted ⟨d, g, .pcall f args⟩ env = some true) (h1 : Pure P f az r) (ha : wkL (args.map (cev env)) = az) (hf : flatL az = true) (hr : r.flat = true) (h : DJ P anns l (env.put d r) c K Rp) : DJ P (r :: anns) (⟨d, g, .pcall f args⟩ :: l) env c K Rp := fun H0 s env' H K' Rp' he hh hK hRp => by
  subst ha
  simp only [annotate]
  exact DM.step (wanted_ok he hw) (.sw (.det r) (.pcall' (wkL_les _ _ (cevs_rn he args) hf) h1) fun _ _ => h H0 s _ H K' Rp' (he.put ((AV.flat_rn r hr r).2 rfl) d) hh hK hRp)
theorem DJ.pcv (hw : wanted ⟨d, g, .pcallv x args⟩ env = some true) (hx : cev env x = .fn f cap) (hc : callable P f = true) (h1 : Pure P f az r) (ha : wkL (args.map (cev env) ++ cap) = az) (hf : flatL az = true) (hr : r.flat = true) (h : DJ P anns l (env.put d r) c K Rp) : DJ P (r :: anns) (⟨d, g, .pcallv x args⟩ :: l) env c K Rp := fun H0 s env' H K' Rp' he hh hK hRp => by
  subst ha
  have hx' := cev_eq he hx
  simp only [Rn] at hx'
  obtain ⟨lc, g1, g2⟩ := hx'
  simp only [annotate]
  exact DM.step (wanted_ok he hw) (.sw (.det r) (.pcallv' g1 hc (wkL_les _ _ ((cevs_rn he args).append g2) hf) h1) fun _ _ => h H0 s _ H K' Rp' (he.put ((AV.flat_rn r hr r).2 rfl) d) hh hK hRp)
theorem outk {K Rp : AV → AHeap → Prop} {s : Sg} {H0 : AHeap} (hK : ∀ s' v v' c1 H', Sg.Le s s' → Q (.ret v) c1 → Rn s' v v' → HRc H0 s' c1 H' → K v' H') (hRp : ∀ s' v v' c1 H', Sg.Le s s' → Q (.pan v) c1 → Rn s' v v' → HRc H0 s' c1 H' → Rp v' H') : ∀ o' H', (∃ s' o c1, Sg.Le s s' ∧ Q o c1 ∧ RnO s' o o' ∧ HRc H0 s' c1 H') → OutK K Rp H' o' := by
  rintro o' H' ⟨s', o, c1, a1, a2, a3, a4⟩
  cases o <;> cases o' <;> simp only [RnO] at a3
  · exact hK s' _ _ c1 H' a1 a2 a3 a4
  · exact hRp s' _ _ c1 H' a1 a2 a3 a4
theorem IJ.call (h : FC P f (args.map (cev env)) c Q) : IJ P (.call f args) env c (fun v c1 => Q (.ret v) c1) (fun v c1 => Q (.pan v) c1) := fun H0 s env' H K Rp he hr hK hRp =>
  .call _ (AVLes.rfl' _) (h H0 s _ H (cevs_rn he args) hr) (outk hK hRp)
theorem IJ.callv (hx : cev env x = .fn f cap) (hc : callable P f = true) (h : FC P f (args.map (cev env) ++ cap) c Q) : IJ P (.callv x args) env c (fun v c1 => Q (.ret v) c1) (fun v c1 => Q (.pan v) c1) := fun H0 s env' H K Rp he hr hK hRp => by
  have hx' := cev_eq he hx
  simp only [Rn] at hx'
  obtain ⟨lc, g1, g2⟩ := hx'
  exact .callv _ g1 hc (AVLes.rfl' _) (h H0 s _ H ((cevs_rn he args).append g2) hr) (outk hK hRp)
theorem IJ.callvB (hx : cev env x = .fn (f + bnd) cap) (hc : callable P f = true) (h : FC P f (cap ++ args.map (cev env)) c Q) : IJ P (.callv x args) env c (fun v c1 => Q (.ret v) c1) (fun v c1 => Q (.pan v) c1) := fun H0 s env' H K Rp he hr hK hRp => by
  have hx' := cev_eq he hx
  simp only [Rn] at hx'
  obtain ⟨lc, g1, g2⟩ := hx'
  exact .callvB _ g1 hc (AVLes.rfl' _) (h H0 s _ H (g2.append (cevs_rn he args)) hr) (outk hK hRp)
theorem IJ.panic {t : TypeId} (hx : cev env x = .ifc t v) : IJ P (.panic x) env c (fun _ _ => False) (fun v' c' => v' = .ifc t v ∧ c' = c) := fun H0 s env' H K Rp he hr hK hRp => by
  have hx' := cev_eq he hx
  have hx2 := hx'
  simp only [Rn] at hx'
  obtain ⟨y, g1, g2⟩ := hx'
  rw [g1] at hx2
  exact .panic g1 (hRp s _ _ c H (Sg.Le.refl s) ⟨rfl, rfl⟩ hx2 hr)
theorem IJ.mono {S S' Sp Sp' : AV → CS → Prop} (h : IJ P op env c S Sp) (h1 : ∀ v c1, S v c1 → S' v c1) (h2 : ∀ v c1, Sp v c1 → Sp' v c1) : IJ P op env c S' Sp' := fun H0 s env' H K Rp he hr hK hRp =>
  h H0 s env' H K Rp he hr (fun s' v v' c1 H' a1 a2 a3 a4 => hK s' v v' c1 H' a1 (h1 _ _ a2) a3 a4) (fun s' v v' c1 H' a1 a2 a3 a4 => hRp s' v v' c1 H' a1 (h2 _ _ a2) a3 a4)
theorem DJ.cq (hw : wanted ⟨d, g, .call f args⟩ env = some true) (hc : FC P f az c Q) (ha : args.map (cev env) = az) (h : ∀ v c1, Q (.ret v) c1 → DJ P anns l (env.put d v) c1 K Rp) (hp : ∀ v c1, Q (.pan v) c1 → Rp v c1) : DJ P anns (⟨d, g, .call f args⟩ :: l) env c K Rp := by
  subst ha
  exact DJ.opr hw rfl ((IJ.call hc).mono (fun _ _ h => h) hp) h
theorem DJ.cr (hw : wanted ⟨d, g, .call f args⟩ env = some true) (hc : FC P f az c (Rt v c1)) (ha : args.map (cev env) = az) (h : DJ P anns l (env.put d v) c1 K Rp) : DJ P anns (⟨d, g, .call f args⟩ :: l) env c K Rp :=
  DJ.cq hw hc ha (fun v' c' ⟨e1, e2⟩ => by cases e1; rw [e2]; exact h) (fun v' c' ⟨e1, e2⟩ => by cases e1)
theorem DJ.vq (hw : wanted ⟨d, g, .callv x args⟩ env = some true) (hx : cev env x = .fn f cap) (hf : callable P f = true) (hc : FC P f az c Q) (ha : args.map (cev env) ++ cap = az) (h : ∀ v c1, Q (.ret v) c1 → DJ P anns l (env.put d v) c1 K Rp) (hp : ∀ v c1, Q (.pan v) c1 → Rp v c1) : DJ P anns (⟨d, g, .callv x args⟩ :: l) env c K Rp := by
  subst ha
  exact DJ.opr hw rfl ((IJ.callv hx hf hc).mono (fun _ _ h => h) hp) h
theorem DJ.vr (hw : wanted ⟨d, g, .callv x args⟩ env = some true) (hx : cev env x = .fn f cap) (hf : callable P f = true) (hc : FC P f az c (Rt v c1)) (ha : args.map (cev env) ++ cap = az) (h : DJ P anns l (env.put d v) c1 K Rp) : DJ P anns (⟨d, g, .callv x args⟩ :: l) env c K Rp :=
  DJ.vq hw hx hf hc ha (fun v' c' ⟨e1, e2⟩ => by cases e1; rw [e2]; exact h) (fun v' c' ⟨e1, e2⟩ => by cases e1)
theorem DJ.bq (hw : wanted ⟨d, g, .callv x args⟩ env = some true) (hx : cev env x = .fn (f + bnd) cap) (hf : callable P f = true) (hc : FC P f az c Q) (ha : cap ++ args.map (cev env) = az) (h : ∀ v c1, Q (.ret v) c1 → DJ P anns l (env.put d v) c1 K Rp) (hp : ∀ v c1, Q (.pan v) c1 → Rp v c1) : DJ P anns (⟨d, g, .callv x args⟩ :: l) env c K Rp := by
  subst ha
  exact DJ.opr hw rfl ((IJ.callvB hx hf hc).mono (fun _ _ h => h) hp) h
theorem DJ.br (hw : wanted ⟨d, g, .callv x args⟩ env = some true) (hx : cev env x = .fn (f + bnd) cap) (hf : callable P f = true) (hc : FC P f az c (Rt v c1)) (ha : cap ++ args.map (cev env) = az) (h : DJ P anns l (env.put d v) c1 K Rp) : DJ P anns (⟨d, g, .callv x args⟩ :: l) env c K Rp :=
  DJ.bq hw hx hf hc ha (fun v' c' ⟨e1, e2⟩ => by cases e1; rw [e2]; exact h) (fun v' c' ⟨e1, e2⟩ => by cases e1)
theorem DJ.pn {t : TypeId} (hw : wanted ⟨d, g, .panic x⟩ env = some true) (hx : cev env x = .ifc t v) (h : Rp (.ifc t v) c) : DJ P anns (⟨d, g, .panic x⟩ :: l) env c K Rp :=
  DJ.opr hw rfl ((IJ.panic hx).mono (fun _ _ h => h) (fun v' c' ⟨e1, e2⟩ => by rw [e1, e2]; exact h)) fun _ _ h => h.elim
theorem FC.mono {Q' : Out → CS → Prop} (h : FC P f az c Q) (hq : ∀ o c1, Q o c1 → Q' o c1) : FC P f az c Q' := fun H0 s az' H ha hr =>
  (h H0 s az' H ha hr).mono fun o H' ⟨s', o1, c1, a1, a2, a3, a4⟩ => ⟨o, H', by cases o <;> exact AVLe.refl _, HSub.refl _, s', o1, c1, a1, hq _ _ a2, a3, a4⟩
theorem FC.intro {fn : Func} {e : EC} (hm : P.follows .mixedOrders = true) (hf : P.funcs[f]? = some fn) (hc : chkF P fn az.length e rs = true) (h : J P rs c.nb c.nt [.c e] Q (initEnv az) c) : FC P f az c Q := fun H0 s az' H ha hr => by
  have hl := RnL.length ha
  exact acalls_of hm hf (by rw [hl]; exact hc) (h H0 s s (initEnv az') H _ hr.nb.symm hr.nt.symm (Sg.Le.refl s) (init_rn ha) hr fun s' o o' c1 H' q1 q2 q3 q4 => ⟨s', o, c1, q1, q2, q3, q4⟩)
theorem FC.wk {Q' : Out → CS → Prop} (h : FC P f az c Q) (hq : ∀ o c1, Q o c1 → ∃ v, o = .ret v ∧ v.wk.flat = true ∧ Q' (.ret v.wk) c1) : FC P f az c Q' := fun H0 s az' H ha hr =>
  (h H0 s az' H ha hr).mono fun o H' ⟨s', o1, c1, a1, a2, a3, a4⟩ => by
    obtain ⟨v, e1, e2, e3⟩ := hq _ _ a2
    subst e1
    cases o with
    | pan w => simp only [RnO] at a3
    | ret w => exact ⟨.ret v.wk, H', fun m y hy => wk_le v w a3 e2 y hy, HSub.refl _, s', .ret v.wk, c1, a1, e3, (AV.flat_rn _ e2 _).2 rfl, a4⟩
theorem FC.ofPure (h : Pure P f az r) (hf : flatL az = true) (hr : r.flat = true) {as0 : List AV} (ha : wkL as0 = az) : FC P f as0 c (Rt r c) := fun H0 s az' H ha' hh => by
  subst ha
  have hp := h H
  have hp' : ACalls P f az' H fun o H' => o = .ret r ∧ H' = H := fun m vs hH rh hv => hp m vs hH rh ((wkL_les _ _ ha' hf).rvL hv)
  exact hp'.mono fun o H' ⟨e1, e2⟩ => ⟨o, H', by subst e1; exact AVLe.refl _, HSub.refl _, s, .ret r, c, Sg.Le.refl s, ⟨rfl, rfl⟩, by subst e1; exact (AV.flat_rn r hr r).2 rfl, by rw [e2]; exact hh⟩
theorem FC.pure (h : FC P f az .new Q) (hf : flatL az = true) (hr : r.flat = true) (hq : ∀ o c1, Q o c1 → ∃ v, o = .ret v ∧ v.wk = r) : Pure P f az r := ACalls.pure fun H =>
  (h H ⟨[], []⟩ az H ((flatL_rn az hf _).2 rfl) (HRc.start H)).mono fun o H' ⟨s', o1, c1, a1, a2, a3, a4⟩ => by
    obtain ⟨v, e1, e2⟩ := hq _ _ a2
    subst e1 e2
    cases o with
    | pan w => simp only [RnO] at a3
    | ret w => exact ⟨.ret w, H', AVLe.refl _, HSub.refl _, w, rfl, fun m y hy => wk_le v w a3 hr y hy, a4.base⟩
end
end Go.Aw
namespace Go.Aw
open Go
set_option linter.unusedVariables false
set_option linter.unusedSimpArgs false
mutual
def AV.ren (p : Sg) : AV → AV
  | .ptr b o => .ptr (p.b.getD b 0) o
  | .agg cs => .agg (renL p cs)
  | .tup cs => .tup (renL p cs)
  | .vs n rows => .vs n rows
  | .own t n rows => .own (p.t.getD t 0) n rows
  | .ms t v => .ms (p.t.getD t 0) v
  | .mp t v k => .mp (p.t.getD t 0) v k
  | .rp row o => .rp row o
  | .fn f cap => .fn f (renL p cap)
  | .ifc t v => .ifc t (v.ren p)
  | .top => .top
  | .bool b => .bool b
  | .int k n => .int k n
  | .str s => .str s
  | .raw v => .raw v
def renL (p : Sg) : List AV → List AV
  | [] => []
  | a :: az => a.ren p :: renL p az
end
def Sg.comp (p s : Sg) : Sg := ⟨p.b.map fun b => s.b.getD b 0, p.t.map fun t => s.t.getD t 0⟩
structure Sg.Sub (p s : Sg) : Prop where
  b : ∀ (i x : Nat), p.b[i]? = some x → x < s.b.length
  t : ∀ (i x : Nat), p.t[i]? = some x → x < s.t.length
theorem getD_get {l : List Nat} {i : Nat} (h : i < l.length) : l[i]? = some (l.getD i 0) := by
  rw [List.getD_eq_getElem?_getD, List.getElem?_eq_getElem h]; rfl
theorem getD_of {l : List Nat} {i x : Nat} (h : l[i]? = some x) : l.getD i 0 = x := by rw [List.getD_eq_getElem?_getD, h]; rfl
theorem comp_b {p s : Sg} {i y : Nat} (h : p.b[i]? = some y) : (p.comp s).b[i]? = some (s.b.getD y 0) := by simp [Sg.comp, h]
theorem comp_t {p s : Sg} {i y : Nat} (h : p.t[i]? = some y) : (p.comp s).t[i]? = some (s.t.getD y 0) := by simp [Sg.comp, h]
theorem comp_b' {p s : Sg} {i x : Nat} (h : (p.comp s).b[i]? = some x) : ∃ y, p.b[i]? = some y ∧ s.b.getD y 0 = x := by
  simp only [Sg.comp, List.getElem?_map, Option.map_eq_some_iff] at h
  exact h
theorem comp_t' {p s : Sg} {i x : Nat} (h : (p.comp s).t[i]? = some x) : ∃ y, p.t[i]? = some y ∧ s.t.getD y 0 = x := by
  simp only [Sg.comp, List.getElem?_map, Option.map_eq_some_iff] at h
  exact h
section
variable {p s : Sg}
mutual
theorem Rn.comp (hp : p.Sub s) : ∀ (a v : AV), a.bd p.b.length p.t.length = true → Rn s (a.ren p) v → Rn (p.comp s) a v
  | .top, _, _, _ => by simp only [AV.ren, Rn]
  | .ptr b o, _, hb, h => by
    have hb := blt_lt hb
    simp only [AV.ren, Rn] at *
    obtain ⟨x, h1, h2⟩ := h
    exact ⟨x, by rw [comp_b (getD_get hb), getD_of h1], h2⟩
  | .ms t v, _, hb, h => by
    have hb := blt_lt hb
    simp only [AV.ren, Rn] at *
    obtain ⟨x, h1, h2⟩ := h
    exact ⟨x, by rw [comp_t (getD_get hb), getD_of h1], h2⟩
  | .mp t v k, _, hb, h => by
    have hb := blt_lt hb
    simp only [AV.ren, Rn] at *
    obtain ⟨x, h1, h2⟩ := h
    exact ⟨x, by rw [comp_t (getD_get hb), getD_of h1], h2⟩
  | .agg cs, _, hb, h => by simp only [AV.bd] at hb; simp only [AV.ren, Rn] at *; obtain ⟨l, h1, h2⟩ := h; exact ⟨l, h1, RnL.comp hp cs l hb h2⟩
  | .tup cs, _, hb, h => by simp only [AV.bd] at hb; simp only [AV.ren, Rn] at *; obtain ⟨l, h1, h2⟩ := h; exact ⟨l, h1, RnL.comp hp cs l hb h2⟩
  | .fn f cs, _, hb, h => by simp only [AV.bd] at hb; simp only [AV.ren, Rn] at *; obtain ⟨l, h1, h2⟩ := h; exact ⟨l, h1, RnL.comp hp cs l hb h2⟩
  | .ifc t a, _, hb, h => by simp only [AV.bd] at hb; simp only [AV.ren, Rn] at *; obtain ⟨x, h1, h2⟩ := h; exact ⟨x, h1, Rn.comp hp a x hb h2⟩
  | .vs n rows, _, hb, h => by simp only [AV.bd] at hb; simp only [AV.ren, Rn] at *; obtain ⟨l, h1, h2⟩ := h; exact ⟨l, h1, flatR_any hb h2⟩
  | .rp row o, _, hb, h => by simp only [AV.bd] at hb; simp only [AV.ren, Rn] at *; obtain ⟨l, h1, h2⟩ := h; exact ⟨l, h1, flatL_any hb h2⟩
  | .own t n rows, _, hb, h => by
    simp only [AV.bd, Bool.and_eq_true] at hb
    have hb1 := blt_lt hb.1
    simp only [AV.ren, Rn] at *
    obtain ⟨x, l, h0, h1, h2⟩ := h
    exact ⟨x, l, by rw [comp_t (getD_get hb1), getD_of h0], h1, flatR_any hb.2 h2⟩
  | .bool _, _, _, h => by simp only [AV.ren, Rn] at *; exact h
  | .int _ _, _, _, h => by simp only [AV.ren, Rn] at *; exact h
  | .str _, _, _, h => by simp only [AV.ren, Rn] at *; exact h
  | .raw _, _, _, h => by simp only [AV.ren, Rn] at *; exact h
theorem RnL.comp (hp : p.Sub s) : ∀ (az l : List AV), bdL p.b.length p.t.length az = true → RnL s (renL p az) l → RnL (p.comp s) az l
  | [], _, _, h => by simp only [renL, RnL] at *; exact h
  | a :: az, _, hb, h => by simp only [bdL, Bool.and_eq_true] at hb; simp only [renL, RnL] at *; obtain ⟨v, vs, h1, h2, h3⟩ := h; exact ⟨v, vs, h1, Rn.comp hp a v hb.1 h2, RnL.comp hp az vs hb.2 h3⟩
end
mutual
theorem Rn.split (hp : p.Sub s) : ∀ (a v : AV), a.bd p.b.length p.t.length = true → Rn (p.comp s) a v → Rn s (a.ren p) v
  | .top, _, _, _ => by simp only [AV.ren, Rn]
  | .ptr b o, _, hb, h => by
    simp only [AV.ren, Rn] at *
    obtain ⟨x, h1, h2⟩ := h
    obtain ⟨y, e1, e2⟩ := comp_b' h1
    exact ⟨x, by rw [getD_of e1, getD_get (hp.b _ _ e1), e2], h2⟩
  | .ms t v, _, hb, h => by
    simp only [AV.ren, Rn] at *
    obtain ⟨x, h1, h2⟩ := h
    obtain ⟨y, e1, e2⟩ := comp_t' h1
    exact ⟨x, by rw [getD_of e1, getD_get (hp.t _ _ e1), e2], h2⟩
  | .mp t v k, _, hb, h => by
    simp only [AV.ren, Rn] at *
    obtain ⟨x, h1, h2⟩ := h
    obtain ⟨y, e1, e2⟩ := comp_t' h1
    exact ⟨x, by rw [getD_of e1, getD_get (hp.t _ _ e1), e2], h2⟩
  | .agg cs, _, hb, h => by simp only [AV.bd] at hb; simp only [AV.ren, Rn] at *; obtain ⟨l, h1, h2⟩ := h; exact ⟨l, h1, RnL.split hp cs l hb h2⟩
  | .tup cs, _, hb, h => by simp only [AV.bd] at hb; simp only [AV.ren, Rn] at *; obtain ⟨l, h1, h2⟩ := h; exact ⟨l, h1, RnL.split hp cs l hb h2⟩
  | .fn f cs, _, hb, h => by simp only [AV.bd] at hb; simp only [AV.ren, Rn] at *; obtain ⟨l, h1, h2⟩ := h; exact ⟨l, h1, RnL.split hp cs l hb h2⟩
  | .ifc t a, _, hb, h => by simp only [AV.bd] at hb; simp only [AV.ren, Rn] at *; obtain ⟨x, h1, h2⟩ := h; exact ⟨x, h1, Rn.split hp a x hb h2⟩
  | .vs n rows, _, hb, h => by simp only [AV.bd] at hb; simp only [AV.ren, Rn] at *; obtain ⟨l, h1, h2⟩ := h; exact ⟨l, h1, flatR_any hb h2⟩
  | .rp row o, _, hb, h => by simp only [AV.bd] at hb; simp only [AV.ren, Rn] at *; obtain ⟨l, h1, h2⟩ := h; exact ⟨l, h1, flatL_any hb h2⟩
  | .own t n rows, _, hb, h => by
    simp only [AV.bd, Bool.and_eq_true] at hb
    simp only [AV.ren, Rn] at *
    obtain ⟨x, l, h0, h1, h2⟩ := h
    obtain ⟨y, e1, e2⟩ := comp_t' h0
    exact ⟨x, l, by rw [getD_of e1, getD_get (hp.t _ _ e1), e2], h1, flatR_any hb.2 h2⟩
  | .bool _, _, _, h => by simp only [AV.ren, Rn] at *; exact h
  | .int _ _, _, _, h => by simp only [AV.ren, Rn] at *; exact h
  | .str _, _, _, h => by simp only [AV.ren, Rn] at *; exact h
  | .raw _, _, _, h => by simp only [AV.ren, Rn] at *; exact h
theorem RnL.split (hp : p.Sub s) : ∀ (az l : List AV), bdL p.b.length p.t.length az = true → RnL (p.comp s) az l → RnL s (renL p az) l
  | [], _, _, h => by simp only [renL, RnL] at *; exact h
  | a :: az, _, hb, h => by simp only [bdL, Bool.and_eq_true] at hb; simp only [renL, RnL] at *; obtain ⟨v, vs, h1, h2, h3⟩ := h; exact ⟨v, vs, h1, Rn.split hp a v hb.1 h2, RnL.split hp az vs hb.2 h3⟩
end
end
theorem OwR.any {s s' : Sg} {o i : Own} (hb : bdO o.con = true) (h : OwR s o i) : OwR s' o i := by
  obtain ⟨h1, h2, h3, h4, h5⟩ := h
  refine ⟨h1, h2, h3, h4, ?_⟩
  cases hc : o.con with
  | none => rw [hc] at h5; exact h5
  | some rows =>
    rw [hc] at h5 hb
    obtain ⟨l, e1, e2⟩ := h5
    exact ⟨l, e1, flatR_any hb e2⟩
def updB (p : Sg) (bl : BL) (H : Nat → Option (TypeId × List AV)) : Nat → Option (TypeId × List AV) := fun b => bif p.b.contains b then (match (bl.find? fun q => p.b.getD q.1 0 == b) with
      | some q => some (q.2.1, renL p q.2.2)
      | none => none) else H b
def updT (p : Sg) (tl : TL) (H : Nat → Option Own) : Nat → Option Own := fun t => bif p.t.contains t then (match (tl.find? fun q => p.t.getD q.1 0 == t) with
      | some q => some q.2
      | none => none) else H t
def CS.upd (c : CS) (p : Sg) (bl : BL) (tl : TL) : CS := ⟨⟨updB p bl c.H.blk, updT p tl c.H.tok⟩, c.nb, c.nt⟩
def hasP (H : Nat → Option (TypeId × List AV)) (p : Sg) : BL → Prop
  | [] => True
  | q :: l => H (p.b.getD q.1 0) = some (q.2.1, renL p q.2.2) ∧ hasP H p l
def hasPT (H : Nat → Option Own) (p : Sg) : TL → Prop
  | [] => True
  | q :: l => H (p.t.getD q.1 0) = some q.2 ∧ hasPT H p l
theorem hasP.get {H : Nat → Option (TypeId × List AV)} {p : Sg} : ∀ {l : BL}, hasP H p l → ∀ j T cs, lkB l j = some (T, cs) → H (p.b.getD j 0) = some (T, renL p cs)
  | [], _, _, _, _, e => by cases e
  | (k, x) :: l, h, j, T, cs, e => by
    simp only [hasP] at h
    simp only [lkB] at e
    cases hk : k == j with
    | true => rw [hk] at e; cases e
              have : k = j := by simpa using hk
              subst this; exact h.1
    | false => rw [hk] at e; exact hasP.get h.2 j T cs e
theorem hasPT.get {H : Nat → Option Own} {p : Sg} : ∀ {l : TL}, hasPT H p l → ∀ j o, lkT l j = some o → H (p.t.getD j 0) = some o
  | [], _, _, _, e => by cases e
  | (k, x) :: l, h, j, o, e => by
    simp only [hasPT] at h
    simp only [lkT] at e
    cases hk : k == j with
    | true => rw [hk] at e; cases e
              have : k = j := by simpa using hk
              subst this; exact h.1
    | false => rw [hk] at e; exact hasPT.get h.2 j o e
def nodupB : List Nat → Bool
  | [] => true
  | a :: l => !l.contains a && nodupB l
theorem nodupB_get : ∀ {l : List Nat}, nodupB l = true → ∀ (i j x : Nat), l[i]? = some x → l[j]? = some x → i = j
  | [], _, i, j, x, h, _ => by simp at h
  | a :: l, h, 0, 0, x, _, _ => rfl
  | a :: l, h, 0, j + 1, x, h1, h2 => by
    simp only [nodupB, Bool.and_eq_true, Bool.not_eq_true'] at h
    simp at h1 h2
    subst h1
    have := List.mem_of_getElem? h2
    simp [this] at h
  | a :: l, h, i + 1, 0, x, h1, h2 => by
    simp only [nodupB, Bool.and_eq_true, Bool.not_eq_true'] at h
    simp at h1 h2
    subst h2
    have := List.mem_of_getElem? h1
    simp [this] at h
  | a :: l, h, i + 1, j + 1, x, h1, h2 => by
    simp only [nodupB, Bool.and_eq_true] at h
    simp at h1 h2
    rw [nodupB_get h.2 i j x h1 h2]
def bdO1 (n t : Nat) : Out → Bool
  | .ret a => a.bd n t
  | .pan a => a.bd n t
def Out.ren (p : Sg) : Out → Out
  | .ret a => .ret (a.ren p)
  | .pan a => .pan (a.ren p)
theorem find_key {bl : BL} {p : Sg} {b : Nat} {q : Nat × TypeId × List AV} (h : bl.find? (fun q => p.b.getD q.1 0 == b) = some q) : q ∈ bl ∧ p.b.getD q.1 0 = b := ⟨List.mem_of_find?_eq_some h, by simpa using List.find?_some h⟩
section
variable {P : Program} {f : FuncId} {as0 : List AV} {c c0 : CS} {Q0 : Out → CS → Prop}
theorem FC.frame (p : Sg) {bl0 : BL} {tl0 : TL} {n t : Nat} {Q : Out → CS → Prop} (h : FC P f as0 (CS.of n t bl0 tl0) Q0) (hn : p.b.length = n) (ht : p.t.length = t)
    (hd : (nodupB p.b && nodupB p.t) = true) (hlb : ∀ (i x : Nat), p.b[i]? = some x → x < c.nb) (hlt : ∀ (i x : Nat), p.t[i]? = some x → x < c.nt) (hb : (bdL n t as0 && (bdB n t bl0 && bdT n t tl0)) = true) (hB : hasP c.H.blk p bl0) (hT : hasPT c.H.tok p tl0)
    (hq : ∀ o c1, Q0 o c1 → ∃ bl tl, HasB c1.H bl ∧ HasT c1.H tl ∧ (bdB n t bl && (bdT n t tl && bdO1 n t o)) = true ∧ Q (o.ren p) (c.upd p bl tl)) : FC P f (renL p as0) c Q := fun H0 s az' H ha hr => by
  subst hn ht
  simp only [Bool.and_eq_true] at hd hb
  obtain ⟨hd1, hd2⟩ := hd
  obtain ⟨hb1, hb2, hb3⟩ := hb
  have hp : p.Sub s := ⟨fun i x e => by rw [← hr.nb]; exact hlb i x e, fun i x e => by rw [← hr.nt]; exact hlt i x e⟩
  have hsb : ∀ {i x : Nat}, p.b[i]? = some x → s.b[x]? = some (s.b.getD x 0) := fun e => getD_get (hp.b _ _ e)
  have hst : ∀ {i x : Nat}, p.t[i]? = some x → s.t[x]? = some (s.t.getD x 0) := fun e => getD_get (hp.t _ _ e)
  let H0c : AHeap := ⟨fun x => if x ∈ (p.comp s).b then none else H.blk x, fun x => if x ∈ (p.comp s).t then none else H.tok x⟩
  have hrc : HRc H0c (p.comp s) (CS.of p.b.length p.t.length bl0 tl0) H := by
    refine ⟨⟨⟨fun x y e => ?_, fun x y e => ?_⟩, fun b T cs e => ?_, fun b o e => ?_, fun b x e => ?_, fun b x e => ?_, fun b b' x e e' => ?_, fun b b' x e e' => ?_⟩, by simp [CS.of, Sg.comp], by simp [CS.of, Sg.comp]⟩
    · simp only [H0c] at e
      split at e
      · cases e
      · exact e
    · simp only [H0c] at e
      split at e
      · cases e
      · exact e
    · obtain ⟨g1, g2⟩ := bdB_get hb2 b T cs e
      have g0 := getD_get (blt_lt g1)
      obtain ⟨x, cs', q1, q2, q3⟩ := hr.blk _ _ _ (hB.get b T cs e)
      exact ⟨x, cs', by rw [comp_b g0, getD_of q1], q2, RnL.comp hp cs cs' g2 q3⟩
    · obtain ⟨g1, g2⟩ := bdT_get hb3 b o e
      have g0 := getD_get (blt_lt g1)
      obtain ⟨x, o', q1, q2, q3⟩ := hr.tok _ _ (hT.get b o e)
      exact ⟨x, o', by rw [comp_t g0, getD_of q1], q2, OwR.any g2 q3⟩
    · obtain ⟨y, e1, e2⟩ := comp_b' e
      have h3 := hsb e1
      rw [e2] at h3
      refine ⟨?_, (hr.newb y x h3).2⟩
      show (if x ∈ (p.comp s).b then none else H.blk x) = none
      rw [if_pos (List.mem_of_getElem? e)]
    · obtain ⟨y, e1, e2⟩ := comp_t' e
      have h3 := hst e1
      rw [e2] at h3
      refine ⟨?_, (hr.newt y x h3).2⟩
      show (if x ∈ (p.comp s).t then none else H.tok x) = none
      rw [if_pos (List.mem_of_getElem? e)]
    · obtain ⟨y, e1, e2⟩ := comp_b' e
      obtain ⟨y', e1', e2'⟩ := comp_b' e'
      have h3 := hsb e1
      have h3' := hsb e1'
      rw [e2] at h3
      rw [e2'] at h3'
      have := hr.injb _ _ _ h3 h3'
      subst this
      exact nodupB_get hd1 _ _ _ e1 e1'
    · obtain ⟨y, e1, e2⟩ := comp_t' e
      obtain ⟨y', e1', e2'⟩ := comp_t' e'
      have h3 := hst e1
      have h3' := hst e1'
      rw [e2] at h3
      rw [e2'] at h3'
      have := hr.injt _ _ _ h3 h3'
      subst this
      exact nodupB_get hd2 _ _ _ e1 e1'
  refine (h H0c (p.comp s) az' H (RnL.comp hp as0 az' hb1 ha) hrc).mono fun o' H' ⟨s', o, c1, a1, a2, a3, a4⟩ => ?_
  obtain ⟨bl, tl, g1, g2, g3, g4⟩ := hq o c1 a2
  simp only [Bool.and_eq_true] at g3
  obtain ⟨g3, g5, g6⟩ := g3
  have a5 := a4.cut g1 g2 (n := p.b.length) (t := p.t.length) (by
    rw [a4.nb]
    by_cases e0 : p.b.length = 0
    · omega
    · have e1 : (p.comp s).b[p.b.length - 1]? = some ((p.comp s).b.getD (p.b.length - 1) 0) := getD_get (by simp only [Sg.comp, List.length_map]; omega)
      have := (List.getElem?_eq_some_iff.1 (a1.b _ _ e1)).1
      omega) (by
    rw [a4.nt]
    by_cases e0 : p.t.length = 0
    · omega
    · have e1 : (p.comp s).t[p.t.length - 1]? = some ((p.comp s).t.getD (p.t.length - 1) 0) := getD_get (by simp only [Sg.comp, List.length_map]; omega)
      have := (List.getElem?_eq_some_iff.1 (a1.t _ _ e1)).1
      omega) g3 g5
  have es : (⟨s'.b.take p.b.length, s'.t.take p.t.length⟩ : Sg) = p.comp s := by
    have q1 : s'.b.take p.b.length = (p.comp s).b := by
      apply List.ext_getElem?
      intro i
      rw [List.getElem?_take]
      split
      · rename_i hi
        have := getD_get (l := (p.comp s).b) (i := i) (by simp only [Sg.comp, List.length_map]; exact hi)
        rw [this, a1.b _ _ this]
      · rename_i hi
        rw [List.getElem?_eq_none (by simp only [Sg.comp, List.length_map]; omega)]
    have q2 : s'.t.take p.t.length = (p.comp s).t := by
      apply List.ext_getElem?
      intro i
      rw [List.getElem?_take]
      split
      · rename_i hi
        have := getD_get (l := (p.comp s).t) (i := i) (by simp only [Sg.comp, List.length_map]; exact hi)
        rw [this, a1.t _ _ this]
      · rename_i hi
        rw [List.getElem?_eq_none (by simp only [Sg.comp, List.length_map]; omega)]
    rw [q1, q2]
  have a3' : RnO (p.comp s) o o' := by
    rw [← es]
    cases o <;> cases o' <;> simp only [RnO, bdO1] at a3 g6 ⊢
    · exact Rn.cut _ _ a3 g6
    · exact Rn.cut _ _ a3 g6
  rw [es] at a5
  have hbase : HSub H0 H' := ⟨fun x y e => a4.base.blk x y (by
      show (if x ∈ (p.comp s).b then none else H.blk x) = some y
      rw [if_neg ?_, hr.base.blk x y e]
      intro hm
      obtain ⟨i, hi⟩ := List.getElem?_of_mem hm
      obtain ⟨z, e1, e2⟩ := comp_b' hi
      have h3 := hsb e1
      rw [e2] at h3
      rw [(hr.newb _ _ h3).1] at e
      cases e), fun x y e => a4.base.tok x y (by
      show (if x ∈ (p.comp s).t then none else H.tok x) = some y
      rw [if_neg ?_, hr.base.tok x y e]
      intro hm
      obtain ⟨i, hi⟩ := List.getElem?_of_mem hm
      obtain ⟨z, e1, e2⟩ := comp_t' hi
      have h3 := hst e1
      rw [e2] at h3
      rw [(hr.newt _ _ h3).1] at e
      cases e)⟩
  have hmb : ∀ {b x : Nat}, s.b[b]? = some x → (x ∈ (p.comp s).b ↔ b ∈ p.b) := by
    intro b x e
    constructor
    · intro hm
      obtain ⟨i, hi⟩ := List.getElem?_of_mem hm
      obtain ⟨z, e1, e2⟩ := comp_b' hi
      have h3 := hsb e1
      rw [e2] at h3
      rw [hr.injb _ _ _ e h3]
      exact List.mem_of_getElem? e1
    · intro hm
      obtain ⟨i, hi⟩ := List.getElem?_of_mem hm
      have := comp_b (s := s) hi
      rw [getD_of e] at this
      exact List.mem_of_getElem? this
  have hmt : ∀ {b x : Nat}, s.t[b]? = some x → (x ∈ (p.comp s).t ↔ b ∈ p.t) := by
    intro b x e
    constructor
    · intro hm
      obtain ⟨i, hi⟩ := List.getElem?_of_mem hm
      obtain ⟨z, e1, e2⟩ := comp_t' hi
      have h3 := hst e1
      rw [e2] at h3
      rw [hr.injt _ _ _ e h3]
      exact List.mem_of_getElem? e1
    · intro hm
      obtain ⟨i, hi⟩ := List.getElem?_of_mem hm
      have := comp_t (s := s) hi
      rw [getD_of e] at this
      exact List.mem_of_getElem? this
  refine ⟨o', H', by cases o' <;> exact AVLe.refl _, HSub.refl _, s, o.ren p, c.upd p bl tl, Sg.Le.refl s, g4, ?_, ⟨⟨hbase, fun b T cs e => ?_, fun b ow e => ?_, fun b x e => ?_, fun b x e => ?_, hr.injb, hr.injt⟩, hr.nb, hr.nt⟩⟩
  · cases o <;> cases o' <;> simp only [RnO, Out.ren, bdO1] at a3' g6 ⊢
    · exact Rn.split hp _ _ g6 a3'
    · exact Rn.split hp _ _ g6 a3'
  · simp only [CS.upd, updB] at e
    cases hm : p.b.contains b with
    | false =>
      rw [hm, cond_false] at e
      obtain ⟨x, cs', q1, q2, q3⟩ := hr.blk b T cs e
      refine ⟨x, cs', q1, a4.base.blk x _ ?_, q3⟩
      show (if x ∈ (p.comp s).b then none else H.blk x) = _
      rw [if_neg ?_, q2]
      rw [hmb q1]
      intro hh
      simp [hh] at hm
    | true =>
      rw [hm, cond_true] at e
      split at e
      · rename_i q hq
        obtain ⟨k1, k2⟩ := find_key hq
        cases e
        obtain ⟨kk, T0, cs0⟩ := q
        simp only at k2 ⊢
        have hlk : kk < p.b.length ∧ bdL p.b.length p.t.length cs0 = true ∧ ∃ x cs', (p.comp s).b[kk]? = some x ∧ H'.blk x = some (T0, cs') ∧ RnL (p.comp s) cs0 cs' := by
          have hall : ∀ (l : BL), HasB c1.H l → bdB p.b.length p.t.length l = true → (kk, T0, cs0) ∈ l → c1.H.blk kk = some (T0, cs0) ∧ kk < p.b.length ∧ bdL p.b.length p.t.length cs0 = true := by
            intro l
            induction l with
            | nil => intro _ _ h; simp at h
            | cons q l ih =>
              intro h1 h2 h3
              simp only [HasB] at h1
              simp only [bdB, Bool.and_eq_true, Nat.blt_eq] at h2
              simp only [List.mem_cons] at h3
              rcases h3 with h3 | h3
              · subst h3; exact ⟨h1.1, h2.1, h2.2.1⟩
              · exact ih h1.2 h2.2.2 h3
          obtain ⟨r1, r2, r3⟩ := hall bl g1 g3 k1
          obtain ⟨x, cs', u1, u2, u3⟩ := a4.blk kk T0 cs0 r1
          have u4 : (p.comp s).b[kk]? = some x := by
            have w := getD_get (l := (p.comp s).b) (i := kk) (by simp only [Sg.comp, List.length_map]; exact r2)
            have w2 := a1.b _ _ w
            rw [u1] at w2
            cases w2
            exact w
          refine ⟨r2, r3, x, cs', u4, u2, ?_⟩
          have := RnL.cut (n := p.b.length) (t := p.t.length) _ _ u3 r3
          rw [es] at this
          exact this
        obtain ⟨r2, r3, x, cs', u1, u2, u3⟩ := hlk
        obtain ⟨y, e1, e2⟩ := comp_b' u1
        have h3 := hsb e1
        rw [e2] at h3
        rw [getD_of e1] at k2
        subst k2
        exact ⟨x, cs', h3, u2, RnL.split hp cs0 cs' r3 u3⟩
      · cases e
  · simp only [CS.upd, updT] at e
    cases hm : p.t.contains b with
    | false =>
      rw [hm, cond_false] at e
      obtain ⟨x, cs', q1, q2, q3⟩ := hr.tok b ow e
      refine ⟨x, cs', q1, a4.base.tok x _ ?_, q3⟩
      show (if x ∈ (p.comp s).t then none else H.tok x) = _
      rw [if_neg ?_, q2]
      rw [hmt q1]
      intro hh
      simp [hh] at hm
    | true =>
      rw [hm, cond_true] at e
      split at e
      · rename_i q hq
        have k1 := List.mem_of_find?_eq_some hq
        have k2 : p.t.getD q.1 0 = b := by simpa using List.find?_some hq
        cases e
        obtain ⟨kk, o0⟩ := q
        simp only at k2 ⊢
        have hall : ∀ (l : TL), HasT c1.H l → bdT p.b.length p.t.length l = true → (kk, o0) ∈ l → c1.H.tok kk = some o0 ∧ kk < p.t.length ∧ bdO o0.con = true := by
          intro l
          induction l with
          | nil => intro _ _ h; simp at h
          | cons q l ih =>
            intro h1 h2 h3
            simp only [HasT] at h1
            simp only [bdT, Bool.and_eq_true, Nat.blt_eq] at h2
            simp only [List.mem_cons] at h3
            rcases h3 with h3 | h3
            · subst h3; exact ⟨h1.1, h2.1, h2.2.1⟩
            · exact ih h1.2 h2.2.2 h3
        obtain ⟨r1, r2, r3⟩ := hall tl g2 g5 k1
        obtain ⟨x, o1, u1, u2, u3⟩ := a4.tok kk o0 r1
        have u4 : (p.comp s).t[kk]? = some x := by
          have w := getD_get (l := (p.comp s).t) (i := kk) (by simp only [Sg.comp, List.length_map]; exact r2)
          have w2 := a1.t _ _ w
          rw [u1] at w2
          cases w2
          exact w
        obtain ⟨y, e1, e2⟩ := comp_t' u4
        have h3 := hst e1
        rw [e2] at h3
        rw [getD_of e1] at k2
        subst k2
        exact ⟨x, o1, h3, u2, OwR.any r3 u3⟩
      · cases e
  · obtain ⟨q1, y, q2⟩ := hr.newb b x e
    refine ⟨q1, ?_⟩
    by_cases hm : x ∈ (p.comp s).b
    · obtain ⟨i, hi⟩ := List.getElem?_of_mem hm
      exact (a4.newb i x (a1.b _ _ hi)).2
    · exact ⟨y, a4.base.blk x y (by show (if x ∈ (p.comp s).b then none else H.blk x) = some y; rw [if_neg hm]; exact q2)⟩
  · obtain ⟨q1, y, q2⟩ := hr.newt b x e
    refine ⟨q1, ?_⟩
    by_cases hm : x ∈ (p.comp s).t
    · obtain ⟨i, hi⟩ := List.getElem?_of_mem hm
      exact (a4.newt i x (a1.t _ _ hi)).2
    · exact ⟨y, a4.base.tok x y (by show (if x ∈ (p.comp s).t then none else H.tok x) = some y; rw [if_neg hm]; exact q2)⟩
def Ro (v : AV) (bl : BL) (tl : TL) : Out → CS → Prop := fun o c => o = .ret v ∧ HasB c.H bl ∧ HasT c.H tl
theorem FC.fr (p : Sg) {bl0 bl1 : BL} {tl0 tl1 : TL} {n t : Nat} {v : AV} (h : FC P f as0 (CS.of n t bl0 tl0) (Ro v bl1 tl1)) (hn : p.b.length = n) (ht : p.t.length = t)
    (hd : (nodupB p.b && nodupB p.t && p.b.all (fun x => Nat.blt x c.nb) && p.t.all (fun x => Nat.blt x c.nt)) = true) (hB : hasP c.H.blk p bl0) (hT : hasPT c.H.tok p tl0) (hb : (bdL n t as0 && (bdB n t bl0 && bdT n t tl0)) = true)
    (h1 : (bdB n t bl1 && (bdT n t tl1 && v.bd n t)) = true) {az : List AV} (ha : az = renL p as0) : FC P f az c (Rt (v.ren p) (c.upd p bl1 tl1)) := by
  simp only [Bool.and_eq_true, List.all_eq_true] at hd
  obtain ⟨⟨⟨d1, d2⟩, d3⟩, d4⟩ := hd
  subst ha
  refine FC.frame p h hn ht (by rw [d1, d2]; rfl) (fun i x e => blt_lt (d3 x (List.mem_of_getElem? e))) (fun i x e => blt_lt (d4 x (List.mem_of_getElem? e))) hb hB hT ?_
  rintro o c1 ⟨rfl, h2, h3⟩
  exact ⟨bl1, tl1, h2, h3, h1, rfl, rfl⟩
end
end Go.Aw
namespace Go.Aw
open Go
set_option linter.unusedVariables false
set_option linter.unusedSimpArgs false
section
variable {P : Program} {rs : List ERes} {n0 t0 : Nat} {k : List JI} {Q : Out → CS → Prop} {env : Env} {c c1 : CS} {v r : AV} {anns : List AV} {l : List EI} {K : Env → CS → Prop} {Rp : AV → CS → Prop} {d : Option Nat} {g : Option (Nat × Bool)} {x y i : EOpd} {ik : IntKind} {size : Nat} {rows new : List (List AV)} {row : List AV} {a b : List UInt8} {z z' : Int}
theorem cidx_eq {z : Int} {len : Nat} (h0 : 0 ≤ z) (h1 : z < len) : cidx z len = some z.toNat := by
  match z, h0, h1 with
  | .ofNat n, _, h1 =>
    have : Nat.blt n len = true := Nat.blt_eq.symm ▸ Int.ofNat_lt.1 h1
    simp only [cidx, this, cond_true]
    rfl
theorem ofNat_of {z : Int} (h0 : 0 ≤ z) : ∃ n : Nat, z = .ofNat n ∧ z.toNat = n := ⟨z.toNat, (Int.toNat_of_nonneg h0).symm, rfl⟩
theorem DJ.cat (hw : wanted ⟨d, g, .bin .add x y⟩ env = some true) (hx : cev env x = .str a) (hy : cev env y = .str b) (hb : a.length + b.length ≤ maxLen) (h : DJ P anns l (env.put d (.str (a ++ b))) c K Rp) : DJ P anns (⟨d, g, .bin .add x y⟩ :: l) env c K Rp :=
  DJ.o hw rfl (by simp only [ost, cstp, cpv, hx, hy, cbin, Nat.ble_eq_true_of_le hb, cond_true] <;> rfl) h
theorem DJ.quo (hw : wanted ⟨d, g, .bin .quo x y⟩ env = some true) (hx : cev env x = .int ik z) (hy : cev env y = .int ik z') (hb : z' ≠ 0) (h : DJ P anns l (env.put d (.int ik (ik.wrap (z.tdiv z')))) c K Rp) : DJ P anns (⟨d, g, .bin .quo x y⟩ :: l) env c K Rp :=
  DJ.o hw rfl (by simp only [ost, cstp, cpv, hx, hy, cbin, if_true, if_neg hb] <;> rfl) h
theorem DJ.rem (hw : wanted ⟨d, g, .bin .rem x y⟩ env = some true) (hx : cev env x = .int ik z) (hy : cev env y = .int ik z') (hb : z' ≠ 0) (h : DJ P anns l (env.put d (.int ik (z.tmod z'))) c K Rp) : DJ P anns (⟨d, g, .bin .rem x y⟩ :: l) env c K Rp :=
  DJ.o hw rfl (by simp only [ost, cstp, cpv, hx, hy, cbin, if_true, if_neg hb] <;> rfl) h
theorem DJ.ixv (hw : wanted ⟨d, g, .iaddr size x i⟩ env = some true) (hx : cev env x = .vs size rows) (hi : cev env i = .int ik z) (h0 : 0 ≤ z) (hr : rows[z.toNat]? = some row) (h : DJ P anns l (env.put d (.rp row 0)) c K Rp) : DJ P anns (⟨d, g, .iaddr size x i⟩ :: l) env c K Rp := by
  obtain ⟨n, e1, e2⟩ := ofNat_of h0
  rw [e2] at hr
  subst e1
  exact DJ.o hw rfl (by simp only [ost, cstp, cpv, hx, hi, beq_self_eq_true, cond_true, hr] <;> rfl) h
theorem DJ.ixo {t : Nat} (hw : wanted ⟨d, g, .iaddr size x i⟩ env = some true) (hx : cev env x = .own t size rows) (hi : cev env i = .int ik z) (h0 : 0 ≤ z) (hr : rows[z.toNat]? = some row) (h : DJ P anns l (env.put d (.rp row 0)) c K Rp) : DJ P anns (⟨d, g, .iaddr size x i⟩ :: l) env c K Rp := by
  obtain ⟨n, e1, e2⟩ := ofNat_of h0
  rw [e2] at hr
  subst e1
  exact DJ.o hw rfl (by simp only [ost, cstp, cpv, hx, hi, beq_self_eq_true, cond_true, hr] <;> rfl) h
theorem DJ.ixs {u : UInt8} (hw : wanted ⟨d, g, .idxS x i⟩ env = some true) (hx : cev env x = .str a) (hi : cev env i = .int ik z) (h0 : 0 ≤ z) (hr : a[z.toNat]? = some u) (h : DJ P anns l (env.put d (.int .u8 u.toNat)) c K Rp) : DJ P anns (⟨d, g, .idxS x i⟩ :: l) env c K Rp := by
  obtain ⟨n, e1, e2⟩ := ofNat_of h0
  rw [e2] at hr
  subst e1
  exact DJ.o hw rfl (by simp only [ost, cstp, cpv, hx, hi, hr] <;> rfl) h
theorem DJ.sls {lo hi : Option EOpd} {p q : Nat} (hw : wanted ⟨d, g, .slS x lo hi⟩ env = some true) (hx : cev env x = .str a) (hl : coptNat env 0 lo = some p) (hh : coptNat env a.length hi = some q) (h1 : p ≤ q) (h2 : q ≤ a.length) (h : DJ P anns l (env.put d (.str ((a.take q).drop p))) c K Rp) : DJ P anns (⟨d, g, .slS x lo hi⟩ :: l) env c K Rp :=
  DJ.o hw rfl (by simp only [ost, cstp, cpv, hx, hl, hh, Nat.ble_eq_true_of_le h1, Nat.ble_eq_true_of_le h2, Bool.and_true, cond_true] <;> rfl) h
theorem DJ.slv {lo hi : Option EOpd} {p q : Nat} (hw : wanted ⟨d, g, .slV size x lo hi none⟩ env = some true) (hx : slRows size (cev env x) = some rows) (hl : coptNat env 0 lo = some p) (hh : coptNat env rows.length hi = some q) (h1 : p ≤ q) (h2 : q ≤ rows.length) (h : DJ P anns l (env.put d (.vs size ((rows.take q).drop p))) c K Rp) : DJ P anns (⟨d, g, .slV size x lo hi none⟩ :: l) env c K Rp :=
  DJ.o hw rfl (by simp only [ost, cstp, cpv, hx, hl, hh, Nat.ble_eq_true_of_le h1, Nat.ble_eq_true_of_le h2, Bool.and_true, cond_true] <;> rfl) h
theorem optN {env : Env} {df : Nat} {x : EOpd} {z : Int} (hx : cev env x = .int ik z) (h0 : 0 ≤ z) : coptNat env df (some x) = some z.toNat := by
  obtain ⟨n, e1, e2⟩ := ofNat_of h0
  subst e1
  simp only [coptNat, hx]
  rfl
theorem DJ.ap {T bytes t : Nat} (hw : wanted ⟨d, g, .append T size bytes x y⟩ env = some true) (hx : cev env x = .own t size rows) (ht : c.H.tok t = some (.frz T size rows.length)) (hy : rowsOf size (cev env y) = some new) (hb : (rows.length + new.length) * bytes ≤ 140737488355328) (hm : rows.length + new.length ≤ maxLen) (h : DJ P anns l (env.put d (.own t size (rows ++ new))) (c.setT t (.frz T size (rows.length + new.length))) K Rp) : DJ P anns (⟨d, g, .append T size bytes x y⟩ :: l) env c K Rp :=
  DJ.o hw rfl (by simp only [ost, cstp, hy, hx, capp, ht, Own.frz, beq_self_eq_true, Nat.ble_eq_true_of_le hb, Nat.ble_eq_true_of_le hm, Bool.and_true, cond_true] <;> rfl) h
theorem DJ.cvs (hw : wanted ⟨d, g, .convS false x⟩ env = some true) (hx : cev env x = .vs 1 rows) (hb : byteRows rows = some a) (h : DJ P anns l (env.put d (.str a)) c K Rp) : DJ P anns (⟨d, g, .convS false x⟩ :: l) env c K Rp :=
  DJ.o hw rfl (by simp only [ost, cstp, cpv, hx, hb] <;> rfl) h
theorem DJ.cvo {t : Nat} (hw : wanted ⟨d, g, .convS false x⟩ env = some true) (hx : cev env x = .own t 1 rows) (hb : byteRows rows = some a) (h : DJ P anns l (env.put d (.str a)) c K Rp) : DJ P anns (⟨d, g, .convS false x⟩ :: l) env c K Rp :=
  DJ.o hw rfl (by simp only [ost, cstp, cpv, hx, hb] <;> rfl) h
theorem IJ.isnilU {neg : Bool} (hx : cev env x = .vs size rows) : IJ P (.isnil neg x) env c (fun v c' => (∃ b, v = .bool b) ∧ c' = c) Rp := fun H0 s env' H K Rp he hr hK hRp => by
  have hx' := cev_eq he hx
  simp only [Rn] at hx'
  obtain ⟨l, g1, g2⟩ := hx'
  exact .isnilU g1 fun b => hK s (.bool b) (.bool b) c H (Sg.Le.refl s) ⟨⟨b, rfl⟩, rfl⟩ (by simp only [Rn]) hr
theorem env_same2 {env : Env} {j : Nat} {v : AV} (h : env.get j = v) : ∀ i, Env.get ((j, v) :: env) i = env.get i := fun i => by
  simp only [Env.get]
  cases hi : j == i with
  | true => have : j = i := by simpa using hi
            subst this; exact h.symm
  | false => rfl
theorem DJ.gs {j : Nat} {t : Bool} {op : EOp} {b : Bool} (hb : env.get j = .bool b) (h1 : b = true → DJ P anns (⟨d, some (j, t), op⟩ :: l) ((j, .bool true) :: env) c K Rp) (h2 : b = false → DJ P anns (⟨d, some (j, t), op⟩ :: l) ((j, .bool false) :: env) c K Rp) : DJ P anns (⟨d, some (j, t), op⟩ :: l) env c K Rp := fun H0 s env' H K' Rp' he hr hK hRp => by
  cases b with
  | true => exact h1 rfl H0 s env' H K' Rp' (fun i => by rw [env_same2 hb i]; exact he i) hr hK hRp
  | false => exact h2 rfl H0 s env' H K' Rp' (fun i => by rw [env_same2 hb i]; exact he i) hr hK hRp
theorem J.reg0 {ops : List EI} {draw : Bool} (h : DJ P [] ops env c (fun e c1 => J P rs n0 t0 k Q e c1) (fun v c1 => Q (.pan v) c1)) : J P rs n0 t0 (.c (.region ops draw) :: k) Q env c := J.reg h
theorem DJ.ixn {p d : Nat} (hr : rows[p]? = some row) (hx : cev env x = .vs size rows) (hi : cev env i = .int ik z) (e : z = p) (h : DJ P anns l ((d, .rp row 0) :: env) c K Rp) : DJ P anns (⟨some d, none, .iaddr size x i⟩ :: l) env c K Rp := DJ.ixv rfl hx hi (by omega) (by rw [e, Int.toNat_natCast]; exact hr) h
theorem DJ.ixon {p d t : Nat} (hr : rows[p]? = some row) (hx : cev env x = .own t size rows) (hi : cev env i = .int ik z) (e : z = p) (h : DJ P anns l ((d, .rp row 0) :: env) c K Rp) : DJ P anns (⟨some d, none, .iaddr size x i⟩ :: l) env c K Rp := DJ.ixo rfl hx hi (by omega) (by rw [e, Int.toNat_natCast]; exact hr) h
theorem DJ.ixsn {p d : Nat} {u : UInt8} (hr : a[p]? = some u) (hx : cev env x = .str a) (hi : cev env i = .int ik z) (e : z = p) (h : DJ P anns l ((d, .int .u8 u.toNat) :: env) c K Rp) : DJ P anns (⟨some d, none, .idxS x i⟩ :: l) env c K Rp := DJ.ixs rfl hx hi (by omega) (by rw [e, Int.toNat_natCast]; exact hr) h
theorem optN' {env : Env} {df : Nat} {x : EOpd} {z : Int} {p : Nat} (hx : cev env x = .int ik z) (e : z = p) : coptNat env df (some x) = some p := by subst e; rw [optN hx (by omega), Int.toNat_natCast]
theorem DJ.slv1 {lo : EOpd} (p : Nat) {d : Nat} (hx : slRows size (cev env x) = some rows) (hl : cev env lo = .int ik z) (e1 : z = p) (h1 : p ≤ rows.length) (h : DJ P anns l ((d, .vs size (rows.drop p)) :: env) c K Rp) : DJ P anns (⟨some d, none, .slV size x (some lo) none none⟩ :: l) env c K Rp := DJ.slv rfl hx (optN' hl e1) rfl h1 (Nat.le_refl _) (by rw [List.take_length]; exact h)
theorem DJ.sls2 {lo hi : EOpd} (p q : Nat) {d : Nat} {ik' : IntKind} (hx : cev env x = .str a) (hl : cev env lo = .int ik z) (hh : cev env hi = .int ik' z') (e1 : z = p) (e2 : z' = q) (h1 : p ≤ q) (h2 : q ≤ a.length) (h : DJ P anns l ((d, .str ((a.take q).drop p)) :: env) c K Rp) : DJ P anns (⟨some d, none, .slS x (some lo) (some hi)⟩ :: l) env c K Rp := DJ.sls rfl hx (optN' hl e1) (optN' hh e2) h1 h2 h
theorem DJ.sls1 {lo : EOpd} (p : Nat) {d : Nat} (hx : cev env x = .str a) (hl : cev env lo = .int ik z) (e1 : z = p) (h1 : p ≤ a.length) (h : DJ P anns l ((d, .str (a.drop p)) :: env) c K Rp) : DJ P anns (⟨some d, none, .slS x (some lo) none⟩ :: l) env c K Rp := DJ.sls rfl hx (optN' hl e1) rfl h1 (Nat.le_refl _) (by rw [List.take_length]; exact h)
theorem DJ.sls0 {hi : EOpd} (q : Nat) {d : Nat} (hx : cev env x = .str a) (hl : cev env hi = .int ik z) (e1 : z = q) (h1 : q ≤ a.length) (h : DJ P anns l ((d, .str (a.take q)) :: env) c K Rp) : DJ P anns (⟨some d, none, .slS x none (some hi)⟩ :: l) env c K Rp := DJ.sls rfl hx rfl (optN' hl e1) (Nat.zero_le _) h1 h
theorem DJ.cat' {d : Nat} (hx : cev env x = .str a) (hy : cev env y = .str b) (hb : a.length + b.length ≤ maxLen) (h : DJ P anns l ((d, .str (a ++ b)) :: env) c K Rp) : DJ P anns (⟨some d, none, .bin .add x y⟩ :: l) env c K Rp := DJ.cat rfl hx hy hb h
theorem DJ.ap' {T bytes t d : Nat} (hx : cev env x = .own t size rows) (ht : c.H.tok t = some (.frz T size rows.length)) (hy : rowsOf size (cev env y) = some new) (hb : (rows.length + new.length) * bytes ≤ 140737488355328) (hm : rows.length + new.length ≤ maxLen) (h : DJ P anns l ((d, .own t size (rows ++ new)) :: env) (c.setT t (.frz T size (rows.length + new.length))) K Rp) : DJ P anns (⟨some d, none, .append T size bytes x y⟩ :: l) env c K Rp := DJ.ap rfl hx ht hy hb hm h
theorem mget {α β : Type} (f : α → β) {l : List α} {i : Nat} {v : α} (h : l[i]? = some v) : (l.map f)[i]? = some (f v) := by simp [h]
theorem DJ.ixm {α : Type} {f : α → List AV} {w : α} {m : List α} {p d : Nat} (hx : cev env x = .vs size (m.map f)) (hi : cev env i = .int ik z) (hr : m[p]? = some w) (e : z = p) (h : DJ P anns l ((d, .rp (f w) 0) :: env) c K Rp) : DJ P anns (⟨some d, none, .iaddr size x i⟩ :: l) env c K Rp := DJ.ixn (mget f hr) hx hi e h
theorem DJ.ixom {α : Type} {f : α → List AV} {w : α} {m : List α} {p d t : Nat} (hx : cev env x = .own t size (m.map f)) (hi : cev env i = .int ik z) (hr : m[p]? = some w) (e : z = p) (h : DJ P anns l ((d, .rp (f w) 0) :: env) c K Rp) : DJ P anns (⟨some d, none, .iaddr size x i⟩ :: l) env c K Rp := DJ.ixon (mget f hr) hx hi e h
theorem DJ.ixsm {u : UInt8} {p d : Nat} (hx : cev env x = .str a) (hi : cev env i = .int ik z) (hr : a[p]? = some u) (e : z = p) (h : DJ P anns l ((d, .int .u8 u.toNat) :: env) c K Rp) : DJ P anns (⟨some d, none, .idxS x i⟩ :: l) env c K Rp := DJ.ixsn hr hx hi e h
theorem J.ghE (j size T : Nat) (hj : env.get j = .nilS) (h0 : size ≠ 0) (h : J P rs n0 t0 k Q ((j, .own c.nt size []) :: env) (c.addT (.frz T size 0))) : J P rs n0 t0 k Q env c := fun H0 s0 s env' H R hn ht hs he hr hR => by
  refine AM.conv (fun e' H' => ∃ t, H.tok t = none ∧ e' = (j, .own t size []) :: env' ∧ H' = H.setT t (.frz T size 0)) ?_ ?_
  · intro m hH rh
    subst hH
    obtain ⟨r1, e1, v1⟩ := new_tok_nil rh (T := T) h0
    refine ⟨_, _, _, _, ⟨m.T, tok_new rh, rfl, rfl⟩, r1, e1, fun i w hw => ?_⟩
    simp only [Env.get]
    cases hi : j == i with
    | true =>
      have : j = i := by simpa using hi
      subst this
      have hg := he j
      rw [hj] at hg
      simp only [Rn] at hg
      rw [hg] at hw
      simp only [Rv] at hw
      subst hw
      exact v1
    | false => exact Rv.ev e1 _ _ hw
  · rintro e' H' ⟨t, h1, rfl, rfl⟩
    refine h H0 s0 ⟨s.b, s.t ++ [t]⟩ _ _ R hn ht (hs.trans (Sg.leT s t)) ?_ (hr.addT OwR.frz h1) hR
    refine (he.mono (Sg.leT s t)).put (d := some j) ?_
    simp only [Rn]
    exact ⟨t, [], by rw [hr.nt]; exact app_right, rfl, by simp only [RnR]⟩
theorem J.ghB (p o size Te : Nat) {T : TypeId} {cs : List AV} (hb : c.H.blk p = some (T, cs)) (ho : cs[o]? = some .nilS) (h0 : size ≠ 0) (h : J P rs n0 t0 k Q env ((c.addT (.frz Te size 0)).setB p T (cs.set o (.own c.nt size [])))) : J P rs n0 t0 k Q env c := fun H0 s0 s env' H R hn ht hs he hr hR => by
  obtain ⟨x, cs', q1, q2, q3⟩ := hr.blk p T cs hb
  have ho' : cs'[o]? = some .nilS := by
    obtain ⟨v, e1, e2⟩ := q3.get o _ ho
    simp only [Rn] at e2
    rw [e1, e2]
  refine AM.conv (fun e' H' => ∃ t, H.tok t = none ∧ e' = env' ∧ H' = (H.setT t (.frz Te size 0)).setB x T (cs'.set o (.own t size []))) ?_ ?_
  · intro m hH rh
    subst hH
    obtain ⟨r1, e1, v1⟩ := new_tok_nil rh (T := Te) h0
    obtain ⟨l, hl1, hl2, hl3⟩ := r1.blk x T cs' q2
    obtain ⟨v, hv1, hv2⟩ := hl2.get o _ ho'
    simp only [Rv] at hv2
    subst hv2
    have hl4 := hl2.set o v1
    rw [list_set_same hv1] at hl4
    have r2 := RH.st r1 (w' := m.w) (b := x) (T := T) q2 rfl rfl rfl rfl (fun _ _ => rfl) hl1 hl4 hl3
    have e2 := Ev.st r1 (w' := m.w) (b := x) (T := T) (cs := cs'.set o (.own m.T size [])) q2 rfl rfl rfl rfl (fun _ _ => rfl)
    exact ⟨env', _, _, _, ⟨m.T, tok_new rh, rfl, rfl⟩, r2, e1.trans e2, fun j v hv => Rv.ev (e1.trans e2) _ _ hv⟩
  · rintro e' H' ⟨t, h1, rfl, rfl⟩
    have h5 := hr.addT (s := s) (x := t) (OwR.frz (s := s) (T := Te) (size := size) (n := 0)) h1
    refine h H0 s0 ⟨s.b, s.t ++ [t]⟩ _ _ R hn ht (hs.trans (Sg.leT s t)) (he.mono (Sg.leT s t)) (h5.setB q1 ?_) hR
    have : ∀ {az l : List AV} (_ : RnL s az l) (n : Nat) {a v : AV}, Rn ⟨s.b, s.t ++ [t]⟩ a v → RnL ⟨s.b, s.t ++ [t]⟩ (az.set n a) (l.set n v) := by
      intro az
      induction az with
      | nil => intro l h n a v _; simp only [RnL] at h; subst h; simp [RnL]
      | cons a az ih =>
        intro l h n b v hv
        simp only [RnL] at h
        obtain ⟨w, ws, rfl, h1, h2⟩ := h
        cases n with
        | zero => simp only [List.set_cons_zero, RnL]; exact ⟨_, _, rfl, hv, RnL.mono (Sg.leT s t) _ _ h2⟩
        | succ n => simp only [List.set_cons_succ, RnL]; exact ⟨_, _, rfl, Rn.mono (Sg.leT s t) _ _ h1, ih h2 n hv⟩
    refine this q3 o ?_
    simp only [Rn]
    exact ⟨t, [], by rw [hr.nt]; exact app_right, rfl, by simp only [RnR]⟩
def LJ {X : Type} (E : X → Env) (C : X → CS) (I : X → Prop) (mu : X → Nat) : Nat → Env → CS → Prop := fun m env c => ∃ x, I x ∧ env = E x ∧ c = C x ∧ mu x = m
theorem J.loopX {X : Type} {body : EC} (x0 : X) (E : X → Env) (B : X → BL) (T : X → TL) (I : X → Prop) (mu : X → Nat) (h0 : I x0) (he : EHas env (E x0)) (hb : HasB c.H (B x0)) (ht : HasT c.H (T x0)) (h : ∀ x, I x → J P rs n0 t0 (.c body :: .rnd (LJ E (fun x => CS.of c.nb c.nt (B x) (T x)) I mu) (mu x) :: k) Q (E x) (CS.of c.nb c.nt (B x) (T x))) : J P rs n0 t0 (.c (.loop body) :: k) Q env c :=
  J.keep (E x0) (B x0) (T x0) he hb ht (J.loop (LJ E (fun x => CS.of c.nb c.nt (B x) (T x)) I mu) (mu x0) ⟨x0, h0, rfl, rfl, rfl⟩ fun m e c' ⟨x, h1, h2, h3, h4⟩ => by subst h2 h3 h4; exact h x h1)
theorem J.roundX {X : Type} {E : X → Env} {nb nt : Nat} {B : X → BL} {T : X → TL} {I : X → Prop} {mu : X → Nat} {m0 : Nat} (x : X) (h0 : I x) (he : EHas env (E x)) (hb : HasB c.H (B x)) (ht : HasT c.H (T x)) (hn : c.nb = nb) (hm : c.nt = nt) (h1 : mu x < m0) : J P rs n0 t0 (.rnd (LJ E (fun x => CS.of nb nt (B x) (T x)) I mu) m0 :: k) Q env c :=
  J.keep (E x) (B x) (T x) he hb ht (J.round (mu x) ⟨x, h0, rfl, by rw [hn, hm], rfl⟩ h1)
theorem J.roundC {X : Type} {E : X → Env} {nb nt : Nat} {B : X → BL} {T : X → TL} {I : X → Prop} {mu : X → Nat} {m0 : Nat} (x : X) (h0 : I x) (he : EHas env (E x)) (hb : HasB c.H (B x)) (ht : HasT c.H (T x)) (hn : (Nat.ble n0 nb && (Nat.ble nb c.nb && (Nat.ble t0 nt && Nat.ble nt c.nt))) = true) (hd : (bdE nb nt (E x) && (bdB nb nt (B x) && bdT nb nt (T x))) = true) (h1 : mu x < m0) : J P rs n0 t0 (.rnd (LJ E (fun x => CS.of nb nt (B x) (T x)) I mu) m0 :: k) Q env c :=
  J.cut nb nt (E x) (B x) (T x) he hb ht hn hd (J.round (mu x) ⟨x, h0, rfl, rfl, rfl⟩ h1)
end
section
variable {P : Program} {rs : List ERes} {n0 t0 : Nat} {k : List JI} {Q : Out → CS → Prop} {env : Env} {c : CS}
abbrev Jn {X : Type} (P : Program) (rs : List ERes) (n0 t0 : Nat) (k : List JI) (Q : Out → CS → Prop) (E : X → Env) (nb nt : Nat) (B : X → BL) (T : X → TL) (I : X → Prop) : Prop := ∀ (env : Env) (c : CS) (x : X), I x → EHas env (E x) → HasB c.H (B x) → HasT c.H (T x) → c.nb = nb → c.nt = nt → J P rs n0 t0 k Q env c
theorem J.blkX {X : Type} {id : Nat} {b : EC} (E : X → Env) (B : X → BL) (T : X → TL) (I : X → Prop) (h2 : ∀ x, I x → J P rs n0 t0 k Q (E x) (CS.of c.nb c.nt (B x) (T x))) (h1 : Jn P rs n0 t0 k Q E c.nb c.nt B T I → J P rs n0 t0 (.c b :: .blk id :: k) Q env c) : J P rs n0 t0 (.c (.block id b) :: k) Q env c :=
  J.block (h1 fun e c' x hx he hb ht hn hm => J.keep (E x) (B x) (T x) he hb ht (by rw [hn, hm]; exact h2 x hx))
end
theorem flatR_map {α : Type} {f : α → List AV} (h : ∀ x, flatL (f x) = true) : ∀ (l : List α), flatR (l.map f) = true
  | [] => rfl
  | a :: l => by simp only [List.map_cons, flatR, h, flatR_map h l, Bool.and_self]
mutual
theorem wk_flat : ∀ (a : AV), a.flat = true → a.wk = a
  | .agg cs, h => by simp only [AV.flat] at h; simp only [AV.wk, wkL_flat cs h]
  | .tup cs, h => by simp only [AV.flat] at h; simp only [AV.wk, wkL_flat cs h]
  | .own _ _ _, h => by simp [AV.flat] at h
  | .top, _ => rfl
  | .bool _, _ => rfl
  | .int _ _, _ => rfl
  | .str _, _ => rfl
  | .raw _, _ => rfl
  | .ptr _ _, _ => rfl
  | .vs _ _, _ => rfl
  | .ms _ _, _ => rfl
  | .mp _ _ _, _ => rfl
  | .rp _ _, _ => rfl
  | .fn _ _, _ => rfl
  | .ifc _ _, _ => rfl
theorem wkL_flat : ∀ (l : List AV), flatL l = true → wkL l = l
  | [], _ => rfl
  | a :: l, h => by simp only [flatL, Bool.and_eq_true] at h; simp only [wkL, wk_flat a h.1, wkL_flat l h.2]
end
mutual
inductive Wk : AV → AV → Prop
  | wk {v r : AV} (h : v.wk = r) (hf : r.flat = true) : Wk v r
  | nil {n : Nat} : Wk .nilS (.vs n [])
  | agg {az bs : List AV} (h : WkL az bs) : Wk (.agg az) (.agg bs)
  | tup {az bs : List AV} (h : WkL az bs) : Wk (.tup az) (.tup bs)
inductive WkL : List AV → List AV → Prop
  | nil : WkL [] []
  | cons {a b : AV} {az bs : List AV} (h : Wk a b) (t : WkL az bs) : WkL (a :: az) (b :: bs)
end
mutual
theorem Wk.le : ∀ {v r : AV}, Wk v r → ∀ (s : Sg) (v' : AV), Rn s v v' → AVLe v' r
  | _, _, .wk h hf, s, v', hv => by subst h; exact fun m y hy => wk_le _ v' hv hf y hy
  | _, _, .nil, s, v', hv => by simp only [Rn] at hv; subst hv; exact AVLe.nil
  | _, _, .agg h, s, v', hv => by simp only [Rn] at hv; obtain ⟨l, e, hl⟩ := hv; subst e; exact avle_agg (WkL.le h s l hl)
  | _, _, .tup h, s, v', hv => by simp only [Rn] at hv; obtain ⟨l, e, hl⟩ := hv; subst e; exact avle_tup (WkL.le h s l hl)
theorem WkL.le : ∀ {az bs : List AV}, WkL az bs → ∀ (s : Sg) (l : List AV), RnL s az l → AVLes l bs
  | _, _, .nil, s, l, h => by simp only [RnL] at h; subst h; exact avles_nil
  | _, _, .cons h t, s, l, hl => by simp only [RnL] at hl; obtain ⟨v, vs, e, h1, h2⟩ := hl; subst e; exact avles_cons (Wk.le h s v h1) (WkL.le t s vs h2)
end
def Rw (r : AV) (bl : BL) (tl : TL) : Out → CS → Prop := fun o c => ∃ v, o = .ret v ∧ Wk v r ∧ HasB c.H bl ∧ HasT c.H tl
theorem FC.rw {P : Program} {f : FuncId} {az : List AV} {c : CS} {r : AV} {bl : BL} {tl : TL} (h : FC P f az c (Rw r bl tl)) (hr : r.flat = true) : FC P f az c (Ro r bl tl) := fun H0 s az' H ha hh =>
  (h H0 s az' H ha hh).mono fun o H' ⟨s', o1, c1, a1, ⟨v, e1, e2, e3, e4⟩, a3, a4⟩ => by
    subst e1
    cases o with
    | pan w => simp only [RnO] at a3
    | ret w => exact ⟨.ret r, H', Wk.le e2 s' w a3, HSub.refl _, s', .ret r, c1, a1, ⟨rfl, e3, e4⟩, (AV.flat_rn _ hr _).2 rfl, a4⟩
theorem FC.introW {P : Program} {f : FuncId} {az : List AV} {c : CS} {rs : List ERes} {r : AV} {bl : BL} {tl : TL} {fn : Func} {e : EC} (hm : P.follows .mixedOrders = true) (hf : P.funcs[f]? = some fn) (hc : chkF P fn az.length e rs = true) (hr : r.flat = true) (h : J P rs c.nb c.nt [.c e] (Rw r bl tl) (initEnv az) c) : FC P f az c (Ro r bl tl) := (FC.intro hm hf hc h).rw hr
theorem pure_of {P : Program} {f : FuncId} {az : List AV} {rs : List ERes} {r : AV} {fn : Func} {e : EC} (hm : P.follows .mixedOrders = true) (hf : P.funcs[f]? = some fn) (hc : chkF P fn az.length e rs = true) (ha : flatL az = true) (hr : r.flat = true) (h : J P rs 0 0 [.c e] (Rw r [] []) (initEnv az) .new) : Pure P f az r :=
  FC.pure (FC.introW hm hf hc hr h) ha hr fun o c1 ⟨e, _, _⟩ => ⟨r, e, wk_flat r hr⟩
end Go.Aw
namespace Go.Aw
open Go
set_option linter.unusedVariables false
set_option linter.unusedSimpArgs false
def rmB (b : Nat) : BL → BL
  | [] => []
  | (k, x) :: l => bif k == b then rmB b l else (k, x) :: rmB b l
def rmT (b : Nat) : TL → TL
  | [] => []
  | (k, x) :: l => bif k == b then rmT b l else (k, x) :: rmT b l
theorem lk_rmB {b j : Nat} (h : (b == j) = false) : ∀ (l : BL), lkB (rmB b l) j = lkB l j
  | [] => rfl
  | (k, x) :: l => by
    simp only [rmB, lkB]
    cases hk : k == b with
    | true =>
      have e : k = b := by simpa using hk
      subst e
      rw [cond_true, h, cond_false, lk_rmB h l]
    | false => simp only [cond_false, lkB, lk_rmB h l]
theorem lk_rmT {b j : Nat} (h : (b == j) = false) : ∀ (l : TL), lkT (rmT b l) j = lkT l j
  | [] => rfl
  | (k, x) :: l => by
    simp only [rmT, lkT]
    cases hk : k == b with
    | true =>
      have e : k = b := by simpa using hk
      subst e
      rw [cond_true, h, cond_false, lk_rmT h l]
    | false => simp only [cond_false, lkT, lk_rmT h l]
def rmBs : List Nat → BL → BL
  | [], l => l
  | b :: bs, l => rmB b (rmBs bs l)
def rmTs : List Nat → TL → TL
  | [], l => l
  | b :: bs, l => rmT b (rmTs bs l)
def renB (p : Sg) : BL → BL
  | [] => []
  | q :: l => (p.b.getD q.1 0, q.2.1, renL p q.2.2) :: renB p l
def renT (p : Sg) : TL → TL
  | [] => []
  | q :: l => (p.t.getD q.1 0, q.2) :: renT p l
def apB : BL → BL → BL
  | [], m => m
  | q :: l, m => q :: apB l m
def apT : TL → TL → TL
  | [], m => m
  | q :: l, m => q :: apT l m
theorem rmBs_in {j : Nat} : ∀ (bs : List Nat), bs.contains j = true → ∀ l, lkB (rmBs bs l) j = none
  | [], h, _ => by simp at h
  | b :: bs, h, l => by
    have key : ∀ (l : BL), lkB (rmB j l) j = none := by
      intro l
      induction l with
      | nil => rfl
      | cons q l ih =>
        obtain ⟨k, x⟩ := q
        simp only [rmB]
        cases hk : k == j with
        | true => rw [cond_true]; exact ih
        | false => simp only [cond_false, lkB, hk]; exact ih
    simp only [rmBs]
    by_cases e : b = j
    · subst e; exact key _
    · have e' : (b == j) = false := by simpa using e
      rw [lk_rmB e']
      refine rmBs_in bs ?_ l
      simp only [List.contains_cons, Bool.or_eq_true, beq_iff_eq] at h
      exact h.resolve_left fun h => e h.symm
theorem rmTs_in {j : Nat} : ∀ (bs : List Nat), bs.contains j = true → ∀ l, lkT (rmTs bs l) j = none
  | [], h, _ => by simp at h
  | b :: bs, h, l => by
    have key : ∀ (l : TL), lkT (rmT j l) j = none := by
      intro l
      induction l with
      | nil => rfl
      | cons q l ih =>
        obtain ⟨k, x⟩ := q
        simp only [rmT]
        cases hk : k == j with
        | true => rw [cond_true]; exact ih
        | false => simp only [cond_false, lkT, hk]; exact ih
    simp only [rmTs]
    by_cases e : b = j
    · subst e; exact key _
    · have e' : (b == j) = false := by simpa using e
      rw [lk_rmT e']
      refine rmTs_in bs ?_ l
      simp only [List.contains_cons, Bool.or_eq_true, beq_iff_eq] at h
      exact h.resolve_left fun h => e h.symm
theorem rmBs_out {j : Nat} : ∀ (bs : List Nat), bs.contains j = false → ∀ l, lkB (rmBs bs l) j = lkB l j
  | [], _, _ => rfl
  | b :: bs, h, l => by
    simp only [List.contains_cons, Bool.or_eq_false_iff, beq_eq_false_iff_ne] at h
    simp only [rmBs]
    rw [lk_rmB (by simpa using fun e => h.1 (Eq.symm e)), rmBs_out bs h.2]
theorem rmTs_out {j : Nat} : ∀ (bs : List Nat), bs.contains j = false → ∀ l, lkT (rmTs bs l) j = lkT l j
  | [], _, _ => rfl
  | b :: bs, h, l => by
    simp only [List.contains_cons, Bool.or_eq_false_iff, beq_eq_false_iff_ne] at h
    simp only [rmTs]
    rw [lk_rmT (by simpa using fun e => h.1 (Eq.symm e)), rmTs_out bs h.2]
section
variable {n t b : Nat} {bl bl1 : BL} {tl tl1 : TL} {T : TypeId} {cs : List AV} {o : Own}
theorem cs_ext {a c : CS} (h1 : ∀ j, a.H.blk j = c.H.blk j) (h2 : ∀ j, a.H.tok j = c.H.tok j) (h3 : a.nb = c.nb) (h4 : a.nt = c.nt) : a = c := by
  obtain ⟨⟨a1, a2⟩, a3, a4⟩ := a
  obtain ⟨⟨c1, c2⟩, c3, c4⟩ := c
  simp only at h1 h2 h3 h4
  have e1 : a1 = c1 := funext h1
  have e2 : a2 = c2 := funext h2
  subst e1 e2 h3 h4
  rfl
theorem of_setB : (CS.of n t bl tl).setB b T cs = CS.of n t ((b, T, cs) :: rmB b bl) tl := cs_ext (fun j => by
  simp only [CS.setB, CS.of, AHeap.setB, lkB]
  cases hj : b == j with
  | true => have e : b = j := by simpa using hj
            subst e; simp
  | false => have e : ¬ j = b := fun e => by subst e; simp at hj
             rw [if_neg e, cond_false, lk_rmB hj]) (fun j => rfl) rfl rfl
theorem of_addB : (CS.of n t bl tl).addB T cs = CS.of (n + 1) t ((n, T, cs) :: bl) tl := cs_ext (fun j => by
  simp only [CS.addB, CS.of, AHeap.setB, lkB]
  cases hj : n == j with
  | true => have e : n = j := by simpa using hj
            subst e; simp
  | false => have e : ¬ j = n := fun e => by subst e; simp at hj
             exact if_neg e) (fun j => rfl) rfl rfl
theorem of_setT : (CS.of n t bl tl).setT b o = CS.of n t bl ((b, o) :: rmT b tl) := cs_ext (fun j => rfl) (fun j => by
  simp only [CS.setT, CS.of, AHeap.setT, lkT]
  cases hj : b == j with
  | true => have e : b = j := by simpa using hj
            subst e; simp
  | false => have e : ¬ j = b := fun e => by subst e; simp at hj
             rw [if_neg e, cond_false, lk_rmT hj]) rfl rfl
theorem of_addT : (CS.of n t bl tl).addT o = CS.of n (t + 1) bl ((t, o) :: tl) := cs_ext (fun j => rfl) (fun j => by
  simp only [CS.addT, CS.of, AHeap.setT, lkT]
  cases hj : t == j with
  | true => have e : t = j := by simpa using hj
            subst e; simp
  | false => have e : ¬ j = t := fun e => by subst e; simp at hj
             exact if_neg e) rfl rfl
theorem of_upd {p : Sg} : (CS.of n t bl tl).upd p bl1 tl1 = CS.of n t (apB ((renB p bl1).filter fun q => p.b.contains q.1) (rmBs p.b bl)) (apT ((renT p tl1).filter fun q => p.t.contains q.1) (rmTs p.t tl)) := cs_ext (fun j => by
  simp only [CS.upd, CS.of, updB]
  cases hc : p.b.contains j with
  | true =>
    rw [cond_true]
    induction bl1 with
    | nil => simp only [List.find?, renB, List.filter, apB]; rw [rmBs_in p.b hc]
    | cons q l ih =>
      simp only [List.find?, renB]
      cases hq : p.b.getD q.1 0 == j with
      | true =>
        have e : p.b.getD q.1 0 = j := by simpa using hq
        rw [e]
        simp only [List.filter, hc, apB, lkB, beq_self_eq_true, cond_true]
      | false =>
        simp only [List.filter]
        cases hd : p.b.contains (p.b.getD q.1 0) with
        | true => simp only [apB, lkB, hq, cond_false]; exact ih
        | false => exact ih
  | false =>
    rw [cond_false]
    induction bl1 with
    | nil => simp only [renB, List.filter, apB]; rw [rmBs_out p.b hc]
    | cons q l ih =>
      simp only [renB, List.filter]
      cases hd : p.b.contains (p.b.getD q.1 0) with
      | true =>
        have : (p.b.getD q.1 0 == j) = false := by
          cases hj : p.b.getD q.1 0 == j with
          | false => rfl
          | true => have e : p.b.getD q.1 0 = j := by simpa using hj
                    rw [e, hc] at hd; cases hd
        simp only [apB, lkB, this, cond_false]; exact ih
      | false => exact ih) (fun j => by
  simp only [CS.upd, CS.of, updT]
  cases hc : p.t.contains j with
  | true =>
    rw [cond_true]
    induction tl1 with
    | nil => simp only [List.find?, renT, List.filter, apT]; rw [rmTs_in p.t hc]
    | cons q l ih =>
      simp only [List.find?, renT]
      cases hq : p.t.getD q.1 0 == j with
      | true =>
        have e : p.t.getD q.1 0 = j := by simpa using hq
        rw [e]
        simp only [List.filter, hc, apT, lkT, beq_self_eq_true, cond_true]
      | false =>
        simp only [List.filter]
        cases hd : p.t.contains (p.t.getD q.1 0) with
        | true => simp only [apT, lkT, hq, cond_false]; exact ih
        | false => exact ih
  | false =>
    rw [cond_false]
    induction tl1 with
    | nil => simp only [renT, List.filter, apT]; rw [rmTs_out p.t hc]
    | cons q l ih =>
      simp only [renT, List.filter]
      cases hd : p.t.contains (p.t.getD q.1 0) with
      | true =>
        have : (p.t.getD q.1 0 == j) = false := by
          cases hj : p.t.getD q.1 0 == j with
          | false => rfl
          | true => have e : p.t.getD q.1 0 = j := by simpa using hj
                    rw [e, hc] at hd; cases hd
        simp only [apT, lkT, this, cond_false]; exact ih
      | false => exact ih) rfl rfl
theorem of_blk {j : Nat} : (CS.of n t bl tl).H.blk j = lkB bl j := rfl
theorem of_tok {j : Nat} : (CS.of n t bl tl).H.tok j = lkT tl j := rfl
theorem of_nb : (CS.of n t bl tl).nb = n := rfl
theorem of_nt : (CS.of n t bl tl).nt = t := rfl
theorem of_new : CS.new = CS.of 0 0 [] [] := rfl
theorem crange_if {l : List AV} {agg : Bool} {o n : Nat} : crange l agg o n = if o + n ≤ l.length then AV.ofCells agg ((l.drop o).take n) else none := by
  unfold crange
  by_cases h : o + n ≤ l.length
  · rw [Nat.ble_eq_true_of_le h, if_pos h, cond_true]
  · rw [if_neg h]
    cases hb : Nat.ble (o + n) l.length with
    | true => exact absurd (Nat.le_of_ble_eq_true hb) h
    | false => rfl
theorem cstB_if {c : CS} {b o n : Nat} {x : AV} : cstB c b o n x = match c.H.blk b with
  | some (T, cs) => if (x.okc = true ∧ x.cells.length = n) ∧ (o + n ≤ cs.length ∧ x.cells.all AV.one = true) then some (.undef, c.setB b T (setRange cs o x.cells)) else none
  | none => none := by
  unfold cstB
  cases e : c.H.blk b with
  | none => rfl
  | some q =>
    obtain ⟨T, cs⟩ := q
    simp only []
    by_cases h : (x.okc = true ∧ x.cells.length = n) ∧ (o + n ≤ cs.length ∧ x.cells.all AV.one = true)
    · rw [if_pos h, h.1.1, h.1.2, h.2.2, Nat.ble_eq_true_of_le h.2.1]
      simp
    · rw [if_neg h]
      cases hb : (x.okc && x.cells.length == n) && (Nat.ble (o + n) cs.length && x.cells.all AV.one) with
      | false => rfl
      | true =>
        simp only [Bool.and_eq_true, beq_iff_eq, Nat.ble_eq] at hb
        exact absurd hb h
theorem one_nilS : AV.one (.raw (.slice none 0 0)) = true := rfl
theorem oc_nil : (Value.slice none 0 0).oneCell' = true := rfl
theorem oc_pnil : (Value.pointer none).oneCell' = true := rfl
theorem one_pnil : AV.one (.raw (.pointer none)) = true := rfl
theorem cev_t {env : Env} {j : Nat} : cev env (.t j) = env.get j := rfl
theorem cev_c {env : Env} {a : AV} : cev env (.c a) = bif a.flat then a else .top := rfl
theorem put_some' {env : Env} {d : Nat} {v : AV} : env.put (some d) v = (d, v) :: env := rfl
theorem put_none' {env : Env} {v : AV} : env.put none v = env := rfl
theorem getD_0 {a d : Nat} {l : List Nat} : (a :: l).getD 0 d = a := rfl
theorem getD_s {a d i : Nat} {l : List Nat} : (a :: l).getD (i + 1) d = l.getD i d := rfl
section
variable {env : Env} {c : CS} {x y z : EOpd} {zero l : List AV} {prt : List (Nat × Nat × EOpd)} {pt : List (Nat × EOpd)} {agg : Bool} {n m me : Nat} {bop : BinOp} {ks : List LK} {ik : IntKind} {xs : List EOpd} {lo hi mx : Option EOpd} {T : TypeId}
theorem cbuild_nil {env : Env} {cells : List AV} : cbuild env cells [] = some cells := rfl
theorem cbuild_cons {env : Env} {cells : List AV} {off size : Nat} {x : EOpd} {rest : List (Nat × Nat × EOpd)} : cbuild env cells ((off, size, x) :: rest) = if (cev env x).okc = true ∧ ((cev env x).cells.length = size ∧ off + size ≤ cells.length) then cbuild env (setRange cells off (cev env x).cells) rest else none := by
  simp only [cbuild]
  by_cases h : (cev env x).okc = true ∧ ((cev env x).cells.length = size ∧ off + size ≤ cells.length)
  · rw [if_pos h, h.1, h.2.1, Nat.ble_eq_true_of_le h.2.2]
    simp
  · rw [if_neg h]
    cases hb : (cev env x).okc && ((cev env x).cells.length == size && Nat.ble (off + size) cells.length) with
    | false => rfl
    | true =>
      simp only [Bool.and_eq_true, beq_iff_eq, Nat.ble_eq] at hb
      exact absurd hb h
theorem cidx_if {n : Int} {len : Nat} : cidx n len = if 0 ≤ n ∧ n < len then some n.toNat else none := by
  by_cases h : 0 ≤ n ∧ n < len
  · rw [if_pos h, cidx_eq h.1 h.2]
  · rw [if_neg h]
    cases hc : cidx n len with
    | none => rfl
    | some k => exact absurd ⟨(cidx_ok hc).1, (cidx_ok hc).2.1⟩ h
theorem wrapu64 {n : Int} (h0 : 0 ≤ n) (h1 : n ≤ 18446744073709551615) : IntKind.u64.wrap n = n := by rw [IntKind.wrap_u64]; omega
theorem wrapu8 {n : Int} (h0 : 0 ≤ n) (h1 : n ≤ 255) : IntKind.u8.wrap n = n := by rw [IntKind.wrap_u8]; omega
theorem nnif {α : Type} {b : Int} {x y : α} (h : 0 ≤ b) : (if 0 ≤ b then x else y) = x := if_pos h
theorem o_mv : ost (.mv x) env c = (cpv (.mv x) env c.H).map fun v => (v, c) := rfl
theorem o_pick : ost (.pick x y z) env c = (cpv (.pick x y z) env c.H).map fun v => (v, c) := rfl
theorem o_nilck : ost (.nilck x) env c = (cpv (.nilck x) env c.H).map fun v => (v, c) := rfl
theorem o_build : ost (.build zero prt) env c = (cpv (.build zero prt) env c.H).map fun v => (v, c) := rfl
theorem o_load : ost (.load agg n x) env c = (cpv (.load agg n x) env c.H).map fun v => (v, c) := rfl
theorem o_loadD : ost (.loadD me agg n x) env c = (cpv (.loadD me agg n x) env c.H).map fun v => (v, c) := rfl
theorem o_loadR : ost (.loadR agg n x) env c = (cpv (.loadR agg n x) env c.H).map fun v => (v, c) := rfl
theorem o_faddr : ost (.faddr n x) env c = (cpv (.faddr n x) env c.H).map fun v => (v, c) := rfl
theorem o_field : ost (.field agg n m x) env c = (cpv (.field agg n m x) env c.H).map fun v => (v, c) := rfl
theorem o_iaddr : ost (.iaddr n x y) env c = (cpv (.iaddr n x y) env c.H).map fun v => (v, c) := rfl
theorem o_iaddrA : ost (.iaddrA n m x y) env c = (cpv (.iaddrA n m x y) env c.H).map fun v => (v, c) := rfl
theorem o_idxA : ost (.idxA agg n m x y) env c = (cpv (.idxA agg n m x y) env c.H).map fun v => (v, c) := rfl
theorem o_idxS : ost (.idxS x y) env c = (cpv (.idxS x y) env c.H).map fun v => (v, c) := rfl
theorem o_bin : ost (.bin bop x y) env c = (cpv (.bin bop x y) env c.H).map fun v => (v, c) := rfl
theorem o_binB : ost (.binB bop x y) env c = (cpv (.binB bop x y) env c.H).map fun v => (v, c) := rfl
theorem o_eqA : ost (.eqA agg T ks x y) env c = (cpv (.eqA agg T ks x y) env c.H).map fun v => (v, c) := rfl
theorem o_not : ost (.not x) env c = (cpv (.not x) env c.H).map fun v => (v, c) := rfl
theorem o_pnil : ost (.pnil agg x) env c = (cpv (.pnil agg x) env c.H).map fun v => (v, c) := rfl
theorem o_neg : ost (.neg x) env c = (cpv (.neg x) env c.H).map fun v => (v, c) := rfl
theorem o_conv : ost (.conv ik x) env c = (cpv (.conv ik x) env c.H).map fun v => (v, c) := rfl
theorem o_lenS : ost (.lenS x) env c = (cpv (.lenS x) env c.H).map fun v => (v, c) := rfl
theorem o_len : ost (.len x) env c = (cpv (.len x) env c.H).map fun v => (v, c) := rfl
theorem o_lenA : ost (.lenA n) env c = (cpv (.lenA n) env c.H).map fun v => (v, c) := rfl
theorem o_minmax : ost (.minmax agg xs) env c = (cpv (.minmax agg xs) env c.H).map fun v => (v, c) := rfl
theorem o_slS : ost (.slS x lo hi) env c = (cpv (.slS x lo hi) env c.H).map fun v => (v, c) := rfl
theorem o_slV : ost (.slV n x lo hi mx) env c = (cpv (.slV n x lo hi mx) env c.H).map fun v => (v, c) := rfl
theorem o_extract : ost (.extract n x) env c = (cpv (.extract n x) env c.H).map fun v => (v, c) := rfl
theorem o_mkfn : ost (.mkfn n xs) env c = (cpv (.mkfn n xs) env c.H).map fun v => (v, c) := rfl
theorem o_mkfnB : ost (.mkfnB n xs) env c = (cpv (.mkfnB n xs) env c.H).map fun v => (v, c) := rfl
theorem o_convS : ost (.convS agg x) env c = (cpv (.convS agg x) env c.H).map fun v => (v, c) := rfl
theorem o_convBS : ost (.convBS T x) env c = (cpv (.convBS T x) env c.H).map fun v => (v, c) := rfl
theorem o_mkif : ost (.mkif T x) env c = (cpv (.mkif T x) env c.H).map fun v => (v, c) := rfl
theorem o_isnil : ost (.isnil agg x) env c = (cpv (.isnil agg x) env c.H).map fun v => (v, c) := rfl
theorem o_bslice : ost (.bslice T n m l pt) env c = (cpv (.bslice T n m l pt) env c.H).map fun v => (v, c) := rfl
theorem o_box : ost (.box T x) env c = bif (cev env x).okc && (cev env x).cells.all AV.one then some (.ptr c.nb 0, c.addB T (cev env x).cells) else none := rfl
theorem o_alloc : ost (.alloc T zero) env c = bif flatL zero && zero.all AV.one then some (.ptr c.nb 0, c.addB T zero) else none := rfl
theorem o_store : ost (.store n x y) env c = (match cev env x with
    | .ptr b o => cstB c b o n (cev env y)
    | .mp t ver k => cstM c t ver k n (cev env y)
    | _ => none) := rfl
theorem o_storeD {others : List Nat} : ost (.storeD me others n x y) env c = (match env.get me, cev env x with
    | .ptr b 0, .ptr b' o => bif b' == b && others.all (cnot env b) then cstB c b o n (cev env y) else none
    | _, _ => none) := rfl
theorem o_bsliceO : ost (.bsliceO T n m zero pt) env c = bif crowsOk env n pt then some (.own c.nt n (crows env pt), c.addT (.frz T n (crows env pt).length)) else none := rfl
theorem o_bsliceM : ost (.bsliceM T n m zero pt) env c = bif crowsOk env n pt then some (.ms c.nt 0, c.addT (.mu T n 0 (crows env pt))) else none := rfl
end
end
end Go.Aw
namespace Go.Aw
open Go
set_option linter.unusedVariables false
set_option linter.unusedSimpArgs false
mutual
def AV.tf : AV → Bool
  | .top => false
  | .agg cs => tfL cs
  | .tup cs => tfL cs
  | .vs _ rows => flatR rows
  | .own _ _ rows => flatR rows
  | .rp row _ => flatL row
  | .fn _ cap => tfL cap
  | .ifc _ v => v.tf
  | _ => true
def tfL : List AV → Bool
  | [] => true
  | a :: az => a.tf && tfL az
end
theorem flatR_eq {s : Sg} {az l l' : List (List AV)} (h : flatR az = true) (h1 : RnR s az l) (h2 : RnR s az l') : l = l' := ((flatR_rn az h l).1 h1).trans ((flatR_rn az h l').1 h2).symm
theorem flatL_eq {s : Sg} {az l l' : List AV} (h : flatL az = true) (h1 : RnL s az l) (h2 : RnL s az l') : l = l' := ((flatL_rn az h l).1 h1).trans ((flatL_rn az h l').1 h2).symm
mutual
theorem Rn.same {s : Sg} : ∀ (a v v' : AV), a.tf = true → Rn s a v → Rn s a v' → v = v'
  | .top, _, _, h, _, _ => by simp [AV.tf] at h
  | .ptr b o, _, _, _, h1, h2 => by simp only [Rn] at *; obtain ⟨x, e1, rfl⟩ := h1; obtain ⟨y, e2, rfl⟩ := h2; rw [e1] at e2; cases e2; rfl
  | .ms b o, _, _, _, h1, h2 => by simp only [Rn] at *; obtain ⟨x, e1, rfl⟩ := h1; obtain ⟨y, e2, rfl⟩ := h2; rw [e1] at e2; cases e2; rfl
  | .mp b o k, _, _, _, h1, h2 => by simp only [Rn] at *; obtain ⟨x, e1, rfl⟩ := h1; obtain ⟨y, e2, rfl⟩ := h2; rw [e1] at e2; cases e2; rfl
  | .agg cs, _, _, h, h1, h2 => by simp only [AV.tf] at h; simp only [Rn] at *; obtain ⟨l, rfl, e1⟩ := h1; obtain ⟨m, rfl, e2⟩ := h2; rw [RnL.same cs l m h e1 e2]
  | .tup cs, _, _, h, h1, h2 => by simp only [AV.tf] at h; simp only [Rn] at *; obtain ⟨l, rfl, e1⟩ := h1; obtain ⟨m, rfl, e2⟩ := h2; rw [RnL.same cs l m h e1 e2]
  | .fn f cs, _, _, h, h1, h2 => by simp only [AV.tf] at h; simp only [Rn] at *; obtain ⟨l, rfl, e1⟩ := h1; obtain ⟨m, rfl, e2⟩ := h2; rw [RnL.same cs l m h e1 e2]
  | .ifc t a, _, _, h, h1, h2 => by simp only [AV.tf] at h; simp only [Rn] at *; obtain ⟨l, rfl, e1⟩ := h1; obtain ⟨m, rfl, e2⟩ := h2; rw [Rn.same a l m h e1 e2]
  | .vs n rows, _, _, h, h1, h2 => by simp only [AV.tf] at h; simp only [Rn] at *; obtain ⟨l, rfl, e1⟩ := h1; obtain ⟨m, rfl, e2⟩ := h2; rw [flatR_eq h e1 e2]
  | .rp row o, _, _, h, h1, h2 => by simp only [AV.tf] at h; simp only [Rn] at *; obtain ⟨l, rfl, e1⟩ := h1; obtain ⟨m, rfl, e2⟩ := h2; rw [flatL_eq h e1 e2]
  | .own t n rows, _, _, h, h1, h2 => by
    simp only [AV.tf] at h
    simp only [Rn] at *
    obtain ⟨x, l, e0, rfl, e1⟩ := h1
    obtain ⟨y, m, e0', rfl, e2⟩ := h2
    rw [e0] at e0'
    cases e0'
    rw [flatR_eq h e1 e2]
  | .bool _, _, _, _, h1, h2 => by simp only [Rn] at *; rw [h1, h2]
  | .int _ _, _, _, _, h1, h2 => by simp only [Rn] at *; rw [h1, h2]
  | .str _, _, _, _, h1, h2 => by simp only [Rn] at *; rw [h1, h2]
  | .raw _, _, _, _, h1, h2 => by simp only [Rn] at *; rw [h1, h2]
theorem RnL.same {s : Sg} : ∀ (az l l' : List AV), tfL az = true → RnL s az l → RnL s az l' → l = l'
  | [], _, _, _, h1, h2 => by simp only [RnL] at *; rw [h1, h2]
  | a :: az, _, _, h, h1, h2 => by
    simp only [tfL, Bool.and_eq_true] at h
    simp only [RnL] at *
    obtain ⟨v, vs, rfl, a1, a2⟩ := h1
    obtain ⟨w, ws, rfl, b1, b2⟩ := h2
    rw [Rn.same a v w h.1 a1 b1, RnL.same az vs ws h.2 a2 b2]
end
mutual
theorem Rn.ex {s : Sg} {n t : Nat} (hn : n ≤ s.b.length) (ht : t ≤ s.t.length) : ∀ (a : AV), a.bd n t = true → ∃ v, Rn s a v
  | .top, _ => ⟨.top, by simp only [Rn]⟩
  | .ptr b o, h => ⟨_, by simp only [Rn]; exact ⟨_, getD_get (Nat.lt_of_lt_of_le (blt_lt h) hn), rfl⟩⟩
  | .ms b o, h => ⟨_, by simp only [Rn]; exact ⟨_, getD_get (Nat.lt_of_lt_of_le (blt_lt h) ht), rfl⟩⟩
  | .mp b o k, h => ⟨_, by simp only [Rn]; exact ⟨_, getD_get (Nat.lt_of_lt_of_le (blt_lt h) ht), rfl⟩⟩
  | .agg cs, h => by simp only [AV.bd] at h; obtain ⟨l, e⟩ := RnL.ex hn ht cs h; exact ⟨_, by simp only [Rn]; exact ⟨l, rfl, e⟩⟩
  | .tup cs, h => by simp only [AV.bd] at h; obtain ⟨l, e⟩ := RnL.ex hn ht cs h; exact ⟨_, by simp only [Rn]; exact ⟨l, rfl, e⟩⟩
  | .fn f cs, h => by simp only [AV.bd] at h; obtain ⟨l, e⟩ := RnL.ex hn ht cs h; exact ⟨_, by simp only [Rn]; exact ⟨l, rfl, e⟩⟩
  | .ifc t a, h => by simp only [AV.bd] at h; obtain ⟨l, e⟩ := Rn.ex hn ht a h; exact ⟨_, by simp only [Rn]; exact ⟨l, rfl, e⟩⟩
  | .vs m rows, h => ⟨_, by simp only [AV.bd] at h; simp only [Rn]; exact ⟨rows, rfl, (flatR_rn rows h _).2 rfl⟩⟩
  | .rp row o, h => ⟨_, by simp only [AV.bd] at h; simp only [Rn]; exact ⟨row, rfl, (flatL_rn row h _).2 rfl⟩⟩
  | .own x m rows, h => ⟨_, by simp only [AV.bd, Bool.and_eq_true] at h; simp only [Rn]; exact ⟨_, rows, getD_get (Nat.lt_of_lt_of_le (blt_lt h.1) ht), rfl, (flatR_rn rows h.2 _).2 rfl⟩⟩
  | .bool b, _ => ⟨.bool b, by simp only [Rn]⟩
  | .int k n, _ => ⟨.int k n, by simp only [Rn]⟩
  | .str x, _ => ⟨.str x, by simp only [Rn]⟩
  | .raw x, _ => ⟨.raw x, by simp only [Rn]⟩
theorem RnL.ex {s : Sg} {n t : Nat} (hn : n ≤ s.b.length) (ht : t ≤ s.t.length) : ∀ (az : List AV), bdL n t az = true → ∃ l, RnL s az l
  | [], _ => ⟨[], by simp only [RnL]⟩
  | a :: az, h => by
    simp only [bdL, Bool.and_eq_true] at h
    obtain ⟨v, e1⟩ := Rn.ex hn ht a h.1
    obtain ⟨l, e2⟩ := RnL.ex hn ht az h.2
    exact ⟨v :: l, by simp only [RnL]; exact ⟨v, l, rfl, e1, e2⟩⟩
end
theorem Sg.Le.eq {s s' : Sg} (h : Sg.Le s s') (h1 : s'.b.length = s.b.length) (h2 : s'.t.length = s.t.length) : s' = s := by
  obtain ⟨b, t⟩ := s
  obtain ⟨b', t'⟩ := s'
  simp only at h1 h2
  have e1 : b' = b := by
    apply List.ext_getElem?
    intro i
    by_cases hi : i < b.length
    · have := getD_get hi
      rw [this]; exact h.b _ _ this
    · rw [List.getElem?_eq_none (by omega), List.getElem?_eq_none (by omega)]
  have e2 : t' = t := by
    apply List.ext_getElem?
    intro i
    by_cases hi : i < t.length
    · have := getD_get hi
      rw [this]; exact h.t _ _ this
    · rw [List.getElem?_eq_none (by omega), List.getElem?_eq_none (by omega)]
  rw [e1, e2]
section
variable {P : Program} {env : Env} {c : CS} {v : AV} {anns : List AV} {l : List EI} {K : Env → CS → Prop} {Rp : AV → CS → Prop} {f : FuncId} {args : List EOpd} {az : List AV}
theorem IJ.callD {others : List Nat} {b : Nat} {T : TypeId} {cs : List AV} (h : FC P f (args.map (cev env)) c (Rt v (c.setB b T cs))) (hb : Nat.blt b c.nb = true) (hcs : bdL c.nb c.nt cs = true) (hv : v.flat = true) (ho : ∀ s ∈ others, ∃ b' T' cs', env.get s = .ptr b' 0 ∧ c.H.blk b' = some (T', cs') ∧ (b' == b) = false ∧ tfL cs' = true) : IJ P (.callD others f args) env c (fun v' c' => v' = v ∧ c' = c.setB b T cs) Rp := fun H0 s env' H K Rp' he hr hK hRp => by
  have hsb := getD_get (l := s.b) (by rw [← hr.nb]; exact blt_lt hb)
  have heq : ∀ {s' : Sg} {c2 : CS} {H' : AHeap}, Sg.Le s s' → c2.nb = c.nb → c2.nt = c.nt → HRc H0 s' c2 H' → s' = s := fun q1 q2 q3 q4 => q1.eq (by rw [← q4.nb, q2, hr.nb]) (by rw [← q4.nt, q3, hr.nt])
  refine .callD (az := args.map (EOpd.ev env')) _ (fun j hj => ?_) (fun hF => ?_) (AVLes.rfl' _) (h H0 s _ H (cevs_rn he args) hr) (outk (fun s' v1 v1' c1 H' q1 q2 q3 q4 => by obtain ⟨e1, e2⟩ := q2; cases e1; exact hK s' _ v1' c1 H' q1 ⟨rfl, e2⟩ q3 q4) (fun s' v1 v1' c1 H' q1 q2 q3 q4 => by obtain ⟨e1, e2⟩ := q2; cases e1))
  · obtain ⟨b', T', cs', e1, e2, e3, e4⟩ := ho j hj
    have hj' := he j
    rw [e1] at hj'
    simp only [Rn] at hj'
    obtain ⟨x, g1, g2⟩ := hj'
    refine ⟨x, g2, fun o H' ⟨s', o1, c1, q1, ⟨q2, q3⟩, q4, q5⟩ => ?_⟩
    subst q3
    have := heq (c2 := c.setB b T cs) q1 rfl rfl q5
    subst this
    obtain ⟨y, l1, r1, r2, r3⟩ := hr.blk b' T' cs' e2
    have hne : ¬ b' = b := by simpa using e3
    obtain ⟨y2, l2, r4, r5, r6⟩ := q5.blk b' T' cs' (by simp only [CS.setB, AHeap.setB, if_neg hne]; exact e2)
    rw [g1] at r1 r4
    cases r1
    cases r4
    rw [r2, r5, RnL.same cs' l1 l2 e4 r3 r6]
  · obtain ⟨l2, g1⟩ := RnL.ex (s := s) (Nat.le_of_eq hr.nb) (Nat.le_of_eq hr.nt) cs hcs
    refine ⟨v, H.setB (s.b.getD b 0) T l2, ⟨s, .ret v, _, Sg.Le.refl s, ⟨rfl, rfl⟩, (AV.flat_rn v hv v).2 rfl, hr.setB hsb g1⟩, ?_⟩
    obtain ⟨N, hN⟩ := hF
    obtain ⟨_, y, hy⟩ := hr.newb b _ hsb
    refine ⟨N, fun m hm => ⟨?_, (hN m hm).2⟩⟩
    simp only [AHeap.setB]
    rw [if_neg (fun e => by subst e; rw [(hN _ hm).1] at hy; cases hy)]
    exact (hN m hm).1
theorem DJ.cD {others : List Nat} {d b : Nat} {T : TypeId} {cs : List AV} {c1 : CS} (h : FC P f az c (Rt v c1)) (ha : args.map (cev env) = az) (hc : c1 = c.setB b T cs) (hb : Nat.blt b c.nb = true) (hcs : bdL c.nb c.nt cs = true) (hv : v.flat = true) (ho : ∀ s ∈ others, ∃ b' T' cs', env.get s = .ptr b' 0 ∧ c.H.blk b' = some (T', cs') ∧ (b' == b) = false ∧ tfL cs' = true) (hk : DJ P anns l ((d, v) :: env) c1 K Rp) : DJ P anns (⟨some d, none, .callD others f args⟩ :: l) env c K Rp := by
  subst ha hc
  exact DJ.opr rfl rfl (IJ.callD h hb hcs hv ho) fun v' c' ⟨e1, e2⟩ => by rw [e1, e2]; exact hk
theorem DJ.pu {d : Nat} {as0 : List AV} {r : AV} (h : Pure P f az r) (ha : args.map (cev env) = as0) (hw : wkL as0 = az) (hf : flatL az = true) (hr : r.flat = true) (hk : DJ P anns l ((d, r) :: env) c K Rp) : DJ P anns (⟨some d, none, .call f args⟩ :: l) env c K Rp :=
  DJ.cr rfl (FC.ofPure h hf hr hw) ha hk
end
def noRnd (k : List CI) : Bool := k.all fun i => match i with
 | .rnd _ => false
 | _ => true
mutual
def AV.eqb : AV → AV → Bool
 | .bool a, .bool b => a == b
 | .int k n, .int k' n' => decide (k = k') && decide (n = n')
 | .str a, .str b => decide (a = b)
 | .ptr a b, .ptr a' b' => a == a' && b == b'
 | .vs n r, .vs n' r' => n == n' && eqbR r r'
 | .own t n r, .own t' n' r' => (t == t' && n == n') && eqbR r r'
 | .agg l, .agg l' => eqbL l l'
 | .raw (.slice none 0 0), .raw (.slice none 0 0) => true
 | .raw (.pointer none), .raw (.pointer none) => true
 | _, _ => false
def eqbL : List AV → List AV → Bool
 | [], [] => true
 | a :: l, b :: l' => a.eqb b && eqbL l l'
 | _, _ => false
def eqbR : List (List AV) → List (List AV) → Bool
 | [], [] => true
 | a :: l, b :: l' => eqbL a b && eqbR l l'
 | _, _ => false
end
def eqbO : Option (TypeId × List AV) → Option (TypeId × List AV) → Bool
 | none, none => true
 | some (T, l), some (T', l') => T == T' && eqbL l l'
 | _, _ => false
def eqbT : Option Own → Option Own → Bool
 | none, none => true
 | some ⟨a, b, c, d, none⟩, some ⟨a', b', c', d', none⟩ => (a == a' && b == b') && (c == c' && d == d')
 | some ⟨a, b, c, d, some r⟩, some ⟨a', b', c', d', some r'⟩ => ((a == a' && b == b') && (c == c' && d == d')) && eqbR r r'
 | _, _ => false
def upTo : Nat → (Nat → Bool) → Bool
 | 0, _ => true
 | n + 1, p => p n && upTo n p
def sameBut (c c' : CS) (b : Nat) : Bool := upTo c.nb (fun j => j == b || eqbO (c'.H.blk j) (c.H.blk j)) && upTo c.nt (fun t => eqbT (c'.H.tok t) (c.H.tok t))
def dcall (cl : Cl) (others : List Nat) (f : FuncId) (args : List EOpd) (env : Env) (c : CS) : Option (AV × CS) :=
 match args.map (cev env) with
 | .ptr b o :: az => match cl f (.ptr b o :: az) c with
  | some (v, c') => match c'.H.blk b with
   | some (T, cs) => bif ((Nat.blt b c.nb && bdL c.nb c.nt cs) && v.wk.flat) && ((others.all fun s => match env.get s with
     | .ptr b' 0 => match c.H.blk b' with
      | some (_, cs') => !(b' == b) && tfL cs'
      | none => false
     | _ => false) && sameBut c c' b) then some (v.wk, c.setB b T cs) else none
   | none => none
  | none => none
 | _ => none
def dmrE (cvs : List FuncId) (cl : Cl) : List EI → Env → CS → Option (List AV × Env × CS)
 | [], env, c => some ([], env, c)
 | ⟨d, g, op⟩ :: l, env, c => match wanted ⟨d, g, op⟩ env with
  | none => none
  | some false => match dmrE cvs cl l (env.put d .undef) c with
   | some (anns, e, c2) => some (bif isP op then .undef :: anns else anns, e, c2)
   | none => none
  | some true => match op with
   | .pcall f args => match cpure cl f (args.map (cev env)) with
    | some r => match dmrE cvs cl l (env.put d r) c with
     | some (anns, e, c2) => some (r :: anns, e, c2)
     | none => none
    | none => none
   | .pcallv x args => match cev env x with
    | .fn f cap => bif cvs.contains f then match cpure cl f (args.map (cev env) ++ cap) with
     | some r => match dmrE cvs cl l (env.put d r) c with
      | some (anns, e, c2) => some (r :: anns, e, c2)
      | none => none
     | none => none
     else none
    | _ => none
   | .pcallM _ _ _ _ => none
   | .callD others f args => match dcall cl others f args env c with
    | some (v, c1) => dmrE cvs cl l (env.put d v) c1
    | none => none
   | op => match cstp cvs cl op env c with
    | some (v, c1) => dmrE cvs cl l (env.put d v) c1
    | none => none
def runD (tab : Tab) (lib : Cl) (cvs : List FuncId) (idl : List (FuncId × Nat)) : Nat → List ERes → List CI → Env → CS → Option (AV × CS)
 | 0, _, _, _, _ => none
 | n + 1, rs, k, env, c =>
  match k with
  | [] => (cres rs env c.H).map fun v => (v, c)
  | .blk _ :: k => runD tab lib cvs idl n rs k env c
  | .rnd body :: k => runD tab lib cvs idl n rs (.c body :: .rnd body :: k) env c
  | .c e :: k => match e with
   | .ret => (cres rs env c.H).map fun v => (v, c)
   | .skip => runD tab lib cvs idl n rs k env c
   | .seq a b => runD tab lib cvs idl n rs (.c a :: .c b :: k) env c
   | .block id b => runD tab lib cvs idl n rs (.c b :: .blk id :: k) env c
   | .exit id => match cpop id k with
    | some k' => runD tab lib cvs idl n rs k' env c
    | none => none
   | .cond x a b => match cev env x with
    | .bool true => runD tab lib cvs idl n rs (.c a :: k) env c
    | .bool false => runD tab lib cvs idl n rs (.c b :: k) env c
    | _ => none
   | .region ops _ =>
    match dmrE cvs (fun f az c => match lib f az c with
     | some r => some r
     | none => match tab f with
      | some (e, rs, m) => bif az.length == m then runD tab lib cvs idl n rs [.c e] (initEnv az) c else none
      | none => none) ops env c with
    | some (_, env', c') => runD tab lib cvs idl n rs k env' c'
    | none => none
   | .loop body => runD tab lib cvs idl n rs (.c body :: .rnd body :: k) env c
   | .dfr d f cap => bif idl.contains (f, cap.length) && noRnd k then runD tab lib cvs idl n rs k (env.put (some d) (.fn f (cap.map (cev env)))) c else none
def InvD (tab : Tab) (lib : Cl) (cvs : List FuncId) (idl : List (FuncId × Nat)) (rs : List ERes) (v : AV) (c1 : CS) (H0 : AHeap) (s0 : Sg) (body : EC) (k : List CI) (B : Nat) : Nat → Env → AHeap → Prop := fun m env' H' =>
 m ≤ B ∧ ∃ s env c, Sg.Le s0 s ∧ runD tab lib cvs idl (m + 1) rs (.rnd body :: k) env c = some (v, c1) ∧ RnE s env env' ∧ HRc H0 s c H'
def IRD (tab : Tab) (lib : Cl) (cvs : List FuncId) (idl : List (FuncId × Nat)) (rs : List ERes) (v : AV) (c1 : CS) (H0 : AHeap) (s0 : Sg) (n : Nat) : List CI → List Item → Prop
 | [], [] => True
 | .c e :: k, .c e' :: k' => e = e' ∧ IRD tab lib cvs idl rs v c1 H0 s0 n k k'
 | .blk i :: k, .blk j :: k' => i = j ∧ IRD tab lib cvs idl rs v c1 H0 s0 n k k'
 | .rnd b :: k, .round I m0 :: k' => n ≤ m0 ∧ (∃ B, n ≤ B + 1 ∧ I = InvD tab lib cvs idl rs v c1 H0 s0 b k B) ∧ IRD tab lib cvs idl rs v c1 H0 s0 n k k'
 | _, _ => False
theorem Sg.Le.take {s s' : Sg} (h : Sg.Le s s') : (⟨s'.b.take s.b.length, s'.t.take s.t.length⟩ : Sg) = s := by
 obtain ⟨b, t⟩ := s
 obtain ⟨b', t'⟩ := s'
 have key : ∀ (x y : List Nat), (∀ (i : Nat) (z : Nat), x[i]? = some z → y[i]? = some z) → y.take x.length = x := by
  intro x y hxy
  apply List.ext_getElem?
  intro i
  by_cases hi : i < x.length
  ·have := List.getElem?_eq_getElem hi
   rw [List.getElem?_take, if_pos hi, hxy _ _ this, this]
  ·rw [List.getElem?_take, if_neg hi, List.getElem?_eq_none (by omega)]
 simp only [key b b' h.b, key t t' h.t]
section
variable {P : Program} {H0 : AHeap} {Rp : AV → AHeap → Prop}
end
section
variable {P : Program}
end
section
variable {P : Program} {tab : Tab} {lib : Cl} {cvs : List FuncId} {idl : List (FuncId × Nat)} {rs : List ERes} {v : AV} {c1 : CS} {H0 : AHeap} {s0 : Sg}
theorem IRD.mono {n n' : Nat} (hn : n' ≤ n) : ∀ (k : List CI) (l : List Item), IRD tab lib cvs idl rs v c1 H0 s0 n k l → IRD tab lib cvs idl rs v c1 H0 s0 n' k l
 | [], [], _ => trivial
 | .c e :: k, .c e' :: k', h => ⟨h.1, IRD.mono hn k k' h.2⟩
 | .blk i :: k, .blk j :: k', h => ⟨h.1, IRD.mono hn k k' h.2⟩
 | .rnd b :: k, .round I m0 :: k', h => by
  obtain ⟨h1, ⟨B, h2, h3⟩, h4⟩ := h
  exact ⟨by omega, ⟨B, by omega, h3⟩, IRD.mono hn k k' h4⟩
 | [], _ :: _, h => by cases h
 | .c _ :: _, [], h => by cases h
 | .c _ :: _, .blk _ :: _, h => by cases h
 | .c _ :: _, .round _ _ :: _, h => by cases h
 | .blk _ :: _, [], h => by cases h
 | .blk _ :: _, .c _ :: _, h => by cases h
 | .blk _ :: _, .round _ _ :: _, h => by cases h
 | .rnd _ :: _, [], h => by cases h
 | .rnd _ :: _, .c _ :: _, h => by cases h
 | .rnd _ :: _, .blk _ :: _, h => by cases h
variable {s : Sg} {env env' : Env} {H : AHeap} {c : CS}
end
end Go.Aw
namespace Go.Aw
open Go
set_option linter.unusedVariables false
set_option linter.unusedSimpArgs false
def gv (a : AV) (t : Bool) : Option Bool := match a with
  | .bool b => some (b == t)
  | .raw (.tuple ⟨[]⟩) => some false
  | _ => none
theorem gv_b {b t : Bool} : gv (.bool b) t = some (b == t) := rfl
theorem gv_u {t : Bool} : gv .undef t = some false := rfl
def gst (g : Option (Nat × Bool)) (env : Env) : Option Bool := match g with
  | none => some true
  | some (j, t) => gv (env.get j) t
def dst (i : EI) (env : Env) (c : CS) : Option (Env × CS) := match gst i.guard env with
  | some true => (ost i.op env c).map fun q => (env.put i.dst q.1, q.2)
  | some false => some (env.put i.dst .undef, c)
  | none => none
def jst (ex bl : Bool) : List JI → Env → Option (List JI)
  | .c e :: k, env => match e with
    | .skip => some k
    | .seq a b => some (.c a :: .c b :: k)
    | .block id b => match bl with
      | true => some (.c b :: .blk id :: k)
      | false => none
    | .exit id => match ex with
      | true => jpop id k
      | false => none
    | .cond x a b => match cev env x with
      | .bool true => some (.c a :: k)
      | .bool false => some (.c b :: k)
      | _ => none
    | _ => none
  | .blk _ :: k, _ => some k
  | _, _ => none
section
variable {P : Program} {rs : List ERes} {n0 t0 : Nat} {k k' : List JI} {Q : Out → CS → Prop} {env env' : Env} {c c' : CS} {anns : List AV} {l : List EI} {i : EI} {K : Env → CS → Prop} {Rp : AV → CS → Prop}
theorem DJ.s (hp : isP i.op = false) (h : dst i env c = some (env', c')) (hk : DJ P anns l env' c' K Rp) : DJ P anns (i :: l) env c K Rp := by
  obtain ⟨d, g, op⟩ := i
  have hw : ∀ b, gst g env = some b → wanted ⟨d, g, op⟩ env = some b := by
    intro b hb
    cases g with
    | none => exact hb
    | some p => exact hb
  unfold dst at h
  simp only at h hp
  split at h
  · rename_i e
    simp only [Option.map_eq_some_iff, Prod.mk.injEq] at h
    obtain ⟨⟨v, c1⟩, h1, h2, h3⟩ := h
    subst h2 h3
    exact DJ.o (hw _ e) hp h1 hk
  · rename_i e
    simp only [Option.some.injEq, Prod.mk.injEq] at h
    obtain ⟨h2, h3⟩ := h
    subst h2 h3
    exact DJ.sk (hw _ e) hp hk
  · cases h
theorem DJ.gw {d : Option Nat} {j : Nat} {t : Bool} {op : EOp} (h : gv (env.get j) t = some true) (hk : DJ P anns (⟨d, none, op⟩ :: l) env c K Rp) : DJ P anns (⟨d, some (j, t), op⟩ :: l) env c K Rp := by
  unfold gv at h
  split at h
  · rename_i b e
    simp only [Option.some.injEq, beq_iff_eq] at h
    exact DJ.gd e h hk
  · cases h
  · cases h
theorem DJ.gz {d : Option Nat} {j : Nat} {t : Bool} {op : EOp} (hp : isP op = true) (h : gv (env.get j) t = some false) (hk : DJ P anns l (env.put d .undef) c K Rp) : DJ P (.undef :: anns) (⟨d, some (j, t), op⟩ :: l) env c K Rp := DJ.skP h hp hk
theorem J.s (ex bl : Bool) (h : jst ex bl k env = some k') (hk : J P rs n0 t0 k' Q env c) : J P rs n0 t0 k Q env c := by
  unfold jst at h
  split at h
  · split at h
    · cases h; exact .skip hk
    · cases h; exact .seq hk
    · cases bl with
      | true => cases h; exact .block hk
      | false => cases h
    · cases ex with
      | true => exact .exit h hk
      | false => cases h
    · split at h
      · rename_i e; cases h; exact .cT e hk
      · rename_i e; cases h; exact .cF e hk
      · cases h
    · cases h
  · cases h; exact .blkEnd hk
  · cases h
theorem DJ.fr {f : FuncId} {args : List EOpd} {d : Option Nat} (p : Sg) {as0 : List AV} {bl0 bl1 : BL} {tl0 tl1 : TL} {n t : Nat} {v : AV} (h : FC P f as0 (CS.of n t bl0 tl0) (Ro v bl1 tl1)) (hc : (p.b.length == n && (p.t.length == t && (nodupB p.b && (nodupB p.t && (p.b.all (fun x => Nat.blt x c.nb) && (p.t.all (fun x => Nat.blt x c.nt) && (bdL n t as0 && (bdB n t bl0 && (bdT n t tl0 && (bdB n t bl1 && (bdT n t tl1 && v.bd n t))))))))))) = true) (hB : hasP c.H.blk p bl0) (hT : hasPT c.H.tok p tl0) (ha : args.map (cev env) = renL p as0) (hk : DJ P anns l (env.put d (v.ren p)) (c.upd p bl1 tl1) K Rp) : DJ P anns (⟨d, none, .call f args⟩ :: l) env c K Rp := by
  simp only [Bool.and_eq_true, beq_iff_eq] at hc
  obtain ⟨c1, c2, c3, c4, c5, c6, c7, c8, c9, c10, c11, c12⟩ := hc
  exact DJ.cr rfl (FC.fr p h c1 c2 (by rw [c3, c4, c5, c6]; rfl) hB hT (by rw [c7, c8, c9]; rfl) (by rw [c10, c11, c12]; rfl) rfl) ha hk
end
end Go.Aw
namespace Go.Aw
open Go
set_option linter.unusedVariables false
set_option linter.unusedSimpArgs false
section
variable {Pr : Program} {rs : List ERes} {n0 t0 : Nat} {k k' : List JI} {Q : Out → CS → Prop} {env env' : Env} {c c' : CS} {anns : List AV} {l : List EI} {K : Env → CS → Prop} {Rp : AV → CS → Prop} {d : Option Nat} {g : Option (Nat × Bool)} {op : EOp} {j : Nat} {t b : Bool} {v v' : AV} {x i : EOpd} {ik : IntKind} {z : Int} {size p e : Nat} {f : FuncId} {args : List EOpd}
theorem D.S (hk : DJ Pr anns l env' c' K Rp) (hp : isP op = false := by rfl) (h : dst ⟨d, g, op⟩ env c = some (env', c') := by simp (disch := omega) only [go_sem, simprocAttr] <;> with_reducible rfl) : DJ Pr anns (⟨d, g, op⟩ :: l) env c K Rp := DJ.s hp h hk
theorem D.JJ (ex bl : Bool) (hk : J Pr rs n0 t0 k' Q env c) (h : jst ex bl k env = some k' := by simp (disch := omega) only [go_sem, simprocAttr] <;> with_reducible rfl) : J Pr rs n0 t0 k Q env c := J.s ex bl h hk
theorem D.W (hk : DJ Pr anns (⟨d, none, op⟩ :: l) env c K Rp) (h : gv (env.get j) t = some true := by simp (disch := omega) only [go_sem, simprocAttr] <;> with_reducible rfl) : DJ Pr anns (⟨d, some (j, t), op⟩ :: l) env c K Rp := DJ.gw h hk
theorem D.Z (hk : DJ Pr anns l (env.put d .undef) c K Rp) (hp : isP op = true := by rfl) (h : gv (env.get j) t = some false := by simp (disch := omega) only [go_sem, simprocAttr] <;> with_reducible rfl) : DJ Pr (.undef :: anns) (⟨d, some (j, t), op⟩ :: l) env c K Rp := DJ.gz hp h hk
theorem D.G (h1 : b = true → DJ Pr anns (⟨d, some (j, t), op⟩ :: l) ((j, .bool true) :: env) c K Rp) (h2 : b = false → DJ Pr anns (⟨d, some (j, t), op⟩ :: l) ((j, .bool false) :: env) c K Rp) (h : env.get j = .bool b := by simp (disch := omega) only [go_sem, simprocAttr] <;> with_reducible rfl) : DJ Pr anns (⟨d, some (j, t), op⟩ :: l) env c K Rp := DJ.gs h h1 h2
theorem D.C {a a' : EC} (h1 : b = true → J Pr rs n0 t0 (.c a :: k) Q env c) (h2 : b = false → J Pr rs n0 t0 (.c a' :: k) Q env c) (h : cev env x = .bool b := by simp (disch := omega) only [go_sem, simprocAttr] <;> with_reducible rfl) : J Pr rs n0 t0 (.c (.cond x a a') :: k) Q env c := J.cond h h1 h2
theorem D.R (hq : Q (.ret v) c) (h : cres rs env c.H = some v := by simp (disch := omega) only [go_sem, simprocAttr] <;> with_reducible rfl) : J Pr rs n0 t0 (.c .ret :: k) Q env c := J.ret h hq
theorem D.E (hq : Q (.ret v) c) (h : cres rs env c.H = some v := by simp (disch := omega) only [go_sem, simprocAttr] <;> with_reducible rfl) : J Pr rs n0 t0 [] Q env c := J.done h hq
theorem D.X {α : Type} {f : α → List AV} {w : α} {m : List α} {d : Nat} (hr : m[p]? = some w) (hk : DJ Pr anns l ((d, .rp (f w) 0) :: env) c K Rp) (hx : cev env x = .vs size (m.map f) := by simp (disch := omega) only [go_sem, simprocAttr] <;> with_reducible rfl) (hi : cev env i = .int ik z := by simp (disch := omega) only [go_sem, simprocAttr] <;> with_reducible rfl) (e : z = p := by omega) : DJ Pr anns (⟨some d, none, .iaddr size x i⟩ :: l) env c K Rp := DJ.ixm hx hi hr e hk
theorem D.XO {α : Type} {f : α → List AV} {w : α} {m : List α} {d q : Nat} (hr : m[p]? = some w) (hk : DJ Pr anns l ((d, .rp (f w) 0) :: env) c K Rp) (hx : cev env x = .own q size (m.map f) := by simp (disch := omega) only [go_sem, simprocAttr] <;> with_reducible rfl) (hi : cev env i = .int ik z := by simp (disch := omega) only [go_sem, simprocAttr] <;> with_reducible rfl) (e : z = p := by omega) : DJ Pr anns (⟨some d, none, .iaddr size x i⟩ :: l) env c K Rp := DJ.ixom hx hi hr e hk
theorem D.XS {u : UInt8} {d : Nat} {a : List UInt8} (hr : a[p]? = some u) (hk : DJ Pr anns l ((d, .int .u8 u.toNat) :: env) c K Rp) (hx : cev env x = .str a := by simp (disch := omega) only [go_sem, simprocAttr] <;> with_reducible rfl) (hi : cev env i = .int ik z := by simp (disch := omega) only [go_sem, simprocAttr] <;> with_reducible rfl) (e : z = p := by omega) : DJ Pr anns (⟨some d, none, .idxS x i⟩ :: l) env c K Rp := DJ.ixsm hx hi hr e hk
theorem D.F (s : Sg) {as0 : List AV} {bl0 bl1 : BL} {tl0 tl1 : TL} {n q : Nat} {c2 : CS} (h : FC Pr f as0 (CS.of n q bl0 tl0) (Ro v bl1 tl1)) (hk : DJ Pr anns l (env.put d v') c2 K Rp) (hc : (s.b.length == n && (s.t.length == q && (nodupB s.b && (nodupB s.t && (s.b.all (fun x => Nat.blt x c.nb) && (s.t.all (fun x => Nat.blt x c.nt) && (bdL n q as0 && (bdB n q bl0 && (bdT n q tl0 && (bdB n q bl1 && (bdT n q tl1 && v.bd n q))))))))))) = true := by simp (disch := omega) only [go_sem, simprocAttr] <;> rfl) (hB : hasP c.H.blk s bl0 := by repeat first | exact trivial | refine ⟨rfl, ?_⟩) (hT : hasPT c.H.tok s tl0 := by repeat first | exact trivial | refine ⟨rfl, ?_⟩) (ha : args.map (cev env) = renL s as0 := by simp (disch := omega) only [go_sem, simprocAttr] <;> rfl) (hv : v.ren s = v' := by simp (disch := omega) only [go_sem, simprocAttr] <;> with_reducible rfl) (hu : c.upd s bl1 tl1 = c2 := by simp (disch := omega) only [go_sem, simprocAttr] <;> with_reducible rfl) : DJ Pr anns (⟨d, none, .call f args⟩ :: l) env c K Rp := by
  subst hv hu
  exact DJ.fr s h hc hB hT ha hk
theorem D.P {d : Nat} {az as0 : List AV} {r : AV} (h : Pure Pr f az r) (hk : DJ Pr anns l ((d, r) :: env) c K Rp) (ha : args.map (cev env) = as0 := by simp (disch := omega) only [go_sem, simprocAttr] <;> with_reducible rfl) (hw : wkL as0 = az := by rfl) (hf : flatL az = true := by simp (disch := omega) only [go_sem, simprocAttr] <;> rfl) (hr : r.flat = true := by simp (disch := omega) only [go_sem, simprocAttr] <;> rfl) : DJ Pr anns (⟨some d, none, .call f args⟩ :: l) env c K Rp := DJ.pu h ha hw hf hr hk
theorem D.PC {az as0 : List AV} {r : AV} (h : Pure Pr f az r) (hk : DJ Pr anns l (env.put d r) c K Rp) (ha : args.map (cev env) = as0 := by simp (disch := omega) only [go_sem, simprocAttr] <;> with_reducible rfl) (hw : wkL as0 = az := by rfl) (hf : flatL az = true := by simp (disch := omega) only [go_sem, simprocAttr] <;> rfl) (hr : r.flat = true := by simp (disch := omega) only [go_sem, simprocAttr] <;> rfl) : DJ Pr (r :: anns) (⟨d, none, .pcall f args⟩ :: l) env c K Rp := DJ.pc rfl h (by rw [ha, hw]) hf hr hk
theorem D.V {d : Nat} {az as0 cap : List AV} {r : AV} (hf : callable Pr f = true) (h : Pure Pr f az r) (hk : DJ Pr anns l ((d, r) :: env) c K Rp) (hx : cev env x = .fn f cap := by simp (disch := omega) only [go_sem, simprocAttr] <;> with_reducible rfl) (ha : args.map (cev env) ++ cap = as0 := by simp (disch := omega) only [go_sem, simprocAttr] <;> with_reducible rfl) (hw : wkL as0 = az := by rfl) (hl : flatL az = true := by simp (disch := omega) only [go_sem, simprocAttr] <;> rfl) (hr : r.flat = true := by simp (disch := omega) only [go_sem, simprocAttr] <;> rfl) : DJ Pr anns (⟨some d, none, .callv x args⟩ :: l) env c K Rp := DJ.vr rfl hx hf (FC.ofPure h hl hr hw) ha hk
theorem D.PV {az as0 cap : List AV} {r : AV} (hf : callable Pr f = true) (h : Pure Pr f az r) (hk : DJ Pr anns l (env.put d r) c K Rp) (hx : cev env x = .fn f cap := by simp (disch := omega) only [go_sem, simprocAttr] <;> with_reducible rfl) (ha : args.map (cev env) ++ cap = as0 := by simp (disch := omega) only [go_sem, simprocAttr] <;> with_reducible rfl) (hw : wkL as0 = az := by rfl) (hl : flatL az = true := by simp (disch := omega) only [go_sem, simprocAttr] <;> rfl) (hr : r.flat = true := by simp (disch := omega) only [go_sem, simprocAttr] <;> rfl) : DJ Pr (r :: anns) (⟨d, none, .pcallv x args⟩ :: l) env c K Rp := DJ.pcv rfl hx hf h (by rw [ha, hw]) hl hr hk
end
end Go.Aw
namespace Go.Aw
open Go
set_option linter.unusedVariables false
set_option linter.unusedSimpArgs false
section
variable {P : Program} {rs : List ERes} {n0 t0 : Nat} {k : List JI} {Q : Out → CS → Prop} {env : Env} {c c1 : CS} {v : AV}
def noRndJ (k : List JI) : Bool := k.all fun i => match i with
  | .rnd _ _ => false
  | _ => true
theorem noRndJ_ok {H0 : AHeap} {s0 : Sg} : ∀ {k : List JI}, noRndJ k = true → (k.map (JI.tr H0 s0)).all (fun i => match i with | .round _ _ => false | _ => true) = true
  | [], _ => rfl
  | .c e :: k, h => by
    simp only [noRndJ, List.all_cons, Bool.true_and] at h
    simp only [List.map_cons, List.all_cons, JI.tr, Bool.true_and]
    exact noRndJ_ok h
  | .blk i :: k, h => by
    simp only [noRndJ, List.all_cons, Bool.true_and] at h
    simp only [List.map_cons, List.all_cons, JI.tr, Bool.true_and]
    exact noRndJ_ok h
  | .rnd _ _ :: k, h => by simp [noRndJ] at h
def DCJ (P : Program) (f : FuncId) (caps : List AV) (x : AV) (c : CS) (Q2 : CS → Prop) : Prop :=
  ∀ H0 s caps' x' H, RnL s caps caps' → Rn s x x' → HRc H0 s c H → DCalls P f caps' x' H fun H2 => ∃ s' c1, Sg.Le s s' ∧ Q2 c1 ∧ HRc H0 s' c1 H2
def tmpsOf (env' : Env) (kt : Env) : Env := kt.map fun p => (p.1, env'.get p.1)
theorem tmpsOf_get (env' : Env) : ∀ (kt : Env) (j : Nat), (tmpsOf env' kt).get j = env'.get j ∨ ((tmpsOf env' kt).get j = .top ∧ kt.get j = .top)
  | [], _ => .inr ⟨rfl, rfl⟩
  | (i, v) :: kt, j => by
    simp only [tmpsOf, List.map_cons, Env.get]
    cases e : i == j with
    | true =>
      have : i = j := by simpa using e
      subst this
      exact .inl rfl
    | false => exact tmpsOf_get env' kt j
theorem kt_get {env : Env} : ∀ (kt : Env), (∀ p ∈ kt, env.get p.1 = p.2) → ∀ j, kt.get j = env.get j ∨ kt.get j = .top
  | [], _, _ => .inr rfl
  | (i, v) :: kt, h, j => by
    simp only [Env.get]
    cases e : i == j with
    | true =>
      have : i = j := by simpa using e
      subst this
      exact .inl (h (i, v) List.mem_cons_self).symm
    | false => exact kt_get kt (fun q hq => h q (List.mem_cons_of_mem _ hq)) j
theorem Rn.top (s : Sg) (x : AV) : Rn s .top x := by simp only [Rn]
def noWJ (t : Nat) (k : List JI) : Bool := k.all fun i => match i with
  | .c e => e.noW t
  | .blk _ => true
  | .rnd _ _ => false
theorem noWJ_ok {H0 : AHeap} {s0 : Sg} {t : Nat} : ∀ {k : List JI}, noWJ t k = true → (k.map (JI.tr H0 s0)).all (Item.noW t) = true
  | [], _ => rfl
  | .c e :: k, h => by
    simp only [noWJ, List.all_cons, Bool.and_eq_true] at h
    simp only [List.map_cons, List.all_cons, JI.tr, Bool.and_eq_true]
    exact ⟨h.1, noWJ_ok h.2⟩
  | .blk i :: k, h => by
    simp only [noWJ, List.all_cons, Bool.true_and] at h
    simp only [List.map_cons, List.all_cons, JI.tr, Bool.and_eq_true]
    exact ⟨rfl, noWJ_ok h⟩
  | .rnd _ _ :: k, h => by simp [noWJ] at h
theorem noRndJ_tr {H0 : AHeap} {s0 s1 : Sg} : ∀ {k : List JI}, noRndJ k = true → k.map (JI.tr H0 s0) = k.map (JI.tr H0 s1)
  | [], _ => rfl
  | .c e :: k, h => by
    simp only [noRndJ, List.all_cons, Bool.true_and] at h
    simp only [List.map_cons, JI.tr]
    rw [noRndJ_tr h]
  | .blk i :: k, h => by
    simp only [noRndJ, List.all_cons, Bool.true_and] at h
    simp only [List.map_cons, JI.tr]
    rw [noRndJ_tr h]
  | .rnd _ _ :: k, h => by simp [noRndJ] at h
theorem DCalls.mono {f : FuncId} {caps : List AV} {x : AV} {H : AHeap} {Q1 Q2 : AHeap → Prop} (h : DCalls P f caps x H Q1) (hq : ∀ H', Q1 H' → Q2 H') : DCalls P f caps x H Q2 := fun m vs cv h1 h2 h3 h4 =>
  (h m vs cv h1 h2 h3 h4).mono fun e u' w' ⟨g1, g2, H', L', T', g3, g4, g5⟩ => ⟨g1, g2, H', L', T', g3, g4, hq H' g5⟩
end
end Go.Aw
namespace Go.Aw
open Go
set_option linter.unusedVariables false
set_option linter.unusedSimpArgs false
mutual
theorem flat_ren {p : Sg} : ∀ (a : AV), a.flat = true → a.ren p = a
  | .agg cs, h => by simp only [AV.flat] at h; simp only [AV.ren, flatL_ren cs h]
  | .tup cs, h => by simp only [AV.flat] at h; simp only [AV.ren, flatL_ren cs h]
  | .fn _ cs, h => by simp only [AV.flat] at h; simp only [AV.ren, flatL_ren cs h]
  | .ifc _ v, h => by simp only [AV.flat] at h; simp only [AV.ren, flat_ren v h]
  | .own _ _ _, h => by simp [AV.flat] at h
  | .ptr _ _, h => by simp [AV.flat] at h
  | .ms _ _, h => by simp [AV.flat] at h
  | .mp _ _ _, h => by simp [AV.flat] at h
  | .top, _ => rfl
  | .bool _, _ => rfl
  | .int _ _, _ => rfl
  | .str _, _ => rfl
  | .raw _, _ => rfl
  | .vs _ _, _ => rfl
  | .rp _ _, _ => rfl
theorem flatL_ren {p : Sg} : ∀ (l : List AV), flatL l = true → renL p l = l
  | [], _ => rfl
  | a :: l, h => by simp only [flatL, Bool.and_eq_true] at h; simp only [renL, flat_ren a h.1, flatL_ren l h.2]
end
mutual
theorem flat_bd {n t : Nat} : ∀ (a : AV), a.flat = true → a.bd n t = true
  | .agg cs, h => by simp only [AV.flat] at h; simp only [AV.bd, flatL_bd cs h]
  | .tup cs, h => by simp only [AV.flat] at h; simp only [AV.bd, flatL_bd cs h]
  | .fn _ cs, h => by simp only [AV.flat] at h; simp only [AV.bd, flatL_bd cs h]
  | .ifc _ v, h => by simp only [AV.flat] at h; simp only [AV.bd, flat_bd v h]
  | .own _ _ _, h => by simp [AV.flat] at h
  | .ptr _ _, h => by simp [AV.flat] at h
  | .ms _ _, h => by simp [AV.flat] at h
  | .mp _ _ _, h => by simp [AV.flat] at h
  | .top, _ => rfl
  | .bool _, _ => rfl
  | .int _ _, _ => rfl
  | .str _, _ => rfl
  | .raw _, _ => rfl
  | .vs _ _, h => by simpa only [AV.flat, AV.bd] using h
  | .rp _ _, h => by simpa only [AV.flat, AV.bd] using h
theorem flatL_bd {n t : Nat} : ∀ (l : List AV), flatL l = true → bdL n t l = true
  | [], _ => rfl
  | a :: l, h => by simp only [flatL, Bool.and_eq_true] at h; simp only [bdL, flat_bd a h.1, flatL_bd l h.2, Bool.and_self]
end
def Rpn (x : AV) : Out → CS → Prop := fun o _ => o = .pan x
section
variable {P : Program} {rs : List ERes} {n0 t0 : Nat} {k : List JI} {Q : Out → CS → Prop} {env : Env} {c : CS} {anns : List AV} {l : List EI} {K : Env → CS → Prop} {Rp : AV → CS → Prop} {f : FuncId} {args : List EOpd} {az as0 : List AV}
theorem FC.fp (p : Sg) {bl0 : BL} {tl0 : TL} {n t : Nat} {x : AV} (h : FC P f as0 (CS.of n t bl0 tl0) (Rpn x)) (hn : p.b.length = n) (ht : p.t.length = t)
    (hd : (nodupB p.b && nodupB p.t && p.b.all (fun x => Nat.blt x c.nb) && p.t.all (fun x => Nat.blt x c.nt)) = true) (hB : hasP c.H.blk p bl0) (hT : hasPT c.H.tok p tl0) (hb : (bdL n t as0 && (bdB n t bl0 && bdT n t tl0)) = true)
    (hx : x.bd n t = true) (hr : x.ren p = x) {az : List AV} (ha : az = renL p as0) : FC P f az c (fun o c' => o = .pan x ∧ c' = c.upd p [] []) := by
  simp only [Bool.and_eq_true, List.all_eq_true] at hd
  obtain ⟨⟨⟨d1, d2⟩, d3⟩, d4⟩ := hd
  subst ha
  refine FC.frame p h hn ht (by rw [d1, d2]; rfl) (fun i x e => blt_lt (d3 x (List.mem_of_getElem? e))) (fun i x e => blt_lt (d4 x (List.mem_of_getElem? e))) hb hB hT ?_
  rintro o c1 rfl
  refine ⟨[], [], trivial, trivial, ?_, ?_, rfl⟩
  · simp only [bdB, bdT, bdO1, hx, Bool.and_self]
  · simp only [Out.ren, hr]
theorem D.FP {d : Option Nat} (s : Sg) {bl0 : BL} {tl0 : TL} {n q : Nat} {x : AV} (h : FC P f as0 (CS.of n q bl0 tl0) (Rpn x)) (hk : ∀ c', Rp x c')
    (hc : (s.b.length == n && (s.t.length == q && (nodupB s.b && (nodupB s.t && (s.b.all (fun x => Nat.blt x c.nb) && (s.t.all (fun x => Nat.blt x c.nt) && (bdL n q as0 && (bdB n q bl0 && (bdT n q tl0 && x.bd n q))))))))) = true := by simp (disch := omega) only [go_sem, simprocAttr] <;> rfl) (hB : hasP c.H.blk s bl0 := by repeat first | exact trivial | refine ⟨rfl, ?_⟩) (hT : hasPT c.H.tok s tl0 := by repeat first | exact trivial | refine ⟨rfl, ?_⟩) (ha : args.map (cev env) = renL s as0 := by simp (disch := omega) only [go_sem, simprocAttr] <;> rfl) (hr : x.ren s = x := by rfl) : DJ P anns (⟨d, none, .call f args⟩ :: l) env c K Rp := by
  simp only [Bool.and_eq_true, beq_iff_eq] at hc
  obtain ⟨c1, c2, c3, c4, c5, c6, c7, c8, c9, c10⟩ := hc
  refine DJ.cq rfl (FC.fp s h c1 c2 (by rw [c3, c4, c5, c6]; rfl) hB hT (by rw [c7, c8, c9]; rfl) c10 hr rfl) ha ?_ ?_
  · rintro v c1 ⟨e, _⟩
    cases e
  · rintro v c1 ⟨e, _⟩
    cases e
    exact hk _
theorem outle_refl' (o : Out) : OutLe o o := by cases o <;> first | exact AVLe.refl _ | (simp only [OutLe]; exact AVLe.refl _)
theorem J.dead (j T : Nat) (hj : c.H.tok j = some (.frz T 0 0)) : J P rs n0 t0 k Q env c := fun H0 s0 s env' H R hn ht hs he hr hR => by
  refine AM.conv (fun _ _ => False) ?_ fun _ _ h => h.elim
  intro m hH rh
  subst hH
  obtain ⟨x, i, h1, h2, h3⟩ := hr.tok j _ hj
  have := (rh.tok x i h2).2.1
  exact absurd (h3.2.1.trans rfl) this
theorem IJ.callDP {others : List Nat} {x r0 : AV} {c2 : CS} (h : FC P f (args.map (cev env)) c (fun o c' => o = .pan x ∧ c' = c2)) (hr0 : r0.flat = true) (hn : c2.nb = c.nb) (ht : c2.nt = c.nt) (ho : ∀ s ∈ others, ∃ b' T' cs', env.get s = .ptr b' 0 ∧ c.H.blk b' = some (T', cs') ∧ c2.H.blk b' = some (T', cs') ∧ tfL cs' = true) : IJ P (.callD others f args) env c (fun v' c' => v' = r0 ∧ c' = c.addT (.frz 0 0 0)) (fun v' c' => v' = x ∧ c' = c2) := fun H0 s env' H K Rp' he hr hK hRp => by
  have heq : ∀ {s' : Sg} {H' : AHeap}, Sg.Le s s' → HRc H0 s' c2 H' → s' = s := fun q1 q4 => q1.eq (by rw [← q4.nb, hn, hr.nb]) (by rw [← q4.nt, ht, hr.nt])
  have h1 := h H0 s _ H (cevs_rn he args) hr
  refine .callD (az := args.map (EOpd.ev env')) (fun o H' => (∃ s' o1 c1, Sg.Le s s' ∧ (o1 = .pan x ∧ c1 = c2) ∧ RnO s' o1 o ∧ HRc H0 s' c1 H') ∨ (∃ N, H.tok N = none ∧ o = .ret r0 ∧ H' = H.setT N (.frz 0 0 0))) (fun j hj => ?_) (fun hF => ?_) (AVLes.rfl' _) (h1.mono fun o H' hq => ⟨o, H', outle_refl' o, HSub.refl H', .inl hq⟩) ?_
  · obtain ⟨b', T', cs', e1, e2, e3, e4⟩ := ho j hj
    have hj' := he j
    rw [e1] at hj'
    simp only [Rn] at hj'
    obtain ⟨y, g1, g2⟩ := hj'
    refine ⟨y, g2, fun o H' hq => ?_⟩
    rcases hq with ⟨s', o1, c1, q1, ⟨_, q3⟩, q4, q5⟩ | ⟨N, _, _, rfl⟩
    · subst q3
      have := heq q1 q5
      subst this
      obtain ⟨z, l1, r1, r2, r3⟩ := hr.blk b' T' cs' e2
      obtain ⟨y2, l2, r4, r5, r6⟩ := q5.blk b' T' cs' e3
      rw [g1] at r1 r4
      cases r1
      cases r4
      rw [r2, r5, RnL.same cs' l1 l2 e4 r3 r6]
    · rfl
  · obtain ⟨N, hN⟩ := hF
    refine ⟨r0, _, .inr ⟨N, (hN N (Nat.le_refl _)).2, rfl, rfl⟩, N + 1, fun m hm => ⟨(hN m (by omega)).1, ?_⟩⟩
    simp only [AHeap.setT]
    rw [if_neg (by omega)]
    exact (hN m (by omega)).2
  · rintro o H' (⟨s', o1, c1, q1, ⟨q2, q3⟩, q4, q5⟩ | ⟨N, h2, rfl, rfl⟩)
    · subst q2 q3
      cases o with
      | ret v => simp only [RnO] at q4
      | pan v => exact hRp s' _ v _ H' q1 ⟨rfl, rfl⟩ q4 q5
    · exact hK ⟨s.b, s.t ++ [N]⟩ r0 r0 (c.addT (.frz 0 0 0)) _ (Sg.leT s N) ⟨rfl, rfl⟩ ((AV.flat_rn r0 hr0 r0).2 rfl) (hr.addT OwR.frz h2)
theorem D.CP {others : List Nat} {d : Nat} (s : Sg) (r0 : AV) {bl0 : BL} {tl0 : TL} {n q : Nat} {x : AV} (h : FC P f as0 (CS.of n q bl0 tl0) (Rpn x)) (hk0 : DJ P anns l ((d, r0) :: env) (c.addT (.frz 0 0 0)) K Rp) (hk : ∀ c', Rp x c') (ho : ∀ t ∈ others, ∃ b' T' cs', env.get t = .ptr b' 0 ∧ c.H.blk b' = some (T', cs') ∧ (c.upd s [] []).H.blk b' = some (T', cs') ∧ tfL cs' = true)
    (hr0 : r0.flat = true := by simp (disch := omega) only [go_sem, simprocAttr] <;> rfl)
    (hc : (s.b.length == n && (s.t.length == q && (nodupB s.b && (nodupB s.t && (s.b.all (fun x => Nat.blt x c.nb) && (s.t.all (fun x => Nat.blt x c.nt) && (bdL n q as0 && (bdB n q bl0 && (bdT n q tl0 && x.bd n q))))))))) = true := by simp (disch := omega) only [go_sem, simprocAttr] <;> rfl) (hB : hasP c.H.blk s bl0 := by repeat first | exact trivial | refine ⟨rfl, ?_⟩) (hT : hasPT c.H.tok s tl0 := by repeat first | exact trivial | refine ⟨rfl, ?_⟩) (ha : args.map (cev env) = renL s as0 := by simp (disch := omega) only [go_sem, simprocAttr] <;> rfl) (hr : x.ren s = x := by rfl) : DJ P anns (⟨some d, none, .callD others f args⟩ :: l) env c K Rp := by
  simp only [Bool.and_eq_true, beq_iff_eq] at hc
  obtain ⟨c1, c2, c3, c4, c5, c6, c7, c8, c9, c10⟩ := hc
  have hF : FC P f (args.map (cev env)) c (fun o c' => o = .pan x ∧ c' = c.upd s [] []) := by
    rw [ha]
    exact FC.fp s h c1 c2 (by rw [c3, c4, c5, c6]; rfl) hB hT (by rw [c7, c8, c9]; rfl) c10 hr rfl
  refine DJ.opr (S := fun v' c' => v' = r0 ∧ c' = c.addT (.frz 0 0 0)) rfl rfl (IJ.mono (IJ.callDP (others := others) hF hr0 rfl rfl ho) (fun _ _ h => h) fun v c' e => ?_) fun v' c' e => ?_
  · rw [e.1]
    exact hk _
  · rw [e.1, e.2]
    exact hk0
end
end Go.Aw
