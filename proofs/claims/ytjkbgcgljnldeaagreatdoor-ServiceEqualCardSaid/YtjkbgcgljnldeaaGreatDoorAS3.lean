/- Part of a proof; own work. -/
import Derived.Test.YtjkbgcgljnldeaaGreatDoorProg
import Derived.Test.YtjkbgcgljnldeaaGreatDoorAS2
namespace Go.Aw
open Go
set_option linter.unusedVariables false
set_option linter.unusedSimpArgs false
def RnO (s : Sg) : Out → Out → Prop
  | .ret a, .ret b => Rn s a b
  | .pan a, .pan b => Rn s a b
  | _, _ => False
def FC (P : Program) (f : FuncId) (az : List AV) (c : CS) (Q : Out → CS → Prop) : Prop :=
  ∀ H0 s az' H, RnL s az az' → HRc H0 s c H → ACalls P f az' H fun o' H' => ∃ s' o c1, Sg.Le s s' ∧ Q o c1 ∧ RnO s' o o' ∧ HRc H0 s' c1 H'
def Rt (v : AV) (c1 : CS) : Out → CS → Prop := fun o c => o = .ret v ∧ c = c1
inductive JI where
  | c (e : EC)
  | blk (id : Nat)
  | rnd (I : Nat → Env → CS → Prop) (m0 : Nat)
def JI.tr (H0 : AHeap) (s0 : Sg) : JI → Item
  | .c e => .c e
  | .blk id => .blk id
  | .rnd I m0 => .round (fun m env' H' => ∃ s env c, Sg.Le s0 s ∧ I m env c ∧ RnE s env env' ∧ HRc H0 s c H') m0
def jpop (id : Nat) : List JI → Option (List JI)
  | .blk j :: k => bif j == id then some k else jpop id k
  | _ :: k => jpop id k
  | [] => none
theorem jpop_ok {H0 : AHeap} {s0 : Sg} {id : Nat} : ∀ {k k' : List JI}, jpop id k = some k' → popTo id (k.map (JI.tr H0 s0)) = some (k'.map (JI.tr H0 s0))
  | [], _, h => by cases h
  | .c _ :: k, _, h => by simp only [jpop] at h; simp only [List.map_cons, JI.tr, popTo]; exact jpop_ok h
  | .rnd _ _ :: k, _, h => by simp only [jpop] at h; simp only [List.map_cons, JI.tr, popTo]; exact jpop_ok h
  | .blk j :: k, _, h => by
    simp only [jpop] at h
    simp only [List.map_cons, JI.tr, popTo]
    cases hi : j == id with
    | true => rw [hi] at h; cases h; rw [if_pos (by simpa using hi)]
    | false => rw [hi] at h; rw [if_neg (by simpa using hi)]; exact jpop_ok h
def J (P : Program) (rs : List ERes) (n0 t0 : Nat) (k : List JI) (Q : Out → CS → Prop) (env : Env) (c : CS) : Prop :=
  ∀ H0 s0 s env' H (R : Out → AHeap → Prop), s0.b.length = n0 → s0.t.length = t0 → Sg.Le s0 s → RnE s env env' → HRc H0 s c H → (∀ s' o o' c1 H', Sg.Le s0 s' → Q o c1 → RnO s' o o' → HRc H0 s' c1 H' → R o' H') → AM P rs R (k.map (JI.tr H0 s0)) env' H
def DJ (P : Program) (anns : List AV) (l : List EI) (env : Env) (c : CS) (K : Env → CS → Prop) (Rp : AV → CS → Prop) : Prop :=
  ∀ H0 s env' H (K' : Env → AHeap → Prop) (Rp' : AV → AHeap → Prop), RnE s env env' → HRc H0 s c H → (∀ s' e e' c1 H', Sg.Le s s' → K e c1 → RnE s' e e' → HRc H0 s' c1 H' → K' e' H') → (∀ s' v v' c1 H', Sg.Le s s' → Rp v c1 → Rn s' v v' → HRc H0 s' c1 H' → Rp' v' H') → DM P (annotate l anns) env' H K' Rp'
variable {P : Program} {rs : List ERes} {n0 t0 : Nat} {k : List JI} {Q : Out → CS → Prop} {env : Env} {c c1 : CS} {v : AV}
theorem J.ret (hv : cres rs env c.H = some v) (h : Q (.ret v) c) : J P rs n0 t0 (.c .ret :: k) Q env c := fun H0 s0 s env' H R hn ht hs he hr hR => by
  obtain ⟨v', g1, g2⟩ := cres_ok he hr hv
  exact .ret g1 (hR s (.ret v) (.ret v') c H hs h g2 hr)
theorem J.done (hv : cres rs env c.H = some v) (h : Q (.ret v) c) : J P rs n0 t0 [] Q env c := fun H0 s0 s env' H R hn ht hs he hr hR => by
  obtain ⟨v', g1, g2⟩ := cres_ok he hr hv
  exact .done g1 (hR s (.ret v) (.ret v') c H hs h g2 hr)
theorem J.skip (h : J P rs n0 t0 k Q env c) : J P rs n0 t0 (.c .skip :: k) Q env c := fun H0 s0 s env' H R hn ht hs he hr hR => .skip (h H0 s0 s env' H R hn ht hs he hr hR)
theorem J.blkEnd {id : Nat} (h : J P rs n0 t0 k Q env c) : J P rs n0 t0 (.blk id :: k) Q env c := fun H0 s0 s env' H R hn ht hs he hr hR => .blkEnd (h H0 s0 s env' H R hn ht hs he hr hR)
theorem J.seq {a b : EC} (h : J P rs n0 t0 (.c a :: .c b :: k) Q env c) : J P rs n0 t0 (.c (.seq a b) :: k) Q env c := fun H0 s0 s env' H R hn ht hs he hr hR => .seq (h H0 s0 s env' H R hn ht hs he hr hR)
theorem J.block {id : Nat} {b : EC} (h : J P rs n0 t0 (.c b :: .blk id :: k) Q env c) : J P rs n0 t0 (.c (.block id b) :: k) Q env c := fun H0 s0 s env' H R hn ht hs he hr hR => .block (h H0 s0 s env' H R hn ht hs he hr hR)
theorem J.exit {id : Nat} {k' : List JI} (hk : jpop id k = some k') (h : J P rs n0 t0 k' Q env c) : J P rs n0 t0 (.c (.exit id) :: k) Q env c := fun H0 s0 s env' H R hn ht hs he hr hR => .exit (jpop_ok hk) (h H0 s0 s env' H R hn ht hs he hr hR)
theorem J.cond {x : EOpd} {a b : EC} {t : Bool} (hc : cev env x = .bool t) (h1 : t = true → J P rs n0 t0 (.c a :: k) Q env c) (h2 : t = false → J P rs n0 t0 (.c b :: k) Q env c) : J P rs n0 t0 (.c (.cond x a b) :: k) Q env c := fun H0 s0 s env' H R hn ht hs he hr hR => by
  have hx := cev_rn he x
  rw [hc] at hx
  simp only [Rn] at hx
  exact .cond hx (fun e => h1 e H0 s0 s env' H R hn ht hs he hr hR) (fun e => h2 e H0 s0 s env' H R hn ht hs he hr hR)
theorem J.cT {x : EOpd} {a b : EC} (hc : cev env x = .bool true) (h : J P rs n0 t0 (.c a :: k) Q env c) : J P rs n0 t0 (.c (.cond x a b) :: k) Q env c := J.cond hc (fun _ => h) (fun e => by cases e)
theorem J.cF {x : EOpd} {a b : EC} (hc : cev env x = .bool false) (h : J P rs n0 t0 (.c b :: k) Q env c) : J P rs n0 t0 (.c (.cond x a b) :: k) Q env c := J.cond hc (fun e => by cases e) (fun _ => h)
theorem J.reg {ops : List EI} {draw : Bool} {anns : List AV} (h : DJ P anns ops env c (fun e c1 => J P rs n0 t0 k Q e c1) (fun v c1 => Q (.pan v) c1)) : J P rs n0 t0 (.c (.region ops draw) :: k) Q env c := fun H0 s0 s env' H R hn ht hs he hr hR =>
  .region anns _ (h H0 s env' H _ _ he hr (fun s' e e' c1 H' q1 q2 q3 q4 => q2 H0 s0 s' e' H' R hn ht (hs.trans q1) q3 q4 hR) (fun s' v v' c1 H' q1 q2 q3 q4 => hR s' (.pan v) (.pan v') c1 H' (hs.trans q1) q2 q3 q4)) fun _ _ h => h
theorem J.loop {body : EC} (I : Nat → Env → CS → Prop) (m : Nat) (h0 : I m env c) (h : ∀ m' e c', I m' e c' → J P rs n0 t0 (.c body :: .rnd I m' :: k) Q e c') : J P rs n0 t0 (.c (.loop body) :: k) Q env c := fun H0 s0 s env' H R hn ht hs he hr hR =>
  .loop (fun m env' H' => ∃ s env c, Sg.Le s0 s ∧ I m env c ∧ RnE s env env' ∧ HRc H0 s c H') m ⟨s, env, c, hs, h0, he, hr⟩ fun m' e' H' ⟨s2, e2, c2, q1, q2, q3, q4⟩ => h m' e2 c2 q2 H0 s0 s2 e' H' R hn ht q1 q3 q4 hR
theorem J.round {I : Nat → Env → CS → Prop} {m0 : Nat} (m : Nat) (h0 : I m env c) (h1 : m < m0) : J P rs n0 t0 (.rnd I m0 :: k) Q env c := fun H0 s0 s env' H R hn ht hs he hr hR =>
  .round m ⟨s, env, c, hs, h0, he, hr⟩ h1
def EHas (env : Env) : Env → Prop
  | [] => True
  | p :: l => env.get p.1 = p.2 ∧ EHas env l
theorem EHas.get : ∀ {E : Env}, EHas env E → ∀ j, E.get j = env.get j ∨ E.get j = .top
  | [], _, j => .inr rfl
  | (k, v) :: E, h, j => by
    simp only [EHas] at h
    simp only [Env.get]
    cases hk : k == j with
    | true => have : k = j := by simpa using hk
              subst this; exact .inl h.1.symm
    | false => exact EHas.get h.2 j
theorem RnE.weak {s : Sg} {E env' : Env} (h : ∀ j, E.get j = env.get j ∨ E.get j = .top) (he : RnE s env env') : RnE s E env' := fun j => by
  rcases h j with e | e
  · rw [e]; exact he j
  · rw [e]; simp only [Rn]
abbrev BL := List (Nat × TypeId × List AV)
abbrev TL := List (Nat × Own)
def lkB : BL → Nat → Option (TypeId × List AV)
  | [], _ => none
  | (k, x) :: l, j => bif k == j then some x else lkB l j
def lkT : TL → Nat → Option Own
  | [], _ => none
  | (k, x) :: l, j => bif k == j then some x else lkT l j
def CS.of (nb nt : Nat) (bl : BL) (tl : TL) : CS := ⟨⟨lkB bl, lkT tl⟩, nb, nt⟩
def HasB (H : AHeap) : BL → Prop
  | [] => True
  | p :: l => H.blk p.1 = some p.2 ∧ HasB H l
def HasT (H : AHeap) : TL → Prop
  | [] => True
  | p :: l => H.tok p.1 = some p.2 ∧ HasT H l
theorem HasB.get {H : AHeap} : ∀ {l : BL}, HasB H l → ∀ j y, lkB l j = some y → H.blk j = some y
  | [], _, _, _, e => by cases e
  | (k, x) :: l, h, j, y, e => by
    simp only [HasB] at h
    simp only [lkB] at e
    cases hk : k == j with
    | true => rw [hk] at e; cases e
              have : k = j := by simpa using hk
              subst this; exact h.1
    | false => rw [hk] at e; exact HasB.get h.2 j y e
theorem HasT.get {H : AHeap} : ∀ {l : TL}, HasT H l → ∀ j y, lkT l j = some y → H.tok j = some y
  | [], _, _, _, e => by cases e
  | (k, x) :: l, h, j, y, e => by
    simp only [HasT] at h
    simp only [lkT] at e
    cases hk : k == j with
    | true => rw [hk] at e; cases e
              have : k = j := by simpa using hk
              subst this; exact h.1
    | false => rw [hk] at e; exact HasT.get h.2 j y e
mutual
def AV.bd (n t : Nat) : AV → Bool
  | .ptr b _ => Nat.blt b n
  | .agg cs => bdL n t cs
  | .tup cs => bdL n t cs
  | .vs _ rows => flatR rows
  | .own x _ rows => Nat.blt x t && flatR rows
  | .ms x _ => Nat.blt x t
  | .mp x _ _ => Nat.blt x t
  | .rp row _ => flatL row
  | .fn _ cap => bdL n t cap
  | .ifc _ v => v.bd n t
  | _ => true
def bdL (n t : Nat) : List AV → Bool
  | [] => true
  | a :: az => a.bd n t && bdL n t az
end
theorem flatL_any {s s' : Sg} {az l : List AV} (h : flatL az = true) (hr : RnL s az l) : RnL s' az l := (flatL_rn az h l).2 ((flatL_rn az h l).1 hr)
theorem flatR_any {s s' : Sg} {az l : List (List AV)} (h : flatR az = true) (hr : RnR s az l) : RnR s' az l := (flatR_rn az h l).2 ((flatR_rn az h l).1 hr)
theorem blt_lt {i n : Nat} (h : Nat.blt i n = true) : i < n := by simpa [Nat.blt_eq] using h
theorem take_get {l : List Nat} {n i x : Nat} (h : l[i]? = some x) (hi : Nat.blt i n = true) : (l.take n)[i]? = some x := by
  rw [List.getElem?_take, if_pos (blt_lt hi), h]
mutual
theorem Rn.cut {s : Sg} {n t : Nat} : ∀ (a v : AV), Rn s a v → a.bd n t = true → Rn ⟨s.b.take n, s.t.take t⟩ a v
  | .top, _, _, _ => by simp only [Rn]
  | .ptr b o, _, h, hb => by simp only [AV.bd] at hb; simp only [Rn] at *; obtain ⟨x, h1, h2⟩ := h; exact ⟨x, take_get h1 hb, h2⟩
  | .agg cs, _, h, hb => by simp only [AV.bd] at hb; simp only [Rn] at *; obtain ⟨l, h1, h2⟩ := h; exact ⟨l, h1, RnL.cut cs l h2 hb⟩
  | .tup cs, _, h, hb => by simp only [AV.bd] at hb; simp only [Rn] at *; obtain ⟨l, h1, h2⟩ := h; exact ⟨l, h1, RnL.cut cs l h2 hb⟩
  | .vs _ rows, _, h, hb => by
    simp only [AV.bd] at hb
    simp only [Rn] at *
    obtain ⟨l, h1, h2⟩ := h
    exact ⟨l, h1, flatR_any hb h2⟩
  | .own x _ rows, _, h, hb => by
    simp only [AV.bd, Bool.and_eq_true] at hb
    simp only [Rn] at *
    obtain ⟨y, l, h0, h1, h2⟩ := h
    exact ⟨y, l, take_get h0 hb.1, h1, flatR_any hb.2 h2⟩
  | .ms x _, _, h, hb => by simp only [AV.bd] at hb; simp only [Rn] at *; obtain ⟨x, h1, h2⟩ := h; exact ⟨x, take_get h1 hb, h2⟩
  | .mp x _ _, _, h, hb => by simp only [AV.bd] at hb; simp only [Rn] at *; obtain ⟨x, h1, h2⟩ := h; exact ⟨x, take_get h1 hb, h2⟩
  | .rp row _, _, h, hb => by
    simp only [AV.bd] at hb
    simp only [Rn] at *
    obtain ⟨l, h1, h2⟩ := h
    exact ⟨l, h1, flatL_any hb h2⟩
  | .fn _ cap, _, h, hb => by simp only [AV.bd] at hb; simp only [Rn] at *; obtain ⟨l, h1, h2⟩ := h; exact ⟨l, h1, RnL.cut cap l h2 hb⟩
  | .ifc _ v, _, h, hb => by simp only [AV.bd] at hb; simp only [Rn] at *; obtain ⟨x, h1, h2⟩ := h; exact ⟨x, h1, Rn.cut v x h2 hb⟩
  | .bool _, _, h, _ => by simp only [Rn] at *; exact h
  | .int _ _, _, h, _ => by simp only [Rn] at *; exact h
  | .str _, _, h, _ => by simp only [Rn] at *; exact h
  | .raw _, _, h, _ => by simp only [Rn] at *; exact h
theorem RnL.cut {s : Sg} {n t : Nat} : ∀ (az l : List AV), RnL s az l → bdL n t az = true → RnL ⟨s.b.take n, s.t.take t⟩ az l
  | [], _, h, _ => by simp only [RnL] at *; exact h
  | a :: az, _, h, hb => by simp only [bdL, Bool.and_eq_true] at hb; simp only [RnL] at *; obtain ⟨v, vs, h1, h2, h3⟩ := h; exact ⟨v, vs, h1, Rn.cut a v h2 hb.1, RnL.cut az vs h3 hb.2⟩
end
def bdE (n t : Nat) : Env → Bool
  | [] => true
  | p :: l => p.2.bd n t && bdE n t l
def bdB (n t : Nat) : BL → Bool
  | [] => true
  | p :: l => Nat.blt p.1 n && (bdL n t p.2.2 && bdB n t l)
def bdO : Option (List (List AV)) → Bool
  | none => true
  | some rows => flatR rows
def bdT (n t : Nat) : TL → Bool
  | [] => true
  | p :: l => Nat.blt p.1 t && (bdO p.2.con && bdT n t l)
theorem bdE_get {n t : Nat} : ∀ {E : Env}, bdE n t E = true → ∀ j, (E.get j).bd n t = true
  | [], _, j => rfl
  | (k, v) :: E, h, j => by
    simp only [bdE, Bool.and_eq_true] at h
    simp only [Env.get]
    cases k == j with
    | true => exact h.1
    | false => exact bdE_get h.2 j
theorem bdB_get {n t : Nat} : ∀ {l : BL}, bdB n t l = true → ∀ j T cs, lkB l j = some (T, cs) → Nat.blt j n = true ∧ bdL n t cs = true
  | [], _, _, _, _, e => by cases e
  | (k, x) :: l, h, j, T, cs, e => by
    simp only [bdB, Bool.and_eq_true] at h
    simp only [lkB] at e
    cases hk : k == j with
    | true => rw [hk] at e; cases e
              have : k = j := by simpa using hk
              subst this; exact ⟨h.1, h.2.1⟩
    | false => rw [hk] at e; exact bdB_get h.2.2 j T cs e
theorem bdT_get {n t : Nat} : ∀ {l : TL}, bdT n t l = true → ∀ j o, lkT l j = some o → Nat.blt j t = true ∧ bdO o.con = true
  | [], _, _, _, e => by cases e
  | (k, x) :: l, h, j, o, e => by
    simp only [bdT, Bool.and_eq_true] at h
    simp only [lkT] at e
    cases hk : k == j with
    | true => rw [hk] at e; cases e
              have : k = j := by simpa using hk
              subst this; exact ⟨h.1, h.2.1⟩
    | false => rw [hk] at e; exact bdT_get h.2.2 j o e
theorem HRc.cut {H0 H : AHeap} {s : Sg} {n t : Nat} {bl : BL} {tl : TL} (hr : HRc H0 s c H) (hb : HasB c.H bl) (ht : HasT c.H tl) (hn : n ≤ c.nb) (hm : t ≤ c.nt) (kb : bdB n t bl = true) (kt : bdT n t tl = true) : HRc H0 ⟨s.b.take n, s.t.take t⟩ (CS.of n t bl tl) H where
  base := hr.base
  blk := fun b T cs e => by
    obtain ⟨g1, g2⟩ := bdB_get kb b T cs e
    obtain ⟨x, cs', h1, h2, h3⟩ := hr.blk b T cs (hb.get b _ e)
    exact ⟨x, cs', take_get h1 g1, h2, RnL.cut _ _ h3 g2⟩
  tok := fun b o e => by
    obtain ⟨g1, g2⟩ := bdT_get kt b o e
    obtain ⟨x, o', h1, h2, h3, h4, h5, h6, h7⟩ := hr.tok b o (ht.get b _ e)
    refine ⟨x, o', take_get h1 g1, h2, h3, h4, h5, h6, ?_⟩
    cases hc : o.con with
    | none => rw [hc] at h7; exact h7
    | some rows =>
      rw [hc] at h7 g2
      simp only [bdO] at g2
      obtain ⟨l, q1, q2⟩ := h7
      exact ⟨l, q1, flatR_any g2 q2⟩
  newb := fun b x e => by
    rw [List.getElem?_take] at e
    split at e
    · exact hr.newb b x e
    · cases e
  newt := fun b x e => by
    rw [List.getElem?_take] at e
    split at e
    · exact hr.newt b x e
    · cases e
  injb := fun b b' x e e' => by
    rw [List.getElem?_take] at e e'
    split at e
    · split at e'
      · exact hr.injb b b' x e e'
      · cases e'
    · cases e
  injt := fun b b' x e e' => by
    rw [List.getElem?_take] at e e'
    split at e
    · split at e'
      · exact hr.injt b b' x e e'
      · cases e'
    · cases e
  nb := by simp only [CS.of, List.length_take]; rw [← hr.nb]; omega
  nt := by simp only [CS.of, List.length_take]; rw [← hr.nt]; omega
theorem Sg.Le.cut {s0 s : Sg} {n t : Nat} (h : Sg.Le s0 s) (hn : s0.b.length ≤ n) (ht : s0.t.length ≤ t) : Sg.Le s0 ⟨s.b.take n, s.t.take t⟩ where
  b := fun i x e => by
    have : i < s0.b.length := (List.getElem?_eq_some_iff.1 e).1
    rw [List.getElem?_take, if_pos (by omega)]
    exact h.b i x e
  t := fun i x e => by
    have : i < s0.t.length := (List.getElem?_eq_some_iff.1 e).1
    rw [List.getElem?_take, if_pos (by omega)]
    exact h.t i x e
theorem J.cut (n t : Nat) (E : Env) (bl : BL) (tl : TL) (he : EHas env E) (hb : HasB c.H bl) (ht : HasT c.H tl) (hn : (Nat.ble n0 n && (Nat.ble n c.nb && (Nat.ble t0 t && Nat.ble t c.nt))) = true) (hd : (bdE n t E && (bdB n t bl && bdT n t tl)) = true) (h : J P rs n0 t0 k Q E (CS.of n t bl tl)) : J P rs n0 t0 k Q env c := fun H0 s0 s env' H R h1 h2 hs hE hr hR => by
  simp only [Bool.and_eq_true, Nat.ble_eq] at hn hd
  obtain ⟨a1, a2, a3, a4⟩ := hn
  obtain ⟨b1, b2, b3⟩ := hd
  refine h H0 s0 ⟨s.b.take n, s.t.take t⟩ env' H R h1 h2 (hs.cut (by omega) (by omega)) (fun j => ?_) (hr.cut hb ht a2 a4 b2 b3) hR
  exact Rn.cut _ _ (RnE.weak he.get hE j) (bdE_get b1 j)
theorem J.keep (E : Env) (bl : BL) (tl : TL) (he : EHas env E) (hb : HasB c.H bl) (ht : HasT c.H tl) (h : J P rs n0 t0 k Q E (CS.of c.nb c.nt bl tl)) : J P rs n0 t0 k Q env c := fun H0 s0 s env' H R h1 h2 hs hE hr hR => by
  refine h H0 s0 s env' H R h1 h2 hs (RnE.weak he.get hE) ⟨⟨hr.base, fun b T cs e => hr.blk b T cs (hb.get b _ e), fun b o e => hr.tok b o (ht.get b _ e), hr.newb, hr.newt, hr.injb, hr.injt⟩, hr.nb, hr.nt⟩ hR
end Go.Aw
namespace Go.Aw
open Go
set_option linter.unusedVariables false
set_option linter.unusedSimpArgs false
def IJ (P : Program) (op : EOp) (env : Env) (c : CS) (S Sp : AV → CS → Prop) : Prop :=
  ∀ H0 s env' H (K Rp : AV → AHeap → Prop), RnE s env env' → HRc H0 s c H → (∀ s' v v' c1 H', Sg.Le s s' → S v c1 → Rn s' v v' → HRc H0 s' c1 H' → K v' H') → (∀ s' v v' c1 H', Sg.Le s s' → Sp v c1 → Rn s' v v' → HRc H0 s' c1 H' → Rp v' H') → IStep P op env' H K Rp
section
variable {P : Program} {rs : List ERes} {n0 t0 : Nat} {k : List JI} {Q : Out → CS → Prop} {env : Env} {c c1 : CS} {v r : AV} {anns : List AV} {l : List EI} {K : Env → CS → Prop} {Rp : AV → CS → Prop} {d : Option Nat} {g : Option (Nat × Bool)} {op : EOp} {f : FuncId} {args : List EOpd} {az cap : List AV} {x : EOpd}
theorem DJ.nil (h : K env c) : DJ P [] [] env c K Rp := fun H0 s env' H K' Rp' he hr hK hRp => by
  exact hK s env env' c H (Sg.Le.refl s) h he hr
theorem DJ.opr {S : AV → CS → Prop} (hw : wanted ⟨d, g, op⟩ env = some true) (hp : isP op = false) (hi : IJ P op env c S Rp) (h : ∀ v c1, S v c1 → DJ P anns l (env.put d v) c1 K Rp) : DJ P anns (⟨d, g, op⟩ :: l) env c K Rp := fun H0 s env' H K' Rp' he hr hK hRp => by
  have q : DM P (⟨d, g, op⟩ :: annotate l anns) env' H K' Rp' := DM.step (wanted_ok he hw) (hi H0 s env' H _ _ he hr (fun s' v v' c1 H' a1 a2 a3 a4 => h v c1 a2 H0 s' _ H' K' Rp' ((he.mono a1).put a3 d) a4 (fun s2 e e' c2 H2 b1 b2 b3 b4 => hK s2 e e' c2 H2 (a1.trans b1) b2 b3 b4) (fun s2 e e' c2 H2 b1 b2 b3 b4 => hRp s2 e e' c2 H2 (a1.trans b1) b2 b3 b4)) hRp)
  cases op <;> first | (simp [isP] at hp; done) | (cases anns <;> simpa only [annotate] using q)
abbrev noCl : Cl := fun _ _ _ => none
abbrev ost (op : EOp) (env : Env) (c : CS) : Option (AV × CS) := cstp [] noCl op env c
theorem IJ.o (h : ost op env c = some (v, c1)) : IJ P op env c (fun v' c' => v' = v ∧ c' = c1) Rp := fun H0 s env' H K Rp he hr hK hRp =>
  cstp_ok (cvs := []) (cl := noCl) (fun _ _ _ _ _ h => by cases h) (fun _ h => by simp at h) he hr h fun s' v' H' q1 q2 q3 => hK s' v v' c1 H' q1 ⟨rfl, rfl⟩ q2 q3
theorem DJ.o (hw : wanted ⟨d, g, op⟩ env = some true) (hp : isP op = false) (hs : ost op env c = some (v, c1)) (h : DJ P anns l (env.put d v) c1 K Rp) : DJ P anns (⟨d, g, op⟩ :: l) env c K Rp :=
  DJ.opr hw hp (IJ.o hs) fun v' c' ⟨e1, e2⟩ => by rw [e1, e2]; exact h
theorem DJ.sk (hw : wanted ⟨d, g, op⟩ env = some false) (hp : isP op = false) (h : DJ P anns l (env.put d .undef) c K Rp) : DJ P anns (⟨d, g, op⟩ :: l) env c K Rp := fun H0 s env' H K' Rp' he hr hK hRp => by
  have q : DM P (⟨d, g, op⟩ :: annotate l anns) env' H K' Rp' := DM.skip (wanted_ok he hw) (h H0 s _ H K' Rp' (he.put (by simp only [Rn]) d) hr hK hRp)
  cases op <;> first | (simp [isP] at hp; done) | (cases anns <;> simpa only [annotate] using q)
theorem DJ.skP (hw : wanted ⟨d, g, op⟩ env = some false) (hp : isP op = true) (h : DJ P anns l (env.put d .undef) c K Rp) : DJ P (r :: anns) (⟨d, g, op⟩ :: l) env c K Rp := fun H0 s env' H K' Rp' he hr hK hRp => by
  have hw' := wanted_ok he hw
  have q := h H0 s (env'.put d AV.undef) H K' Rp' (he.put (by simp only [Rn]) d) hr hK hRp
  cases op <;> first | (simp [isP] at hp; done) | (simp only [annotate]; exact DM.skip hw' q)
theorem DJ.u {d : Nat} (hp : isP op = false) (hs : ost op env c = some (v, c1)) (h : DJ P anns l ((d, v) :: env) c1 K Rp) : DJ P anns (⟨some d, none, op⟩ :: l) env c K Rp := DJ.o rfl hp hs h
theorem annot_g {g g' : Option (Nat × Bool)} {H0 H : AHeap} {env' : Env} {Kf : Env → AHeap → Prop} {Rf : AV → AHeap → Prop} (h : ∀ i, wanted ⟨d, g, i⟩ env' = wanted ⟨d, g', i⟩ env') (k : DM P (annotate (⟨d, g', op⟩ :: l) anns) env' H Kf Rf) : DM P (annotate (⟨d, g, op⟩ :: l) anns) env' H Kf Rf := by
  cases op <;> cases anns <;> simp only [annotate, DM] at k ⊢ <;> rw [h] <;> exact k
theorem DJ.gd {j : Nat} {t b : Bool} (hb : env.get j = .bool b) (ht : b = t) (h : DJ P anns (⟨d, none, op⟩ :: l) env c K Rp) : DJ P anns (⟨d, some (j, t), op⟩ :: l) env c K Rp := fun H0 s env' H K' Rp' he hr hK hRp => by
  subst ht
  refine annot_g (H0 := H0) (g' := none) (fun i => ?_) (h H0 s env' H K' Rp' he hr hK hRp)
  have := he j
  rw [hb] at this
  simp only [Rn] at this
  simp only [wanted, this, beq_self_eq_true]
theorem DJ.g1 {j : Nat} (hb : env.get j = .bool true) (h : DJ P anns (⟨d, none, op⟩ :: l) env c K Rp) : DJ P anns (⟨d, some (j, true), op⟩ :: l) env c K Rp := DJ.gd hb rfl h
theorem DJ.g2 {j : Nat} (hb : env.get j = .bool false) (h : DJ P anns (⟨d, none, op⟩ :: l) env c K Rp) : DJ P anns (⟨d, some (j, false), op⟩ :: l) env c K Rp := DJ.gd hb rfl h
theorem DJ.g3 {j : Nat} (hb : env.get j = .bool true) (hp : isP op = false) (h : DJ P anns l (env.put d .undef) c K Rp) : DJ P anns (⟨d, some (j, false), op⟩ :: l) env c K Rp := DJ.sk (by simp only [wanted, hb]; rfl) hp h
theorem DJ.g4 {j : Nat} (hb : env.get j = .bool false) (hp : isP op = false) (h : DJ P anns l (env.put d .undef) c K Rp) : DJ P anns (⟨d, some (j, true), op⟩ :: l) env c K Rp := DJ.sk (by simp only [wanted, hb]; rfl) hp h
theorem DJ.g5 {j : Nat} {t : Bool} (hb : env.get j = .undef) (hp : isP op = false) (h : DJ P anns l (env.put d .undef) c K Rp) : DJ P anns (⟨d, some (j, t), op⟩ :: l) env c K Rp := DJ.sk (by simp only [wanted, hb]; rfl) hp h
theorem DJ.g6 {j : Nat} (hb : env.get j = .bool true) (hp : isP op = true) (h : DJ P anns l (env.put d .undef) c K Rp) : DJ P (.undef :: anns) (⟨d, some (j, false), op⟩ :: l) env c K Rp := DJ.skP (by simp only [wanted, hb]; rfl) hp h
theorem DJ.pc (hw : wanted ⟨d, g, .pcall f args⟩ env = some true) (h1 : Pure P f az r) (ha : wkL (args.map (cev env)) = az) (hf : flatL az = true) (hr : r.flat = true) (h : DJ P anns l (env.put d r) c K Rp) : DJ P (r :: anns) (⟨d, g, .pcall f args⟩ :: l) env c K Rp := fun H0 s env' H K' Rp' he hh hK hRp => by
  subst ha
  simp only [annotate]
  exact DM.step (wanted_ok he hw) (.sw (.det r) (.pcall' (wkL_les _ _ (cevs_rn he args) hf) h1) fun _ _ => h H0 s _ H K' Rp' (he.put ((AV.flat_rn r hr r).2 rfl) d) hh hK hRp)
theorem outk {K Rp : AV → AHeap → Prop} {s : Sg} {H0 : AHeap} (hK : ∀ s' v v' c1 H', Sg.Le s s' → Q (.ret v) c1 → Rn s' v v' → HRc H0 s' c1 H' → K v' H') (hRp : ∀ s' v v' c1 H', Sg.Le s s' → Q (.pan v) c1 → Rn s' v v' → HRc H0 s' c1 H' → Rp v' H') : ∀ o' H', (∃ s' o c1, Sg.Le s s' ∧ Q o c1 ∧ RnO s' o o' ∧ HRc H0 s' c1 H') → OutK K Rp H' o' := by
  rintro o' H' ⟨s', o, c1, a1, a2, a3, a4⟩
  cases o <;> cases o' <;> simp only [RnO] at a3
  · exact hK s' _ _ c1 H' a1 a2 a3 a4
  · exact hRp s' _ _ c1 H' a1 a2 a3 a4
theorem IJ.call (h : FC P f (args.map (cev env)) c Q) : IJ P (.call f args) env c (fun v c1 => Q (.ret v) c1) (fun v c1 => Q (.pan v) c1) := fun H0 s env' H K Rp he hr hK hRp =>
  .call _ (AVLes.rfl' _) (h H0 s _ H (cevs_rn he args) hr) (outk hK hRp)
theorem IJ.callv (hx : cev env x = .fn f cap) (hc : callable P f = true) (h : FC P f (args.map (cev env) ++ cap) c Q) : IJ P (.callv x args) env c (fun v c1 => Q (.ret v) c1) (fun v c1 => Q (.pan v) c1) := fun H0 s env' H K Rp he hr hK hRp => by
  have hx' := cev_eq he hx
  simp only [Rn] at hx'
  obtain ⟨lc, g1, g2⟩ := hx'
  exact .callv _ g1 hc (AVLes.rfl' _) (h H0 s _ H ((cevs_rn he args).append g2) hr) (outk hK hRp)
theorem IJ.callvB (hx : cev env x = .fn (f + bnd) cap) (hc : callable P f = true) (h : FC P f (cap ++ args.map (cev env)) c Q) : IJ P (.callv x args) env c (fun v c1 => Q (.ret v) c1) (fun v c1 => Q (.pan v) c1) := fun H0 s env' H K Rp he hr hK hRp => by
  have hx' := cev_eq he hx
  simp only [Rn] at hx'
  obtain ⟨lc, g1, g2⟩ := hx'
  exact .callvB _ g1 hc (AVLes.rfl' _) (h H0 s _ H (g2.append (cevs_rn he args)) hr) (outk hK hRp)
theorem IJ.panic {t : TypeId} (hx : cev env x = .ifc t v) : IJ P (.panic x) env c (fun _ _ => False) (fun v' c' => v' = .ifc t v ∧ c' = c) := fun H0 s env' H K Rp he hr hK hRp => by
  have hx' := cev_eq he hx
  have hx2 := hx'
  simp only [Rn] at hx'
  obtain ⟨y, g1, g2⟩ := hx'
  rw [g1] at hx2
  exact .panic g1 (hRp s _ _ c H (Sg.Le.refl s) ⟨rfl, rfl⟩ hx2 hr)
theorem IJ.mono {S S' Sp Sp' : AV → CS → Prop} (h : IJ P op env c S Sp) (h1 : ∀ v c1, S v c1 → S' v c1) (h2 : ∀ v c1, Sp v c1 → Sp' v c1) : IJ P op env c S' Sp' := fun H0 s env' H K Rp he hr hK hRp =>
  h H0 s env' H K Rp he hr (fun s' v v' c1 H' a1 a2 a3 a4 => hK s' v v' c1 H' a1 (h1 _ _ a2) a3 a4) (fun s' v v' c1 H' a1 a2 a3 a4 => hRp s' v v' c1 H' a1 (h2 _ _ a2) a3 a4)
theorem DJ.cq (hw : wanted ⟨d, g, .call f args⟩ env = some true) (hc : FC P f az c Q) (ha : args.map (cev env) = az) (h : ∀ v c1, Q (.ret v) c1 → DJ P anns l (env.put d v) c1 K Rp) (hp : ∀ v c1, Q (.pan v) c1 → Rp v c1) : DJ P anns (⟨d, g, .call f args⟩ :: l) env c K Rp := by
  subst ha
  exact DJ.opr hw rfl ((IJ.call hc).mono (fun _ _ h => h) hp) h
theorem DJ.cr (hw : wanted ⟨d, g, .call f args⟩ env = some true) (hc : FC P f az c (Rt v c1)) (ha : args.map (cev env) = az) (h : DJ P anns l (env.put d v) c1 K Rp) : DJ P anns (⟨d, g, .call f args⟩ :: l) env c K Rp :=
  DJ.cq hw hc ha (fun v' c' ⟨e1, e2⟩ => by cases e1; rw [e2]; exact h) (fun v' c' ⟨e1, e2⟩ => by cases e1)
theorem DJ.vq (hw : wanted ⟨d, g, .callv x args⟩ env = some true) (hx : cev env x = .fn f cap) (hf : callable P f = true) (hc : FC P f az c Q) (ha : args.map (cev env) ++ cap = az) (h : ∀ v c1, Q (.ret v) c1 → DJ P anns l (env.put d v) c1 K Rp) (hp : ∀ v c1, Q (.pan v) c1 → Rp v c1) : DJ P anns (⟨d, g, .callv x args⟩ :: l) env c K Rp := by
  subst ha
  exact DJ.opr hw rfl ((IJ.callv hx hf hc).mono (fun _ _ h => h) hp) h
theorem DJ.vr (hw : wanted ⟨d, g, .callv x args⟩ env = some true) (hx : cev env x = .fn f cap) (hf : callable P f = true) (hc : FC P f az c (Rt v c1)) (ha : args.map (cev env) ++ cap = az) (h : DJ P anns l (env.put d v) c1 K Rp) : DJ P anns (⟨d, g, .callv x args⟩ :: l) env c K Rp :=
  DJ.vq hw hx hf hc ha (fun v' c' ⟨e1, e2⟩ => by cases e1; rw [e2]; exact h) (fun v' c' ⟨e1, e2⟩ => by cases e1)
theorem FC.mono {Q' : Out → CS → Prop} (h : FC P f az c Q) (hq : ∀ o c1, Q o c1 → Q' o c1) : FC P f az c Q' := fun H0 s az' H ha hr =>
  (h H0 s az' H ha hr).mono fun o H' ⟨s', o1, c1, a1, a2, a3, a4⟩ => ⟨o, H', by cases o <;> exact AVLe.refl _, HSub.refl _, s', o1, c1, a1, hq _ _ a2, a3, a4⟩
theorem FC.intro {fn : Func} {e : EC} (hm : P.follows .mixedOrders = true) (hf : P.funcs[f]? = some fn) (hc : chkF P fn az.length e rs = true) (h : J P rs c.nb c.nt [.c e] Q (initEnv az) c) : FC P f az c Q := fun H0 s az' H ha hr => by
  have hl := RnL.length ha
  exact acalls_of hm hf (by rw [hl]; exact hc) (h H0 s s (initEnv az') H _ hr.nb.symm hr.nt.symm (Sg.Le.refl s) (init_rn ha) hr fun s' o o' c1 H' q1 q2 q3 q4 => ⟨s', o, c1, q1, q2, q3, q4⟩)
theorem FC.wk {Q' : Out → CS → Prop} (h : FC P f az c Q) (hq : ∀ o c1, Q o c1 → ∃ v, o = .ret v ∧ v.wk.flat = true ∧ Q' (.ret v.wk) c1) : FC P f az c Q' := fun H0 s az' H ha hr =>
  (h H0 s az' H ha hr).mono fun o H' ⟨s', o1, c1, a1, a2, a3, a4⟩ => by
    obtain ⟨v, e1, e2, e3⟩ := hq _ _ a2
    subst e1
    cases o with
    | pan w => simp only [RnO] at a3
    | ret w => exact ⟨.ret v.wk, H', fun m y hy => wk_le v w a3 e2 y hy, HSub.refl _, s', .ret v.wk, c1, a1, e3, (AV.flat_rn _ e2 _).2 rfl, a4⟩
theorem FC.ofPure (h : Pure P f az r) (hf : flatL az = true) (hr : r.flat = true) {as0 : List AV} (ha : wkL as0 = az) : FC P f as0 c (Rt r c) := fun H0 s az' H ha' hh => by
  subst ha
  have hp := h H
  have hp' : ACalls P f az' H fun o H' => o = .ret r ∧ H' = H := fun m vs hH rh hv => hp m vs hH rh ((wkL_les _ _ ha' hf).rvL hv)
  exact hp'.mono fun o H' ⟨e1, e2⟩ => ⟨o, H', by subst e1; exact AVLe.refl _, HSub.refl _, s, .ret r, c, Sg.Le.refl s, ⟨rfl, rfl⟩, by subst e1; exact (AV.flat_rn r hr r).2 rfl, by rw [e2]; exact hh⟩
theorem FC.pure (h : FC P f az .new Q) (hf : flatL az = true) (hr : r.flat = true) (hq : ∀ o c1, Q o c1 → ∃ v, o = .ret v ∧ v.wk = r) : Pure P f az r := ACalls.pure fun H =>
  (h H ⟨[], []⟩ az H ((flatL_rn az hf _).2 rfl) (HRc.start H)).mono fun o H' ⟨s', o1, c1, a1, a2, a3, a4⟩ => by
    obtain ⟨v, e1, e2⟩ := hq _ _ a2
    subst e1 e2
    cases o with
    | pan w => simp only [RnO] at a3
    | ret w => exact ⟨.ret w, H', AVLe.refl _, HSub.refl _, w, rfl, fun m y hy => wk_le v w a3 hr y hy, a4.base⟩
end
end Go.Aw
namespace Go.Aw
open Go
set_option linter.unusedVariables false
set_option linter.unusedSimpArgs false
mutual
def AV.ren (p : Sg) : AV → AV
  | .ptr b o => .ptr (p.b.getD b 0) o
  | .agg cs => .agg (renL p cs)
  | .tup cs => .tup (renL p cs)
  | .vs n rows => .vs n rows
  | .own t n rows => .own (p.t.getD t 0) n rows
  | .ms t v => .ms (p.t.getD t 0) v
  | .mp t v k => .mp (p.t.getD t 0) v k
  | .rp row o => .rp row o
  | .fn f cap => .fn f (renL p cap)
  | .ifc t v => .ifc t (v.ren p)
  | .top => .top
  | .bool b => .bool b
  | .int k n => .int k n
  | .str s => .str s
  | .raw v => .raw v
def renL (p : Sg) : List AV → List AV
  | [] => []
  | a :: az => a.ren p :: renL p az
end
def Sg.comp (p s : Sg) : Sg := ⟨p.b.map fun b => s.b.getD b 0, p.t.map fun t => s.t.getD t 0⟩
structure Sg.Sub (p s : Sg) : Prop where
  b : ∀ (i x : Nat), p.b[i]? = some x → x < s.b.length
  t : ∀ (i x : Nat), p.t[i]? = some x → x < s.t.length
theorem getD_get {l : List Nat} {i : Nat} (h : i < l.length) : l[i]? = some (l.getD i 0) := by
  rw [List.getD_eq_getElem?_getD, List.getElem?_eq_getElem h]; rfl
theorem getD_of {l : List Nat} {i x : Nat} (h : l[i]? = some x) : l.getD i 0 = x := by rw [List.getD_eq_getElem?_getD, h]; rfl
theorem comp_b {p s : Sg} {i y : Nat} (h : p.b[i]? = some y) : (p.comp s).b[i]? = some (s.b.getD y 0) := by simp [Sg.comp, h]
theorem comp_t {p s : Sg} {i y : Nat} (h : p.t[i]? = some y) : (p.comp s).t[i]? = some (s.t.getD y 0) := by simp [Sg.comp, h]
theorem comp_b' {p s : Sg} {i x : Nat} (h : (p.comp s).b[i]? = some x) : ∃ y, p.b[i]? = some y ∧ s.b.getD y 0 = x := by
  simp only [Sg.comp, List.getElem?_map, Option.map_eq_some_iff] at h
  exact h
theorem comp_t' {p s : Sg} {i x : Nat} (h : (p.comp s).t[i]? = some x) : ∃ y, p.t[i]? = some y ∧ s.t.getD y 0 = x := by
  simp only [Sg.comp, List.getElem?_map, Option.map_eq_some_iff] at h
  exact h
section
variable {p s : Sg}
mutual
theorem Rn.comp (hp : p.Sub s) : ∀ (a v : AV), a.bd p.b.length p.t.length = true → Rn s (a.ren p) v → Rn (p.comp s) a v
  | .top, _, _, _ => by simp only [AV.ren, Rn]
  | .ptr b o, _, hb, h => by
    have hb := blt_lt hb
    simp only [AV.ren, Rn] at *
    obtain ⟨x, h1, h2⟩ := h
    exact ⟨x, by rw [comp_b (getD_get hb), getD_of h1], h2⟩
  | .ms t v, _, hb, h => by
    have hb := blt_lt hb
    simp only [AV.ren, Rn] at *
    obtain ⟨x, h1, h2⟩ := h
    exact ⟨x, by rw [comp_t (getD_get hb), getD_of h1], h2⟩
  | .mp t v k, _, hb, h => by
    have hb := blt_lt hb
    simp only [AV.ren, Rn] at *
    obtain ⟨x, h1, h2⟩ := h
    exact ⟨x, by rw [comp_t (getD_get hb), getD_of h1], h2⟩
  | .agg cs, _, hb, h => by simp only [AV.bd] at hb; simp only [AV.ren, Rn] at *; obtain ⟨l, h1, h2⟩ := h; exact ⟨l, h1, RnL.comp hp cs l hb h2⟩
  | .tup cs, _, hb, h => by simp only [AV.bd] at hb; simp only [AV.ren, Rn] at *; obtain ⟨l, h1, h2⟩ := h; exact ⟨l, h1, RnL.comp hp cs l hb h2⟩
  | .fn f cs, _, hb, h => by simp only [AV.bd] at hb; simp only [AV.ren, Rn] at *; obtain ⟨l, h1, h2⟩ := h; exact ⟨l, h1, RnL.comp hp cs l hb h2⟩
  | .ifc t a, _, hb, h => by simp only [AV.bd] at hb; simp only [AV.ren, Rn] at *; obtain ⟨x, h1, h2⟩ := h; exact ⟨x, h1, Rn.comp hp a x hb h2⟩
  | .vs n rows, _, hb, h => by simp only [AV.bd] at hb; simp only [AV.ren, Rn] at *; obtain ⟨l, h1, h2⟩ := h; exact ⟨l, h1, flatR_any hb h2⟩
  | .rp row o, _, hb, h => by simp only [AV.bd] at hb; simp only [AV.ren, Rn] at *; obtain ⟨l, h1, h2⟩ := h; exact ⟨l, h1, flatL_any hb h2⟩
  | .own t n rows, _, hb, h => by
    simp only [AV.bd, Bool.and_eq_true] at hb
    have hb1 := blt_lt hb.1
    simp only [AV.ren, Rn] at *
    obtain ⟨x, l, h0, h1, h2⟩ := h
    exact ⟨x, l, by rw [comp_t (getD_get hb1), getD_of h0], h1, flatR_any hb.2 h2⟩
  | .bool _, _, _, h => by simp only [AV.ren, Rn] at *; exact h
  | .int _ _, _, _, h => by simp only [AV.ren, Rn] at *; exact h
  | .str _, _, _, h => by simp only [AV.ren, Rn] at *; exact h
  | .raw _, _, _, h => by simp only [AV.ren, Rn] at *; exact h
theorem RnL.comp (hp : p.Sub s) : ∀ (az l : List AV), bdL p.b.length p.t.length az = true → RnL s (renL p az) l → RnL (p.comp s) az l
  | [], _, _, h => by simp only [renL, RnL] at *; exact h
  | a :: az, _, hb, h => by simp only [bdL, Bool.and_eq_true] at hb; simp only [renL, RnL] at *; obtain ⟨v, vs, h1, h2, h3⟩ := h; exact ⟨v, vs, h1, Rn.comp hp a v hb.1 h2, RnL.comp hp az vs hb.2 h3⟩
end
mutual
theorem Rn.split (hp : p.Sub s) : ∀ (a v : AV), a.bd p.b.length p.t.length = true → Rn (p.comp s) a v → Rn s (a.ren p) v
  | .top, _, _, _ => by simp only [AV.ren, Rn]
  | .ptr b o, _, hb, h => by
    simp only [AV.ren, Rn] at *
    obtain ⟨x, h1, h2⟩ := h
    obtain ⟨y, e1, e2⟩ := comp_b' h1
    exact ⟨x, by rw [getD_of e1, getD_get (hp.b _ _ e1), e2], h2⟩
  | .ms t v, _, hb, h => by
    simp only [AV.ren, Rn] at *
    obtain ⟨x, h1, h2⟩ := h
    obtain ⟨y, e1, e2⟩ := comp_t' h1
    exact ⟨x, by rw [getD_of e1, getD_get (hp.t _ _ e1), e2], h2⟩
  | .mp t v k, _, hb, h => by
    simp only [AV.ren, Rn] at *
    obtain ⟨x, h1, h2⟩ := h
    obtain ⟨y, e1, e2⟩ := comp_t' h1
    exact ⟨x, by rw [getD_of e1, getD_get (hp.t _ _ e1), e2], h2⟩
  | .agg cs, _, hb, h => by simp only [AV.bd] at hb; simp only [AV.ren, Rn] at *; obtain ⟨l, h1, h2⟩ := h; exact ⟨l, h1, RnL.split hp cs l hb h2⟩
  | .tup cs, _, hb, h => by simp only [AV.bd] at hb; simp only [AV.ren, Rn] at *; obtain ⟨l, h1, h2⟩ := h; exact ⟨l, h1, RnL.split hp cs l hb h2⟩
  | .fn f cs, _, hb, h => by simp only [AV.bd] at hb; simp only [AV.ren, Rn] at *; obtain ⟨l, h1, h2⟩ := h; exact ⟨l, h1, RnL.split hp cs l hb h2⟩
  | .ifc t a, _, hb, h => by simp only [AV.bd] at hb; simp only [AV.ren, Rn] at *; obtain ⟨x, h1, h2⟩ := h; exact ⟨x, h1, Rn.split hp a x hb h2⟩
  | .vs n rows, _, hb, h => by simp only [AV.bd] at hb; simp only [AV.ren, Rn] at *; obtain ⟨l, h1, h2⟩ := h; exact ⟨l, h1, flatR_any hb h2⟩
  | .rp row o, _, hb, h => by simp only [AV.bd] at hb; simp only [AV.ren, Rn] at *; obtain ⟨l, h1, h2⟩ := h; exact ⟨l, h1, flatL_any hb h2⟩
  | .own t n rows, _, hb, h => by
    simp only [AV.bd, Bool.and_eq_true] at hb
    simp only [AV.ren, Rn] at *
    obtain ⟨x, l, h0, h1, h2⟩ := h
    obtain ⟨y, e1, e2⟩ := comp_t' h0
    exact ⟨x, l, by rw [getD_of e1, getD_get (hp.t _ _ e1), e2], h1, flatR_any hb.2 h2⟩
  | .bool _, _, _, h => by simp only [AV.ren, Rn] at *; exact h
  | .int _ _, _, _, h => by simp only [AV.ren, Rn] at *; exact h
  | .str _, _, _, h => by simp only [AV.ren, Rn] at *; exact h
  | .raw _, _, _, h => by simp only [AV.ren, Rn] at *; exact h
theorem RnL.split (hp : p.Sub s) : ∀ (az l : List AV), bdL p.b.length p.t.length az = true → RnL (p.comp s) az l → RnL s (renL p az) l
  | [], _, _, h => by simp only [renL, RnL] at *; exact h
  | a :: az, _, hb, h => by simp only [bdL, Bool.and_eq_true] at hb; simp only [renL, RnL] at *; obtain ⟨v, vs, h1, h2, h3⟩ := h; exact ⟨v, vs, h1, Rn.split hp a v hb.1 h2, RnL.split hp az vs hb.2 h3⟩
end
end
theorem OwR.any {s s' : Sg} {o i : Own} (hb : bdO o.con = true) (h : OwR s o i) : OwR s' o i := by
  obtain ⟨h1, h2, h3, h4, h5⟩ := h
  refine ⟨h1, h2, h3, h4, ?_⟩
  cases hc : o.con with
  | none => rw [hc] at h5; exact h5
  | some rows =>
    rw [hc] at h5 hb
    obtain ⟨l, e1, e2⟩ := h5
    exact ⟨l, e1, flatR_any hb e2⟩
def updB (p : Sg) (bl : BL) (H : Nat → Option (TypeId × List AV)) : Nat → Option (TypeId × List AV) := fun b => bif p.b.contains b then (match (bl.find? fun q => p.b.getD q.1 0 == b) with
      | some q => some (q.2.1, renL p q.2.2)
      | none => none) else H b
def updT (p : Sg) (tl : TL) (H : Nat → Option Own) : Nat → Option Own := fun t => bif p.t.contains t then (match (tl.find? fun q => p.t.getD q.1 0 == t) with
      | some q => some q.2
      | none => none) else H t
def CS.upd (c : CS) (p : Sg) (bl : BL) (tl : TL) : CS := ⟨⟨updB p bl c.H.blk, updT p tl c.H.tok⟩, c.nb, c.nt⟩
def hasP (H : Nat → Option (TypeId × List AV)) (p : Sg) : BL → Prop
  | [] => True
  | q :: l => H (p.b.getD q.1 0) = some (q.2.1, renL p q.2.2) ∧ hasP H p l
def hasPT (H : Nat → Option Own) (p : Sg) : TL → Prop
  | [] => True
  | q :: l => H (p.t.getD q.1 0) = some q.2 ∧ hasPT H p l
theorem hasP.get {H : Nat → Option (TypeId × List AV)} {p : Sg} : ∀ {l : BL}, hasP H p l → ∀ j T cs, lkB l j = some (T, cs) → H (p.b.getD j 0) = some (T, renL p cs)
  | [], _, _, _, _, e => by cases e
  | (k, x) :: l, h, j, T, cs, e => by
    simp only [hasP] at h
    simp only [lkB] at e
    cases hk : k == j with
    | true => rw [hk] at e; cases e
              have : k = j := by simpa using hk
              subst this; exact h.1
    | false => rw [hk] at e; exact hasP.get h.2 j T cs e
theorem hasPT.get {H : Nat → Option Own} {p : Sg} : ∀ {l : TL}, hasPT H p l → ∀ j o, lkT l j = some o → H (p.t.getD j 0) = some o
  | [], _, _, _, e => by cases e
  | (k, x) :: l, h, j, o, e => by
    simp only [hasPT] at h
    simp only [lkT] at e
    cases hk : k == j with
    | true => rw [hk] at e; cases e
              have : k = j := by simpa using hk
              subst this; exact h.1
    | false => rw [hk] at e; exact hasPT.get h.2 j o e
def nodupB : List Nat → Bool
  | [] => true
  | a :: l => !l.contains a && nodupB l
theorem nodupB_get : ∀ {l : List Nat}, nodupB l = true → ∀ (i j x : Nat), l[i]? = some x → l[j]? = some x → i = j
  | [], _, i, j, x, h, _ => by simp at h
  | a :: l, h, 0, 0, x, _, _ => rfl
  | a :: l, h, 0, j + 1, x, h1, h2 => by
    simp only [nodupB, Bool.and_eq_true, Bool.not_eq_true'] at h
    simp at h1 h2
    subst h1
    have := List.mem_of_getElem? h2
    simp [this] at h
  | a :: l, h, i + 1, 0, x, h1, h2 => by
    simp only [nodupB, Bool.and_eq_true, Bool.not_eq_true'] at h
    simp at h1 h2
    subst h2
    have := List.mem_of_getElem? h1
    simp [this] at h
  | a :: l, h, i + 1, j + 1, x, h1, h2 => by
    simp only [nodupB, Bool.and_eq_true] at h
    simp at h1 h2
    rw [nodupB_get h.2 i j x h1 h2]
def bdO1 (n t : Nat) : Out → Bool
  | .ret a => a.bd n t
  | .pan a => a.bd n t
def Out.ren (p : Sg) : Out → Out
  | .ret a => .ret (a.ren p)
  | .pan a => .pan (a.ren p)
theorem find_key {bl : BL} {p : Sg} {b : Nat} {q : Nat × TypeId × List AV} (h : bl.find? (fun q => p.b.getD q.1 0 == b) = some q) : q ∈ bl ∧ p.b.getD q.1 0 = b := ⟨List.mem_of_find?_eq_some h, by simpa using List.find?_some h⟩
section
variable {P : Program} {f : FuncId} {as0 : List AV} {c c0 : CS} {Q0 : Out → CS → Prop}
theorem FC.frame (p : Sg) {bl0 : BL} {tl0 : TL} {n t : Nat} {Q : Out → CS → Prop} (h : FC P f as0 (CS.of n t bl0 tl0) Q0) (hn : p.b.length = n) (ht : p.t.length = t)
    (hd : (nodupB p.b && nodupB p.t) = true) (hlb : ∀ (i x : Nat), p.b[i]? = some x → x < c.nb) (hlt : ∀ (i x : Nat), p.t[i]? = some x → x < c.nt) (hb : (bdL n t as0 && (bdB n t bl0 && bdT n t tl0)) = true) (hB : hasP c.H.blk p bl0) (hT : hasPT c.H.tok p tl0)
    (hq : ∀ o c1, Q0 o c1 → ∃ bl tl, HasB c1.H bl ∧ HasT c1.H tl ∧ (bdB n t bl && (bdT n t tl && bdO1 n t o)) = true ∧ Q (o.ren p) (c.upd p bl tl)) : FC P f (renL p as0) c Q := fun H0 s az' H ha hr => by
  subst hn ht
  simp only [Bool.and_eq_true] at hd hb
  obtain ⟨hd1, hd2⟩ := hd
  obtain ⟨hb1, hb2, hb3⟩ := hb
  have hp : p.Sub s := ⟨fun i x e => by rw [← hr.nb]; exact hlb i x e, fun i x e => by rw [← hr.nt]; exact hlt i x e⟩
  have hsb : ∀ {i x : Nat}, p.b[i]? = some x → s.b[x]? = some (s.b.getD x 0) := fun e => getD_get (hp.b _ _ e)
  have hst : ∀ {i x : Nat}, p.t[i]? = some x → s.t[x]? = some (s.t.getD x 0) := fun e => getD_get (hp.t _ _ e)
  let H0c : AHeap := ⟨fun x => if x ∈ (p.comp s).b then none else H.blk x, fun x => if x ∈ (p.comp s).t then none else H.tok x⟩
  have hrc : HRc H0c (p.comp s) (CS.of p.b.length p.t.length bl0 tl0) H := by
    refine ⟨⟨⟨fun x y e => ?_, fun x y e => ?_⟩, fun b T cs e => ?_, fun b o e => ?_, fun b x e => ?_, fun b x e => ?_, fun b b' x e e' => ?_, fun b b' x e e' => ?_⟩, by simp [CS.of, Sg.comp], by simp [CS.of, Sg.comp]⟩
    · simp only [H0c] at e
      split at e
      · cases e
      · exact e
    · simp only [H0c] at e
      split at e
      · cases e
      · exact e
    · obtain ⟨g1, g2⟩ := bdB_get hb2 b T cs e
      have g0 := getD_get (blt_lt g1)
      obtain ⟨x, cs', q1, q2, q3⟩ := hr.blk _ _ _ (hB.get b T cs e)
      exact ⟨x, cs', by rw [comp_b g0, getD_of q1], q2, RnL.comp hp cs cs' g2 q3⟩
    · obtain ⟨g1, g2⟩ := bdT_get hb3 b o e
      have g0 := getD_get (blt_lt g1)
      obtain ⟨x, o', q1, q2, q3⟩ := hr.tok _ _ (hT.get b o e)
      exact ⟨x, o', by rw [comp_t g0, getD_of q1], q2, OwR.any g2 q3⟩
    · obtain ⟨y, e1, e2⟩ := comp_b' e
      have h3 := hsb e1
      rw [e2] at h3
      refine ⟨?_, (hr.newb y x h3).2⟩
      show (if x ∈ (p.comp s).b then none else H.blk x) = none
      rw [if_pos (List.mem_of_getElem? e)]
    · obtain ⟨y, e1, e2⟩ := comp_t' e
      have h3 := hst e1
      rw [e2] at h3
      refine ⟨?_, (hr.newt y x h3).2⟩
      show (if x ∈ (p.comp s).t then none else H.tok x) = none
      rw [if_pos (List.mem_of_getElem? e)]
    · obtain ⟨y, e1, e2⟩ := comp_b' e
      obtain ⟨y', e1', e2'⟩ := comp_b' e'
      have h3 := hsb e1
      have h3' := hsb e1'
      rw [e2] at h3
      rw [e2'] at h3'
      have := hr.injb _ _ _ h3 h3'
      subst this
      exact nodupB_get hd1 _ _ _ e1 e1'
    · obtain ⟨y, e1, e2⟩ := comp_t' e
      obtain ⟨y', e1', e2'⟩ := comp_t' e'
      have h3 := hst e1
      have h3' := hst e1'
      rw [e2] at h3
      rw [e2'] at h3'
      have := hr.injt _ _ _ h3 h3'
      subst this
      exact nodupB_get hd2 _ _ _ e1 e1'
  refine (h H0c (p.comp s) az' H (RnL.comp hp as0 az' hb1 ha) hrc).mono fun o' H' ⟨s', o, c1, a1, a2, a3, a4⟩ => ?_
  obtain ⟨bl, tl, g1, g2, g3, g4⟩ := hq o c1 a2
  simp only [Bool.and_eq_true] at g3
  obtain ⟨g3, g5, g6⟩ := g3
  have a5 := a4.cut g1 g2 (n := p.b.length) (t := p.t.length) (by
    rw [a4.nb]
    by_cases e0 : p.b.length = 0
    · omega
    · have e1 : (p.comp s).b[p.b.length - 1]? = some ((p.comp s).b.getD (p.b.length - 1) 0) := getD_get (by simp only [Sg.comp, List.length_map]; omega)
      have := (List.getElem?_eq_some_iff.1 (a1.b _ _ e1)).1
      omega) (by
    rw [a4.nt]
    by_cases e0 : p.t.length = 0
    · omega
    · have e1 : (p.comp s).t[p.t.length - 1]? = some ((p.comp s).t.getD (p.t.length - 1) 0) := getD_get (by simp only [Sg.comp, List.length_map]; omega)
      have := (List.getElem?_eq_some_iff.1 (a1.t _ _ e1)).1
      omega) g3 g5
  have es : (⟨s'.b.take p.b.length, s'.t.take p.t.length⟩ : Sg) = p.comp s := by
    have q1 : s'.b.take p.b.length = (p.comp s).b := by
      apply List.ext_getElem?
      intro i
      rw [List.getElem?_take]
      split
      · rename_i hi
        have := getD_get (l := (p.comp s).b) (i := i) (by simp only [Sg.comp, List.length_map]; exact hi)
        rw [this, a1.b _ _ this]
      · rename_i hi
        rw [List.getElem?_eq_none (by simp only [Sg.comp, List.length_map]; omega)]
    have q2 : s'.t.take p.t.length = (p.comp s).t := by
      apply List.ext_getElem?
      intro i
      rw [List.getElem?_take]
      split
      · rename_i hi
        have := getD_get (l := (p.comp s).t) (i := i) (by simp only [Sg.comp, List.length_map]; exact hi)
        rw [this, a1.t _ _ this]
      · rename_i hi
        rw [List.getElem?_eq_none (by simp only [Sg.comp, List.length_map]; omega)]
    rw [q1, q2]
  have a3' : RnO (p.comp s) o o' := by
    rw [← es]
    cases o <;> cases o' <;> simp only [RnO, bdO1] at a3 g6 ⊢
    · exact Rn.cut _ _ a3 g6
    · exact Rn.cut _ _ a3 g6
  rw [es] at a5
  have hbase : HSub H0 H' := ⟨fun x y e => a4.base.blk x y (by
      show (if x ∈ (p.comp s).b then none else H.blk x) = some y
      rw [if_neg ?_, hr.base.blk x y e]
      intro hm
      obtain ⟨i, hi⟩ := List.getElem?_of_mem hm
      obtain ⟨z, e1, e2⟩ := comp_b' hi
      have h3 := hsb e1
      rw [e2] at h3
      rw [(hr.newb _ _ h3).1] at e
      cases e), fun x y e => a4.base.tok x y (by
      show (if x ∈ (p.comp s).t then none else H.tok x) = some y
      rw [if_neg ?_, hr.base.tok x y e]
      intro hm
      obtain ⟨i, hi⟩ := List.getElem?_of_mem hm
      obtain ⟨z, e1, e2⟩ := comp_t' hi
      have h3 := hst e1
      rw [e2] at h3
      rw [(hr.newt _ _ h3).1] at e
      cases e)⟩
  have hmb : ∀ {b x : Nat}, s.b[b]? = some x → (x ∈ (p.comp s).b ↔ b ∈ p.b) := by
    intro b x e
    constructor
    · intro hm
      obtain ⟨i, hi⟩ := List.getElem?_of_mem hm
      obtain ⟨z, e1, e2⟩ := comp_b' hi
      have h3 := hsb e1
      rw [e2] at h3
      rw [hr.injb _ _ _ e h3]
      exact List.mem_of_getElem? e1
    · intro hm
      obtain ⟨i, hi⟩ := List.getElem?_of_mem hm
      have := comp_b (s := s) hi
      rw [getD_of e] at this
      exact List.mem_of_getElem? this
  have hmt : ∀ {b x : Nat}, s.t[b]? = some x → (x ∈ (p.comp s).t ↔ b ∈ p.t) := by
    intro b x e
    constructor
    · intro hm
      obtain ⟨i, hi⟩ := List.getElem?_of_mem hm
      obtain ⟨z, e1, e2⟩ := comp_t' hi
      have h3 := hst e1
      rw [e2] at h3
      rw [hr.injt _ _ _ e h3]
      exact List.mem_of_getElem? e1
    · intro hm
      obtain ⟨i, hi⟩ := List.getElem?_of_mem hm
      have := comp_t (s := s) hi
      rw [getD_of e] at this
      exact List.mem_of_getElem? this
  refine ⟨o', H', by cases o' <;> exact AVLe.refl _, HSub.refl _, s, o.ren p, c.upd p bl tl, Sg.Le.refl s, g4, ?_, ⟨⟨hbase, fun b T cs e => ?_, fun b ow e => ?_, fun b x e => ?_, fun b x e => ?_, hr.injb, hr.injt⟩, hr.nb, hr.nt⟩⟩
  · cases o <;> cases o' <;> simp only [RnO, Out.ren, bdO1] at a3' g6 ⊢
    · exact Rn.split hp _ _ g6 a3'
    · exact Rn.split hp _ _ g6 a3'
  · simp only [CS.upd, updB] at e
    cases hm : p.b.contains b with
    | false =>
      rw [hm, cond_false] at e
      obtain ⟨x, cs', q1, q2, q3⟩ := hr.blk b T cs e
      refine ⟨x, cs', q1, a4.base.blk x _ ?_, q3⟩
      show (if x ∈ (p.comp s).b then none else H.blk x) = _
      rw [if_neg ?_, q2]
      rw [hmb q1]
      intro hh
      simp [hh] at hm
    | true =>
      rw [hm, cond_true] at e
      split at e
      · rename_i q hq
        obtain ⟨k1, k2⟩ := find_key hq
        cases e
        obtain ⟨kk, T0, cs0⟩ := q
        simp only at k2 ⊢
        have hlk : kk < p.b.length ∧ bdL p.b.length p.t.length cs0 = true ∧ ∃ x cs', (p.comp s).b[kk]? = some x ∧ H'.blk x = some (T0, cs') ∧ RnL (p.comp s) cs0 cs' := by
          have hall : ∀ (l : BL), HasB c1.H l → bdB p.b.length p.t.length l = true → (kk, T0, cs0) ∈ l → c1.H.blk kk = some (T0, cs0) ∧ kk < p.b.length ∧ bdL p.b.length p.t.length cs0 = true := by
            intro l
            induction l with
            | nil => intro _ _ h; simp at h
            | cons q l ih =>
              intro h1 h2 h3
              simp only [HasB] at h1
              simp only [bdB, Bool.and_eq_true, Nat.blt_eq] at h2
              simp only [List.mem_cons] at h3
              rcases h3 with h3 | h3
              · subst h3; exact ⟨h1.1, h2.1, h2.2.1⟩
              · exact ih h1.2 h2.2.2 h3
          obtain ⟨r1, r2, r3⟩ := hall bl g1 g3 k1
          obtain ⟨x, cs', u1, u2, u3⟩ := a4.blk kk T0 cs0 r1
          have u4 : (p.comp s).b[kk]? = some x := by
            have w := getD_get (l := (p.comp s).b) (i := kk) (by simp only [Sg.comp, List.length_map]; exact r2)
            have w2 := a1.b _ _ w
            rw [u1] at w2
            cases w2
            exact w
          refine ⟨r2, r3, x, cs', u4, u2, ?_⟩
          have := RnL.cut (n := p.b.length) (t := p.t.length) _ _ u3 r3
          rw [es] at this
          exact this
        obtain ⟨r2, r3, x, cs', u1, u2, u3⟩ := hlk
        obtain ⟨y, e1, e2⟩ := comp_b' u1
        have h3 := hsb e1
        rw [e2] at h3
        rw [getD_of e1] at k2
        subst k2
        exact ⟨x, cs', h3, u2, RnL.split hp cs0 cs' r3 u3⟩
      · cases e
  · simp only [CS.upd, updT] at e
    cases hm : p.t.contains b with
    | false =>
      rw [hm, cond_false] at e
      obtain ⟨x, cs', q1, q2, q3⟩ := hr.tok b ow e
      refine ⟨x, cs', q1, a4.base.tok x _ ?_, q3⟩
      show (if x ∈ (p.comp s).t then none else H.tok x) = _
      rw [if_neg ?_, q2]
      rw [hmt q1]
      intro hh
      simp [hh] at hm
    | true =>
      rw [hm, cond_true] at e
      split at e
      · rename_i q hq
        have k1 := List.mem_of_find?_eq_some hq
        have k2 : p.t.getD q.1 0 = b := by simpa using List.find?_some hq
        cases e
        obtain ⟨kk, o0⟩ := q
        simp only at k2 ⊢
        have hall : ∀ (l : TL), HasT c1.H l → bdT p.b.length p.t.length l = true → (kk, o0) ∈ l → c1.H.tok kk = some o0 ∧ kk < p.t.length ∧ bdO o0.con = true := by
          intro l
          induction l with
          | nil => intro _ _ h; simp at h
          | cons q l ih =>
            intro h1 h2 h3
            simp only [HasT] at h1
            simp only [bdT, Bool.and_eq_true, Nat.blt_eq] at h2
            simp only [List.mem_cons] at h3
            rcases h3 with h3 | h3
            · subst h3; exact ⟨h1.1, h2.1, h2.2.1⟩
            · exact ih h1.2 h2.2.2 h3
        obtain ⟨r1, r2, r3⟩ := hall tl g2 g5 k1
        obtain ⟨x, o1, u1, u2, u3⟩ := a4.tok kk o0 r1
        have u4 : (p.comp s).t[kk]? = some x := by
          have w := getD_get (l := (p.comp s).t) (i := kk) (by simp only [Sg.comp, List.length_map]; exact r2)
          have w2 := a1.t _ _ w
          rw [u1] at w2
          cases w2
          exact w
        obtain ⟨y, e1, e2⟩ := comp_t' u4
        have h3 := hst e1
        rw [e2] at h3
        rw [getD_of e1] at k2
        subst k2
        exact ⟨x, o1, h3, u2, OwR.any r3 u3⟩
      · cases e
  · obtain ⟨q1, y, q2⟩ := hr.newb b x e
    refine ⟨q1, ?_⟩
    by_cases hm : x ∈ (p.comp s).b
    · obtain ⟨i, hi⟩ := List.getElem?_of_mem hm
      exact (a4.newb i x (a1.b _ _ hi)).2
    · exact ⟨y, a4.base.blk x y (by show (if x ∈ (p.comp s).b then none else H.blk x) = some y; rw [if_neg hm]; exact q2)⟩
  · obtain ⟨q1, y, q2⟩ := hr.newt b x e
    refine ⟨q1, ?_⟩
    by_cases hm : x ∈ (p.comp s).t
    · obtain ⟨i, hi⟩ := List.getElem?_of_mem hm
      exact (a4.newt i x (a1.t _ _ hi)).2
    · exact ⟨y, a4.base.tok x y (by show (if x ∈ (p.comp s).t then none else H.tok x) = some y; rw [if_neg hm]; exact q2)⟩
def Ro (v : AV) (bl : BL) (tl : TL) : Out → CS → Prop := fun o c => o = .ret v ∧ HasB c.H bl ∧ HasT c.H tl
theorem FC.fr (p : Sg) {bl0 bl1 : BL} {tl0 tl1 : TL} {n t : Nat} {v : AV} (h : FC P f as0 (CS.of n t bl0 tl0) (Ro v bl1 tl1)) (hn : p.b.length = n) (ht : p.t.length = t)
    (hd : (nodupB p.b && nodupB p.t && p.b.all (fun x => Nat.blt x c.nb) && p.t.all (fun x => Nat.blt x c.nt)) = true) (hB : hasP c.H.blk p bl0) (hT : hasPT c.H.tok p tl0) (hb : (bdL n t as0 && (bdB n t bl0 && bdT n t tl0)) = true)
    (h1 : (bdB n t bl1 && (bdT n t tl1 && v.bd n t)) = true) {az : List AV} (ha : az = renL p as0) : FC P f az c (Rt (v.ren p) (c.upd p bl1 tl1)) := by
  simp only [Bool.and_eq_true, List.all_eq_true] at hd
  obtain ⟨⟨⟨d1, d2⟩, d3⟩, d4⟩ := hd
  subst ha
  refine FC.frame p h hn ht (by rw [d1, d2]; rfl) (fun i x e => blt_lt (d3 x (List.mem_of_getElem? e))) (fun i x e => blt_lt (d4 x (List.mem_of_getElem? e))) hb hB hT ?_
  rintro o c1 ⟨rfl, h2, h3⟩
  exact ⟨bl1, tl1, h2, h3, h1, rfl, rfl⟩
end
end Go.Aw
namespace Go.Aw
open Go
set_option linter.unusedVariables false
set_option linter.unusedSimpArgs false
section
variable {P : Program} {rs : List ERes} {n0 t0 : Nat} {k : List JI} {Q : Out → CS → Prop} {env : Env} {c c1 : CS} {v r : AV} {anns : List AV} {l : List EI} {K : Env → CS → Prop} {Rp : AV → CS → Prop} {d : Option Nat} {g : Option (Nat × Bool)} {x y i : EOpd} {ik : IntKind} {size : Nat} {rows new : List (List AV)} {row : List AV} {a b : List UInt8} {z z' : Int}
theorem cidx_eq {z : Int} {len : Nat} (h0 : 0 ≤ z) (h1 : z < len) : cidx z len = some z.toNat := by
  match z, h0, h1 with
  | .ofNat n, _, h1 =>
    have : Nat.blt n len = true := Nat.blt_eq.symm ▸ Int.ofNat_lt.1 h1
    simp only [cidx, this, cond_true]
    rfl
theorem ofNat_of {z : Int} (h0 : 0 ≤ z) : ∃ n : Nat, z = .ofNat n ∧ z.toNat = n := ⟨z.toNat, (Int.toNat_of_nonneg h0).symm, rfl⟩
theorem DJ.cat (hw : wanted ⟨d, g, .bin .add x y⟩ env = some true) (hx : cev env x = .str a) (hy : cev env y = .str b) (hb : a.length + b.length ≤ maxLen) (h : DJ P anns l (env.put d (.str (a ++ b))) c K Rp) : DJ P anns (⟨d, g, .bin .add x y⟩ :: l) env c K Rp :=
  DJ.o hw rfl (by simp only [ost, cstp, cpv, hx, hy, cbin, Nat.ble_eq_true_of_le hb, cond_true] <;> rfl) h
theorem DJ.quo (hw : wanted ⟨d, g, .bin .quo x y⟩ env = some true) (hx : cev env x = .int ik z) (hy : cev env y = .int ik z') (hb : z' ≠ 0) (h : DJ P anns l (env.put d (.int ik (ik.wrap (z.tdiv z')))) c K Rp) : DJ P anns (⟨d, g, .bin .quo x y⟩ :: l) env c K Rp :=
  DJ.o hw rfl (by simp only [ost, cstp, cpv, hx, hy, cbin, if_true, if_neg hb] <;> rfl) h
theorem DJ.rem (hw : wanted ⟨d, g, .bin .rem x y⟩ env = some true) (hx : cev env x = .int ik z) (hy : cev env y = .int ik z') (hb : z' ≠ 0) (h : DJ P anns l (env.put d (.int ik (z.tmod z'))) c K Rp) : DJ P anns (⟨d, g, .bin .rem x y⟩ :: l) env c K Rp :=
  DJ.o hw rfl (by simp only [ost, cstp, cpv, hx, hy, cbin, if_true, if_neg hb] <;> rfl) h
theorem DJ.ixv (hw : wanted ⟨d, g, .iaddr size x i⟩ env = some true) (hx : cev env x = .vs size rows) (hi : cev env i = .int ik z) (h0 : 0 ≤ z) (hr : rows[z.toNat]? = some row) (h : DJ P anns l (env.put d (.rp row 0)) c K Rp) : DJ P anns (⟨d, g, .iaddr size x i⟩ :: l) env c K Rp := by
  obtain ⟨n, e1, e2⟩ := ofNat_of h0
  rw [e2] at hr
  subst e1
  exact DJ.o hw rfl (by simp only [ost, cstp, cpv, hx, hi, beq_self_eq_true, cond_true, hr] <;> rfl) h
theorem DJ.ixo {t : Nat} (hw : wanted ⟨d, g, .iaddr size x i⟩ env = some true) (hx : cev env x = .own t size rows) (hi : cev env i = .int ik z) (h0 : 0 ≤ z) (hr : rows[z.toNat]? = some row) (h : DJ P anns l (env.put d (.rp row 0)) c K Rp) : DJ P anns (⟨d, g, .iaddr size x i⟩ :: l) env c K Rp := by
  obtain ⟨n, e1, e2⟩ := ofNat_of h0
  rw [e2] at hr
  subst e1
  exact DJ.o hw rfl (by simp only [ost, cstp, cpv, hx, hi, beq_self_eq_true, cond_true, hr] <;> rfl) h
theorem DJ.ixs {u : UInt8} (hw : wanted ⟨d, g, .idxS x i⟩ env = some true) (hx : cev env x = .str a) (hi : cev env i = .int ik z) (h0 : 0 ≤ z) (hr : a[z.toNat]? = some u) (h : DJ P anns l (env.put d (.int .u8 u.toNat)) c K Rp) : DJ P anns (⟨d, g, .idxS x i⟩ :: l) env c K Rp := by
  obtain ⟨n, e1, e2⟩ := ofNat_of h0
  rw [e2] at hr
  subst e1
  exact DJ.o hw rfl (by simp only [ost, cstp, cpv, hx, hi, hr] <;> rfl) h
theorem DJ.ap {T bytes t : Nat} (hw : wanted ⟨d, g, .append T size bytes x y⟩ env = some true) (hx : cev env x = .own t size rows) (ht : c.H.tok t = some (.frz T size rows.length)) (hy : rowsOf size (cev env y) = some new) (hb : (rows.length + new.length) * bytes ≤ 140737488355328) (hm : rows.length + new.length ≤ maxLen) (h : DJ P anns l (env.put d (.own t size (rows ++ new))) (c.setT t (.frz T size (rows.length + new.length))) K Rp) : DJ P anns (⟨d, g, .append T size bytes x y⟩ :: l) env c K Rp :=
  DJ.o hw rfl (by simp only [ost, cstp, hy, hx, capp, ht, Own.frz, beq_self_eq_true, Nat.ble_eq_true_of_le hb, Nat.ble_eq_true_of_le hm, Bool.and_true, cond_true] <;> rfl) h
theorem DJ.cvs (hw : wanted ⟨d, g, .convS false x⟩ env = some true) (hx : cev env x = .vs 1 rows) (hb : byteRows rows = some a) (h : DJ P anns l (env.put d (.str a)) c K Rp) : DJ P anns (⟨d, g, .convS false x⟩ :: l) env c K Rp :=
  DJ.o hw rfl (by simp only [ost, cstp, cpv, hx, hb] <;> rfl) h
theorem IJ.isnilU {neg : Bool} (hx : cev env x = .vs size rows) : IJ P (.isnil neg x) env c (fun v c' => (∃ b, v = .bool b) ∧ c' = c) Rp := fun H0 s env' H K Rp he hr hK hRp => by
  have hx' := cev_eq he hx
  simp only [Rn] at hx'
  obtain ⟨l, g1, g2⟩ := hx'
  exact .isnilU g1 fun b => hK s (.bool b) (.bool b) c H (Sg.Le.refl s) ⟨⟨b, rfl⟩, rfl⟩ (by simp only [Rn]) hr
theorem env_same2 {env : Env} {j : Nat} {v : AV} (h : env.get j = v) : ∀ i, Env.get ((j, v) :: env) i = env.get i := fun i => by
  simp only [Env.get]
  cases hi : j == i with
  | true => have : j = i := by simpa using hi
            subst this; exact h.symm
  | false => rfl
theorem DJ.gs {j : Nat} {t : Bool} {op : EOp} {b : Bool} (hb : env.get j = .bool b) (h1 : b = true → DJ P anns (⟨d, some (j, t), op⟩ :: l) ((j, .bool true) :: env) c K Rp) (h2 : b = false → DJ P anns (⟨d, some (j, t), op⟩ :: l) ((j, .bool false) :: env) c K Rp) : DJ P anns (⟨d, some (j, t), op⟩ :: l) env c K Rp := fun H0 s env' H K' Rp' he hr hK hRp => by
  cases b with
  | true => exact h1 rfl H0 s env' H K' Rp' (fun i => by rw [env_same2 hb i]; exact he i) hr hK hRp
  | false => exact h2 rfl H0 s env' H K' Rp' (fun i => by rw [env_same2 hb i]; exact he i) hr hK hRp
theorem J.reg0 {ops : List EI} {draw : Bool} (h : DJ P [] ops env c (fun e c1 => J P rs n0 t0 k Q e c1) (fun v c1 => Q (.pan v) c1)) : J P rs n0 t0 (.c (.region ops draw) :: k) Q env c := J.reg h
theorem DJ.ixn {p d : Nat} (hr : rows[p]? = some row) (hx : cev env x = .vs size rows) (hi : cev env i = .int ik z) (e : z = p) (h : DJ P anns l ((d, .rp row 0) :: env) c K Rp) : DJ P anns (⟨some d, none, .iaddr size x i⟩ :: l) env c K Rp := DJ.ixv rfl hx hi (by omega) (by rw [e, Int.toNat_natCast]; exact hr) h
theorem DJ.ixon {p d t : Nat} (hr : rows[p]? = some row) (hx : cev env x = .own t size rows) (hi : cev env i = .int ik z) (e : z = p) (h : DJ P anns l ((d, .rp row 0) :: env) c K Rp) : DJ P anns (⟨some d, none, .iaddr size x i⟩ :: l) env c K Rp := DJ.ixo rfl hx hi (by omega) (by rw [e, Int.toNat_natCast]; exact hr) h
theorem DJ.ixsn {p d : Nat} {u : UInt8} (hr : a[p]? = some u) (hx : cev env x = .str a) (hi : cev env i = .int ik z) (e : z = p) (h : DJ P anns l ((d, .int .u8 u.toNat) :: env) c K Rp) : DJ P anns (⟨some d, none, .idxS x i⟩ :: l) env c K Rp := DJ.ixs rfl hx hi (by omega) (by rw [e, Int.toNat_natCast]; exact hr) h
theorem DJ.ap' {T bytes t d : Nat} (hx : cev env x = .own t size rows) (ht : c.H.tok t = some (.frz T size rows.length)) (hy : rowsOf size (cev env y) = some new) (hb : (rows.length + new.length) * bytes ≤ 140737488355328) (hm : rows.length + new.length ≤ maxLen) (h : DJ P anns l ((d, .own t size (rows ++ new)) :: env) (c.setT t (.frz T size (rows.length + new.length))) K Rp) : DJ P anns (⟨some d, none, .append T size bytes x y⟩ :: l) env c K Rp := DJ.ap rfl hx ht hy hb hm h
theorem mget {α β : Type} (f : α → β) {l : List α} {i : Nat} {v : α} (h : l[i]? = some v) : (l.map f)[i]? = some (f v) := by simp [h]
theorem DJ.ixm {α : Type} {f : α → List AV} {w : α} {m : List α} {p d : Nat} (hx : cev env x = .vs size (m.map f)) (hi : cev env i = .int ik z) (hr : m[p]? = some w) (e : z = p) (h : DJ P anns l ((d, .rp (f w) 0) :: env) c K Rp) : DJ P anns (⟨some d, none, .iaddr size x i⟩ :: l) env c K Rp := DJ.ixn (mget f hr) hx hi e h
theorem DJ.ixom {α : Type} {f : α → List AV} {w : α} {m : List α} {p d t : Nat} (hx : cev env x = .own t size (m.map f)) (hi : cev env i = .int ik z) (hr : m[p]? = some w) (e : z = p) (h : DJ P anns l ((d, .rp (f w) 0) :: env) c K Rp) : DJ P anns (⟨some d, none, .iaddr size x i⟩ :: l) env c K Rp := DJ.ixon (mget f hr) hx hi e h
theorem DJ.ixsm {u : UInt8} {p d : Nat} (hx : cev env x = .str a) (hi : cev env i = .int ik z) (hr : a[p]? = some u) (e : z = p) (h : DJ P anns l ((d, .int .u8 u.toNat) :: env) c K Rp) : DJ P anns (⟨some d, none, .idxS x i⟩ :: l) env c K Rp := DJ.ixsn hr hx hi e h
theorem J.ghE (j size T : Nat) (hj : env.get j = .nilS) (h0 : size ≠ 0) (h : J P rs n0 t0 k Q ((j, .own c.nt size []) :: env) (c.addT (.frz T size 0))) : J P rs n0 t0 k Q env c := fun H0 s0 s env' H R hn ht hs he hr hR => by
  refine AM.conv (fun e' H' => ∃ t, H.tok t = none ∧ e' = (j, .own t size []) :: env' ∧ H' = H.setT t (.frz T size 0)) ?_ ?_
  · intro m hH rh
    subst hH
    obtain ⟨r1, e1, v1⟩ := new_tok_nil rh (T := T) h0
    refine ⟨_, _, _, _, ⟨m.T, tok_new rh, rfl, rfl⟩, r1, e1, fun i w hw => ?_⟩
    simp only [Env.get]
    cases hi : j == i with
    | true =>
      have : j = i := by simpa using hi
      subst this
      have hg := he j
      rw [hj] at hg
      simp only [Rn] at hg
      rw [hg] at hw
      simp only [Rv] at hw
      subst hw
      exact v1
    | false => exact Rv.ev e1 _ _ hw
  · rintro e' H' ⟨t, h1, rfl, rfl⟩
    refine h H0 s0 ⟨s.b, s.t ++ [t]⟩ _ _ R hn ht (hs.trans (Sg.leT s t)) ?_ (hr.addT OwR.frz h1) hR
    refine (he.mono (Sg.leT s t)).put (d := some j) ?_
    simp only [Rn]
    exact ⟨t, [], by rw [hr.nt]; exact app_right, rfl, by simp only [RnR]⟩
theorem J.ghB (p o size Te : Nat) {T : TypeId} {cs : List AV} (hb : c.H.blk p = some (T, cs)) (ho : cs[o]? = some .nilS) (h0 : size ≠ 0) (h : J P rs n0 t0 k Q env ((c.addT (.frz Te size 0)).setB p T (cs.set o (.own c.nt size [])))) : J P rs n0 t0 k Q env c := fun H0 s0 s env' H R hn ht hs he hr hR => by
  obtain ⟨x, cs', q1, q2, q3⟩ := hr.blk p T cs hb
  have ho' : cs'[o]? = some .nilS := by
    obtain ⟨v, e1, e2⟩ := q3.get o _ ho
    simp only [Rn] at e2
    rw [e1, e2]
  refine AM.conv (fun e' H' => ∃ t, H.tok t = none ∧ e' = env' ∧ H' = (H.setT t (.frz Te size 0)).setB x T (cs'.set o (.own t size []))) ?_ ?_
  · intro m hH rh
    subst hH
    obtain ⟨r1, e1, v1⟩ := new_tok_nil rh (T := Te) h0
    obtain ⟨l, hl1, hl2, hl3⟩ := r1.blk x T cs' q2
    obtain ⟨v, hv1, hv2⟩ := hl2.get o _ ho'
    simp only [Rv] at hv2
    subst hv2
    have hl4 := hl2.set o v1
    rw [list_set_same hv1] at hl4
    have r2 := RH.st r1 (w' := m.w) (b := x) (T := T) q2 rfl rfl rfl rfl (fun _ _ => rfl) hl1 hl4 hl3
    have e2 := Ev.st r1 (w' := m.w) (b := x) (T := T) (cs := cs'.set o (.own m.T size [])) q2 rfl rfl rfl rfl (fun _ _ => rfl)
    exact ⟨env', _, _, _, ⟨m.T, tok_new rh, rfl, rfl⟩, r2, e1.trans e2, fun j v hv => Rv.ev (e1.trans e2) _ _ hv⟩
  · rintro e' H' ⟨t, h1, rfl, rfl⟩
    have h5 := hr.addT (s := s) (x := t) (OwR.frz (s := s) (T := Te) (size := size) (n := 0)) h1
    refine h H0 s0 ⟨s.b, s.t ++ [t]⟩ _ _ R hn ht (hs.trans (Sg.leT s t)) (he.mono (Sg.leT s t)) (h5.setB q1 ?_) hR
    have : ∀ {az l : List AV} (_ : RnL s az l) (n : Nat) {a v : AV}, Rn ⟨s.b, s.t ++ [t]⟩ a v → RnL ⟨s.b, s.t ++ [t]⟩ (az.set n a) (l.set n v) := by
      intro az
      induction az with
      | nil => intro l h n a v _; simp only [RnL] at h; subst h; simp [RnL]
      | cons a az ih =>
        intro l h n b v hv
        simp only [RnL] at h
        obtain ⟨w, ws, rfl, h1, h2⟩ := h
        cases n with
        | zero => simp only [List.set_cons_zero, RnL]; exact ⟨_, _, rfl, hv, RnL.mono (Sg.leT s t) _ _ h2⟩
        | succ n => simp only [List.set_cons_succ, RnL]; exact ⟨_, _, rfl, Rn.mono (Sg.leT s t) _ _ h1, ih h2 n hv⟩
    refine this q3 o ?_
    simp only [Rn]
    exact ⟨t, [], by rw [hr.nt]; exact app_right, rfl, by simp only [RnR]⟩
def LJ {X : Type} (E : X → Env) (C : X → CS) (I : X → Prop) (mu : X → Nat) : Nat → Env → CS → Prop := fun m env c => ∃ x, I x ∧ env = E x ∧ c = C x ∧ mu x = m
theorem J.loopX {X : Type} {body : EC} (x0 : X) (E : X → Env) (B : X → BL) (T : X → TL) (I : X → Prop) (mu : X → Nat) (h0 : I x0) (he : EHas env (E x0)) (hb : HasB c.H (B x0)) (ht : HasT c.H (T x0)) (h : ∀ x, I x → J P rs n0 t0 (.c body :: .rnd (LJ E (fun x => CS.of c.nb c.nt (B x) (T x)) I mu) (mu x) :: k) Q (E x) (CS.of c.nb c.nt (B x) (T x))) : J P rs n0 t0 (.c (.loop body) :: k) Q env c :=
  J.keep (E x0) (B x0) (T x0) he hb ht (J.loop (LJ E (fun x => CS.of c.nb c.nt (B x) (T x)) I mu) (mu x0) ⟨x0, h0, rfl, rfl, rfl⟩ fun m e c' ⟨x, h1, h2, h3, h4⟩ => by subst h2 h3 h4; exact h x h1)
theorem J.roundX {X : Type} {E : X → Env} {nb nt : Nat} {B : X → BL} {T : X → TL} {I : X → Prop} {mu : X → Nat} {m0 : Nat} (x : X) (h0 : I x) (he : EHas env (E x)) (hb : HasB c.H (B x)) (ht : HasT c.H (T x)) (hn : c.nb = nb) (hm : c.nt = nt) (h1 : mu x < m0) : J P rs n0 t0 (.rnd (LJ E (fun x => CS.of nb nt (B x) (T x)) I mu) m0 :: k) Q env c :=
  J.keep (E x) (B x) (T x) he hb ht (J.round (mu x) ⟨x, h0, rfl, by rw [hn, hm], rfl⟩ h1)
theorem J.roundC {X : Type} {E : X → Env} {nb nt : Nat} {B : X → BL} {T : X → TL} {I : X → Prop} {mu : X → Nat} {m0 : Nat} (x : X) (h0 : I x) (he : EHas env (E x)) (hb : HasB c.H (B x)) (ht : HasT c.H (T x)) (hn : (Nat.ble n0 nb && (Nat.ble nb c.nb && (Nat.ble t0 nt && Nat.ble nt c.nt))) = true) (hd : (bdE nb nt (E x) && (bdB nb nt (B x) && bdT nb nt (T x))) = true) (h1 : mu x < m0) : J P rs n0 t0 (.rnd (LJ E (fun x => CS.of nb nt (B x) (T x)) I mu) m0 :: k) Q env c :=
  J.cut nb nt (E x) (B x) (T x) he hb ht hn hd (J.round (mu x) ⟨x, h0, rfl, rfl, rfl⟩ h1)
end
section
variable {P : Program} {rs : List ERes} {n0 t0 : Nat} {k : List JI} {Q : Out → CS → Prop} {env : Env} {c : CS}
end
theorem flatR_map {α : Type} {f : α → List AV} (h : ∀ x, flatL (f x) = true) : ∀ (l : List α), flatR (l.map f) = true
  | [] => rfl
  | a :: l => by simp only [List.map_cons, flatR, h, flatR_map h l, Bool.and_self]
mutual
theorem wk_flat : ∀ (a : AV), a.flat = true → a.wk = a
  | .agg cs, h => by simp only [AV.flat] at h; simp only [AV.wk, wkL_flat cs h]
  | .tup cs, h => by simp only [AV.flat] at h; simp only [AV.wk, wkL_flat cs h]
  | .own _ _ _, h => by simp [AV.flat] at h
  | .top, _ => rfl
  | .bool _, _ => rfl
  | .int _ _, _ => rfl
  | .str _, _ => rfl
  | .raw _, _ => rfl
  | .ptr _ _, _ => rfl
  | .vs _ _, _ => rfl
  | .ms _ _, _ => rfl
  | .mp _ _ _, _ => rfl
  | .rp _ _, _ => rfl
  | .fn _ _, _ => rfl
  | .ifc _ _, _ => rfl
theorem wkL_flat : ∀ (l : List AV), flatL l = true → wkL l = l
  | [], _ => rfl
  | a :: l, h => by simp only [flatL, Bool.and_eq_true] at h; simp only [wkL, wk_flat a h.1, wkL_flat l h.2]
end
mutual
inductive Wk : AV → AV → Prop
  | wk {v r : AV} (h : v.wk = r) (hf : r.flat = true) : Wk v r
  | nil {n : Nat} : Wk .nilS (.vs n [])
  | agg {az bs : List AV} (h : WkL az bs) : Wk (.agg az) (.agg bs)
  | tup {az bs : List AV} (h : WkL az bs) : Wk (.tup az) (.tup bs)
inductive WkL : List AV → List AV → Prop
  | nil : WkL [] []
  | cons {a b : AV} {az bs : List AV} (h : Wk a b) (t : WkL az bs) : WkL (a :: az) (b :: bs)
end
mutual
theorem Wk.le : ∀ {v r : AV}, Wk v r → ∀ (s : Sg) (v' : AV), Rn s v v' → AVLe v' r
  | _, _, .wk h hf, s, v', hv => by subst h; exact fun m y hy => wk_le _ v' hv hf y hy
  | _, _, .nil, s, v', hv => by simp only [Rn] at hv; subst hv; exact AVLe.nil
  | _, _, .agg h, s, v', hv => by simp only [Rn] at hv; obtain ⟨l, e, hl⟩ := hv; subst e; exact avle_agg (WkL.le h s l hl)
  | _, _, .tup h, s, v', hv => by simp only [Rn] at hv; obtain ⟨l, e, hl⟩ := hv; subst e; exact avle_tup (WkL.le h s l hl)
theorem WkL.le : ∀ {az bs : List AV}, WkL az bs → ∀ (s : Sg) (l : List AV), RnL s az l → AVLes l bs
  | _, _, .nil, s, l, h => by simp only [RnL] at h; subst h; exact avles_nil
  | _, _, .cons h t, s, l, hl => by simp only [RnL] at hl; obtain ⟨v, vs, e, h1, h2⟩ := hl; subst e; exact avles_cons (Wk.le h s v h1) (WkL.le t s vs h2)
end
def Rw (r : AV) (bl : BL) (tl : TL) : Out → CS → Prop := fun o c => ∃ v, o = .ret v ∧ Wk v r ∧ HasB c.H bl ∧ HasT c.H tl
theorem FC.rw {P : Program} {f : FuncId} {az : List AV} {c : CS} {r : AV} {bl : BL} {tl : TL} (h : FC P f az c (Rw r bl tl)) (hr : r.flat = true) : FC P f az c (Ro r bl tl) := fun H0 s az' H ha hh =>
  (h H0 s az' H ha hh).mono fun o H' ⟨s', o1, c1, a1, ⟨v, e1, e2, e3, e4⟩, a3, a4⟩ => by
    subst e1
    cases o with
    | pan w => simp only [RnO] at a3
    | ret w => exact ⟨.ret r, H', Wk.le e2 s' w a3, HSub.refl _, s', .ret r, c1, a1, ⟨rfl, e3, e4⟩, (AV.flat_rn _ hr _).2 rfl, a4⟩
theorem FC.introW {P : Program} {f : FuncId} {az : List AV} {c : CS} {rs : List ERes} {r : AV} {bl : BL} {tl : TL} {fn : Func} {e : EC} (hm : P.follows .mixedOrders = true) (hf : P.funcs[f]? = some fn) (hc : chkF P fn az.length e rs = true) (hr : r.flat = true) (h : J P rs c.nb c.nt [.c e] (Rw r bl tl) (initEnv az) c) : FC P f az c (Ro r bl tl) := (FC.intro hm hf hc h).rw hr
theorem pure_of {P : Program} {f : FuncId} {az : List AV} {rs : List ERes} {r : AV} {fn : Func} {e : EC} (hm : P.follows .mixedOrders = true) (hf : P.funcs[f]? = some fn) (hc : chkF P fn az.length e rs = true) (ha : flatL az = true) (hr : r.flat = true) (h : J P rs 0 0 [.c e] (Rw r [] []) (initEnv az) .new) : Pure P f az r :=
  FC.pure (FC.introW hm hf hc hr h) ha hr fun o c1 ⟨e, _, _⟩ => ⟨r, e, wk_flat r hr⟩
end Go.Aw
namespace Go.Aw
open Go
set_option linter.unusedVariables false
set_option linter.unusedSimpArgs false
def rmB (b : Nat) : BL → BL
  | [] => []
  | (k, x) :: l => bif k == b then rmB b l else (k, x) :: rmB b l
def rmT (b : Nat) : TL → TL
  | [] => []
  | (k, x) :: l => bif k == b then rmT b l else (k, x) :: rmT b l
theorem lk_rmB {b j : Nat} (h : (b == j) = false) : ∀ (l : BL), lkB (rmB b l) j = lkB l j
  | [] => rfl
  | (k, x) :: l => by
    simp only [rmB, lkB]
    cases hk : k == b with
    | true =>
      have e : k = b := by simpa using hk
      subst e
      rw [cond_true, h, cond_false, lk_rmB h l]
    | false => simp only [cond_false, lkB, lk_rmB h l]
theorem lk_rmT {b j : Nat} (h : (b == j) = false) : ∀ (l : TL), lkT (rmT b l) j = lkT l j
  | [] => rfl
  | (k, x) :: l => by
    simp only [rmT, lkT]
    cases hk : k == b with
    | true =>
      have e : k = b := by simpa using hk
      subst e
      rw [cond_true, h, cond_false, lk_rmT h l]
    | false => simp only [cond_false, lkT, lk_rmT h l]
def rmBs : List Nat → BL → BL
  | [], l => l
  | b :: bs, l => rmB b (rmBs bs l)
def rmTs : List Nat → TL → TL
  | [], l => l
  | b :: bs, l => rmT b (rmTs bs l)
def renB (p : Sg) : BL → BL
  | [] => []
  | q :: l => (p.b.getD q.1 0, q.2.1, renL p q.2.2) :: renB p l
def renT (p : Sg) : TL → TL
  | [] => []
  | q :: l => (p.t.getD q.1 0, q.2) :: renT p l
def apB : BL → BL → BL
  | [], m => m
  | q :: l, m => q :: apB l m
def apT : TL → TL → TL
  | [], m => m
  | q :: l, m => q :: apT l m
theorem rmBs_in {j : Nat} : ∀ (bs : List Nat), bs.contains j = true → ∀ l, lkB (rmBs bs l) j = none
  | [], h, _ => by simp at h
  | b :: bs, h, l => by
    have key : ∀ (l : BL), lkB (rmB j l) j = none := by
      intro l
      induction l with
      | nil => rfl
      | cons q l ih =>
        obtain ⟨k, x⟩ := q
        simp only [rmB]
        cases hk : k == j with
        | true => rw [cond_true]; exact ih
        | false => simp only [cond_false, lkB, hk]; exact ih
    simp only [rmBs]
    by_cases e : b = j
    · subst e; exact key _
    · have e' : (b == j) = false := by simpa using e
      rw [lk_rmB e']
      refine rmBs_in bs ?_ l
      simp only [List.contains_cons, Bool.or_eq_true, beq_iff_eq] at h
      exact h.resolve_left fun h => e h.symm
theorem rmTs_in {j : Nat} : ∀ (bs : List Nat), bs.contains j = true → ∀ l, lkT (rmTs bs l) j = none
  | [], h, _ => by simp at h
  | b :: bs, h, l => by
    have key : ∀ (l : TL), lkT (rmT j l) j = none := by
      intro l
      induction l with
      | nil => rfl
      | cons q l ih =>
        obtain ⟨k, x⟩ := q
        simp only [rmT]
        cases hk : k == j with
        | true => rw [cond_true]; exact ih
        | false => simp only [cond_false, lkT, hk]; exact ih
    simp only [rmTs]
    by_cases e : b = j
    · subst e; exact key _
    · have e' : (b == j) = false := by simpa using e
      rw [lk_rmT e']
      refine rmTs_in bs ?_ l
      simp only [List.contains_cons, Bool.or_eq_true, beq_iff_eq] at h
      exact h.resolve_left fun h => e h.symm
theorem rmBs_out {j : Nat} : ∀ (bs : List Nat), bs.contains j = false → ∀ l, lkB (rmBs bs l) j = lkB l j
  | [], _, _ => rfl
  | b :: bs, h, l => by
    simp only [List.contains_cons, Bool.or_eq_false_iff, beq_eq_false_iff_ne] at h
    simp only [rmBs]
    rw [lk_rmB (by simpa using fun e => h.1 (Eq.symm e)), rmBs_out bs h.2]
theorem rmTs_out {j : Nat} : ∀ (bs : List Nat), bs.contains j = false → ∀ l, lkT (rmTs bs l) j = lkT l j
  | [], _, _ => rfl
  | b :: bs, h, l => by
    simp only [List.contains_cons, Bool.or_eq_false_iff, beq_eq_false_iff_ne] at h
    simp only [rmTs]
    rw [lk_rmT (by simpa using fun e => h.1 (Eq.symm e)), rmTs_out bs h.2]
section
variable {n t b : Nat} {bl bl1 : BL} {tl tl1 : TL} {T : TypeId} {cs : List AV} {o : Own}
theorem cs_ext {a c : CS} (h1 : ∀ j, a.H.blk j = c.H.blk j) (h2 : ∀ j, a.H.tok j = c.H.tok j) (h3 : a.nb = c.nb) (h4 : a.nt = c.nt) : a = c := by
  obtain ⟨⟨a1, a2⟩, a3, a4⟩ := a
  obtain ⟨⟨c1, c2⟩, c3, c4⟩ := c
  simp only at h1 h2 h3 h4
  have e1 : a1 = c1 := funext h1
  have e2 : a2 = c2 := funext h2
  subst e1 e2 h3 h4
  rfl
theorem of_setB : (CS.of n t bl tl).setB b T cs = CS.of n t ((b, T, cs) :: rmB b bl) tl := cs_ext (fun j => by
  simp only [CS.setB, CS.of, AHeap.setB, lkB]
  cases hj : b == j with
  | true => have e : b = j := by simpa using hj
            subst e; simp
  | false => have e : ¬ j = b := fun e => by subst e; simp at hj
             rw [if_neg e, cond_false, lk_rmB hj]) (fun j => rfl) rfl rfl
theorem of_addB : (CS.of n t bl tl).addB T cs = CS.of (n + 1) t ((n, T, cs) :: bl) tl := cs_ext (fun j => by
  simp only [CS.addB, CS.of, AHeap.setB, lkB]
  cases hj : n == j with
  | true => have e : n = j := by simpa using hj
            subst e; simp
  | false => have e : ¬ j = n := fun e => by subst e; simp at hj
             exact if_neg e) (fun j => rfl) rfl rfl
theorem of_setT : (CS.of n t bl tl).setT b o = CS.of n t bl ((b, o) :: rmT b tl) := cs_ext (fun j => rfl) (fun j => by
  simp only [CS.setT, CS.of, AHeap.setT, lkT]
  cases hj : b == j with
  | true => have e : b = j := by simpa using hj
            subst e; simp
  | false => have e : ¬ j = b := fun e => by subst e; simp at hj
             rw [if_neg e, cond_false, lk_rmT hj]) rfl rfl
theorem of_addT : (CS.of n t bl tl).addT o = CS.of n (t + 1) bl ((t, o) :: tl) := cs_ext (fun j => rfl) (fun j => by
  simp only [CS.addT, CS.of, AHeap.setT, lkT]
  cases hj : t == j with
  | true => have e : t = j := by simpa using hj
            subst e; simp
  | false => have e : ¬ j = t := fun e => by subst e; simp at hj
             exact if_neg e) rfl rfl
theorem of_upd {p : Sg} : (CS.of n t bl tl).upd p bl1 tl1 = CS.of n t (apB ((renB p bl1).filter fun q => p.b.contains q.1) (rmBs p.b bl)) (apT ((renT p tl1).filter fun q => p.t.contains q.1) (rmTs p.t tl)) := cs_ext (fun j => by
  simp only [CS.upd, CS.of, updB]
  cases hc : p.b.contains j with
  | true =>
    rw [cond_true]
    induction bl1 with
    | nil => simp only [List.find?, renB, List.filter, apB]; rw [rmBs_in p.b hc]
    | cons q l ih =>
      simp only [List.find?, renB]
      cases hq : p.b.getD q.1 0 == j with
      | true =>
        have e : p.b.getD q.1 0 = j := by simpa using hq
        rw [e]
        simp only [List.filter, hc, apB, lkB, beq_self_eq_true, cond_true]
      | false =>
        simp only [List.filter]
        cases hd : p.b.contains (p.b.getD q.1 0) with
        | true => simp only [apB, lkB, hq, cond_false]; exact ih
        | false => exact ih
  | false =>
    rw [cond_false]
    induction bl1 with
    | nil => simp only [renB, List.filter, apB]; rw [rmBs_out p.b hc]
    | cons q l ih =>
      simp only [renB, List.filter]
      cases hd : p.b.contains (p.b.getD q.1 0) with
      | true =>
        have : (p.b.getD q.1 0 == j) = false := by
          cases hj : p.b.getD q.1 0 == j with
          | false => rfl
          | true => have e : p.b.getD q.1 0 = j := by simpa using hj
                    rw [e, hc] at hd; cases hd
        simp only [apB, lkB, this, cond_false]; exact ih
      | false => exact ih) (fun j => by
  simp only [CS.upd, CS.of, updT]
  cases hc : p.t.contains j with
  | true =>
    rw [cond_true]
    induction tl1 with
    | nil => simp only [List.find?, renT, List.filter, apT]; rw [rmTs_in p.t hc]
    | cons q l ih =>
      simp only [List.find?, renT]
      cases hq : p.t.getD q.1 0 == j with
      | true =>
        have e : p.t.getD q.1 0 = j := by simpa using hq
        rw [e]
        simp only [List.filter, hc, apT, lkT, beq_self_eq_true, cond_true]
      | false =>
        simp only [List.filter]
        cases hd : p.t.contains (p.t.getD q.1 0) with
        | true => simp only [apT, lkT, hq, cond_false]; exact ih
        | false => exact ih
  | false =>
    rw [cond_false]
    induction tl1 with
    | nil => simp only [renT, List.filter, apT]; rw [rmTs_out p.t hc]
    | cons q l ih =>
      simp only [renT, List.filter]
      cases hd : p.t.contains (p.t.getD q.1 0) with
      | true =>
        have : (p.t.getD q.1 0 == j) = false := by
          cases hj : p.t.getD q.1 0 == j with
          | false => rfl
          | true => have e : p.t.getD q.1 0 = j := by simpa using hj
                    rw [e, hc] at hd; cases hd
        simp only [apT, lkT, this, cond_false]; exact ih
      | false => exact ih) rfl rfl
theorem of_blk {j : Nat} : (CS.of n t bl tl).H.blk j = lkB bl j := rfl
theorem of_tok {j : Nat} : (CS.of n t bl tl).H.tok j = lkT tl j := rfl
theorem of_nb : (CS.of n t bl tl).nb = n := rfl
theorem of_nt : (CS.of n t bl tl).nt = t := rfl
theorem of_new : CS.new = CS.of 0 0 [] [] := rfl
theorem crange_if {l : List AV} {agg : Bool} {o n : Nat} : crange l agg o n = if o + n ≤ l.length then AV.ofCells agg ((l.drop o).take n) else none := by
  unfold crange
  by_cases h : o + n ≤ l.length
  · rw [Nat.ble_eq_true_of_le h, if_pos h, cond_true]
  · rw [if_neg h]
    cases hb : Nat.ble (o + n) l.length with
    | true => exact absurd (Nat.le_of_ble_eq_true hb) h
    | false => rfl
theorem cstB_if {c : CS} {b o n : Nat} {x : AV} : cstB c b o n x = match c.H.blk b with
  | some (T, cs) => if (x.okc = true ∧ x.cells.length = n) ∧ (o + n ≤ cs.length ∧ x.cells.all AV.one = true) then some (.undef, c.setB b T (setRange cs o x.cells)) else none
  | none => none := by
  unfold cstB
  cases e : c.H.blk b with
  | none => rfl
  | some q =>
    obtain ⟨T, cs⟩ := q
    simp only []
    by_cases h : (x.okc = true ∧ x.cells.length = n) ∧ (o + n ≤ cs.length ∧ x.cells.all AV.one = true)
    · rw [if_pos h, h.1.1, h.1.2, h.2.2, Nat.ble_eq_true_of_le h.2.1]
      simp
    · rw [if_neg h]
      cases hb : (x.okc && x.cells.length == n) && (Nat.ble (o + n) cs.length && x.cells.all AV.one) with
      | false => rfl
      | true =>
        simp only [Bool.and_eq_true, beq_iff_eq, Nat.ble_eq] at hb
        exact absurd hb h
theorem one_nilS : AV.one (.raw (.slice none 0 0)) = true := rfl
theorem oc_nil : (Value.slice none 0 0).oneCell' = true := rfl
theorem oc_pnil : (Value.pointer none).oneCell' = true := rfl
theorem one_pnil : AV.one (.raw (.pointer none)) = true := rfl
theorem cev_t {env : Env} {j : Nat} : cev env (.t j) = env.get j := rfl
theorem cev_c {env : Env} {a : AV} : cev env (.c a) = bif a.flat then a else .top := rfl
theorem put_some' {env : Env} {d : Nat} {v : AV} : env.put (some d) v = (d, v) :: env := rfl
theorem put_none' {env : Env} {v : AV} : env.put none v = env := rfl
theorem getD_0 {a d : Nat} {l : List Nat} : (a :: l).getD 0 d = a := rfl
theorem getD_s {a d i : Nat} {l : List Nat} : (a :: l).getD (i + 1) d = l.getD i d := rfl
section
variable {env : Env} {c : CS} {x y z : EOpd} {zero l : List AV} {prt : List (Nat × Nat × EOpd)} {pt : List (Nat × EOpd)} {agg : Bool} {n m me : Nat} {bop : BinOp} {ks : List LK} {ik : IntKind} {xs : List EOpd} {lo hi mx : Option EOpd} {T : TypeId}
theorem cbuild_nil {env : Env} {cells : List AV} : cbuild env cells [] = some cells := rfl
theorem cbuild_cons {env : Env} {cells : List AV} {off size : Nat} {x : EOpd} {rest : List (Nat × Nat × EOpd)} : cbuild env cells ((off, size, x) :: rest) = if (cev env x).okc = true ∧ ((cev env x).cells.length = size ∧ off + size ≤ cells.length) then cbuild env (setRange cells off (cev env x).cells) rest else none := by
  simp only [cbuild]
  by_cases h : (cev env x).okc = true ∧ ((cev env x).cells.length = size ∧ off + size ≤ cells.length)
  · rw [if_pos h, h.1, h.2.1, Nat.ble_eq_true_of_le h.2.2]
    simp
  · rw [if_neg h]
    cases hb : (cev env x).okc && ((cev env x).cells.length == size && Nat.ble (off + size) cells.length) with
    | false => rfl
    | true =>
      simp only [Bool.and_eq_true, beq_iff_eq, Nat.ble_eq] at hb
      exact absurd hb h
theorem cidx_if {n : Int} {len : Nat} : cidx n len = if 0 ≤ n ∧ n < len then some n.toNat else none := by
  by_cases h : 0 ≤ n ∧ n < len
  · rw [if_pos h, cidx_eq h.1 h.2]
  · rw [if_neg h]
    cases hc : cidx n len with
    | none => rfl
    | some k => exact absurd ⟨(cidx_ok hc).1, (cidx_ok hc).2.1⟩ h
theorem wrapu64 {n : Int} (h0 : 0 ≤ n) (h1 : n ≤ 18446744073709551615) : IntKind.u64.wrap n = n := by rw [IntKind.wrap_u64]; omega
theorem wrapu8 {n : Int} (h0 : 0 ≤ n) (h1 : n ≤ 255) : IntKind.u8.wrap n = n := by rw [IntKind.wrap_u8]; omega
theorem nnif {α : Type} {b : Int} {x y : α} (h : 0 ≤ b) : (if 0 ≤ b then x else y) = x := if_pos h
theorem o_mv : ost (.mv x) env c = (cpv (.mv x) env c.H).map fun v => (v, c) := rfl
theorem o_pick : ost (.pick x y z) env c = (cpv (.pick x y z) env c.H).map fun v => (v, c) := rfl
theorem o_nilck : ost (.nilck x) env c = (cpv (.nilck x) env c.H).map fun v => (v, c) := rfl
theorem o_build : ost (.build zero prt) env c = (cpv (.build zero prt) env c.H).map fun v => (v, c) := rfl
theorem o_load : ost (.load agg n x) env c = (cpv (.load agg n x) env c.H).map fun v => (v, c) := rfl
theorem o_loadD : ost (.loadD me agg n x) env c = (cpv (.loadD me agg n x) env c.H).map fun v => (v, c) := rfl
theorem o_loadR : ost (.loadR agg n x) env c = (cpv (.loadR agg n x) env c.H).map fun v => (v, c) := rfl
theorem o_faddr : ost (.faddr n x) env c = (cpv (.faddr n x) env c.H).map fun v => (v, c) := rfl
theorem o_field : ost (.field agg n m x) env c = (cpv (.field agg n m x) env c.H).map fun v => (v, c) := rfl
theorem o_iaddr : ost (.iaddr n x y) env c = (cpv (.iaddr n x y) env c.H).map fun v => (v, c) := rfl
theorem o_iaddrA : ost (.iaddrA n m x y) env c = (cpv (.iaddrA n m x y) env c.H).map fun v => (v, c) := rfl
theorem o_idxA : ost (.idxA agg n m x y) env c = (cpv (.idxA agg n m x y) env c.H).map fun v => (v, c) := rfl
theorem o_idxS : ost (.idxS x y) env c = (cpv (.idxS x y) env c.H).map fun v => (v, c) := rfl
theorem o_bin : ost (.bin bop x y) env c = (cpv (.bin bop x y) env c.H).map fun v => (v, c) := rfl
theorem o_binB : ost (.binB bop x y) env c = (cpv (.binB bop x y) env c.H).map fun v => (v, c) := rfl
theorem o_eqA : ost (.eqA agg T ks x y) env c = (cpv (.eqA agg T ks x y) env c.H).map fun v => (v, c) := rfl
theorem o_not : ost (.not x) env c = (cpv (.not x) env c.H).map fun v => (v, c) := rfl
theorem o_pnil : ost (.pnil agg x) env c = (cpv (.pnil agg x) env c.H).map fun v => (v, c) := rfl
theorem o_neg : ost (.neg x) env c = (cpv (.neg x) env c.H).map fun v => (v, c) := rfl
theorem o_conv : ost (.conv ik x) env c = (cpv (.conv ik x) env c.H).map fun v => (v, c) := rfl
theorem o_lenS : ost (.lenS x) env c = (cpv (.lenS x) env c.H).map fun v => (v, c) := rfl
theorem o_len : ost (.len x) env c = (cpv (.len x) env c.H).map fun v => (v, c) := rfl
theorem o_lenA : ost (.lenA n) env c = (cpv (.lenA n) env c.H).map fun v => (v, c) := rfl
theorem o_minmax : ost (.minmax agg xs) env c = (cpv (.minmax agg xs) env c.H).map fun v => (v, c) := rfl
theorem o_slS : ost (.slS x lo hi) env c = (cpv (.slS x lo hi) env c.H).map fun v => (v, c) := rfl
theorem o_slV : ost (.slV n x lo hi mx) env c = (cpv (.slV n x lo hi mx) env c.H).map fun v => (v, c) := rfl
theorem o_extract : ost (.extract n x) env c = (cpv (.extract n x) env c.H).map fun v => (v, c) := rfl
theorem o_mkfn : ost (.mkfn n xs) env c = (cpv (.mkfn n xs) env c.H).map fun v => (v, c) := rfl
theorem o_mkfnB : ost (.mkfnB n xs) env c = (cpv (.mkfnB n xs) env c.H).map fun v => (v, c) := rfl
theorem o_convS : ost (.convS agg x) env c = (cpv (.convS agg x) env c.H).map fun v => (v, c) := rfl
theorem o_convBS : ost (.convBS T x) env c = (cpv (.convBS T x) env c.H).map fun v => (v, c) := rfl
theorem o_mkif : ost (.mkif T x) env c = (cpv (.mkif T x) env c.H).map fun v => (v, c) := rfl
theorem o_isnil : ost (.isnil agg x) env c = (cpv (.isnil agg x) env c.H).map fun v => (v, c) := rfl
theorem o_bslice : ost (.bslice T n m l pt) env c = (cpv (.bslice T n m l pt) env c.H).map fun v => (v, c) := rfl
theorem o_box : ost (.box T x) env c = bif (cev env x).okc && (cev env x).cells.all AV.one then some (.ptr c.nb 0, c.addB T (cev env x).cells) else none := rfl
theorem o_alloc : ost (.alloc T zero) env c = bif flatL zero && zero.all AV.one then some (.ptr c.nb 0, c.addB T zero) else none := rfl
theorem o_store : ost (.store n x y) env c = (match cev env x with
    | .ptr b o => cstB c b o n (cev env y)
    | .mp t ver k => cstM c t ver k n (cev env y)
    | _ => none) := rfl
theorem o_storeD {others : List Nat} : ost (.storeD me others n x y) env c = (match env.get me, cev env x with
    | .ptr b 0, .ptr b' o => bif b' == b && others.all (cnot env b) then cstB c b o n (cev env y) else none
    | _, _ => none) := rfl
theorem o_bsliceO : ost (.bsliceO T n m zero pt) env c = bif crowsOk env n pt then some (.own c.nt n (crows env pt), c.addT (.frz T n (crows env pt).length)) else none := rfl
theorem o_bsliceM : ost (.bsliceM T n m zero pt) env c = bif crowsOk env n pt then some (.ms c.nt 0, c.addT (.mu T n 0 (crows env pt))) else none := rfl
end
end
end Go.Aw
namespace Go.Aw
open Go
set_option linter.unusedVariables false
set_option linter.unusedSimpArgs false
mutual
def AV.tf : AV → Bool
  | .top => false
  | .agg cs => tfL cs
  | .tup cs => tfL cs
  | .vs _ rows => flatR rows
  | .own _ _ rows => flatR rows
  | .rp row _ => flatL row
  | .fn _ cap => tfL cap
  | .ifc _ v => v.tf
  | _ => true
def tfL : List AV → Bool
  | [] => true
  | a :: az => a.tf && tfL az
end
theorem flatR_eq {s : Sg} {az l l' : List (List AV)} (h : flatR az = true) (h1 : RnR s az l) (h2 : RnR s az l') : l = l' := ((flatR_rn az h l).1 h1).trans ((flatR_rn az h l').1 h2).symm
theorem flatL_eq {s : Sg} {az l l' : List AV} (h : flatL az = true) (h1 : RnL s az l) (h2 : RnL s az l') : l = l' := ((flatL_rn az h l).1 h1).trans ((flatL_rn az h l').1 h2).symm
mutual
theorem Rn.same {s : Sg} : ∀ (a v v' : AV), a.tf = true → Rn s a v → Rn s a v' → v = v'
  | .top, _, _, h, _, _ => by simp [AV.tf] at h
  | .ptr b o, _, _, _, h1, h2 => by simp only [Rn] at *; obtain ⟨x, e1, rfl⟩ := h1; obtain ⟨y, e2, rfl⟩ := h2; rw [e1] at e2; cases e2; rfl
  | .ms b o, _, _, _, h1, h2 => by simp only [Rn] at *; obtain ⟨x, e1, rfl⟩ := h1; obtain ⟨y, e2, rfl⟩ := h2; rw [e1] at e2; cases e2; rfl
  | .mp b o k, _, _, _, h1, h2 => by simp only [Rn] at *; obtain ⟨x, e1, rfl⟩ := h1; obtain ⟨y, e2, rfl⟩ := h2; rw [e1] at e2; cases e2; rfl
  | .agg cs, _, _, h, h1, h2 => by simp only [AV.tf] at h; simp only [Rn] at *; obtain ⟨l, rfl, e1⟩ := h1; obtain ⟨m, rfl, e2⟩ := h2; rw [RnL.same cs l m h e1 e2]
  | .tup cs, _, _, h, h1, h2 => by simp only [AV.tf] at h; simp only [Rn] at *; obtain ⟨l, rfl, e1⟩ := h1; obtain ⟨m, rfl, e2⟩ := h2; rw [RnL.same cs l m h e1 e2]
  | .fn f cs, _, _, h, h1, h2 => by simp only [AV.tf] at h; simp only [Rn] at *; obtain ⟨l, rfl, e1⟩ := h1; obtain ⟨m, rfl, e2⟩ := h2; rw [RnL.same cs l m h e1 e2]
  | .ifc t a, _, _, h, h1, h2 => by simp only [AV.tf] at h; simp only [Rn] at *; obtain ⟨l, rfl, e1⟩ := h1; obtain ⟨m, rfl, e2⟩ := h2; rw [Rn.same a l m h e1 e2]
  | .vs n rows, _, _, h, h1, h2 => by simp only [AV.tf] at h; simp only [Rn] at *; obtain ⟨l, rfl, e1⟩ := h1; obtain ⟨m, rfl, e2⟩ := h2; rw [flatR_eq h e1 e2]
  | .rp row o, _, _, h, h1, h2 => by simp only [AV.tf] at h; simp only [Rn] at *; obtain ⟨l, rfl, e1⟩ := h1; obtain ⟨m, rfl, e2⟩ := h2; rw [flatL_eq h e1 e2]
  | .own t n rows, _, _, h, h1, h2 => by
    simp only [AV.tf] at h
    simp only [Rn] at *
    obtain ⟨x, l, e0, rfl, e1⟩ := h1
    obtain ⟨y, m, e0', rfl, e2⟩ := h2
    rw [e0] at e0'
    cases e0'
    rw [flatR_eq h e1 e2]
  | .bool _, _, _, _, h1, h2 => by simp only [Rn] at *; rw [h1, h2]
  | .int _ _, _, _, _, h1, h2 => by simp only [Rn] at *; rw [h1, h2]
  | .str _, _, _, _, h1, h2 => by simp only [Rn] at *; rw [h1, h2]
  | .raw _, _, _, _, h1, h2 => by simp only [Rn] at *; rw [h1, h2]
theorem RnL.same {s : Sg} : ∀ (az l l' : List AV), tfL az = true → RnL s az l → RnL s az l' → l = l'
  | [], _, _, _, h1, h2 => by simp only [RnL] at *; rw [h1, h2]
  | a :: az, _, _, h, h1, h2 => by
    simp only [tfL, Bool.and_eq_true] at h
    simp only [RnL] at *
    obtain ⟨v, vs, rfl, a1, a2⟩ := h1
    obtain ⟨w, ws, rfl, b1, b2⟩ := h2
    rw [Rn.same a v w h.1 a1 b1, RnL.same az vs ws h.2 a2 b2]
end
mutual
theorem Rn.ex {s : Sg} {n t : Nat} (hn : n ≤ s.b.length) (ht : t ≤ s.t.length) : ∀ (a : AV), a.bd n t = true → ∃ v, Rn s a v
  | .top, _ => ⟨.top, by simp only [Rn]⟩
  | .ptr b o, h => ⟨_, by simp only [Rn]; exact ⟨_, getD_get (Nat.lt_of_lt_of_le (blt_lt h) hn), rfl⟩⟩
  | .ms b o, h => ⟨_, by simp only [Rn]; exact ⟨_, getD_get (Nat.lt_of_lt_of_le (blt_lt h) ht), rfl⟩⟩
  | .mp b o k, h => ⟨_, by simp only [Rn]; exact ⟨_, getD_get (Nat.lt_of_lt_of_le (blt_lt h) ht), rfl⟩⟩
  | .agg cs, h => by simp only [AV.bd] at h; obtain ⟨l, e⟩ := RnL.ex hn ht cs h; exact ⟨_, by simp only [Rn]; exact ⟨l, rfl, e⟩⟩
  | .tup cs, h => by simp only [AV.bd] at h; obtain ⟨l, e⟩ := RnL.ex hn ht cs h; exact ⟨_, by simp only [Rn]; exact ⟨l, rfl, e⟩⟩
  | .fn f cs, h => by simp only [AV.bd] at h; obtain ⟨l, e⟩ := RnL.ex hn ht cs h; exact ⟨_, by simp only [Rn]; exact ⟨l, rfl, e⟩⟩
  | .ifc t a, h => by simp only [AV.bd] at h; obtain ⟨l, e⟩ := Rn.ex hn ht a h; exact ⟨_, by simp only [Rn]; exact ⟨l, rfl, e⟩⟩
  | .vs m rows, h => ⟨_, by simp only [AV.bd] at h; simp only [Rn]; exact ⟨rows, rfl, (flatR_rn rows h _).2 rfl⟩⟩
  | .rp row o, h => ⟨_, by simp only [AV.bd] at h; simp only [Rn]; exact ⟨row, rfl, (flatL_rn row h _).2 rfl⟩⟩
  | .own x m rows, h => ⟨_, by simp only [AV.bd, Bool.and_eq_true] at h; simp only [Rn]; exact ⟨_, rows, getD_get (Nat.lt_of_lt_of_le (blt_lt h.1) ht), rfl, (flatR_rn rows h.2 _).2 rfl⟩⟩
  | .bool b, _ => ⟨.bool b, by simp only [Rn]⟩
  | .int k n, _ => ⟨.int k n, by simp only [Rn]⟩
  | .str x, _ => ⟨.str x, by simp only [Rn]⟩
  | .raw x, _ => ⟨.raw x, by simp only [Rn]⟩
theorem RnL.ex {s : Sg} {n t : Nat} (hn : n ≤ s.b.length) (ht : t ≤ s.t.length) : ∀ (az : List AV), bdL n t az = true → ∃ l, RnL s az l
  | [], _ => ⟨[], by simp only [RnL]⟩
  | a :: az, h => by
    simp only [bdL, Bool.and_eq_true] at h
    obtain ⟨v, e1⟩ := Rn.ex hn ht a h.1
    obtain ⟨l, e2⟩ := RnL.ex hn ht az h.2
    exact ⟨v :: l, by simp only [RnL]; exact ⟨v, l, rfl, e1, e2⟩⟩
end
theorem Sg.Le.eq {s s' : Sg} (h : Sg.Le s s') (h1 : s'.b.length = s.b.length) (h2 : s'.t.length = s.t.length) : s' = s := by
  obtain ⟨b, t⟩ := s
  obtain ⟨b', t'⟩ := s'
  simp only at h1 h2
  have e1 : b' = b := by
    apply List.ext_getElem?
    intro i
    by_cases hi : i < b.length
    · have := getD_get hi
      rw [this]; exact h.b _ _ this
    · rw [List.getElem?_eq_none (by omega), List.getElem?_eq_none (by omega)]
  have e2 : t' = t := by
    apply List.ext_getElem?
    intro i
    by_cases hi : i < t.length
    · have := getD_get hi
      rw [this]; exact h.t _ _ this
    · rw [List.getElem?_eq_none (by omega), List.getElem?_eq_none (by omega)]
  rw [e1, e2]
section
variable {P : Program} {env : Env} {c : CS} {v : AV} {anns : List AV} {l : List EI} {K : Env → CS → Prop} {Rp : AV → CS → Prop} {f : FuncId} {args : List EOpd} {az : List AV}
theorem IJ.callD {others : List Nat} {b : Nat} {T : TypeId} {cs : List AV} (h : FC P f (args.map (cev env)) c (Rt v (c.setB b T cs))) (hb : Nat.blt b c.nb = true) (hcs : bdL c.nb c.nt cs = true) (hv : v.flat = true) (ho : ∀ s ∈ others, ∃ b' T' cs', env.get s = .ptr b' 0 ∧ c.H.blk b' = some (T', cs') ∧ (b' == b) = false ∧ tfL cs' = true) : IJ P (.callD others f args) env c (fun v' c' => v' = v ∧ c' = c.setB b T cs) Rp := fun H0 s env' H K Rp' he hr hK hRp => by
  have hsb := getD_get (l := s.b) (by rw [← hr.nb]; exact blt_lt hb)
  have heq : ∀ {s' : Sg} {c2 : CS} {H' : AHeap}, Sg.Le s s' → c2.nb = c.nb → c2.nt = c.nt → HRc H0 s' c2 H' → s' = s := fun q1 q2 q3 q4 => q1.eq (by rw [← q4.nb, q2, hr.nb]) (by rw [← q4.nt, q3, hr.nt])
  refine .callD (az := args.map (EOpd.ev env')) _ (fun j hj => ?_) (fun hF => ?_) (AVLes.rfl' _) (h H0 s _ H (cevs_rn he args) hr) (outk (fun s' v1 v1' c1 H' q1 q2 q3 q4 => by obtain ⟨e1, e2⟩ := q2; cases e1; exact hK s' _ v1' c1 H' q1 ⟨rfl, e2⟩ q3 q4) (fun s' v1 v1' c1 H' q1 q2 q3 q4 => by obtain ⟨e1, e2⟩ := q2; cases e1))
  · obtain ⟨b', T', cs', e1, e2, e3, e4⟩ := ho j hj
    have hj' := he j
    rw [e1] at hj'
    simp only [Rn] at hj'
    obtain ⟨x, g1, g2⟩ := hj'
    refine ⟨x, g2, fun o H' ⟨s', o1, c1, q1, ⟨q2, q3⟩, q4, q5⟩ => ?_⟩
    subst q3
    have := heq (c2 := c.setB b T cs) q1 rfl rfl q5
    subst this
    obtain ⟨y, l1, r1, r2, r3⟩ := hr.blk b' T' cs' e2
    have hne : ¬ b' = b := by simpa using e3
    obtain ⟨y2, l2, r4, r5, r6⟩ := q5.blk b' T' cs' (by simp only [CS.setB, AHeap.setB, if_neg hne]; exact e2)
    rw [g1] at r1 r4
    cases r1
    cases r4
    rw [r2, r5, RnL.same cs' l1 l2 e4 r3 r6]
  · obtain ⟨l2, g1⟩ := RnL.ex (s := s) (Nat.le_of_eq hr.nb) (Nat.le_of_eq hr.nt) cs hcs
    refine ⟨v, H.setB (s.b.getD b 0) T l2, ⟨s, .ret v, _, Sg.Le.refl s, ⟨rfl, rfl⟩, (AV.flat_rn v hv v).2 rfl, hr.setB hsb g1⟩, ?_⟩
    obtain ⟨N, hN⟩ := hF
    obtain ⟨_, y, hy⟩ := hr.newb b _ hsb
    refine ⟨N, fun m hm => ⟨?_, (hN m hm).2⟩⟩
    simp only [AHeap.setB]
    rw [if_neg (fun e => by subst e; rw [(hN _ hm).1] at hy; cases hy)]
    exact (hN m hm).1
theorem DJ.pu {d : Nat} {as0 : List AV} {r : AV} (h : Pure P f az r) (ha : args.map (cev env) = as0) (hw : wkL as0 = az) (hf : flatL az = true) (hr : r.flat = true) (hk : DJ P anns l ((d, r) :: env) c K Rp) : DJ P anns (⟨some d, none, .call f args⟩ :: l) env c K Rp :=
  DJ.cr rfl (FC.ofPure h hf hr hw) ha hk
end
def noRnd (k : List CI) : Bool := k.all fun i => match i with
 | .rnd _ => false
 | _ => true
mutual
def AV.eqb : AV → AV → Bool
 | .bool a, .bool b => a == b
 | .int k n, .int k' n' => decide (k = k') && decide (n = n')
 | .str a, .str b => decide (a = b)
 | .ptr a b, .ptr a' b' => a == a' && b == b'
 | .vs n r, .vs n' r' => n == n' && eqbR r r'
 | .own t n r, .own t' n' r' => (t == t' && n == n') && eqbR r r'
 | .agg l, .agg l' => eqbL l l'
 | .raw (.slice none 0 0), .raw (.slice none 0 0) => true
 | .raw (.pointer none), .raw (.pointer none) => true
 | _, _ => false
def eqbL : List AV → List AV → Bool
 | [], [] => true
 | a :: l, b :: l' => a.eqb b && eqbL l l'
 | _, _ => false
def eqbR : List (List AV) → List (List AV) → Bool
 | [], [] => true
 | a :: l, b :: l' => eqbL a b && eqbR l l'
 | _, _ => false
end
mutual
theorem AV.eqb_ok : ∀ (a b : AV), a.eqb b = true → a = b
 | .bool a, b, h => by cases b <;> simp [AV.eqb] at h <;> simp_all
 | .int k n, b, h => by cases b <;> simp [AV.eqb] at h <;> simp_all
 | .str a, b, h => by cases b <;> simp [AV.eqb] at h <;> simp_all
 | .ptr x y, b, h => by cases b <;> simp [AV.eqb] at h <;> simp_all
 | .vs n r, b, h => by cases b <;> simp [AV.eqb] at h; rw [h.1, eqbR_ok _ _ h.2]
 | .own t n r, b, h => by cases b <;> simp [AV.eqb] at h; rw [h.1.1, h.1.2, eqbR_ok _ _ h.2]
 | .agg l, b, h => by cases b <;> simp [AV.eqb] at h; rw [eqbL_ok _ _ h]
 | .raw v, b, h => by
  unfold AV.eqb at h
  split at h <;> simp_all
 | .top, b, h => by cases b <;> simp [AV.eqb] at h
 | .tup l, b, h => by cases b <;> simp [AV.eqb] at h
 | .ms _ _, b, h => by cases b <;> simp [AV.eqb] at h
 | .mp _ _ _, b, h => by cases b <;> simp [AV.eqb] at h
 | .rp _ _, b, h => by cases b <;> simp [AV.eqb] at h
 | .fn _ _, b, h => by cases b <;> simp [AV.eqb] at h
 | .ifc _ _, b, h => by cases b <;> simp [AV.eqb] at h
theorem eqbL_ok : ∀ (a b : List AV), eqbL a b = true → a = b
 | [], [], _ => rfl
 | a :: l, b :: l', h => by
  simp only [eqbL, Bool.and_eq_true] at h
  rw [AV.eqb_ok a b h.1, eqbL_ok l l' h.2]
 | [], _ :: _, h => by simp [eqbL] at h
 | _ :: _, [], h => by simp [eqbL] at h
theorem eqbR_ok : ∀ (a b : List (List AV)), eqbR a b = true → a = b
 | [], [], _ => rfl
 | a :: l, b :: l', h => by
  simp only [eqbR, Bool.and_eq_true] at h
  rw [eqbL_ok a b h.1, eqbR_ok l l' h.2]
 | [], _ :: _, h => by simp [eqbR] at h
 | _ :: _, [], h => by simp [eqbR] at h
end
def eqbO : Option (TypeId × List AV) → Option (TypeId × List AV) → Bool
 | none, none => true
 | some (T, l), some (T', l') => T == T' && eqbL l l'
 | _, _ => false
theorem eqbO_ok : ∀ (a b : Option (TypeId × List AV)), eqbO a b = true → a = b
 | none, none, _ => rfl
 | some (T, l), some (T', l'), h => by
  simp only [eqbO, Bool.and_eq_true, beq_iff_eq] at h
  rw [h.1, eqbL_ok _ _ h.2]
 | none, some _, h => by simp [eqbO] at h
 | some _, none, h => by simp [eqbO] at h
def eqbT : Option Own → Option Own → Bool
 | none, none => true
 | some ⟨a, b, c, d, none⟩, some ⟨a', b', c', d', none⟩ => (a == a' && b == b') && (c == c' && d == d')
 | some ⟨a, b, c, d, some r⟩, some ⟨a', b', c', d', some r'⟩ => ((a == a' && b == b') && (c == c' && d == d')) && eqbR r r'
 | _, _ => false
theorem eqbT_ok (a b : Option Own) (h : eqbT a b = true) : a = b := by
 unfold eqbT at h
 split at h
 ·rfl
 ·simp only [Bool.and_eq_true, beq_iff_eq] at h
  obtain ⟨⟨rfl, rfl⟩, rfl, rfl⟩ := h
  rfl
 ·simp only [Bool.and_eq_true, beq_iff_eq] at h
  obtain ⟨⟨⟨rfl, rfl⟩, rfl, rfl⟩, h⟩ := h
  rw [eqbR_ok _ _ h]
 ·cases h
def upTo : Nat → (Nat → Bool) → Bool
 | 0, _ => true
 | n + 1, p => p n && upTo n p
theorem upTo_ok : ∀ {n : Nat} {p : Nat → Bool}, upTo n p = true → ∀ i, i < n → p i = true
 | n + 1, p, h, i, hi => by
  simp only [upTo, Bool.and_eq_true] at h
  by_cases e : i = n
  ·subst e; exact h.1
  ·exact upTo_ok h.2 i (by omega)
def sameBut (c c' : CS) (b : Nat) : Bool := upTo c.nb (fun j => j == b || eqbO (c'.H.blk j) (c.H.blk j)) && upTo c.nt (fun t => eqbT (c'.H.tok t) (c.H.tok t))
def dcall (cl : Cl) (others : List Nat) (f : FuncId) (args : List EOpd) (env : Env) (c : CS) : Option (AV × CS) :=
 match args.map (cev env) with
 | .ptr b o :: az => match cl f (.ptr b o :: az) c with
  | some (v, c') => match c'.H.blk b with
   | some (T, cs) => bif ((Nat.blt b c.nb && bdL c.nb c.nt cs) && v.wk.flat) && ((others.all fun s => match env.get s with
     | .ptr b' 0 => match c.H.blk b' with
      | some (_, cs') => !(b' == b) && tfL cs'
      | none => false
     | _ => false) && sameBut c c' b) then some (v.wk, c.setB b T cs) else none
   | none => none
  | none => none
 | _ => none
def dmrE (cvs : List FuncId) (cl : Cl) : List EI → Env → CS → Option (List AV × Env × CS)
 | [], env, c => some ([], env, c)
 | ⟨d, g, op⟩ :: l, env, c => match wanted ⟨d, g, op⟩ env with
  | none => none
  | some false => match dmrE cvs cl l (env.put d .undef) c with
   | some (anns, e, c2) => some (bif isP op then .undef :: anns else anns, e, c2)
   | none => none
  | some true => match op with
   | .pcall f args => match cpure cl f (args.map (cev env)) with
    | some r => match dmrE cvs cl l (env.put d r) c with
     | some (anns, e, c2) => some (r :: anns, e, c2)
     | none => none
    | none => none
   | .pcallv x args => match cev env x with
    | .fn f cap => bif cvs.contains f then match cpure cl f (args.map (cev env) ++ cap) with
     | some r => match dmrE cvs cl l (env.put d r) c with
      | some (anns, e, c2) => some (r :: anns, e, c2)
      | none => none
     | none => none
     else none
    | _ => none
   | .pcallM _ _ _ _ => none
   | .callD others f args => match dcall cl others f args env c with
    | some (v, c1) => dmrE cvs cl l (env.put d v) c1
    | none => none
   | op => match cstp cvs cl op env c with
    | some (v, c1) => dmrE cvs cl l (env.put d v) c1
    | none => none
def runD (tab : Tab) (lib : Cl) (cvs : List FuncId) (idl : List (FuncId × Nat)) : Nat → List ERes → List CI → Env → CS → Option (AV × CS)
 | 0, _, _, _, _ => none
 | n + 1, rs, k, env, c =>
  match k with
  | [] => (cres rs env c.H).map fun v => (v, c)
  | .blk _ :: k => runD tab lib cvs idl n rs k env c
  | .rnd body :: k => runD tab lib cvs idl n rs (.c body :: .rnd body :: k) env c
  | .c e :: k => match e with
   | .ret => (cres rs env c.H).map fun v => (v, c)
   | .skip => runD tab lib cvs idl n rs k env c
   | .seq a b => runD tab lib cvs idl n rs (.c a :: .c b :: k) env c
   | .block id b => runD tab lib cvs idl n rs (.c b :: .blk id :: k) env c
   | .exit id => match cpop id k with
    | some k' => runD tab lib cvs idl n rs k' env c
    | none => none
   | .cond x a b => match cev env x with
    | .bool true => runD tab lib cvs idl n rs (.c a :: k) env c
    | .bool false => runD tab lib cvs idl n rs (.c b :: k) env c
    | _ => none
   | .region ops _ =>
    match dmrE cvs (fun f az c => match lib f az c with
     | some r => some r
     | none => match tab f with
      | some (e, rs, m) => bif az.length == m then runD tab lib cvs idl n rs [.c e] (initEnv az) c else none
      | none => none) ops env c with
    | some (_, env', c') => runD tab lib cvs idl n rs k env' c'
    | none => none
   | .loop body => runD tab lib cvs idl n rs (.c body :: .rnd body :: k) env c
   | .dfr d f cap => bif idl.contains (f, cap.length) && noRnd k then runD tab lib cvs idl n rs k (env.put (some d) (.fn f (cap.map (cev env)))) c else none
def clD (tab : Tab) (lib : Cl) (cvs : List FuncId) (idl : List (FuncId × Nat)) (n : Nat) : Cl := fun f az c => match lib f az c with
 | some r => some r
 | none => match tab f with
  | some (e, rs, m) => bif az.length == m then runD tab lib cvs idl n rs [.c e] (initEnv az) c else none
  | none => none
def clP (lib : Lib) : Cl := fun f az c => match lib f (wkL az) with
 | some r => bif flatL (wkL az) && r.flat then some (r, c) else none
 | none => none
def clOr (a b : Cl) : Cl := fun f az c => match a f az c with
 | some r => some r
 | none => b f az c
def InvD (tab : Tab) (lib : Cl) (cvs : List FuncId) (idl : List (FuncId × Nat)) (rs : List ERes) (v : AV) (c1 : CS) (H0 : AHeap) (s0 : Sg) (body : EC) (k : List CI) (B : Nat) : Nat → Env → AHeap → Prop := fun m env' H' =>
 m ≤ B ∧ ∃ s env c, Sg.Le s0 s ∧ runD tab lib cvs idl (m + 1) rs (.rnd body :: k) env c = some (v, c1) ∧ RnE s env env' ∧ HRc H0 s c H'
def IRD (tab : Tab) (lib : Cl) (cvs : List FuncId) (idl : List (FuncId × Nat)) (rs : List ERes) (v : AV) (c1 : CS) (H0 : AHeap) (s0 : Sg) (n : Nat) : List CI → List Item → Prop
 | [], [] => True
 | .c e :: k, .c e' :: k' => e = e' ∧ IRD tab lib cvs idl rs v c1 H0 s0 n k k'
 | .blk i :: k, .blk j :: k' => i = j ∧ IRD tab lib cvs idl rs v c1 H0 s0 n k k'
 | .rnd b :: k, .round I m0 :: k' => n ≤ m0 ∧ (∃ B, n ≤ B + 1 ∧ I = InvD tab lib cvs idl rs v c1 H0 s0 b k B) ∧ IRD tab lib cvs idl rs v c1 H0 s0 n k k'
 | _, _ => False
mutual
theorem Rn.back {s s' : Sg} (e : Sg.Le s s') : ∀ (a v0 v : AV), Rn s a v0 → Rn s' a v → Rn s a v
 | .top, _, _, _, _ => by simp only [Rn]
 | .ptr b o, _, _, h, k => by simp only [Rn] at *; obtain ⟨x, h1, _⟩ := h; obtain ⟨y, k1, k2⟩ := k; rw [e.b _ _ h1] at k1; cases k1; exact ⟨x, h1, k2⟩
 | .agg cs, _, _, h, k => by simp only [Rn] at *; obtain ⟨l, _, h1⟩ := h; obtain ⟨m, k1, k2⟩ := k; exact ⟨m, k1, RnL.back e cs l m h1 k2⟩
 | .tup cs, _, _, h, k => by simp only [Rn] at *; obtain ⟨l, _, h1⟩ := h; obtain ⟨m, k1, k2⟩ := k; exact ⟨m, k1, RnL.back e cs l m h1 k2⟩
 | .vs n rows, _, _, h, k => by simp only [Rn] at *; obtain ⟨l, _, h1⟩ := h; obtain ⟨m, k1, k2⟩ := k; exact ⟨m, k1, RnR.back e rows l m h1 k2⟩
 | .own t n rows, _, _, h, k => by simp only [Rn] at *; obtain ⟨x, l, h1, _, h2⟩ := h; obtain ⟨y, m, k1, k2, k3⟩ := k; rw [e.t _ _ h1] at k1; cases k1; exact ⟨x, m, h1, k2, RnR.back e rows l m h2 k3⟩
 | .ms t ver, _, _, h, k => by simp only [Rn] at *; obtain ⟨x, h1, _⟩ := h; obtain ⟨y, k1, k2⟩ := k; rw [e.t _ _ h1] at k1; cases k1; exact ⟨x, h1, k2⟩
 | .mp t ver _, _, _, h, k => by simp only [Rn] at *; obtain ⟨x, h1, _⟩ := h; obtain ⟨y, k1, k2⟩ := k; rw [e.t _ _ h1] at k1; cases k1; exact ⟨x, h1, k2⟩
 | .rp row off, _, _, h, k => by simp only [Rn] at *; obtain ⟨l, _, h1⟩ := h; obtain ⟨m, k1, k2⟩ := k; exact ⟨m, k1, RnL.back e row l m h1 k2⟩
 | .fn f cap, _, _, h, k => by simp only [Rn] at *; obtain ⟨l, _, h1⟩ := h; obtain ⟨m, k1, k2⟩ := k; exact ⟨m, k1, RnL.back e cap l m h1 k2⟩
 | .ifc t a, _, _, h, k => by simp only [Rn] at *; obtain ⟨l, _, h1⟩ := h; obtain ⟨m, k1, k2⟩ := k; exact ⟨m, k1, Rn.back e a l m h1 k2⟩
 | .bool _, _, _, _, k => by simp only [Rn] at *; exact k
 | .int _ _, _, _, _, k => by simp only [Rn] at *; exact k
 | .str _, _, _, _, k => by simp only [Rn] at *; exact k
 | .raw _, _, _, _, k => by simp only [Rn] at *; exact k
theorem RnL.back {s s' : Sg} (e : Sg.Le s s') : ∀ (az l0 l : List AV), RnL s az l0 → RnL s' az l → RnL s az l
 | [], _, _, _, k => by simp only [RnL] at *; exact k
 | a :: az, _, _, h, k => by simp only [RnL] at *; obtain ⟨v, vs, _, h1, h2⟩ := h; obtain ⟨u, us, k1, k2, k3⟩ := k; exact ⟨u, us, k1, Rn.back e a v u h1 k2, RnL.back e az vs us h2 k3⟩
theorem RnR.back {s s' : Sg} (e : Sg.Le s s') : ∀ (az l0 l : List (List AV)), RnR s az l0 → RnR s' az l → RnR s az l
 | [], _, _, _, k => by simp only [RnR] at *; exact k
 | a :: az, _, _, h, k => by simp only [RnR] at *; obtain ⟨v, vs, _, h1, h2⟩ := h; obtain ⟨u, us, k1, k2, k3⟩ := k; exact ⟨u, us, k1, RnL.back e a v u h1 k2, RnR.back e az vs us h2 k3⟩
end
theorem Sg.Le.take {s s' : Sg} (h : Sg.Le s s') : (⟨s'.b.take s.b.length, s'.t.take s.t.length⟩ : Sg) = s := by
 obtain ⟨b, t⟩ := s
 obtain ⟨b', t'⟩ := s'
 have key : ∀ (x y : List Nat), (∀ (i : Nat) (z : Nat), x[i]? = some z → y[i]? = some z) → y.take x.length = x := by
  intro x y hxy
  apply List.ext_getElem?
  intro i
  by_cases hi : i < x.length
  ·have := List.getElem?_eq_getElem hi
   rw [List.getElem?_take, if_pos hi, hxy _ _ this, this]
  ·rw [List.getElem?_take, if_neg hi, List.getElem?_eq_none (by omega)]
 simp only [key b b' h.b, key t t' h.t]
theorem HRc.back {s s' : Sg} {H0 H H' : AHeap} {c c' : CS} {b : Nat} {T : TypeId} {cs : List AV} (hr : HRc H0 s c H) (hr' : HRc H0 s' c' H') (e : Sg.Le s s') (hb : c'.H.blk b = some (T, cs)) (hbl : b < c.nb) (hcs : bdL c.nb c.nt cs = true)
  (hB : ∀ j, j < c.nb → j ≠ b → c'.H.blk j = c.H.blk j) (hT : ∀ t, t < c.nt → c'.H.tok t = c.H.tok t) : HRc H0 s (c.setB b T cs) H' where
 base := hr'.base
 blk := fun j T1 cs1 hj => by
  simp only [CS.setB, AHeap.setB] at hj
  by_cases ej : j = b
  ·subst ej
   rw [if_pos rfl] at hj
   cases hj
   obtain ⟨x, l, g1, g2, g3⟩ := hr'.blk j _ _ hb
   have hs : s.b[j]? = some s.b[j]! := by
    rw [hr.nb] at hbl
    simp [hbl]
   have e1 := e.b _ _ hs
   rw [g1] at e1
   cases e1
   have := RnL.cut (n := c.nb) (t := c.nt) cs l g3 hcs
   rw [hr.nb, hr.nt, e.take] at this
   exact ⟨_, l, hs, g2, this⟩
  ·rw [if_neg ej] at hj
   obtain ⟨x, l, g1, g2, g3⟩ := hr.blk j _ _ hj
   have hlt : j < c.nb := by rw [hr.nb]; exact (List.getElem?_eq_some_iff.1 g1).1
   obtain ⟨y, l', k1, k2, k3⟩ := hr'.blk j _ _ ((hB j hlt ej).trans hj)
   rw [e.b _ _ g1] at k1
   cases k1
   exact ⟨x, l', g1, k2, RnL.back e _ _ _ g3 k3⟩
 tok := fun j i hj => by
  obtain ⟨x, l, g1, g2, g3⟩ := hr.tok j _ hj
  have hlt : j < c.nt := by rw [hr.nt]; exact (List.getElem?_eq_some_iff.1 g1).1
  obtain ⟨y, l', k1, k2, k3⟩ := hr'.tok j _ ((hT j hlt).trans hj)
  rw [e.t _ _ g1] at k1
  cases k1
  refine ⟨x, l', g1, k2, ?_⟩
  obtain ⟨a1, a2, a3, a4, a5⟩ := g3
  obtain ⟨b1, b2, b3, b4, b5⟩ := k3
  refine ⟨b1, b2, b3, b4, ?_⟩
  cases hc : i.con with
  | none => rw [hc] at b5; exact b5
  | some rows =>
   rw [hc] at a5 b5
   obtain ⟨r0, _, a6⟩ := a5
   obtain ⟨r1, b6, b7⟩ := b5
   exact ⟨r1, b6, RnR.back e _ _ _ a6 b7⟩
 newb := fun j x hj => hr'.newb j x (e.b _ _ hj)
 newt := fun j x hj => hr'.newt j x (e.t _ _ hj)
 injb := hr.injb
 injt := hr.injt
 nb := hr.nb
 nt := hr.nt
section
variable {P : Program} {H0 : AHeap} {Rp : AV → AHeap → Prop}
theorem dcall_ok {cl : Cl} (hcl : CallOK P cl) {others : List Nat} {f : FuncId} {args : List EOpd} {env : Env} {c c1 : CS} {v : AV} (h : dcall cl others f args env c = some (v, c1)) :
  ∃ b T cs, FC P f (args.map (cev env)) c (Rt v (c.setB b T cs)) ∧ Nat.blt b c.nb = true ∧ bdL c.nb c.nt cs = true ∧ v.flat = true ∧ (∀ s ∈ others, ∃ b' T' cs', env.get s = .ptr b' 0 ∧ c.H.blk b' = some (T', cs') ∧ (b' == b) = false ∧ tfL cs' = true) ∧ c1 = c.setB b T cs := by
 unfold dcall at h
 split at h
 ·rename_i b o az ha
  split at h
  ·rename_i v0 c' hc
   split at h
   ·rename_i T cs hb
    cases hq : ((Nat.blt b c.nb && bdL c.nb c.nt cs) && v0.wk.flat) && ((others.all fun s => match env.get s with
     | .ptr b' 0 => match c.H.blk b' with
      | some (_, cs') => !(b' == b) && tfL cs'
      | none => false
     | _ => false) && sameBut c c' b) with
    | false => rw [hq] at h; cases h
    | true =>
     rw [hq, cond_true] at h
     simp only [Option.some.injEq, Prod.mk.injEq] at h
     obtain ⟨rfl, rfl⟩ := h
     simp only [Bool.and_eq_true, sameBut] at hq
     obtain ⟨⟨⟨q1, q2⟩, q3⟩, q4, q5, q6⟩ := hq
     have hlt : b < c.nb := blt_lt q1
     refine ⟨b, T, cs, ?_, q1, q2, q3, fun s hs => ?_, rfl⟩
     ·intro H0 s az' H h1 hr
      rw [ha] at h1
      refine (hcl f _ c v0 c' hc H0 s az' H h1 hr).mono fun o H' ⟨s', v', e1, e2, e3, e4⟩ => ?_
      subst e2
      refine ⟨.ret v0.wk, H', by exact fun m y hy => wk_le v0 v' e3 q3 y hy, HSub.refl _, s, .ret v0.wk, _, Sg.Le.refl s, ⟨rfl, rfl⟩, (AV.flat_rn _ q3 _).2 rfl, ?_⟩
      refine HRc.back hr e4 e1 hb hlt q2 (fun j hj hne => ?_) fun t ht => eqbT_ok _ _ (upTo_ok q6 t ht)
      have := upTo_ok q5 j hj
      simp only [Bool.or_eq_true, beq_iff_eq] at this
      rcases this with e | e
      ·exact absurd e hne
      ·exact eqbO_ok _ _ e
     ·have := List.all_eq_true.1 q4 s hs
      split at this
      ·rename_i b' hb'
       split at this
       ·rename_i T' cs' hc'
        simp only [Bool.and_eq_true, Bool.not_eq_true'] at this
        exact ⟨b', T', cs', hb', hc', this.1, this.2⟩
       ·cases this
      ·cases this
   ·cases h
  ·cases h
 ·cases h
theorem dmrE_ok {cvs : List FuncId} {cl : Cl} (hcl : CallOK P cl) (hcv : ∀ f ∈ cvs, callable P f = true) : ∀ (l : List EI) (env : Env) (c : CS) (anns : List AV) (env1 : Env) (c1 : CS), dmrE cvs cl l env c = some (anns, env1, c1) → ∀ (s : Sg) (env' : Env) (H : AHeap) (Kf : Env → AHeap → Prop), RnE s env env' → HRc H0 s c H → (∀ s' e' H', Sg.Le s s' → RnE s' env1 e' → HRc H0 s' c1 H' → Kf e' H') →
  DM P (annotate l anns) env' H Kf Rp
 | [], env, c, anns, env1, c1, h, s, env', H, Kf, he, hr, hK => by
  simp only [dmrE, Option.some.injEq, Prod.mk.injEq] at h
  obtain ⟨rfl, rfl, rfl⟩ := h
  exact hK s _ _ (Sg.Le.refl s) he hr
 | ⟨d, g, op⟩ :: l, env, c, anns, env1, c1, h, s, env', H, Kf, he, hr, hK => by
  have ih := dmrE_ok hcl hcv l
  have hu : Rn s AV.undef AV.undef := by simp only [Rn]
  unfold dmrE at h
  split at h
  ·cases h
  ·rename_i hw
   split at h
   ·rename_i an e c2 e1
    simp only [Option.some.injEq, Prod.mk.injEq] at h
    obtain ⟨rfl, rfl, rfl⟩ := h
    have k := ih _ _ _ _ _ e1 s _ H Kf (he.put hu d) hr hK
    have hw' := wanted_ok he hw
    cases op <;> simp only [isP, cond_true, cond_false, annotate] <;> exact DM.skip hw' k
   ·cases h
  ·rename_i hw
   have hw' := wanted_ok he hw
   split at h
   ·rename_i f args
    split at h
    ·rename_i r e1
     obtain ⟨p1, p2, p3⟩ := cpure_ok hcl e1
     split at h
     ·rename_i an e c2 e2
      simp only [Option.some.injEq, Prod.mk.injEq] at h
      obtain ⟨rfl, rfl, rfl⟩ := h
      have k := ih _ _ _ _ _ e2 s _ H Kf (he.put ((AV.flat_rn r p2 r).2 rfl) d) hr hK
      simp only [annotate]
      exact DM.step hw' (.sw (.det r) (.pcall' (wkL_les _ _ (cevs_rn he args) p1) p3) fun _ _ => k)
     ·cases h
    ·cases h
   ·rename_i x args
    split at h
    ·rename_i f cap e0
     cases hc : cvs.contains f with
     | false => rw [hc] at h; cases h
     | true =>
      rw [hc, cond_true] at h
      have hx := cev_eq he e0
      simp only [Rn] at hx
      obtain ⟨lc, g1, g2⟩ := hx
      split at h
      ·rename_i r e1
       obtain ⟨p1, p2, p3⟩ := cpure_ok hcl e1
       split at h
       ·rename_i an e c2 e2
        simp only [Option.some.injEq, Prod.mk.injEq] at h
        obtain ⟨rfl, rfl, rfl⟩ := h
        have k := ih _ _ _ _ _ e2 s _ H Kf (he.put ((AV.flat_rn r p2 r).2 rfl) d) hr hK
        simp only [annotate]
        exact DM.step hw' (.sw (.det r) (.pcallv' g1 (hcv f (by simpa using hc)) (wkL_les _ _ ((cevs_rn he args).append g2) p1) p3) fun _ _ => k)
       ·cases h
      ·cases h
    ·cases h
   ·cases h
   ·rename_i others f args
    split at h
    ·rename_i v c2 e1
     obtain ⟨b, T, cs, q1, q2, q3, q4, q5, rfl⟩ := dcall_ok hcl e1
     have k : DM P (⟨d, g, .callD others f args⟩ :: annotate l anns) env' H Kf Rp :=
      DM.step hw' (IJ.callD (Rp := fun _ _ => False) q1 q2 q3 q4 q5 H0 s env' H _ _ he hr (fun s1 v' v1' c1' H' p1 p2 p3 p4 => by obtain ⟨rfl, rfl⟩ := p2; exact ih _ _ _ _ _ h s1 _ H' Kf ((he.mono p1).put p3 d) p4 fun s' e' H'' r1 r2 r3 => hK s' e' H'' (p1.trans r1) r2 r3) (fun _ _ _ _ _ _ p _ _ => p.elim))
     cases anns <;> simpa only [annotate] using k
    ·cases h
   ·rename_i n1 n2 n3 n4
    split at h
    ·rename_i v c2 e1
     have k : DM P (⟨d, g, op⟩ :: annotate l anns) env' H Kf Rp :=
      DM.step hw' (cstp_ok hcl hcv he hr e1 fun s1 v' H' q1 q2 q3 => ih _ _ _ _ _ h s1 _ H' Kf ((he.mono q1).put q2 d) q3 fun s' e' H'' r1 r2 r3 => hK s' e' H'' (q1.trans r1) r2 r3)
     cases op
     case pcall f args => exact absurd rfl (n1 f args)
     case pcallv x args => exact absurd rfl (n2 x args)
     case pcallM a b f args => exact absurd rfl (n3 a b f args)
     all_goals (cases anns <;> simpa only [annotate] using k)
    ·cases h
end
section
variable {P : Program}
theorem clP_ok {lib : Lib} (hlib : LibOK P lib) : CallOK P (clP lib) := by
 intro f az c v c' h H0 s az' H ha hr
 unfold clP at h
 split at h
 ·rename_i r e
  cases hf : (flatL (wkL az) && r.flat) with
  | false => rw [hf] at h; cases h
  | true =>
   rw [hf] at h
   simp only [cond_true, Option.some.injEq, Prod.mk.injEq] at h
   obtain ⟨rfl, rfl⟩ := h
   simp only [Bool.and_eq_true] at hf
   have hp := hlib f _ _ e hf.1 H
   have hp' : ACalls P f az' H fun o H' => o = .ret r ∧ H' = H := fun m vs hH rh hv => hp m vs hH rh ((wkL_les _ _ ha hf.1).rvL hv)
   exact hp'.mono fun o H' ⟨e1, e2⟩ => ⟨o, H', by subst e1; exact AVLe.refl _, HSub.refl _, s, r, Sg.Le.refl s, e1, (AV.flat_rn r hf.2 r).2 rfl, by rw [e2]; exact hr⟩
 ·cases h
theorem clOr_ok {a b : Cl} (ha : CallOK P a) (hb : CallOK P b) : CallOK P (clOr a b) := by
 intro f az c v c' h
 unfold clOr at h
 split at h
 ·rename_i r e
  simp only [Option.some.injEq] at h
  subst h
  exact ha f az c v c' e
 ·exact hb f az c v c' h
end
section
variable {P : Program} {tab : Tab} {lib : Cl} {cvs : List FuncId} {idl : List (FuncId × Nat)} {rs : List ERes} {v : AV} {c1 : CS} {H0 : AHeap} {s0 : Sg}
theorem IRD.mono {n n' : Nat} (hn : n' ≤ n) : ∀ (k : List CI) (l : List Item), IRD tab lib cvs idl rs v c1 H0 s0 n k l → IRD tab lib cvs idl rs v c1 H0 s0 n' k l
 | [], [], _ => trivial
 | .c e :: k, .c e' :: k', h => ⟨h.1, IRD.mono hn k k' h.2⟩
 | .blk i :: k, .blk j :: k', h => ⟨h.1, IRD.mono hn k k' h.2⟩
 | .rnd b :: k, .round I m0 :: k', h => by
  obtain ⟨h1, ⟨B, h2, h3⟩, h4⟩ := h
  exact ⟨by omega, ⟨B, by omega, h3⟩, IRD.mono hn k k' h4⟩
 | [], _ :: _, h => by cases h
 | .c _ :: _, [], h => by cases h
 | .c _ :: _, .blk _ :: _, h => by cases h
 | .c _ :: _, .round _ _ :: _, h => by cases h
 | .blk _ :: _, [], h => by cases h
 | .blk _ :: _, .c _ :: _, h => by cases h
 | .blk _ :: _, .round _ _ :: _, h => by cases h
 | .rnd _ :: _, [], h => by cases h
 | .rnd _ :: _, .c _ :: _, h => by cases h
 | .rnd _ :: _, .blk _ :: _, h => by cases h
theorem noRnd_ok {n : Nat} : ∀ (k : List CI) (l : List Item), IRD tab lib cvs idl rs v c1 H0 s0 n k l → noRnd k = true → l.all (fun i => match i with | .round _ _ => false | _ => true) = true
 | [], [], _, _ => rfl
 | .c e :: k, .c e' :: k', h, hk => by
  simp only [noRnd, List.all_cons, Bool.true_and] at hk ⊢
  exact noRnd_ok k k' h.2 hk
 | .blk i :: k, .blk j :: k', h, hk => by
  simp only [noRnd, List.all_cons, Bool.true_and] at hk ⊢
  exact noRnd_ok k k' h.2 hk
 | .rnd b :: k, _ :: _, _, hk => by simp [noRnd] at hk
 | [], _ :: _, h, _ => by cases h
 | .c _ :: _, [], h, _ => by cases h
 | .c _ :: _, .blk _ :: _, h, _ => by cases h
 | .c _ :: _, .round _ _ :: _, h, _ => by cases h
 | .blk _ :: _, [], h, _ => by cases h
 | .blk _ :: _, .c _ :: _, h, _ => by cases h
 | .blk _ :: _, .round _ _ :: _, h, _ => by cases h
 | .rnd _ :: _, [], h, _ => by cases h
theorem cpopD_ok {n id : Nat} {k1 : List CI} : ∀ (k : List CI) (l : List Item), IRD tab lib cvs idl rs v c1 H0 s0 n k l → cpop id k = some k1 → ∃ l1, popTo id l = some l1 ∧ IRD tab lib cvs idl rs v c1 H0 s0 n k1 l1
 | [], _, _, h => by cases h
 | .c e :: k, .c e' :: k', h, hk => by
  simp only [cpop] at hk
  simp only [popTo]
  exact cpopD_ok k k' h.2 hk
 | .blk i :: k, .blk j :: k', h, hk => by
  obtain ⟨rfl, h2⟩ := h
  simp only [cpop] at hk
  simp only [popTo]
  cases hi : i == id with
  | true =>
   rw [hi] at hk
   simp only [cond_true, Option.some.injEq] at hk
   subst hk
   rw [if_pos (by simpa using hi)]
   exact ⟨_, rfl, h2⟩
  | false =>
   rw [hi] at hk
   rw [if_neg (by simpa using hi)]
   exact cpopD_ok k k' h2 hk
 | .rnd b :: k, .round I m0 :: k', h, hk => by
  simp only [cpop] at hk
  simp only [popTo]
  exact cpopD_ok k k' h.2.2 hk
 | .c _ :: _, [], h, _ => by cases h
 | .c _ :: _, .blk _ :: _, h, _ => by cases h
 | .c _ :: _, .round _ _ :: _, h, _ => by cases h
 | .blk _ :: _, [], h, _ => by cases h
 | .blk _ :: _, .c _ :: _, h, _ => by cases h
 | .blk _ :: _, .round _ _ :: _, h, _ => by cases h
 | .rnd _ :: _, [], h, _ => by cases h
 | .rnd _ :: _, .c _ :: _, h, _ => by cases h
 | .rnd _ :: _, .blk _ :: _, h, _ => by cases h
variable {s : Sg} {env env' : Env} {H : AHeap} {c : CS}
theorem runD_ok (hm : P.follows .mixedOrders = true) (htab : TabOK P tab) (hlib : CallOK P lib) (hcv : ∀ f ∈ cvs, callable P f = true) (hid : ∀ p ∈ idl, callable P p.1 = true ∧ ∀ caps : List AV, caps.length = p.2 → DIdle P p.1 caps) : ∀ (n : Nat) (rs : List ERes) (k : List CI) (env : Env) (c : CS) (v : AV) (c1 : CS), runD tab lib cvs idl n rs k env c = some (v, c1) →
  ∀ (H0 : AHeap) (s0 s : Sg) (env' : Env) (H : AHeap) (l : List Item) (R : Out → AHeap → Prop), Sg.Le s0 s → RnE s env env' → HRc H0 s c H → IRD tab lib cvs idl rs v c1 H0 s0 n k l → (∀ s' v' H', Sg.Le s0 s' → Rn s' v v' → HRc H0 s' c1 H' → R (.ret v') H') → AM P rs R l env' H := by
 intro n
 induction n using Nat.strongRecOn with
 | ind n ih =>
 intro rs k env c v c1 h H0 s0 s env' H l R hs he hr hi hR
 match n with
 | 0 => cases h
 | n + 1 =>
  have hcl : CallOK P (clD tab lib cvs idl n) := by
   intro f az c v c' h H0 s az' H ha hr
   unfold clD at h
   split at h
   ·rename_i r e
    simp only [Option.some.injEq] at h
    subst h
    exact hlib f az c v c' e H0 s az' H ha hr
   ·split at h
    ·rename_i e rs m e1
     cases hl : az.length == m with
     | false => rw [hl] at h; cases h
     | true =>
      rw [hl, cond_true] at h
      obtain ⟨fn, f1, f2⟩ := htab f e rs m e1
      have hl : az'.length = m := by rw [RnL.length ha]; simpa using hl
      subst hl
      exact acalls_of hm f1 f2 (ih n (Nat.lt_succ_self n) rs _ _ c v c' h H0 s s _ H _ _ (Sg.Le.refl s) (init_rn ha) hr ⟨rfl, trivial⟩ fun s' v' H' q1 q2 q3 => ⟨s', v', q1, rfl, q2, q3⟩)
    ·cases h
  have step : ∀ {k2 : List CI} {env2 : Env} {c2 : CS} {s2 : Sg} {env2' : Env} {H2 : AHeap} {l2 : List Item}, runD tab lib cvs idl n rs k2 env2 c2 = some (v, c1) → Sg.Le s0 s2 → RnE s2 env2 env2' → HRc H0 s2 c2 H2 → IRD tab lib cvs idl rs v c1 H0 s0 n k2 l2 → AM P rs R l2 env2' H2 :=
   fun h hs he hr hi => ih n (Nat.lt_succ_self n) rs _ _ _ v c1 h H0 s0 _ _ _ _ R hs he hr hi hR
  have down : ∀ {k2 l2}, IRD tab lib cvs idl rs v c1 H0 s0 (n + 1) k2 l2 → IRD tab lib cvs idl rs v c1 H0 s0 n k2 l2 := fun h => IRD.mono (Nat.le_succ n) _ _ h
  have fin : ∀ {x : AV}, cres rs env c.H = some x → x = v → c = c1 → ∃ x', results rs env' H = some x' ∧ R (.ret x') H := by
   intro x hx e1 e2
   subst e1 e2
   obtain ⟨x', g1, g2⟩ := cres_ok he hr hx
   exact ⟨x', g1, hR s x' H hs g2 hr⟩
  match k, l, hi, h with
  | [], [], _, h =>
   simp only [runD, Option.map_eq_some_iff, Prod.mk.injEq] at h
   obtain ⟨x, e1, e2, e3⟩ := h
   obtain ⟨x', g1, g2⟩ := fin e1 e2 e3
   exact .done g1 g2
  | .blk i :: k, .blk j :: l, hi, h => exact .blkEnd (step h hs he hr (down hi.2))
  | .rnd b :: k, .round I m0 :: l, hi, h =>
   obtain ⟨h1, ⟨B, h2, h3⟩, h4⟩ := hi
   subst h3
   exact .round n ⟨by omega, s, env, c, hs, h, he, hr⟩ (by omega)
  | .c e :: k, .c e' :: l, hi, h =>
   obtain ⟨rfl, hi⟩ := hi
   match e, h with
   | .ret, h =>
    simp only [runD, Option.map_eq_some_iff, Prod.mk.injEq] at h
    obtain ⟨x, e1, e2, e3⟩ := h
    obtain ⟨x', g1, g2⟩ := fin e1 e2 e3
    exact .ret g1 g2
   | .skip, h => exact .skip (step h hs he hr (down hi))
   | .seq a b, h => exact .seq (step h hs he hr ⟨rfl, rfl, down hi⟩)
   | .block id b, h => exact .block (step h hs he hr ⟨rfl, rfl, down hi⟩)
   | .exit id, h =>
    simp only [runD] at h
    split at h
    ·rename_i k' e
     obtain ⟨l1, g1, g2⟩ := cpopD_ok k l hi e
     exact .exit g1 (step h hs he hr (down g2))
    ·cases h
   | .cond x a b, h =>
    have hx := cev_rn he x
    simp only [runD] at h
    split at h
    ·rename_i e
     rw [e] at hx
     simp only [Rn] at hx
     exact .cond hx (fun _ => step h hs he hr ⟨rfl, down hi⟩) (fun hh => by cases hh)
    ·rename_i e
     rw [e] at hx
     simp only [Rn] at hx
     exact .cond hx (fun hh => by cases hh) (fun _ => step h hs he hr ⟨rfl, down hi⟩)
    ·cases h
   | .region ops draw, h =>
    have h' : (match dmrE cvs (clD tab lib cvs idl n) ops env c with
     | some (_, env', c') => runD tab lib cvs idl n rs k env' c'
     | none => none) = some (v, c1) := h
    split at h'
    ·rename_i anns env1 c2 e
     exact .reg anns (dmrE_ok hcl hcv ops env c anns env1 c2 e s env' H _ he hr fun s' e' H' q1 q2 q3 => step h' (hs.trans q1) q2 q3 (down hi))
    ·cases h'
   | .loop body, h =>
    refine .loop (InvD tab lib cvs idl rs v c1 H0 s0 body k n) n ⟨Nat.le_refl n, s, env, c, hs, h, he, hr⟩ fun m env2 H2 hI => ?_
    obtain ⟨hm', s2, env2c, c2, q1, q2, q3, q4⟩ := hI
    exact ih m (by omega) rs _ _ _ v c1 q2 H0 s0 s2 env2 H2 _ R q1 q3 q4 ⟨rfl, Nat.le_refl m, ⟨n, by omega, rfl⟩, IRD.mono (by omega) _ _ hi⟩ hR
   | .dfr d f cap, h =>
    simp only [runD] at h
    cases hq : (idl.contains (f, cap.length) && noRnd k) with
    | false => rw [hq] at h; cases h
    | true =>
     rw [hq, cond_true] at h
     simp only [Bool.and_eq_true] at hq
     obtain ⟨q1, q2⟩ := hid (f, cap.length) (by simpa using hq.1)
     have he2 : RnE s (env.put (some d) (.fn f (cap.map (cev env)))) (env'.put (some d) (.fn f (cap.map (EOpd.ev env')))) := he.put (by simp only [Rn]; exact ⟨_, rfl, cevs_rn he cap⟩) (some d)
     refine .dfr (fun o H' => match o with
      | .ret x => R (.ret x) H'
      | .pan _ => False) [] (fun j => AVLe.top _) (fun p hp => by cases hp) (fun p hp => by cases hp) (noRnd_ok k l hi hq.2) q1 (q2 _ (by simp)) (fun v H' h => h) (fun x H' h => h.elim) ?_
     exact ih n (Nat.lt_succ_self n) rs _ _ _ v c1 h H0 s0 s _ H l _ hs he2 hr (down hi) hR
  | [], _ :: _, hi, _ => cases hi
  | .c _ :: _, [], hi, _ => cases hi
  | .c _ :: _, .blk _ :: _, hi, _ => cases hi
  | .c _ :: _, .round _ _ :: _, hi, _ => cases hi
  | .blk _ :: _, [], hi, _ => cases hi
  | .blk _ :: _, .c _ :: _, hi, _ => cases hi
  | .blk _ :: _, .round _ _ :: _, hi, _ => cases hi
  | .rnd _ :: _, [], hi, _ => cases hi
  | .rnd _ :: _, .c _ :: _, hi, _ => cases hi
  | .rnd _ :: _, .blk _ :: _, hi, _ => cases hi
theorem pure_runD (hm : P.follows .mixedOrders = true) (htab : TabOK P tab) (hlib : CallOK P lib) (hcv : ∀ f ∈ cvs, callable P f = true) (hid : ∀ p ∈ idl, callable P p.1 = true ∧ ∀ caps : List AV, caps.length = p.2 → DIdle P p.1 caps) {f : FuncId} {fn : Func} {e : EC} {rs : List ERes} {az : List AV} {r : AV} {n : Nat} {x : AV × CS}
  (hf : P.funcs[f]? = some fn) (hc : chkF P fn az.length e rs = true) (ha : flatL az = true) (h : runD tab lib cvs idl n rs [.c e] (initEnv az) .new = some x) (hx : x.1.wk = r) (hr : r.flat = true) : Pure P f az r := by
 refine pure_intro hm hf hc fun H => ?_
 refine runD_ok hm htab hlib hcv hid n rs _ _ _ x.1 x.2 h H ⟨[], []⟩ ⟨[], []⟩ _ H _ _ (Sg.Le.refl _) (init_rn ((flatL_rn az ha _).2 rfl)) (HRc.start H) ⟨rfl, trivial⟩ fun s' v' H' _ h2 h3 => ?_
 subst hx
 exact ⟨v', rfl, fun m y hy => wk_le x.1 v' h2 hr y hy, h3.base⟩
end
end Go.Aw
namespace Go.Aw
open Go
set_option linter.unusedVariables false
set_option linter.unusedSimpArgs false
def gv (a : AV) (t : Bool) : Option Bool := match a with
  | .bool b => some (b == t)
  | .raw (.tuple ⟨[]⟩) => some false
  | _ => none
theorem gv_b {b t : Bool} : gv (.bool b) t = some (b == t) := rfl
theorem gv_u {t : Bool} : gv .undef t = some false := rfl
def gst (g : Option (Nat × Bool)) (env : Env) : Option Bool := match g with
  | none => some true
  | some (j, t) => gv (env.get j) t
def dst (i : EI) (env : Env) (c : CS) : Option (Env × CS) := match gst i.guard env with
  | some true => (ost i.op env c).map fun q => (env.put i.dst q.1, q.2)
  | some false => some (env.put i.dst .undef, c)
  | none => none
def jst (ex bl : Bool) : List JI → Env → Option (List JI)
  | .c e :: k, env => match e with
    | .skip => some k
    | .seq a b => some (.c a :: .c b :: k)
    | .block id b => match bl with
      | true => some (.c b :: .blk id :: k)
      | false => none
    | .exit id => match ex with
      | true => jpop id k
      | false => none
    | .cond x a b => match cev env x with
      | .bool true => some (.c a :: k)
      | .bool false => some (.c b :: k)
      | _ => none
    | _ => none
  | .blk _ :: k, _ => some k
  | _, _ => none
section
variable {P : Program} {rs : List ERes} {n0 t0 : Nat} {k k' : List JI} {Q : Out → CS → Prop} {env env' : Env} {c c' : CS} {anns : List AV} {l : List EI} {i : EI} {K : Env → CS → Prop} {Rp : AV → CS → Prop}
theorem DJ.s (hp : isP i.op = false) (h : dst i env c = some (env', c')) (hk : DJ P anns l env' c' K Rp) : DJ P anns (i :: l) env c K Rp := by
  obtain ⟨d, g, op⟩ := i
  have hw : ∀ b, gst g env = some b → wanted ⟨d, g, op⟩ env = some b := by
    intro b hb
    cases g with
    | none => exact hb
    | some p => exact hb
  unfold dst at h
  simp only at h hp
  split at h
  · rename_i e
    simp only [Option.map_eq_some_iff, Prod.mk.injEq] at h
    obtain ⟨⟨v, c1⟩, h1, h2, h3⟩ := h
    subst h2 h3
    exact DJ.o (hw _ e) hp h1 hk
  · rename_i e
    simp only [Option.some.injEq, Prod.mk.injEq] at h
    obtain ⟨h2, h3⟩ := h
    subst h2 h3
    exact DJ.sk (hw _ e) hp hk
  · cases h
theorem DJ.gw {d : Option Nat} {j : Nat} {t : Bool} {op : EOp} (h : gv (env.get j) t = some true) (hk : DJ P anns (⟨d, none, op⟩ :: l) env c K Rp) : DJ P anns (⟨d, some (j, t), op⟩ :: l) env c K Rp := by
  unfold gv at h
  split at h
  · rename_i b e
    simp only [Option.some.injEq, beq_iff_eq] at h
    exact DJ.gd e h hk
  · cases h
  · cases h
theorem DJ.gz {d : Option Nat} {j : Nat} {t : Bool} {op : EOp} (hp : isP op = true) (h : gv (env.get j) t = some false) (hk : DJ P anns l (env.put d .undef) c K Rp) : DJ P (.undef :: anns) (⟨d, some (j, t), op⟩ :: l) env c K Rp := DJ.skP h hp hk
theorem J.s (ex bl : Bool) (h : jst ex bl k env = some k') (hk : J P rs n0 t0 k' Q env c) : J P rs n0 t0 k Q env c := by
  unfold jst at h
  split at h
  · split at h
    · cases h; exact .skip hk
    · cases h; exact .seq hk
    · cases bl with
      | true => cases h; exact .block hk
      | false => cases h
    · cases ex with
      | true => exact .exit h hk
      | false => cases h
    · split at h
      · rename_i e; cases h; exact .cT e hk
      · rename_i e; cases h; exact .cF e hk
      · cases h
    · cases h
  · cases h; exact .blkEnd hk
  · cases h
theorem DJ.fr {f : FuncId} {args : List EOpd} {d : Option Nat} (p : Sg) {as0 : List AV} {bl0 bl1 : BL} {tl0 tl1 : TL} {n t : Nat} {v : AV} (h : FC P f as0 (CS.of n t bl0 tl0) (Ro v bl1 tl1)) (hc : (p.b.length == n && (p.t.length == t && (nodupB p.b && (nodupB p.t && (p.b.all (fun x => Nat.blt x c.nb) && (p.t.all (fun x => Nat.blt x c.nt) && (bdL n t as0 && (bdB n t bl0 && (bdT n t tl0 && (bdB n t bl1 && (bdT n t tl1 && v.bd n t))))))))))) = true) (hB : hasP c.H.blk p bl0) (hT : hasPT c.H.tok p tl0) (ha : args.map (cev env) = renL p as0) (hk : DJ P anns l (env.put d (v.ren p)) (c.upd p bl1 tl1) K Rp) : DJ P anns (⟨d, none, .call f args⟩ :: l) env c K Rp := by
  simp only [Bool.and_eq_true, beq_iff_eq] at hc
  obtain ⟨c1, c2, c3, c4, c5, c6, c7, c8, c9, c10, c11, c12⟩ := hc
  exact DJ.cr rfl (FC.fr p h c1 c2 (by rw [c3, c4, c5, c6]; rfl) hB hT (by rw [c7, c8, c9]; rfl) (by rw [c10, c11, c12]; rfl) rfl) ha hk
end
end Go.Aw
namespace Go.Aw
open Go
set_option linter.unusedVariables false
set_option linter.unusedSimpArgs false
section
variable {Pr : Program} {rs : List ERes} {n0 t0 : Nat} {k k' : List JI} {Q : Out → CS → Prop} {env env' : Env} {c c' : CS} {anns : List AV} {l : List EI} {K : Env → CS → Prop} {Rp : AV → CS → Prop} {d : Option Nat} {g : Option (Nat × Bool)} {op : EOp} {j : Nat} {t b : Bool} {v v' : AV} {x i : EOpd} {ik : IntKind} {z : Int} {size p e : Nat} {f : FuncId} {args : List EOpd}
theorem D.S (hk : DJ Pr anns l env' c' K Rp) (hp : isP op = false := by rfl) (h : dst ⟨d, g, op⟩ env c = some (env', c') := by simp (disch := omega) only [go_sem, simprocAttr] <;> with_reducible rfl) : DJ Pr anns (⟨d, g, op⟩ :: l) env c K Rp := DJ.s hp h hk
theorem D.JJ (ex bl : Bool) (hk : J Pr rs n0 t0 k' Q env c) (h : jst ex bl k env = some k' := by simp (disch := omega) only [go_sem, simprocAttr] <;> with_reducible rfl) : J Pr rs n0 t0 k Q env c := J.s ex bl h hk
theorem D.W (hk : DJ Pr anns (⟨d, none, op⟩ :: l) env c K Rp) (h : gv (env.get j) t = some true := by simp (disch := omega) only [go_sem, simprocAttr] <;> with_reducible rfl) : DJ Pr anns (⟨d, some (j, t), op⟩ :: l) env c K Rp := DJ.gw h hk
theorem D.Z (hk : DJ Pr anns l (env.put d .undef) c K Rp) (hp : isP op = true := by rfl) (h : gv (env.get j) t = some false := by simp (disch := omega) only [go_sem, simprocAttr] <;> with_reducible rfl) : DJ Pr (.undef :: anns) (⟨d, some (j, t), op⟩ :: l) env c K Rp := DJ.gz hp h hk
theorem D.G (h1 : b = true → DJ Pr anns (⟨d, some (j, t), op⟩ :: l) ((j, .bool true) :: env) c K Rp) (h2 : b = false → DJ Pr anns (⟨d, some (j, t), op⟩ :: l) ((j, .bool false) :: env) c K Rp) (h : env.get j = .bool b := by simp (disch := omega) only [go_sem, simprocAttr] <;> with_reducible rfl) : DJ Pr anns (⟨d, some (j, t), op⟩ :: l) env c K Rp := DJ.gs h h1 h2
theorem D.C {a a' : EC} (h1 : b = true → J Pr rs n0 t0 (.c a :: k) Q env c) (h2 : b = false → J Pr rs n0 t0 (.c a' :: k) Q env c) (h : cev env x = .bool b := by simp (disch := omega) only [go_sem, simprocAttr] <;> with_reducible rfl) : J Pr rs n0 t0 (.c (.cond x a a') :: k) Q env c := J.cond h h1 h2
theorem D.R (hq : Q (.ret v) c) (h : cres rs env c.H = some v := by simp (disch := omega) only [go_sem, simprocAttr] <;> with_reducible rfl) : J Pr rs n0 t0 (.c .ret :: k) Q env c := J.ret h hq
theorem D.E (hq : Q (.ret v) c) (h : cres rs env c.H = some v := by simp (disch := omega) only [go_sem, simprocAttr] <;> with_reducible rfl) : J Pr rs n0 t0 [] Q env c := J.done h hq
theorem D.X {α : Type} {f : α → List AV} {w : α} {m : List α} {d : Nat} (hr : m[p]? = some w) (hk : DJ Pr anns l ((d, .rp (f w) 0) :: env) c K Rp) (hx : cev env x = .vs size (m.map f) := by simp (disch := omega) only [go_sem, simprocAttr] <;> with_reducible rfl) (hi : cev env i = .int ik z := by simp (disch := omega) only [go_sem, simprocAttr] <;> with_reducible rfl) (e : z = p := by omega) : DJ Pr anns (⟨some d, none, .iaddr size x i⟩ :: l) env c K Rp := DJ.ixm hx hi hr e hk
theorem D.XO {α : Type} {f : α → List AV} {w : α} {m : List α} {d q : Nat} (hr : m[p]? = some w) (hk : DJ Pr anns l ((d, .rp (f w) 0) :: env) c K Rp) (hx : cev env x = .own q size (m.map f) := by simp (disch := omega) only [go_sem, simprocAttr] <;> with_reducible rfl) (hi : cev env i = .int ik z := by simp (disch := omega) only [go_sem, simprocAttr] <;> with_reducible rfl) (e : z = p := by omega) : DJ Pr anns (⟨some d, none, .iaddr size x i⟩ :: l) env c K Rp := DJ.ixom hx hi hr e hk
theorem D.XS {u : UInt8} {d : Nat} {a : List UInt8} (hr : a[p]? = some u) (hk : DJ Pr anns l ((d, .int .u8 u.toNat) :: env) c K Rp) (hx : cev env x = .str a := by simp (disch := omega) only [go_sem, simprocAttr] <;> with_reducible rfl) (hi : cev env i = .int ik z := by simp (disch := omega) only [go_sem, simprocAttr] <;> with_reducible rfl) (e : z = p := by omega) : DJ Pr anns (⟨some d, none, .idxS x i⟩ :: l) env c K Rp := DJ.ixsm hx hi hr e hk
theorem D.P {d : Nat} {az as0 : List AV} {r : AV} (h : Pure Pr f az r) (hk : DJ Pr anns l ((d, r) :: env) c K Rp) (ha : args.map (cev env) = as0 := by simp (disch := omega) only [go_sem, simprocAttr] <;> with_reducible rfl) (hw : wkL as0 = az := by rfl) (hf : flatL az = true := by simp (disch := omega) only [go_sem, simprocAttr] <;> rfl) (hr : r.flat = true := by simp (disch := omega) only [go_sem, simprocAttr] <;> rfl) : DJ Pr anns (⟨some d, none, .call f args⟩ :: l) env c K Rp := DJ.pu h ha hw hf hr hk
theorem D.PC {az as0 : List AV} {r : AV} (h : Pure Pr f az r) (hk : DJ Pr anns l (env.put d r) c K Rp) (ha : args.map (cev env) = as0 := by simp (disch := omega) only [go_sem, simprocAttr] <;> with_reducible rfl) (hw : wkL as0 = az := by rfl) (hf : flatL az = true := by simp (disch := omega) only [go_sem, simprocAttr] <;> rfl) (hr : r.flat = true := by simp (disch := omega) only [go_sem, simprocAttr] <;> rfl) : DJ Pr (r :: anns) (⟨d, none, .pcall f args⟩ :: l) env c K Rp := DJ.pc rfl h (by rw [ha, hw]) hf hr hk
theorem D.V {d : Nat} {az as0 cap : List AV} {r : AV} (hf : callable Pr f = true) (h : Pure Pr f az r) (hk : DJ Pr anns l ((d, r) :: env) c K Rp) (hx : cev env x = .fn f cap := by simp (disch := omega) only [go_sem, simprocAttr] <;> with_reducible rfl) (ha : args.map (cev env) ++ cap = as0 := by simp (disch := omega) only [go_sem, simprocAttr] <;> with_reducible rfl) (hw : wkL as0 = az := by rfl) (hl : flatL az = true := by simp (disch := omega) only [go_sem, simprocAttr] <;> rfl) (hr : r.flat = true := by simp (disch := omega) only [go_sem, simprocAttr] <;> rfl) : DJ Pr anns (⟨some d, none, .callv x args⟩ :: l) env c K Rp := DJ.vr rfl hx hf (FC.ofPure h hl hr hw) ha hk
end
end Go.Aw
namespace Go.Aw
open Go
set_option linter.unusedVariables false
set_option linter.unusedSimpArgs false
section
variable {P : Program} {rs : List ERes} {n0 t0 : Nat} {k : List JI} {Q : Out → CS → Prop} {env : Env} {c c1 : CS} {v : AV}
theorem Rn.top (s : Sg) (x : AV) : Rn s .top x := by simp only [Rn]
theorem DCalls.mono {f : FuncId} {caps : List AV} {x : AV} {H : AHeap} {Q1 Q2 : AHeap → Prop} (h : DCalls P f caps x H Q1) (hq : ∀ H', Q1 H' → Q2 H') : DCalls P f caps x H Q2 := fun m vs cv h1 h2 h3 h4 =>
  (h m vs cv h1 h2 h3 h4).mono fun e u' w' ⟨g1, g2, H', L', T', g3, g4, g5⟩ => ⟨g1, g2, H', L', T', g3, g4, hq H' g5⟩
end
end Go.Aw
namespace Go.Aw.T.N
open Go Go.Aw Go.Proofs
set_option maxRecDepth 1000000
def e11 : EC :=
  (.seq
   (.region [
     ⟨(some 0), none, .mv (.c (.bool false))⟩] false)
   (.seq
    (.region [
      ⟨(some 7), none, .call 12 [(.c (.str [115, 101, 114, 118, 105, 99, 101, 32, 83, 32, 112, 108, 97, 121, 115, 32, 97, 32, 111, 102, 32, 80, 123, 118, 97, 114, 32, 110, 58, 105, 110, 116, 32, 48, 46, 46, 57, 61, 49, 59, 111, 110, 32, 109, 40, 120, 41, 102, 114, 111, 109, 32, 98, 123, 110, 61, 120, 59, 125, 111, 102, 102, 101, 114, 32, 107, 40, 110, 43, 49, 41, 116, 111, 32, 98, 32, 119, 104, 101, 114, 101, 32, 110, 60, 53, 59, 125]))]⟩,
      ⟨(some 6), none, .mv (.t 7)⟩,
      ⟨(some 8), none, .extract 0 (.t 6)⟩,
      ⟨(some 9), none, .extract 1 (.t 6)⟩,
      ⟨(some 10), none, .extract 2 (.t 6)⟩,
      ⟨(some 1), none, .alloc 27 [.str [], .str [], .str [], .nilS, .nilS, .nilS]⟩,
      ⟨none, none, .store 6 (.t 1) (.t 8)⟩,
      ⟨(some 2), none, .mv (.t 9)⟩,
      ⟨(some 3), none, .mv (.t 10)⟩] false)
    (.seq
     (.region [
       ⟨(some 12), none, .load true 6 (.t 1)⟩,
       ⟨(some 13), none, .call 18 [(.t 12)]⟩,
       ⟨(some 11), none, .mv (.t 13)⟩,
       ⟨(some 14), none, .extract 0 (.t 11)⟩,
       ⟨(some 15), none, .extract 1 (.t 11)⟩,
       ⟨(some 4), none, .mv (.t 14)⟩,
       ⟨(some 5), none, .mv (.t 15)⟩] false)
     (.seq
      (.region [
        ⟨(some 16), none, .mv (.t 3)⟩,
        ⟨(some 17), none, .bin .eql (.t 16) (.c (.int .i64 0))⟩,
        ⟨(some 18), none, .mv (.t 17)⟩,
        ⟨(some 19), (some (18, true)), .mv (.t 5)⟩,
        ⟨(some 20), (some (18, true)), .bin .eql (.t 19) (.c (.int .i64 0))⟩,
        ⟨(some 21), none, .pick (.t 18) (.t 20) (.c (.bool false))⟩,
        ⟨(some 22), none, .mv (.t 21)⟩,
        ⟨(some 23), (some (22, true)), .faddr 3 (.t 1)⟩,
        ⟨(some 24), (some (22, true)), .load false 1 (.t 23)⟩,
        ⟨(some 25), (some (22, true)), .len (.t 24)⟩,
        ⟨(some 26), (some (22, true)), .bin .eql (.t 25) (.c (.int .i64 1))⟩,
        ⟨(some 27), none, .pick (.t 22) (.t 26) (.c (.bool false))⟩,
        ⟨(some 28), none, .mv (.t 27)⟩,
        ⟨(some 29), (some (28, true)), .faddr 4 (.t 1)⟩,
        ⟨(some 30), (some (28, true)), .load false 1 (.t 29)⟩,
        ⟨(some 31), (some (28, true)), .len (.t 30)⟩,
        ⟨(some 32), (some (28, true)), .bin .eql (.t 31) (.c (.int .i64 1))⟩,
        ⟨(some 33), none, .pick (.t 28) (.t 32) (.c (.bool false))⟩,
        ⟨(some 34), none, .mv (.t 33)⟩,
        ⟨(some 35), (some (34, true)), .faddr 5 (.t 1)⟩,
        ⟨(some 36), (some (34, true)), .load false 1 (.t 35)⟩,
        ⟨(some 37), (some (34, true)), .len (.t 36)⟩,
        ⟨(some 38), (some (34, true)), .bin .eql (.t 37) (.c (.int .i64 1))⟩,
        ⟨(some 39), none, .pick (.t 34) (.t 38) (.c (.bool false))⟩,
        ⟨(some 40), none, .mv (.t 39)⟩,
        ⟨(some 41), (some (40, true)), .faddr 5 (.t 1)⟩,
        ⟨(some 42), (some (40, true)), .load false 1 (.t 41)⟩,
        ⟨(some 43), (some (40, true)), .iaddr 4 (.t 42) (.c (.int .i64 0))⟩,
        ⟨(some 44), (some (40, true)), .faddr 3 (.t 43)⟩,
        ⟨(some 45), (some (40, true)), .load false 1 (.t 44)⟩,
        ⟨(some 46), (some (40, true)), .len (.t 45)⟩,
        ⟨(some 47), (some (40, true)), .bin .eql (.t 46) (.c (.int .i64 1))⟩,
        ⟨(some 48), none, .pick (.t 40) (.t 47) (.c (.bool false))⟩,
        ⟨(some 49), none, .mv (.t 48)⟩,
        ⟨(some 50), (some (49, true)), .load true 6 (.t 1)⟩,
        ⟨(some 51), (some (49, true)), .call 16 [(.t 50)]⟩,
        ⟨(some 52), none, .pick (.t 49) (.t 51) (.c (.bool false))⟩,
        ⟨(some 53), none, .mv (.t 52)⟩,
        ⟨(some 54), (some (53, true)), .load true 6 (.t 1)⟩,
        ⟨(some 55), (some (53, true)), .load true 6 (.t 1)⟩,
        ⟨(some 56), (some (53, true)), .call 22 [(.t 54), (.t 55)]⟩,
        ⟨(some 57), none, .pick (.t 53) (.t 56) (.c (.bool false))⟩,
        ⟨(some 58), none, .mv (.t 57)⟩,
        ⟨(some 59), (some (58, true)), .mv (.t 4)⟩,
        ⟨(some 60), (some (58, true)), .bin .eql (.t 59) (.c (.str [115, 101, 114, 118, 105, 99, 101, 32, 83, 32, 112, 108, 97, 121, 115, 32, 97, 32, 111, 102, 32, 80, 32, 123, 10, 9, 118, 97, 114, 32, 110, 58, 32, 105, 110, 116, 32, 48, 32, 46, 46, 32, 57, 32, 61, 32, 49, 59, 10, 9, 111, 110, 32, 109, 40, 120, 41, 32, 102, 114, 111, 109, 32, 98, 32, 123, 10, 9, 9, 110, 32, 61, 32, 120, 59, 10, 9, 125, 10, 9, 111, 102, 102, 101, 114, 32, 107, 40, 110, 32, 43, 32, 49, 41, 32, 116, 111, 32, 98, 32, 119, 104, 101, 114, 101, 32, 110, 32, 60, 32, 53, 59, 10, 125, 10]))⟩,
        ⟨(some 61), none, .pick (.t 58) (.t 60) (.c (.bool false))⟩,
        ⟨(some 0), none, .mv (.t 61)⟩] false)
      .ret))))
def r11 : List ERes := [.t 0]
theorem c11 : chkF Tryz.prog Tryz.f11 0 e11 r11 = true := by kernel_rfl
def e12 : EC :=
  (.seq
   (.region [
     ⟨(some 2), none, .alloc 27 [.str [], .str [], .str [], .nilS, .nilS, .nilS]⟩,
     ⟨(some 3), none, .alloc 3 [.int .i64 0]⟩,
     ⟨(some 4), none, .alloc 28 [.int .i64 0]⟩] false)
   (.seq
    (.region [
      ⟨(some 8), none, .mv (.t 0)⟩,
      ⟨(some 9), none, .call 30 [(.t 8)]⟩,
      ⟨(some 7), none, .mv (.t 9)⟩,
      ⟨(some 10), none, .extract 0 (.t 7)⟩,
      ⟨(some 11), none, .extract 1 (.t 7)⟩,
      ⟨(some 12), none, .extract 2 (.t 7)⟩,
      ⟨(some 5), none, .mv (.t 10)⟩,
      ⟨none, none, .storeD 3 [2, 4] 1 (.t 3) (.t 11)⟩,
      ⟨none, none, .storeD 4 [2, 3] 1 (.t 4) (.t 12)⟩] false)
    (.seq
     (.seq
      (.region [
        ⟨(some 13), none, .loadD 4 false 1 (.t 4)⟩,
        ⟨(some 14), none, .bin .neq (.t 13) (.c (.int .i64 0))⟩] false)
      (.cond (.t 14)
       (.seq
        (.region [
          ⟨(some 15), none, .build [.str [], .str [], .str [], .nilS, .nilS, .nilS] []⟩,
          ⟨(some 16), none, .loadD 3 false 1 (.t 3)⟩,
          ⟨(some 17), none, .loadD 4 false 1 (.t 4)⟩,
          ⟨none, none, .storeD 2 [3, 4] 6 (.t 2) (.t 15)⟩,
          ⟨none, none, .storeD 3 [2, 4] 1 (.t 3) (.t 16)⟩,
          ⟨none, none, .storeD 4 [2, 3] 1 (.t 4) (.t 17)⟩] true)
        .ret)
       .skip))
     (.seq
      (.dfr 18 31 [(.t 2), (.t 3), (.t 4)])
      (.seq
       (.region [
         ⟨(some 19), none, .mv (.t 5)⟩,
         ⟨(some 20), none, .mv (.t 0)⟩,
         ⟨(some 21), none, .lenS (.t 20)⟩,
         ⟨(some 22), none, .build [.nilS, .int .i64 0] [(0, 1, (.t 19)), (1, 1, (.t 21))]⟩,
         ⟨(some 23), none, .box 83 (.t 22)⟩,
         ⟨(some 6), none, .mv (.t 23)⟩] false)
       (.seq
        (.region [
          ⟨(some 24), none, .mv (.t 6)⟩,
          ⟨(some 25), none, .call 32 [(.t 24)]⟩,
          ⟨none, none, .storeD 2 [3, 4] 6 (.t 2) (.t 25)⟩] false)
        (.seq
         (.seq
          (.region [
            ⟨(some 26), none, .load true 6 (.t 2)⟩,
            ⟨(some 27), none, .call 16 [(.t 26)]⟩,
            ⟨(some 28), none, .not (.t 27)⟩] false)
          (.cond (.t 28)
           (.seq
            (.region [
              ⟨(some 29), none, .build [.str [], .str [], .str [], .nilS, .nilS, .nilS] []⟩,
              ⟨none, none, .storeD 2 [3, 4] 6 (.t 2) (.t 29)⟩,
              ⟨none, none, .storeD 3 [2, 4] 1 (.t 3) (.c (.int .i64 0))⟩,
              ⟨none, none, .storeD 4 [2, 3] 1 (.t 4) (.c (.int .i64 6))⟩] false)
            .ret)
           .skip))
         (.seq
          (.region [
            ⟨(some 30), none, .load true 6 (.t 2)⟩,
            ⟨none, none, .storeD 2 [3, 4] 6 (.t 2) (.t 30)⟩,
            ⟨none, none, .storeD 3 [2, 4] 1 (.t 3) (.c (.int .i64 0))⟩,
            ⟨none, none, .storeD 4 [2, 3] 1 (.t 4) (.c (.int .i64 0))⟩] false)
          .ret))))))))
def r12 : List ERes := [.cell true 6 2, .cell false 1 3, .cell false 1 4]
theorem c12 : chkF Tryz.prog Tryz.f12 1 e12 r12 = true := by kernel_rfl
def e16 : EC :=
  (.seq
   (.region [
     ⟨(some 1), none, .box 27 (.t 0)⟩,
     ⟨(some 2), none, .mv (.c (.bool false))⟩] false)
   (.seq
    (.seq
     (.region [
       ⟨(some 3), none, .faddr 0 (.t 1)⟩,
       ⟨(some 4), none, .load false 1 (.t 3)⟩,
       ⟨(some 5), none, .call 45 [(.t 4)]⟩,
       ⟨(some 6), none, .not (.t 5)⟩,
       ⟨(some 7), none, .mv (.t 6)⟩,
       ⟨(some 8), (some (7, false)), .faddr 1 (.t 1)⟩,
       ⟨(some 9), (some (7, false)), .load false 1 (.t 8)⟩,
       ⟨(some 10), (some (7, false)), .call 45 [(.t 9)]⟩,
       ⟨(some 11), (some (7, false)), .not (.t 10)⟩,
       ⟨(some 12), none, .pick (.t 7) (.c (.bool true)) (.t 11)⟩,
       ⟨(some 13), none, .mv (.t 12)⟩,
       ⟨(some 14), (some (13, false)), .faddr 2 (.t 1)⟩,
       ⟨(some 15), (some (13, false)), .load false 1 (.t 14)⟩,
       ⟨(some 16), (some (13, false)), .call 45 [(.t 15)]⟩,
       ⟨(some 17), (some (13, false)), .not (.t 16)⟩,
       ⟨(some 18), none, .pick (.t 13) (.c (.bool true)) (.t 17)⟩,
       ⟨(some 19), none, .mv (.t 18)⟩,
       ⟨(some 20), (some (19, false)), .faddr 3 (.t 1)⟩,
       ⟨(some 21), (some (19, false)), .load false 1 (.t 20)⟩,
       ⟨(some 22), (some (19, false)), .len (.t 21)⟩,
       ⟨(some 23), (some (19, false)), .bin .gtr (.t 22) (.c (.int .i64 12))⟩,
       ⟨(some 24), none, .pick (.t 19) (.c (.bool true)) (.t 23)⟩,
       ⟨(some 25), none, .mv (.t 24)⟩,
       ⟨(some 26), (some (25, false)), .faddr 4 (.t 1)⟩,
       ⟨(some 27), (some (25, false)), .load false 1 (.t 26)⟩,
       ⟨(some 28), (some (25, false)), .len (.t 27)⟩,
       ⟨(some 29), (some (25, false)), .bin .gtr (.t 28) (.c (.int .i64 40))⟩,
       ⟨(some 30), none, .pick (.t 25) (.c (.bool true)) (.t 29)⟩,
       ⟨(some 31), none, .mv (.t 30)⟩,
       ⟨(some 32), (some (31, false)), .faddr 5 (.t 1)⟩,
       ⟨(some 33), (some (31, false)), .load false 1 (.t 32)⟩,
       ⟨(some 34), (some (31, false)), .len (.t 33)⟩,
       ⟨(some 35), (some (31, false)), .bin .gtr (.t 34) (.c (.int .i64 40))⟩,
       ⟨(some 36), none, .pick (.t 31) (.c (.bool true)) (.t 35)⟩] false)
     (.cond (.t 36)
      (.seq
       (.region [
         ⟨(some 2), none, .mv (.c (.bool false))⟩] false)
       .ret)
      .skip))
    (.seq
     (.region [
       ⟨(some 37), none, .faddr 3 (.t 1)⟩,
       ⟨(some 38), none, .load false 1 (.t 37)⟩,
       ⟨(some 39), none, .call 46 [(.t 38), (.c (.fn 47 []))]⟩,
       ⟨(some 40), none, .mv (.t 39)⟩,
       ⟨(some 41), (some (40, true)), .faddr 4 (.t 1)⟩,
       ⟨(some 42), (some (40, true)), .load false 1 (.t 41)⟩,
       ⟨(some 43), (some (40, true)), .call 48 [(.t 42), (.c (.fn 49 []))]⟩,
       ⟨(some 44), none, .pick (.t 40) (.t 43) (.c (.bool false))⟩,
       ⟨(some 45), none, .mv (.t 44)⟩,
       ⟨(some 46), (some (45, true)), .faddr 5 (.t 1)⟩,
       ⟨(some 47), (some (45, true)), .load false 1 (.t 46)⟩,
       ⟨(some 48), (some (45, true)), .call 50 [(.t 47), (.c (.fn 51 []))]⟩,
       ⟨(some 49), none, .pick (.t 45) (.t 48) (.c (.bool false))⟩,
       ⟨(some 50), none, .mv (.t 49)⟩,
       ⟨(some 51), (some (50, true)), .load true 6 (.t 1)⟩,
       ⟨(some 52), (some (50, true)), .call 52 [(.t 51)]⟩,
       ⟨(some 53), (some (50, true)), .lenS (.t 52)⟩,
       ⟨(some 54), (some (50, true)), .bin .leq (.t 53) (.c (.int .i64 8000))⟩,
       ⟨(some 55), none, .pick (.t 50) (.t 54) (.c (.bool false))⟩,
       ⟨(some 2), none, .mv (.t 55)⟩] false)
     .ret)))
def r16 : List ERes := [.t 2]
theorem c16 : chkF Tryz.prog Tryz.f16 1 e16 r16 = true := by kernel_rfl
def e18 : EC :=
  (.seq
   (.region [
     ⟨(some 1), none, .box 27 (.t 0)⟩,
     ⟨(some 2), none, .mv (.c (.str []))⟩,
     ⟨(some 3), none, .mv (.c (.int .i64 0))⟩] false)
   (.seq
    (.seq
     (.region [
       ⟨(some 4), none, .load true 6 (.t 1)⟩,
       ⟨(some 5), none, .call 16 [(.t 4)]⟩,
       ⟨(some 6), none, .not (.t 5)⟩] false)
     (.cond (.t 6)
      (.seq
       (.region [
         ⟨(some 2), none, .mv (.c (.str []))⟩,
         ⟨(some 3), none, .mv (.c (.int .i64 1))⟩] false)
       .ret)
      .skip))
    (.seq
     (.region [
       ⟨(some 7), none, .load true 6 (.t 1)⟩,
       ⟨(some 8), none, .call 52 [(.t 7)]⟩,
       ⟨(some 2), none, .mv (.t 8)⟩,
       ⟨(some 3), none, .mv (.c (.int .i64 0))⟩] false)
     .ret)))
def r18 : List ERes := [.t 2, .t 3]
theorem c18 : chkF Tryz.prog Tryz.f18 1 e18 r18 = true := by kernel_rfl
def e22 : EC :=
  (.seq
   (.region [
     ⟨(some 2), none, .box 27 (.t 0)⟩,
     ⟨(some 3), none, .box 27 (.t 1)⟩,
     ⟨(some 4), none, .mv (.c (.bool false))⟩] false)
   (.seq
    (.region [
      ⟨(some 5), none, .faddr 0 (.t 2)⟩,
      ⟨(some 6), none, .load false 1 (.t 5)⟩,
      ⟨(some 7), none, .faddr 0 (.t 3)⟩,
      ⟨(some 8), none, .load false 1 (.t 7)⟩,
      ⟨(some 9), none, .bin .eql (.t 6) (.t 8)⟩,
      ⟨(some 10), none, .mv (.t 9)⟩,
      ⟨(some 11), (some (10, true)), .faddr 1 (.t 2)⟩,
      ⟨(some 12), (some (10, true)), .load false 1 (.t 11)⟩,
      ⟨(some 13), (some (10, true)), .faddr 1 (.t 3)⟩,
      ⟨(some 14), (some (10, true)), .load false 1 (.t 13)⟩,
      ⟨(some 15), (some (10, true)), .bin .eql (.t 12) (.t 14)⟩,
      ⟨(some 16), none, .pick (.t 10) (.t 15) (.c (.bool false))⟩,
      ⟨(some 17), none, .mv (.t 16)⟩,
      ⟨(some 18), (some (17, true)), .faddr 2 (.t 2)⟩,
      ⟨(some 19), (some (17, true)), .load false 1 (.t 18)⟩,
      ⟨(some 20), (some (17, true)), .faddr 2 (.t 3)⟩,
      ⟨(some 21), (some (17, true)), .load false 1 (.t 20)⟩,
      ⟨(some 22), (some (17, true)), .bin .eql (.t 19) (.t 21)⟩,
      ⟨(some 23), none, .pick (.t 17) (.t 22) (.c (.bool false))⟩,
      ⟨(some 24), none, .mv (.t 23)⟩,
      ⟨(some 25), (some (24, true)), .faddr 3 (.t 2)⟩,
      ⟨(some 26), (some (24, true)), .load false 1 (.t 25)⟩,
      ⟨(some 27), (some (24, true)), .faddr 3 (.t 3)⟩,
      ⟨(some 28), (some (24, true)), .load false 1 (.t 27)⟩,
      ⟨(some 29), (some (24, true)), .call 63 [(.t 26), (.t 28)]⟩,
      ⟨(some 30), none, .pick (.t 24) (.t 29) (.c (.bool false))⟩,
      ⟨(some 31), none, .mv (.t 30)⟩,
      ⟨(some 32), (some (31, true)), .faddr 4 (.t 2)⟩,
      ⟨(some 33), (some (31, true)), .load false 1 (.t 32)⟩,
      ⟨(some 34), (some (31, true)), .faddr 4 (.t 3)⟩,
      ⟨(some 35), (some (31, true)), .load false 1 (.t 34)⟩,
      ⟨(some 36), (some (31, true)), .call 64 [(.t 33), (.t 35), (.c (.fn 65 []))]⟩,
      ⟨(some 37), none, .pick (.t 31) (.t 36) (.c (.bool false))⟩,
      ⟨(some 38), none, .mv (.t 37)⟩,
      ⟨(some 39), (some (38, true)), .faddr 5 (.t 2)⟩,
      ⟨(some 40), (some (38, true)), .load false 1 (.t 39)⟩,
      ⟨(some 41), (some (38, true)), .faddr 5 (.t 3)⟩,
      ⟨(some 42), (some (38, true)), .load false 1 (.t 41)⟩,
      ⟨(some 43), (some (38, true)), .call 69 [(.t 40), (.t 42), (.c (.fn 70 []))]⟩,
      ⟨(some 44), none, .pick (.t 38) (.t 43) (.c (.bool false))⟩,
      ⟨(some 4), none, .mv (.t 44)⟩] false)
    .ret))
def r22 : List ERes := [.t 4]
theorem c22 : chkF Tryz.prog Tryz.f22 2 e22 r22 = true := by kernel_rfl
def e30 : EC :=
  (.seq
   (.region [
     ⟨(some 2), none, .mv (.c (.nilS))⟩,
     ⟨(some 3), none, .mv (.c (.int .i64 0))⟩,
     ⟨(some 4), none, .mv (.c (.int .i64 0))⟩] false)
   (.seq
    (.seq
     (.region [
       ⟨(some 11), none, .mv (.t 0)⟩,
       ⟨(some 12), none, .lenS (.t 11)⟩,
       ⟨(some 13), none, .bin .gtr (.t 12) (.c (.int .i64 8000))⟩] false)
     (.cond (.t 13)
      (.seq
       (.region [
         ⟨(some 2), none, .mv (.c (.nilS))⟩,
         ⟨(some 3), none, .mv (.c (.int .i64 8000))⟩,
         ⟨(some 4), none, .mv (.c (.int .i64 6))⟩] false)
       .ret)
      .skip))
    (.seq
     (.region [
       ⟨(some 14), none, .mv (.t 0)⟩,
       ⟨(some 15), none, .build [.str [], .int .i64 0] [(0, 1, (.t 14))]⟩,
       ⟨(some 16), none, .box 149 (.t 15)⟩,
       ⟨(some 5), none, .mv (.t 16)⟩] false)
     (.seq
      (.seq
       (.region [
         ⟨(some 17), none, .mv (.t 5)⟩,
         ⟨(some 18), none, .call 78 [(.t 17)]⟩] false)
       (.block 0
        (.loop
         (.seq
          (.seq
           (.region [
             ⟨(some 19), none, .mv (.t 5)⟩,
             ⟨(some 20), none, .nilck (.t 19)⟩,
             ⟨(some 21), none, .faddr 1 (.t 20)⟩,
             ⟨(some 22), none, .load false 1 (.t 21)⟩,
             ⟨(some 23), none, .mv (.t 0)⟩,
             ⟨(some 24), none, .lenS (.t 23)⟩,
             ⟨(some 25), none, .bin .lss (.t 22) (.t 24)⟩] false)
           (.cond (.t 25)
            .skip
            (.exit 0)))
          (.seq
           (.block 1
            (.seq
             (.region [
               ⟨(some 28), none, .mv (.t 5)⟩,
               ⟨(some 29), none, .mkfnB 79 [(.t 28)]⟩,
               ⟨(some 6), none, .mv (.t 29)⟩] false)
             (.seq
              (.seq
               (.region [
                 ⟨(some 30), none, .mv (.t 0)⟩,
                 ⟨(some 31), none, .mv (.t 5)⟩,
                 ⟨(some 32), none, .nilck (.t 31)⟩,
                 ⟨(some 33), none, .faddr 1 (.t 32)⟩,
                 ⟨(some 34), none, .load false 1 (.t 33)⟩,
                 ⟨(some 35), none, .idxS (.t 30) (.t 34)⟩,
                 ⟨(some 7), none, .mv (.t 35)⟩] false)
               (.block 2
                (.seq
                 (.region [
                   ⟨(some 37), none, .mv (.t 7)⟩,
                   ⟨(some 38), none, .call 80 [(.t 37)]⟩,
                   ⟨(some 36), none, .mv (.t 38)⟩] false)
                 (.cond (.t 36)
                  (.region [
                    ⟨(some 39), none, .mv (.t 5)⟩,
                    ⟨(some 40), none, .mkfnB 81 [(.t 39)]⟩,
                    ⟨(some 6), none, .mv (.t 40)⟩] false)
                  (.seq
                   (.region [
                     ⟨(some 42), none, .mv (.t 7)⟩,
                     ⟨(some 43), none, .call 82 [(.t 42)]⟩,
                     ⟨(some 41), none, .mv (.t 43)⟩] false)
                   (.cond (.t 41)
                    (.region [
                      ⟨(some 44), none, .mv (.t 5)⟩,
                      ⟨(some 45), none, .mkfnB 83 [(.t 44)]⟩,
                      ⟨(some 6), none, .mv (.t 45)⟩] false)
                    (.seq
                     (.region [
                       ⟨(some 47), none, .mv (.t 7)⟩,
                       ⟨(some 48), none, .bin .eql (.t 47) (.c (.int .u8 34))⟩,
                       ⟨(some 46), none, .mv (.t 48)⟩] false)
                     (.cond (.t 46)
                      (.region [
                        ⟨(some 49), none, .mv (.t 5)⟩,
                        ⟨(some 50), none, .mkfnB 84 [(.t 49)]⟩,
                        ⟨(some 6), none, .mv (.t 50)⟩] false)
                      .skip))))))))
              (.seq
               (.region [
                 ⟨(some 51), none, .mv (.t 5)⟩,
                 ⟨(some 52), none, .nilck (.t 51)⟩,
                 ⟨(some 53), none, .faddr 1 (.t 52)⟩,
                 ⟨(some 54), none, .load false 1 (.t 53)⟩,
                 ⟨(some 8), none, .mv (.t 54)⟩] false)
               (.seq
                (.region [
                  ⟨(some 56), none, .mv (.t 6)⟩,
                  ⟨(some 57), none, .callv (.t 56) []⟩,
                  ⟨(some 55), none, .mv (.t 57)⟩,
                  ⟨(some 58), none, .extract 0 (.t 55)⟩,
                  ⟨(some 59), none, .extract 1 (.t 55)⟩,
                  ⟨(some 9), none, .alloc 152 [.int .i64 0, .str [], .int .i64 0, .int .i64 0]⟩,
                  ⟨none, none, .store 4 (.t 9) (.t 58)⟩,
                  ⟨(some 10), none, .mv (.t 59)⟩] false)
                (.seq
                 (.seq
                  (.region [
                    ⟨(some 60), none, .mv (.t 10)⟩,
                    ⟨(some 61), none, .bin .neq (.t 60) (.c (.int .i64 0))⟩] false)
                  (.cond (.t 61)
                   (.seq
                    (.region [
                      ⟨(some 62), none, .mv (.t 8)⟩,
                      ⟨(some 63), none, .mv (.t 10)⟩,
                      ⟨(some 2), none, .mv (.c (.nilS))⟩,
                      ⟨(some 3), none, .mv (.t 62)⟩,
                      ⟨(some 4), none, .mv (.t 63)⟩] false)
                    .ret)
                   .skip))
                 (.seq
                  (.region [
                    ⟨(some 64), none, .mv (.t 8)⟩,
                    ⟨(some 65), none, .faddr 3 (.t 9)⟩,
                    ⟨none, none, .store 1 (.t 65) (.t 64)⟩] false)
                  (.region [
                    ⟨(some 66), none, .mv (.t 2)⟩,
                    ⟨(some 67), none, .load true 4 (.t 9)⟩,
                    ⟨(some 68), none, .bslice 152 4 1 [.int .i64 0, .str [], .int .i64 0, .int .i64 0] [(0, (.t 67))]⟩,
                    ⟨(some 69), none, .append 152 4 40 (.t 66) (.t 68)⟩,
                    ⟨(some 2), none, .mv (.t 69)⟩] false))))))))
           (.region [
             ⟨(some 26), none, .mv (.t 5)⟩,
             ⟨(some 27), none, .call 78 [(.t 26)]⟩] false))))))
      (.seq
       (.region [
         ⟨(some 70), none, .mv (.t 2)⟩,
         ⟨(some 2), none, .mv (.t 70)⟩,
         ⟨(some 3), none, .mv (.c (.int .i64 0))⟩,
         ⟨(some 4), none, .mv (.c (.int .i64 0))⟩] false)
       .ret)))))
def r30 : List ERes := [.t 2, .t 3, .t 4]
theorem c30 : chkF Tryz.prog Tryz.f30 1 e30 r30 = true := by kernel_rfl
def e32 : EC :=
  (.seq
   (.region [
     ⟨(some 2), none, .alloc 27 [.str [], .str [], .str [], .nilS, .nilS, .nilS]⟩] false)
   (.seq
    (.region [
      ⟨(some 3), none, .alloc 27 [.str [], .str [], .str [], .nilS, .nilS, .nilS]⟩] false)
    (.seq
     (.region [
       ⟨(some 4), none, .mv (.t 0)⟩,
       ⟨(some 5), none, .call 85 [(.t 4), (.c (.str [115, 101, 114, 118, 105, 99, 101]))]⟩] false)
     (.seq
      (.region [
        ⟨(some 6), none, .mv (.t 0)⟩,
        ⟨(some 7), none, .call 86 [(.t 6)]⟩,
        ⟨(some 8), none, .faddr 0 (.t 3)⟩,
        ⟨none, none, .store 1 (.t 8) (.t 7)⟩] false)
      (.seq
       (.region [
         ⟨(some 9), none, .mv (.t 0)⟩,
         ⟨(some 10), none, .call 85 [(.t 9), (.c (.str [112, 108, 97, 121, 115]))]⟩] false)
       (.seq
        (.region [
          ⟨(some 11), none, .mv (.t 0)⟩,
          ⟨(some 12), none, .call 86 [(.t 11)]⟩,
          ⟨(some 13), none, .faddr 1 (.t 3)⟩,
          ⟨none, none, .store 1 (.t 13) (.t 12)⟩] false)
        (.seq
         (.region [
           ⟨(some 14), none, .mv (.t 0)⟩,
           ⟨(some 15), none, .call 85 [(.t 14), (.c (.str [111, 102]))]⟩] false)
         (.seq
          (.region [
            ⟨(some 16), none, .mv (.t 0)⟩,
            ⟨(some 17), none, .call 86 [(.t 16)]⟩,
            ⟨(some 18), none, .faddr 2 (.t 3)⟩,
            ⟨none, none, .store 1 (.t 18) (.t 17)⟩] false)
          (.seq
           (.region [
             ⟨(some 19), none, .mv (.t 0)⟩,
             ⟨(some 20), none, .call 85 [(.t 19), (.c (.str [123]))]⟩] false)
           (.seq
            (.block 0
             (.loop
              (.seq
               (.seq
                (.region [
                  ⟨(some 21), none, .mv (.t 0)⟩,
                  ⟨(some 22), none, .call 87 [(.t 21), (.c (.str [118, 97, 114]))]⟩] false)
                (.cond (.t 22)
                 .skip
                 (.exit 0)))
               (.block 1
                (.region [
                  ⟨(some 23), none, .faddr 3 (.t 3)⟩,
                  ⟨(some 24), none, .loadD 3 false 1 (.t 23)⟩,
                  ⟨(some 25), none, .mv (.t 0)⟩,
                  ⟨(some 26), none, .callD [3] 88 [(.t 25)]⟩,
                  ⟨(some 27), none, .bslice 106 7 1 [.str [], .int .i64 0, .int .i64 0, .int .i64 0, .int .i64 0, .int .i64 0, .str []] [(0, (.t 26))]⟩,
                  ⟨(some 28), none, .append 106 7 72 (.t 24) (.t 27)⟩,
                  ⟨(some 29), none, .faddr 3 (.t 3)⟩,
                  ⟨none, none, .store 1 (.t 29) (.t 28)⟩] true)))))
            (.seq
             (.block 2
              (.loop
               (.seq
                (.seq
                 (.region [
                   ⟨(some 30), none, .mv (.t 0)⟩,
                   ⟨(some 31), none, .call 87 [(.t 30), (.c (.str [125]))]⟩,
                   ⟨(some 32), none, .not (.t 31)⟩] false)
                 (.cond (.t 32)
                  .skip
                  (.exit 2)))
                (.block 3
                 (.seq
                  (.region [
                    ⟨(some 33), none, .mv (.t 0)⟩,
                    ⟨(some 34), none, .call 87 [(.t 33), (.c (.str [111, 110]))]⟩] false)
                  (.cond (.t 34)
                   (.region [
                     ⟨(some 35), none, .faddr 4 (.t 3)⟩,
                     ⟨(some 36), none, .loadD 3 false 1 (.t 35)⟩,
                     ⟨(some 37), none, .mv (.t 0)⟩,
                     ⟨(some 38), none, .callD [3] 89 [(.t 37)]⟩,
                     ⟨(some 39), none, .bslice 109 4 1 [.str [], .str [], .nilS, .nilS] [(0, (.t 38))]⟩,
                     ⟨(some 40), none, .append 109 4 80 (.t 36) (.t 39)⟩,
                     ⟨(some 41), none, .faddr 4 (.t 3)⟩,
                     ⟨none, none, .store 1 (.t 41) (.t 40)⟩] true)
                   (.seq
                    (.region [
                      ⟨(some 42), none, .mv (.t 0)⟩,
                      ⟨(some 43), none, .call 85 [(.t 42), (.c (.str [111, 102, 102, 101, 114]))]⟩] false)
                    (.region [
                      ⟨(some 44), none, .faddr 5 (.t 3)⟩,
                      ⟨(some 45), none, .loadD 3 false 1 (.t 44)⟩,
                      ⟨(some 46), none, .mv (.t 0)⟩,
                      ⟨(some 47), none, .callD [3] 90 [(.t 46)]⟩,
                      ⟨(some 48), none, .bslice 74 4 1 [.str [], .str [], .nilS, .nilS] [(0, (.t 47))]⟩,
                      ⟨(some 49), none, .append 74 4 80 (.t 45) (.t 48)⟩,
                      ⟨(some 50), none, .faddr 5 (.t 3)⟩,
                      ⟨none, none, .store 1 (.t 50) (.t 49)⟩] true))))))))
             (.seq
              (.seq
               (.region [
                 ⟨(some 51), none, .mv (.t 0)⟩,
                 ⟨(some 52), none, .nilck (.t 51)⟩,
                 ⟨(some 53), none, .faddr 0 (.t 52)⟩,
                 ⟨(some 54), none, .load false 1 (.t 53)⟩,
                 ⟨(some 55), none, .len (.t 54)⟩,
                 ⟨(some 56), none, .bin .gtr (.t 55) (.c (.int .i64 0))⟩] false)
               (.cond (.t 56)
                (.region [
                  ⟨(some 57), none, .mv (.t 0)⟩,
                  ⟨(some 58), none, .call 91 [(.t 57), (.c (.int .i64 3))]⟩] false)
                .skip))
              (.seq
               (.region [
                 ⟨(some 59), none, .load true 6 (.t 3)⟩,
                 ⟨none, none, .store 6 (.t 2) (.t 59)⟩] false)
               .ret)))))))))))))
def r32 : List ERes := [.cell true 6 2]
theorem c32 : chkF Tryz.prog Tryz.f32 1 e32 r32 = true := by kernel_rfl
def e46 : EC :=
  (.seq
   (.region [
     ⟨(some 3), none, .box 113 (.t 1)⟩,
     ⟨(some 4), none, .mv (.c (.bool false))⟩] false)
   (.seq
    (.region [
      ⟨(some 5), none, .mv (.t 0)⟩,
      ⟨(some 6), none, .mkfn 104 [(.t 3)]⟩,
      ⟨(some 7), none, .call 103 [(.t 5), (.t 6)]⟩,
      ⟨(some 8), none, .not (.t 7)⟩,
      ⟨(some 4), none, .mv (.t 8)⟩] false)
    .ret))
def r46 : List ERes := [.t 4]
theorem c46 : chkF Tryz.prog Tryz.f46 2 e46 r46 = true := by kernel_rfl
def e47 : EC :=
  (.seq
   (.region [
     ⟨(some 1), none, .box 106 (.t 0)⟩,
     ⟨(some 2), none, .mv (.c (.bool false))⟩] false)
   (.seq
    (.region [
      ⟨(some 4), none, .faddr 1 (.t 1)⟩,
      ⟨(some 5), none, .load true 3 (.t 4)⟩,
      ⟨(some 3), none, .alloc 91 [.int .i64 0, .int .i64 0, .int .i64 0]⟩,
      ⟨none, none, .store 3 (.t 3) (.t 5)⟩] false)
    (.seq
     (.block 0
      (.seq
       (.region [
         ⟨(some 7), none, .faddr 0 (.t 1)⟩,
         ⟨(some 8), none, .load false 1 (.t 7)⟩,
         ⟨(some 9), none, .call 45 [(.t 8)]⟩,
         ⟨(some 10), none, .not (.t 9)⟩,
         ⟨(some 11), none, .mv (.t 10)⟩,
         ⟨(some 12), (some (11, false)), .faddr 1 (.t 3)⟩,
         ⟨(some 13), (some (11, false)), .load false 1 (.t 12)⟩,
         ⟨(some 14), (some (11, false)), .call 105 [(.t 13)]⟩,
         ⟨(some 15), (some (11, false)), .not (.t 14)⟩,
         ⟨(some 16), none, .pick (.t 11) (.c (.bool true)) (.t 15)⟩,
         ⟨(some 17), none, .mv (.t 16)⟩,
         ⟨(some 18), (some (17, false)), .faddr 2 (.t 3)⟩,
         ⟨(some 19), (some (17, false)), .load false 1 (.t 18)⟩,
         ⟨(some 20), (some (17, false)), .call 105 [(.t 19)]⟩,
         ⟨(some 21), (some (17, false)), .not (.t 20)⟩,
         ⟨(some 22), none, .pick (.t 17) (.c (.bool true)) (.t 21)⟩,
         ⟨(some 6), none, .mv (.t 22)⟩] false)
       (.cond (.t 6)
        (.seq
         (.region [
           ⟨(some 2), none, .mv (.c (.bool false))⟩] false)
         .ret)
        (.seq
         (.region [
           ⟨(some 24), none, .faddr 0 (.t 3)⟩,
           ⟨(some 25), none, .load false 1 (.t 24)⟩,
           ⟨(some 26), none, .bin .neq (.t 25) (.c (.int .i64 1))⟩,
           ⟨(some 27), none, .mv (.t 26)⟩,
           ⟨(some 28), (some (27, true)), .faddr 0 (.t 3)⟩,
           ⟨(some 29), (some (27, true)), .load false 1 (.t 28)⟩,
           ⟨(some 30), (some (27, true)), .bin .neq (.t 29) (.c (.int .i64 2))⟩,
           ⟨(some 31), (some (27, true)), .mv (.t 30)⟩,
           ⟨(some 32), (some (31, false)), .faddr 1 (.t 3)⟩,
           ⟨(some 33), (some (31, false)), .load false 1 (.t 32)⟩,
           ⟨(some 34), (some (31, false)), .bin .lss (.t 33) (.c (.int .i64 0))⟩,
           ⟨(some 35), (some (27, true)), .pick (.t 31) (.c (.bool true)) (.t 34)⟩,
           ⟨(some 36), (some (27, true)), .mv (.t 35)⟩,
           ⟨(some 37), (some (36, false)), .faddr 2 (.t 3)⟩,
           ⟨(some 38), (some (36, false)), .load false 1 (.t 37)⟩,
           ⟨(some 39), (some (36, false)), .bin .lss (.t 38) (.c (.int .i64 0))⟩,
           ⟨(some 40), (some (27, true)), .pick (.t 36) (.c (.bool true)) (.t 39)⟩,
           ⟨(some 41), none, .pick (.t 27) (.t 40) (.c (.bool false))⟩,
           ⟨(some 23), none, .mv (.t 41)⟩] false)
         (.cond (.t 23)
          (.seq
           (.region [
             ⟨(some 2), none, .mv (.c (.bool false))⟩] false)
           .ret)
          .skip)))))
     (.seq
      (.seq
       (.region [
         ⟨(some 42), none, .faddr 4 (.t 1)⟩,
         ⟨(some 43), none, .faddr 0 (.t 42)⟩,
         ⟨(some 44), none, .load false 1 (.t 43)⟩] false)
       (.block 1
        (.seq
         (.region [
           ⟨(some 46), none, .bin .eql (.t 44) (.c (.int .i64 1))⟩,
           ⟨(some 45), none, .mv (.t 46)⟩] false)
         (.cond (.t 45)
          (.seq
           (.region [
             ⟨(some 47), none, .faddr 4 (.t 1)⟩,
             ⟨(some 48), none, .faddr 1 (.t 47)⟩,
             ⟨(some 49), none, .load false 1 (.t 48)⟩,
             ⟨(some 50), none, .call 105 [(.t 49)]⟩,
             ⟨(some 51), none, .mv (.t 50)⟩,
             ⟨(some 52), (some (51, true)), .faddr 4 (.t 1)⟩,
             ⟨(some 53), (some (51, true)), .faddr 2 (.t 52)⟩,
             ⟨(some 54), (some (51, true)), .load false 1 (.t 53)⟩,
             ⟨(some 55), (some (51, true)), .bin .eql (.t 54) (.c (.str []))⟩,
             ⟨(some 56), none, .pick (.t 51) (.t 55) (.c (.bool false))⟩,
             ⟨(some 2), none, .mv (.t 56)⟩] false)
           .ret)
          (.seq
           (.region [
             ⟨(some 58), none, .bin .eql (.t 44) (.c (.int .i64 2))⟩,
             ⟨(some 57), none, .mv (.t 58)⟩] false)
           (.cond (.t 57)
            (.seq
             (.region [
               ⟨(some 59), none, .faddr 4 (.t 1)⟩,
               ⟨(some 60), none, .faddr 1 (.t 59)⟩,
               ⟨(some 61), none, .load false 1 (.t 60)⟩,
               ⟨(some 62), none, .bin .eql (.t 61) (.c (.int .i64 0))⟩,
               ⟨(some 63), none, .mv (.t 62)⟩,
               ⟨(some 64), (some (63, true)), .faddr 4 (.t 1)⟩,
               ⟨(some 65), (some (63, true)), .faddr 2 (.t 64)⟩,
               ⟨(some 66), (some (63, true)), .load false 1 (.t 65)⟩,
               ⟨(some 67), (some (63, true)), .call 106 [(.t 66)]⟩,
               ⟨(some 68), none, .pick (.t 63) (.t 67) (.c (.bool false))⟩,
               ⟨(some 2), none, .mv (.t 68)⟩] false)
             .ret)
            .skip))))))
      (.seq
       (.region [
         ⟨(some 2), none, .mv (.c (.bool false))⟩] false)
       .ret)))))
def r47 : List ERes := [.t 2]
theorem c47 : chkF Tryz.prog Tryz.f47 1 e47 r47 = true := by kernel_rfl
def e48 : EC :=
  (.seq
   (.region [
     ⟨(some 3), none, .box 115 (.t 1)⟩,
     ⟨(some 4), none, .mv (.c (.bool false))⟩] false)
   (.seq
    (.region [
      ⟨(some 5), none, .mv (.t 0)⟩,
      ⟨(some 6), none, .mkfn 108 [(.t 3)]⟩,
      ⟨(some 7), none, .call 107 [(.t 5), (.t 6)]⟩,
      ⟨(some 8), none, .not (.t 7)⟩,
      ⟨(some 4), none, .mv (.t 8)⟩] false)
    .ret))
def r48 : List ERes := [.t 4]
theorem c48 : chkF Tryz.prog Tryz.f48 2 e48 r48 = true := by kernel_rfl
def e49 : EC :=
  (.seq
   (.region [
     ⟨(some 1), none, .box 109 (.t 0)⟩,
     ⟨(some 2), none, .mv (.c (.bool false))⟩] false)
   (.seq
    (.region [
      ⟨(some 3), none, .mv (.c (.fn 109 []))⟩] false)
    (.seq
     (.region [
       ⟨(some 4), none, .faddr 0 (.t 1)⟩,
       ⟨(some 5), none, .load false 1 (.t 4)⟩,
       ⟨(some 6), none, .call 111 [(.t 5)]⟩,
       ⟨(some 7), none, .mv (.t 6)⟩,
       ⟨(some 8), (some (7, true)), .faddr 1 (.t 1)⟩,
       ⟨(some 9), (some (7, true)), .load false 1 (.t 8)⟩,
       ⟨(some 10), (some (7, true)), .call 45 [(.t 9)]⟩,
       ⟨(some 11), none, .pick (.t 7) (.t 10) (.c (.bool false))⟩,
       ⟨(some 12), none, .mv (.t 11)⟩,
       ⟨(some 13), (some (12, true)), .faddr 2 (.t 1)⟩,
       ⟨(some 14), (some (12, true)), .load false 1 (.t 13)⟩,
       ⟨(some 15), (some (12, true)), .len (.t 14)⟩,
       ⟨(some 16), (some (12, true)), .bin .leq (.t 15) (.c (.int .i64 4))⟩,
       ⟨(some 17), none, .pick (.t 12) (.t 16) (.c (.bool false))⟩,
       ⟨(some 18), none, .mv (.t 17)⟩,
       ⟨(some 19), (some (18, true)), .faddr 2 (.t 1)⟩,
       ⟨(some 20), (some (18, true)), .load false 1 (.t 19)⟩,
       ⟨(some 21), (some (18, true)), .call 112 [(.t 20), (.c (.fn 45 []))]⟩,
       ⟨(some 22), none, .pick (.t 18) (.t 21) (.c (.bool false))⟩,
       ⟨(some 23), none, .mv (.t 22)⟩,
       ⟨(some 24), (some (23, true)), .faddr 3 (.t 1)⟩,
       ⟨(some 25), (some (23, true)), .load false 1 (.t 24)⟩,
       ⟨(some 26), (some (23, true)), .call 113 [(.t 25), (.c (.fn 114 []))]⟩,
       ⟨(some 27), none, .pick (.t 23) (.t 26) (.c (.bool false))⟩,
       ⟨(some 28), none, .mv (.t 27)⟩,
       ⟨(some 29), (some (28, true)), .faddr 3 (.t 1)⟩,
       ⟨(some 30), (some (28, true)), .load false 1 (.t 29)⟩,
       ⟨(some 31), (some (28, true)), .mv (.t 3)⟩,
       ⟨(some 32), (some (28, true)), .call 113 [(.t 30), (.t 31)]⟩,
       ⟨(some 33), none, .pick (.t 28) (.t 32) (.c (.bool false))⟩,
       ⟨(some 2), none, .mv (.t 33)⟩] false)
     .ret)))
def r49 : List ERes := [.t 2]
theorem c49 : chkF Tryz.prog Tryz.f49 1 e49 r49 = true := by kernel_rfl
def e50 : EC :=
  (.seq
   (.region [
     ⟨(some 3), none, .box 117 (.t 1)⟩,
     ⟨(some 4), none, .mv (.c (.bool false))⟩] false)
   (.seq
    (.region [
      ⟨(some 5), none, .mv (.t 0)⟩,
      ⟨(some 6), none, .mkfn 116 [(.t 3)]⟩,
      ⟨(some 7), none, .call 115 [(.t 5), (.t 6)]⟩,
      ⟨(some 8), none, .not (.t 7)⟩,
      ⟨(some 4), none, .mv (.t 8)⟩] false)
    .ret))
def r50 : List ERes := [.t 4]
theorem c50 : chkF Tryz.prog Tryz.f50 2 e50 r50 = true := by kernel_rfl
def e51 : EC :=
  (.seq
   (.region [
     ⟨(some 1), none, .box 74 (.t 0)⟩,
     ⟨(some 2), none, .mv (.c (.bool false))⟩] false)
   (.seq
    (.region [
      ⟨(some 3), none, .mv (.c (.fn 117 []))⟩] false)
    (.seq
     (.region [
       ⟨(some 5), none, .faddr 2 (.t 1)⟩,
       ⟨(some 6), none, .load false 1 (.t 5)⟩,
       ⟨(some 7), none, .faddr 3 (.t 1)⟩,
       ⟨(some 8), none, .load false 1 (.t 7)⟩,
       ⟨(some 9), none, .bslice 72 1 2 [.nilS] [(0, (.t 6)), (1, (.t 8))]⟩,
       ⟨(some 10), none, .call 119 [(.t 9)]⟩,
       ⟨(some 4), none, .mv (.t 10)⟩] false)
     (.seq
      (.region [
        ⟨(some 11), none, .faddr 0 (.t 1)⟩,
        ⟨(some 12), none, .load false 1 (.t 11)⟩,
        ⟨(some 13), none, .call 111 [(.t 12)]⟩,
        ⟨(some 14), none, .mv (.t 13)⟩,
        ⟨(some 15), (some (14, true)), .faddr 1 (.t 1)⟩,
        ⟨(some 16), (some (14, true)), .load false 1 (.t 15)⟩,
        ⟨(some 17), (some (14, true)), .call 45 [(.t 16)]⟩,
        ⟨(some 18), none, .pick (.t 14) (.t 17) (.c (.bool false))⟩,
        ⟨(some 19), none, .mv (.t 18)⟩,
        ⟨(some 20), (some (19, true)), .faddr 2 (.t 1)⟩,
        ⟨(some 21), (some (19, true)), .load false 1 (.t 20)⟩,
        ⟨(some 22), (some (19, true)), .len (.t 21)⟩,
        ⟨(some 23), (some (19, true)), .bin .leq (.t 22) (.c (.int .i64 4))⟩,
        ⟨(some 24), none, .pick (.t 19) (.t 23) (.c (.bool false))⟩,
        ⟨(some 25), none, .mv (.t 24)⟩,
        ⟨(some 26), (some (25, true)), .faddr 3 (.t 1)⟩,
        ⟨(some 27), (some (25, true)), .load false 1 (.t 26)⟩,
        ⟨(some 28), (some (25, true)), .len (.t 27)⟩,
        ⟨(some 29), (some (25, true)), .bin .leq (.t 28) (.c (.int .i64 1))⟩,
        ⟨(some 30), none, .pick (.t 25) (.t 29) (.c (.bool false))⟩,
        ⟨(some 31), none, .mv (.t 30)⟩,
        ⟨(some 32), (some (31, true)), .mv (.t 4)⟩,
        ⟨(some 33), (some (31, true)), .call 120 [(.t 32), (.c (.fn 121 []))]⟩,
        ⟨(some 34), none, .pick (.t 31) (.t 33) (.c (.bool false))⟩,
        ⟨(some 35), none, .mv (.t 34)⟩,
        ⟨(some 36), (some (35, true)), .mv (.t 4)⟩,
        ⟨(some 37), (some (35, true)), .mv (.t 3)⟩,
        ⟨(some 38), (some (35, true)), .call 120 [(.t 36), (.t 37)]⟩,
        ⟨(some 39), none, .pick (.t 35) (.t 38) (.c (.bool false))⟩,
        ⟨(some 2), none, .mv (.t 39)⟩] false)
      .ret))))
def r51 : List ERes := [.t 2]
theorem c51 : chkF Tryz.prog Tryz.f51 1 e51 r51 = true := by kernel_rfl
def e52 : EC :=
  (.seq
   (.region [
     ⟨(some 1), none, .box 27 (.t 0)⟩,
     ⟨(some 2), none, .mv (.c (.str []))⟩] false)
   (.seq
    (.region [
      ⟨(some 12), none, .build [.raw (.pointer none), .nilS, .int .i64 0] []⟩,
      ⟨(some 13), none, .box 182 (.t 12)⟩,
      ⟨(some 3), none, .mv (.t 13)⟩] false)
    (.seq
     (.region [
       ⟨(some 14), none, .mv (.t 3)⟩,
       ⟨(some 15), none, .faddr 0 (.t 1)⟩,
       ⟨(some 16), none, .load false 1 (.t 15)⟩,
       ⟨(some 17), none, .faddr 1 (.t 1)⟩,
       ⟨(some 18), none, .load false 1 (.t 17)⟩,
       ⟨(some 19), none, .faddr 2 (.t 1)⟩,
       ⟨(some 20), none, .load false 1 (.t 19)⟩,
       ⟨(some 21), none, .bslice 9 1 7 [.str []] [(0, (.c (.str [115, 101, 114, 118, 105, 99, 101, 32]))), (1, (.t 16)), (2, (.c (.str [32, 112, 108, 97, 121, 115, 32]))), (3, (.t 18)), (4, (.c (.str [32, 111, 102, 32]))), (5, (.t 20)), (6, (.c (.str [32, 123])))]⟩,
       ⟨(some 22), none, .call 122 [(.t 14), (.t 21)]⟩] false)
     (.seq
      (.region [
        ⟨(some 23), none, .mv (.t 3)⟩,
        ⟨(some 24), none, .nilck (.t 23)⟩,
        ⟨(some 25), none, .faddr 2 (.t 24)⟩,
        ⟨none, none, .store 1 (.t 25) (.c (.int .i64 1))⟩] false)
      (.seq
       (.seq
        (.region [
          ⟨(some 26), none, .faddr 3 (.t 1)⟩,
          ⟨(some 27), none, .load false 1 (.t 26)⟩,
          ⟨(some 28), none, .len (.t 27)⟩,
          ⟨(some 29), none, .mv (.c (.int .i64 0))⟩] false)
        (.block 0
         (.loop
          (.seq
           (.region [
             ⟨(some 30), none, .bin .lss (.t 29) (.t 28)⟩] false)
           (.seq
            (.cond (.t 30)
             .skip
             (.exit 0))
            (.seq
             (.block 1
              (.seq
               (.region [
                 ⟨(some 31), none, .iaddr 7 (.t 27) (.t 29)⟩,
                 ⟨(some 32), none, .load true 7 (.t 31)⟩,
                 ⟨(some 5), none, .alloc 106 [.str [], .int .i64 0, .int .i64 0, .int .i64 0, .int .i64 0, .int .i64 0, .str []]⟩,
                 ⟨none, none, .store 7 (.t 5) (.t 32)⟩] false)
               (.seq
                (.region [
                  ⟨(some 6), none, .mv (.c (.str [105, 110, 116, 32]))⟩] false)
                (.seq
                 (.seq
                  (.region [
                    ⟨(some 33), none, .faddr 1 (.t 5)⟩,
                    ⟨(some 34), none, .faddr 0 (.t 33)⟩,
                    ⟨(some 35), none, .load false 1 (.t 34)⟩,
                    ⟨(some 36), none, .bin .eql (.t 35) (.c (.int .i64 2))⟩] false)
                  (.cond (.t 36)
                   (.region [
                     ⟨(some 6), none, .mv (.c (.str [116, 101, 120, 116, 32]))⟩] false)
                   .skip))
                 (.region [
                   ⟨(some 37), none, .mv (.t 3)⟩,
                   ⟨(some 38), none, .faddr 0 (.t 5)⟩,
                   ⟨(some 39), none, .load false 1 (.t 38)⟩,
                   ⟨(some 40), none, .mv (.t 6)⟩,
                   ⟨(some 41), none, .faddr 1 (.t 5)⟩,
                   ⟨(some 42), none, .faddr 1 (.t 41)⟩,
                   ⟨(some 43), none, .load false 1 (.t 42)⟩,
                   ⟨(some 44), none, .pcall 123 [(.t 43)]⟩,
                   ⟨(some 45), none, .faddr 1 (.t 5)⟩,
                   ⟨(some 46), none, .faddr 2 (.t 45)⟩,
                   ⟨(some 47), none, .load false 1 (.t 46)⟩,
                   ⟨(some 48), none, .pcall 123 [(.t 47)]⟩,
                   ⟨(some 49), none, .faddr 4 (.t 5)⟩,
                   ⟨(some 50), none, .load true 3 (.t 49)⟩,
                   ⟨(some 51), none, .pcall 124 [(.t 50)]⟩,
                   ⟨(some 52), none, .bslice 9 1 10 [.str []] [(0, (.c (.str [118, 97, 114, 32]))), (1, (.t 39)), (2, (.c (.str [58, 32]))), (3, (.t 40)), (4, (.t 44)), (5, (.c (.str [32, 46, 46, 32]))), (6, (.t 48)), (7, (.c (.str [32, 61, 32]))), (8, (.t 51)), (9, (.c (.str [59])))]⟩,
                   ⟨(some 53), none, .call 122 [(.t 37), (.t 52)]⟩] true)))))
             (.region [
               ⟨(some 54), none, .bin .add (.t 29) (.c (.int .i64 1))⟩,
               ⟨(some 29), none, .mv (.t 54)⟩] false)))))))
       (.seq
        (.seq
         (.region [
           ⟨(some 55), none, .faddr 4 (.t 1)⟩,
           ⟨(some 56), none, .load false 1 (.t 55)⟩,
           ⟨(some 57), none, .len (.t 56)⟩,
           ⟨(some 58), none, .mv (.c (.int .i64 0))⟩] false)
         (.block 2
          (.loop
           (.seq
            (.region [
              ⟨(some 59), none, .bin .lss (.t 58) (.t 57)⟩] false)
            (.seq
             (.cond (.t 59)
              .skip
              (.exit 2))
             (.seq
              (.block 3
               (.seq
                (.region [
                  ⟨(some 60), none, .iaddr 4 (.t 56) (.t 58)⟩,
                  ⟨(some 61), none, .load true 4 (.t 60)⟩,
                  ⟨(some 8), none, .alloc 109 [.str [], .str [], .nilS, .nilS]⟩,
                  ⟨none, none, .store 4 (.t 8) (.t 61)⟩] false)
                (.seq
                 (.region [
                   ⟨(some 62), none, .mv (.t 3)⟩,
                   ⟨(some 63), none, .faddr 0 (.t 8)⟩,
                   ⟨(some 64), none, .load false 1 (.t 63)⟩,
                   ⟨(some 65), none, .faddr 2 (.t 8)⟩,
                   ⟨(some 66), none, .load false 1 (.t 65)⟩,
                   ⟨(some 67), none, .pcall 125 [(.t 66), (.c (.str [44, 32]))]⟩,
                   ⟨(some 68), none, .faddr 1 (.t 8)⟩,
                   ⟨(some 69), none, .load false 1 (.t 68)⟩,
                   ⟨(some 70), none, .bslice 9 1 7 [.str []] [(0, (.c (.str [111, 110, 32]))), (1, (.t 64)), (2, (.c (.str [40]))), (3, (.t 67)), (4, (.c (.str [41, 32, 102, 114, 111, 109, 32]))), (5, (.t 69)), (6, (.c (.str [32, 123])))]⟩,
                   ⟨(some 71), none, .call 122 [(.t 62), (.t 70)]⟩] true)
                 (.seq
                  (.region [
                    ⟨(some 72), none, .mv (.t 3)⟩,
                    ⟨(some 73), none, .faddr 3 (.t 8)⟩,
                    ⟨(some 74), none, .load false 1 (.t 73)⟩,
                    ⟨(some 75), none, .call 126 [(.t 72), (.t 74)]⟩] false)
                  (.region [
                    ⟨(some 76), none, .mv (.t 3)⟩,
                    ⟨(some 77), none, .bslice 9 1 1 [.str []] [(0, (.c (.str [125])))]⟩,
                    ⟨(some 78), none, .call 122 [(.t 76), (.t 77)]⟩] false)))))
              (.region [
                ⟨(some 79), none, .bin .add (.t 58) (.c (.int .i64 1))⟩,
                ⟨(some 58), none, .mv (.t 79)⟩] false)))))))
        (.seq
         (.seq
          (.region [
            ⟨(some 80), none, .faddr 5 (.t 1)⟩,
            ⟨(some 81), none, .load false 1 (.t 80)⟩,
            ⟨(some 82), none, .len (.t 81)⟩,
            ⟨(some 83), none, .mv (.c (.int .i64 0))⟩] false)
          (.block 4
           (.loop
            (.seq
             (.region [
               ⟨(some 84), none, .bin .lss (.t 83) (.t 82)⟩] false)
             (.seq
              (.cond (.t 84)
               .skip
               (.exit 4))
              (.seq
               (.block 5
                (.seq
                 (.region [
                   ⟨(some 85), none, .iaddr 4 (.t 81) (.t 83)⟩,
                   ⟨(some 86), none, .load true 4 (.t 85)⟩,
                   ⟨(some 10), none, .alloc 74 [.str [], .str [], .nilS, .nilS]⟩,
                   ⟨none, none, .store 4 (.t 10) (.t 86)⟩] false)
                 (.seq
                  (.region [
                    ⟨(some 11), none, .mv (.c (.str []))⟩] false)
                  (.seq
                   (.seq
                    (.region [
                      ⟨(some 87), none, .faddr 3 (.t 10)⟩,
                      ⟨(some 88), none, .load false 1 (.t 87)⟩,
                      ⟨(some 89), none, .len (.t 88)⟩,
                      ⟨(some 90), none, .bin .gtr (.t 89) (.c (.int .i64 0))⟩] false)
                    (.cond (.t 90)
                     (.region [
                       ⟨(some 91), none, .faddr 3 (.t 10)⟩,
                       ⟨(some 92), none, .load false 1 (.t 91)⟩,
                       ⟨(some 93), none, .iaddr 6 (.t 92) (.c (.int .i64 0))⟩,
                       ⟨(some 94), none, .load true 6 (.t 93)⟩,
                       ⟨(some 95), none, .call 127 [(.t 94)]⟩,
                       ⟨(some 96), none, .bin .add (.c (.str [32, 119, 104, 101, 114, 101, 32])) (.t 95)⟩,
                       ⟨(some 11), none, .mv (.t 96)⟩] false)
                     .skip))
                   (.region [
                     ⟨(some 97), none, .mv (.t 3)⟩,
                     ⟨(some 98), none, .faddr 0 (.t 10)⟩,
                     ⟨(some 99), none, .load false 1 (.t 98)⟩,
                     ⟨(some 100), none, .faddr 2 (.t 10)⟩,
                     ⟨(some 101), none, .load false 1 (.t 100)⟩,
                     ⟨(some 102), none, .pcall 128 [(.t 101)]⟩,
                     ⟨(some 103), none, .faddr 1 (.t 10)⟩,
                     ⟨(some 104), none, .load false 1 (.t 103)⟩,
                     ⟨(some 105), none, .mv (.t 11)⟩,
                     ⟨(some 106), none, .bslice 9 1 8 [.str []] [(0, (.c (.str [111, 102, 102, 101, 114, 32]))), (1, (.t 99)), (2, (.c (.str [40]))), (3, (.t 102)), (4, (.c (.str [41, 32, 116, 111, 32]))), (5, (.t 104)), (6, (.t 105)), (7, (.c (.str [59])))]⟩,
                     ⟨(some 107), none, .call 122 [(.t 97), (.t 106)]⟩] true)))))
               (.region [
                 ⟨(some 108), none, .bin .add (.t 83) (.c (.int .i64 1))⟩,
                 ⟨(some 83), none, .mv (.t 108)⟩] false)))))))
         (.seq
          (.region [
            ⟨(some 109), none, .mv (.t 3)⟩,
            ⟨(some 110), none, .nilck (.t 109)⟩,
            ⟨(some 111), none, .faddr 2 (.t 110)⟩,
            ⟨none, none, .store 1 (.t 111) (.c (.int .i64 0))⟩] false)
          (.seq
           (.region [
             ⟨(some 112), none, .mv (.t 3)⟩,
             ⟨(some 113), none, .bslice 9 1 1 [.str []] [(0, (.c (.str [125])))]⟩,
             ⟨(some 114), none, .call 122 [(.t 112), (.t 113)]⟩] false)
           (.seq
            (.region [
              ⟨(some 115), none, .mv (.t 3)⟩,
              ⟨(some 116), none, .nilck (.t 115)⟩,
              ⟨(some 117), none, .faddr 0 (.t 116)⟩,
              ⟨(some 118), none, .call 129 [(.t 117)]⟩,
              ⟨(some 2), none, .mv (.t 118)⟩] false)
            .ret))))))))))
def r52 : List ERes := [.t 2]
theorem c52 : chkF Tryz.prog Tryz.f52 1 e52 r52 = true := by kernel_rfl
def e63 : EC :=
  (.seq
   (.region [
     ⟨(some 4), none, .mv (.c (.bool false))⟩] false)
   (.seq
    (.seq
     (.region [
       ⟨(some 6), none, .mv (.t 0)⟩,
       ⟨(some 7), none, .len (.t 6)⟩,
       ⟨(some 8), none, .mv (.t 1)⟩,
       ⟨(some 9), none, .len (.t 8)⟩,
       ⟨(some 10), none, .bin .neq (.t 7) (.t 9)⟩] false)
     (.cond (.t 10)
      (.seq
       (.region [
         ⟨(some 4), none, .mv (.c (.bool false))⟩] false)
       .ret)
      .skip))
    (.seq
     (.seq
      (.region [
        ⟨(some 11), none, .mv (.t 0)⟩,
        ⟨(some 12), none, .len (.t 11)⟩,
        ⟨(some 13), none, .mv (.c (.int .i64 0))⟩] false)
      (.block 0
       (.loop
        (.seq
         (.region [
           ⟨(some 14), none, .bin .lss (.t 13) (.t 12)⟩] false)
         (.seq
          (.cond (.t 14)
           .skip
           (.exit 0))
          (.seq
           (.block 1
            (.seq
             (.region [
               ⟨(some 15), none, .mv (.t 13)⟩,
               ⟨(some 5), none, .mv (.t 15)⟩] false)
             (.seq
              (.region [
                ⟨(some 16), none, .mv (.t 0)⟩,
                ⟨(some 17), none, .mv (.t 5)⟩,
                ⟨(some 18), none, .iaddr 7 (.t 16) (.t 17)⟩,
                ⟨(some 19), none, .load true 7 (.t 18)⟩,
                ⟨(some 20), none, .mv (.t 1)⟩,
                ⟨(some 21), none, .mv (.t 5)⟩,
                ⟨(some 22), none, .iaddr 7 (.t 20) (.t 21)⟩,
                ⟨(some 23), none, .load true 7 (.t 22)⟩,
                ⟨(some 24), none, .eqA true 106 [.s, .i .i64, .i .i64, .i .i64, .i .i64, .i .i64, .s] (.t 19) (.t 23)⟩] true)
              (.cond (.t 24)
               (.seq
                (.region [
                  ⟨(some 4), none, .mv (.c (.bool false))⟩] false)
                .ret)
               .skip))))
           (.region [
             ⟨(some 25), none, .bin .add (.t 13) (.c (.int .i64 1))⟩,
             ⟨(some 13), none, .mv (.t 25)⟩] false)))))))
     (.seq
      (.region [
        ⟨(some 4), none, .mv (.c (.bool true))⟩] false)
      .ret))))
def r63 : List ERes := [.t 4]
theorem c63 : chkF Tryz.prog Tryz.f63 2 e63 r63 = true := by kernel_rfl
def e64 : EC :=
  (.seq
   (.region [
     ⟨(some 6), none, .mv (.c (.bool false))⟩] false)
   (.seq
    (.seq
     (.region [
       ⟨(some 10), none, .mv (.t 0)⟩,
       ⟨(some 11), none, .len (.t 10)⟩,
       ⟨(some 12), none, .mv (.t 1)⟩,
       ⟨(some 13), none, .len (.t 12)⟩,
       ⟨(some 14), none, .bin .neq (.t 11) (.t 13)⟩] false)
     (.cond (.t 14)
      (.seq
       (.region [
         ⟨(some 6), none, .mv (.c (.bool false))⟩] false)
       .ret)
      .skip))
    (.seq
     (.seq
      (.region [
        ⟨(some 15), none, .mv (.t 0)⟩,
        ⟨(some 16), none, .len (.t 15)⟩,
        ⟨(some 17), none, .mv (.c (.int .i64 0))⟩] false)
      (.block 0
       (.loop
        (.seq
         (.region [
           ⟨(some 18), none, .bin .lss (.t 17) (.t 16)⟩] false)
         (.seq
          (.cond (.t 18)
           .skip
           (.exit 0))
          (.seq
           (.block 1
            (.seq
             (.region [
               ⟨(some 19), none, .mv (.t 17)⟩,
               ⟨(some 20), none, .iaddr 4 (.t 15) (.t 17)⟩,
               ⟨(some 21), none, .load true 4 (.t 20)⟩,
               ⟨(some 8), none, .alloc 109 [.str [], .str [], .nilS, .nilS]⟩,
               ⟨(some 7), none, .mv (.t 19)⟩,
               ⟨none, none, .store 4 (.t 8) (.t 21)⟩] false)
             (.seq
              (.region [
                ⟨(some 22), none, .mv (.t 1)⟩,
                ⟨(some 23), none, .mv (.t 7)⟩,
                ⟨(some 24), none, .iaddr 4 (.t 22) (.t 23)⟩,
                ⟨(some 25), none, .load true 4 (.t 24)⟩,
                ⟨(some 9), none, .alloc 109 [.str [], .str [], .nilS, .nilS]⟩,
                ⟨none, none, .store 4 (.t 9) (.t 25)⟩] false)
              (.seq
               (.region [
                 ⟨(some 26), none, .mv (.t 2)⟩,
                 ⟨(some 27), none, .load true 4 (.t 8)⟩,
                 ⟨(some 28), none, .load true 4 (.t 9)⟩,
                 ⟨(some 29), none, .callv (.t 26) [(.t 27), (.t 28)]⟩,
                 ⟨(some 30), none, .not (.t 29)⟩] false)
               (.cond (.t 30)
                (.seq
                 (.region [
                   ⟨(some 6), none, .mv (.c (.bool false))⟩] false)
                 .ret)
                .skip)))))
           (.region [
             ⟨(some 31), none, .bin .add (.t 17) (.c (.int .i64 1))⟩,
             ⟨(some 17), none, .mv (.t 31)⟩] false)))))))
     (.seq
      (.region [
        ⟨(some 6), none, .mv (.c (.bool true))⟩] false)
      .ret))))
def r64 : List ERes := [.t 6]
theorem c64 : chkF Tryz.prog Tryz.f64 3 e64 r64 = true := by kernel_rfl
def e65 : EC :=
  (.seq
   (.region [
     ⟨(some 2), none, .box 109 (.t 0)⟩,
     ⟨(some 3), none, .box 109 (.t 1)⟩,
     ⟨(some 4), none, .mv (.c (.bool false))⟩] false)
   (.seq
    (.region [
      ⟨(some 5), none, .faddr 0 (.t 2)⟩,
      ⟨(some 6), none, .load false 1 (.t 5)⟩,
      ⟨(some 7), none, .faddr 0 (.t 3)⟩,
      ⟨(some 8), none, .load false 1 (.t 7)⟩,
      ⟨(some 9), none, .bin .eql (.t 6) (.t 8)⟩,
      ⟨(some 10), none, .mv (.t 9)⟩,
      ⟨(some 11), (some (10, true)), .faddr 1 (.t 2)⟩,
      ⟨(some 12), (some (10, true)), .load false 1 (.t 11)⟩,
      ⟨(some 13), (some (10, true)), .faddr 1 (.t 3)⟩,
      ⟨(some 14), (some (10, true)), .load false 1 (.t 13)⟩,
      ⟨(some 15), (some (10, true)), .bin .eql (.t 12) (.t 14)⟩,
      ⟨(some 16), none, .pick (.t 10) (.t 15) (.c (.bool false))⟩,
      ⟨(some 17), none, .mv (.t 16)⟩,
      ⟨(some 18), (some (17, true)), .faddr 2 (.t 2)⟩,
      ⟨(some 19), (some (17, true)), .load false 1 (.t 18)⟩,
      ⟨(some 20), (some (17, true)), .faddr 2 (.t 3)⟩,
      ⟨(some 21), (some (17, true)), .load false 1 (.t 20)⟩,
      ⟨(some 22), (some (17, true)), .call 66 [(.t 19), (.t 21)]⟩,
      ⟨(some 23), none, .pick (.t 17) (.t 22) (.c (.bool false))⟩,
      ⟨(some 24), none, .mv (.t 23)⟩,
      ⟨(some 25), (some (24, true)), .faddr 3 (.t 2)⟩,
      ⟨(some 26), (some (24, true)), .load false 1 (.t 25)⟩,
      ⟨(some 27), (some (24, true)), .faddr 3 (.t 3)⟩,
      ⟨(some 28), (some (24, true)), .load false 1 (.t 27)⟩,
      ⟨(some 29), (some (24, true)), .call 67 [(.t 26), (.t 28), (.c (.fn 68 []))]⟩,
      ⟨(some 30), none, .pick (.t 24) (.t 29) (.c (.bool false))⟩,
      ⟨(some 4), none, .mv (.t 30)⟩] false)
    .ret))
def r65 : List ERes := [.t 4]
theorem c65 : chkF Tryz.prog Tryz.f65 2 e65 r65 = true := by kernel_rfl
def e66 : EC :=
  (.seq
   (.region [
     ⟨(some 4), none, .mv (.c (.bool false))⟩] false)
   (.seq
    (.seq
     (.region [
       ⟨(some 6), none, .mv (.t 0)⟩,
       ⟨(some 7), none, .len (.t 6)⟩,
       ⟨(some 8), none, .mv (.t 1)⟩,
       ⟨(some 9), none, .len (.t 8)⟩,
       ⟨(some 10), none, .bin .neq (.t 7) (.t 9)⟩] false)
     (.cond (.t 10)
      (.seq
       (.region [
         ⟨(some 4), none, .mv (.c (.bool false))⟩] false)
       .ret)
      .skip))
    (.seq
     (.seq
      (.region [
        ⟨(some 11), none, .mv (.t 0)⟩,
        ⟨(some 12), none, .len (.t 11)⟩,
        ⟨(some 13), none, .mv (.c (.int .i64 0))⟩] false)
      (.block 0
       (.loop
        (.seq
         (.region [
           ⟨(some 14), none, .bin .lss (.t 13) (.t 12)⟩] false)
         (.seq
          (.cond (.t 14)
           .skip
           (.exit 0))
          (.seq
           (.block 1
            (.seq
             (.region [
               ⟨(some 15), none, .mv (.t 13)⟩,
               ⟨(some 5), none, .mv (.t 15)⟩] false)
             (.seq
              (.region [
                ⟨(some 16), none, .mv (.t 0)⟩,
                ⟨(some 17), none, .mv (.t 5)⟩,
                ⟨(some 18), none, .iaddr 1 (.t 16) (.t 17)⟩,
                ⟨(some 19), none, .load false 1 (.t 18)⟩,
                ⟨(some 20), none, .mv (.t 1)⟩,
                ⟨(some 21), none, .mv (.t 5)⟩,
                ⟨(some 22), none, .iaddr 1 (.t 20) (.t 21)⟩,
                ⟨(some 23), none, .load false 1 (.t 22)⟩,
                ⟨(some 24), none, .bin .neq (.t 19) (.t 23)⟩] true)
              (.cond (.t 24)
               (.seq
                (.region [
                  ⟨(some 4), none, .mv (.c (.bool false))⟩] false)
                .ret)
               .skip))))
           (.region [
             ⟨(some 25), none, .bin .add (.t 13) (.c (.int .i64 1))⟩,
             ⟨(some 13), none, .mv (.t 25)⟩] false)))))))
     (.seq
      (.region [
        ⟨(some 4), none, .mv (.c (.bool true))⟩] false)
      .ret))))
def r66 : List ERes := [.t 4]
theorem c66 : chkF Tryz.prog Tryz.f66 2 e66 r66 = true := by kernel_rfl
def e67 : EC :=
  (.seq
   (.region [
     ⟨(some 6), none, .mv (.c (.bool false))⟩] false)
   (.seq
    (.seq
     (.region [
       ⟨(some 10), none, .mv (.t 0)⟩,
       ⟨(some 11), none, .len (.t 10)⟩,
       ⟨(some 12), none, .mv (.t 1)⟩,
       ⟨(some 13), none, .len (.t 12)⟩,
       ⟨(some 14), none, .bin .neq (.t 11) (.t 13)⟩] false)
     (.cond (.t 14)
      (.seq
       (.region [
         ⟨(some 6), none, .mv (.c (.bool false))⟩] false)
       .ret)
      .skip))
    (.seq
     (.seq
      (.region [
        ⟨(some 15), none, .mv (.t 0)⟩,
        ⟨(some 16), none, .len (.t 15)⟩,
        ⟨(some 17), none, .mv (.c (.int .i64 0))⟩] false)
      (.block 0
       (.loop
        (.seq
         (.region [
           ⟨(some 18), none, .bin .lss (.t 17) (.t 16)⟩] false)
         (.seq
          (.cond (.t 18)
           .skip
           (.exit 0))
          (.seq
           (.block 1
            (.seq
             (.region [
               ⟨(some 19), none, .mv (.t 17)⟩,
               ⟨(some 20), none, .iaddr 11 (.t 15) (.t 17)⟩,
               ⟨(some 21), none, .load true 11 (.t 20)⟩,
               ⟨(some 8), none, .alloc 133 [.int .i64 0, .str [], .int .i64 0, .str [], .str [], .str [], .int .i64 0, .nilS, .int .i64 0, .nilS, .nilS]⟩,
               ⟨(some 7), none, .mv (.t 19)⟩,
               ⟨none, none, .store 11 (.t 8) (.t 21)⟩] false)
             (.seq
              (.region [
                ⟨(some 22), none, .mv (.t 1)⟩,
                ⟨(some 23), none, .mv (.t 7)⟩,
                ⟨(some 24), none, .iaddr 11 (.t 22) (.t 23)⟩,
                ⟨(some 25), none, .load true 11 (.t 24)⟩,
                ⟨(some 9), none, .alloc 133 [.int .i64 0, .str [], .int .i64 0, .str [], .str [], .str [], .int .i64 0, .nilS, .int .i64 0, .nilS, .nilS]⟩,
                ⟨none, none, .store 11 (.t 9) (.t 25)⟩] false)
              (.seq
               (.region [
                 ⟨(some 26), none, .mv (.t 2)⟩,
                 ⟨(some 27), none, .load true 11 (.t 8)⟩,
                 ⟨(some 28), none, .load true 11 (.t 9)⟩,
                 ⟨(some 29), none, .callv (.t 26) [(.t 27), (.t 28)]⟩,
                 ⟨(some 30), none, .not (.t 29)⟩] false)
               (.cond (.t 30)
                (.seq
                 (.region [
                   ⟨(some 6), none, .mv (.c (.bool false))⟩] false)
                 .ret)
                .skip)))))
           (.region [
             ⟨(some 31), none, .bin .add (.t 17) (.c (.int .i64 1))⟩,
             ⟨(some 17), none, .mv (.t 31)⟩] false)))))))
     (.seq
      (.region [
        ⟨(some 6), none, .mv (.c (.bool true))⟩] false)
      .ret))))
def r67 : List ERes := [.t 6]
theorem c67 : chkF Tryz.prog Tryz.f67 3 e67 r67 = true := by kernel_rfl
def e68 : EC :=
  (.seq
   (.region [
     ⟨(some 2), none, .box 133 (.t 0)⟩,
     ⟨(some 3), none, .box 133 (.t 1)⟩,
     ⟨(some 4), none, .mv (.c (.bool false))⟩] false)
   (.seq
    (.region [
      ⟨(some 5), none, .faddr 0 (.t 2)⟩,
      ⟨(some 6), none, .load false 1 (.t 5)⟩,
      ⟨(some 7), none, .faddr 0 (.t 3)⟩,
      ⟨(some 8), none, .load false 1 (.t 7)⟩,
      ⟨(some 9), none, .bin .eql (.t 6) (.t 8)⟩,
      ⟨(some 10), none, .mv (.t 9)⟩,
      ⟨(some 11), (some (10, true)), .faddr 1 (.t 2)⟩,
      ⟨(some 12), (some (10, true)), .load false 1 (.t 11)⟩,
      ⟨(some 13), (some (10, true)), .faddr 1 (.t 3)⟩,
      ⟨(some 14), (some (10, true)), .load false 1 (.t 13)⟩,
      ⟨(some 15), (some (10, true)), .bin .eql (.t 12) (.t 14)⟩,
      ⟨(some 16), none, .pick (.t 10) (.t 15) (.c (.bool false))⟩,
      ⟨(some 17), none, .mv (.t 16)⟩,
      ⟨(some 18), (some (17, true)), .faddr 8 (.t 2)⟩,
      ⟨(some 19), (some (17, true)), .load false 1 (.t 18)⟩,
      ⟨(some 20), (some (17, true)), .faddr 8 (.t 3)⟩,
      ⟨(some 21), (some (17, true)), .load false 1 (.t 20)⟩,
      ⟨(some 22), (some (17, true)), .bin .eql (.t 19) (.t 21)⟩,
      ⟨(some 23), none, .pick (.t 17) (.t 22) (.c (.bool false))⟩,
      ⟨(some 24), none, .mv (.t 23)⟩,
      ⟨(some 25), (some (24, true)), .faddr 2 (.t 2)⟩,
      ⟨(some 26), (some (24, true)), .load true 6 (.t 25)⟩,
      ⟨(some 27), (some (24, true)), .faddr 2 (.t 3)⟩,
      ⟨(some 28), (some (24, true)), .load true 6 (.t 27)⟩,
      ⟨(some 29), (some (24, true)), .call 72 [(.t 26), (.t 28)]⟩,
      ⟨(some 30), none, .pick (.t 24) (.t 29) (.c (.bool false))⟩,
      ⟨(some 31), none, .mv (.t 30)⟩,
      ⟨(some 32), (some (31, true)), .faddr 9 (.t 2)⟩,
      ⟨(some 33), (some (31, true)), .load false 1 (.t 32)⟩,
      ⟨(some 34), (some (31, true)), .faddr 9 (.t 3)⟩,
      ⟨(some 35), (some (31, true)), .load false 1 (.t 34)⟩,
      ⟨(some 36), (some (31, true)), .call 67 [(.t 33), (.t 35), (.c (.fn 68 []))]⟩,
      ⟨(some 37), none, .pick (.t 31) (.t 36) (.c (.bool false))⟩,
      ⟨(some 38), none, .mv (.t 37)⟩,
      ⟨(some 39), (some (38, true)), .faddr 10 (.t 2)⟩,
      ⟨(some 40), (some (38, true)), .load false 1 (.t 39)⟩,
      ⟨(some 41), (some (38, true)), .faddr 10 (.t 3)⟩,
      ⟨(some 42), (some (38, true)), .load false 1 (.t 41)⟩,
      ⟨(some 43), (some (38, true)), .call 67 [(.t 40), (.t 42), (.c (.fn 68 []))]⟩,
      ⟨(some 44), none, .pick (.t 38) (.t 43) (.c (.bool false))⟩,
      ⟨(some 4), none, .mv (.t 44)⟩] false)
    .ret))
def r68 : List ERes := [.t 4]
theorem c68 : chkF Tryz.prog Tryz.f68 2 e68 r68 = true := by kernel_rfl
def e69 : EC :=
  (.seq
   (.region [
     ⟨(some 6), none, .mv (.c (.bool false))⟩] false)
   (.seq
    (.seq
     (.region [
       ⟨(some 10), none, .mv (.t 0)⟩,
       ⟨(some 11), none, .len (.t 10)⟩,
       ⟨(some 12), none, .mv (.t 1)⟩,
       ⟨(some 13), none, .len (.t 12)⟩,
       ⟨(some 14), none, .bin .neq (.t 11) (.t 13)⟩] false)
     (.cond (.t 14)
      (.seq
       (.region [
         ⟨(some 6), none, .mv (.c (.bool false))⟩] false)
       .ret)
      .skip))
    (.seq
     (.seq
      (.region [
        ⟨(some 15), none, .mv (.t 0)⟩,
        ⟨(some 16), none, .len (.t 15)⟩,
        ⟨(some 17), none, .mv (.c (.int .i64 0))⟩] false)
      (.block 0
       (.loop
        (.seq
         (.region [
           ⟨(some 18), none, .bin .lss (.t 17) (.t 16)⟩] false)
         (.seq
          (.cond (.t 18)
           .skip
           (.exit 0))
          (.seq
           (.block 1
            (.seq
             (.region [
               ⟨(some 19), none, .mv (.t 17)⟩,
               ⟨(some 20), none, .iaddr 4 (.t 15) (.t 17)⟩,
               ⟨(some 21), none, .load true 4 (.t 20)⟩,
               ⟨(some 8), none, .alloc 74 [.str [], .str [], .nilS, .nilS]⟩,
               ⟨(some 7), none, .mv (.t 19)⟩,
               ⟨none, none, .store 4 (.t 8) (.t 21)⟩] false)
             (.seq
              (.region [
                ⟨(some 22), none, .mv (.t 1)⟩,
                ⟨(some 23), none, .mv (.t 7)⟩,
                ⟨(some 24), none, .iaddr 4 (.t 22) (.t 23)⟩,
                ⟨(some 25), none, .load true 4 (.t 24)⟩,
                ⟨(some 9), none, .alloc 74 [.str [], .str [], .nilS, .nilS]⟩,
                ⟨none, none, .store 4 (.t 9) (.t 25)⟩] false)
              (.seq
               (.region [
                 ⟨(some 26), none, .mv (.t 2)⟩,
                 ⟨(some 27), none, .load true 4 (.t 8)⟩,
                 ⟨(some 28), none, .load true 4 (.t 9)⟩,
                 ⟨(some 29), none, .callv (.t 26) [(.t 27), (.t 28)]⟩,
                 ⟨(some 30), none, .not (.t 29)⟩] false)
               (.cond (.t 30)
                (.seq
                 (.region [
                   ⟨(some 6), none, .mv (.c (.bool false))⟩] false)
                 .ret)
                .skip)))))
           (.region [
             ⟨(some 31), none, .bin .add (.t 17) (.c (.int .i64 1))⟩,
             ⟨(some 17), none, .mv (.t 31)⟩] false)))))))
     (.seq
      (.region [
        ⟨(some 6), none, .mv (.c (.bool true))⟩] false)
      .ret))))
def r69 : List ERes := [.t 6]
theorem c69 : chkF Tryz.prog Tryz.f69 3 e69 r69 = true := by kernel_rfl
def e70 : EC :=
  (.seq
   (.region [
     ⟨(some 2), none, .box 74 (.t 0)⟩,
     ⟨(some 3), none, .box 74 (.t 1)⟩,
     ⟨(some 4), none, .mv (.c (.bool false))⟩] false)
   (.seq
    (.region [
      ⟨(some 5), none, .faddr 0 (.t 2)⟩,
      ⟨(some 6), none, .load false 1 (.t 5)⟩,
      ⟨(some 7), none, .faddr 0 (.t 3)⟩,
      ⟨(some 8), none, .load false 1 (.t 7)⟩,
      ⟨(some 9), none, .bin .eql (.t 6) (.t 8)⟩,
      ⟨(some 10), none, .mv (.t 9)⟩,
      ⟨(some 11), (some (10, true)), .faddr 1 (.t 2)⟩,
      ⟨(some 12), (some (10, true)), .load false 1 (.t 11)⟩,
      ⟨(some 13), (some (10, true)), .faddr 1 (.t 3)⟩,
      ⟨(some 14), (some (10, true)), .load false 1 (.t 13)⟩,
      ⟨(some 15), (some (10, true)), .bin .eql (.t 12) (.t 14)⟩,
      ⟨(some 16), none, .pick (.t 10) (.t 15) (.c (.bool false))⟩,
      ⟨(some 17), none, .mv (.t 16)⟩,
      ⟨(some 18), (some (17, true)), .faddr 2 (.t 2)⟩,
      ⟨(some 19), (some (17, true)), .load false 1 (.t 18)⟩,
      ⟨(some 20), (some (17, true)), .faddr 2 (.t 3)⟩,
      ⟨(some 21), (some (17, true)), .load false 1 (.t 20)⟩,
      ⟨(some 22), (some (17, true)), .call 71 [(.t 19), (.t 21), (.c (.fn 72 []))]⟩,
      ⟨(some 23), none, .pick (.t 17) (.t 22) (.c (.bool false))⟩,
      ⟨(some 24), none, .mv (.t 23)⟩,
      ⟨(some 25), (some (24, true)), .faddr 3 (.t 2)⟩,
      ⟨(some 26), (some (24, true)), .load false 1 (.t 25)⟩,
      ⟨(some 27), (some (24, true)), .faddr 3 (.t 3)⟩,
      ⟨(some 28), (some (24, true)), .load false 1 (.t 27)⟩,
      ⟨(some 29), (some (24, true)), .call 71 [(.t 26), (.t 28), (.c (.fn 72 []))]⟩,
      ⟨(some 30), none, .pick (.t 24) (.t 29) (.c (.bool false))⟩,
      ⟨(some 4), none, .mv (.t 30)⟩] false)
    .ret))
def r70 : List ERes := [.t 4]
theorem c70 : chkF Tryz.prog Tryz.f70 2 e70 r70 = true := by kernel_rfl
def e71 : EC :=
  (.seq
   (.region [
     ⟨(some 6), none, .mv (.c (.bool false))⟩] false)
   (.seq
    (.seq
     (.region [
       ⟨(some 10), none, .mv (.t 0)⟩,
       ⟨(some 11), none, .len (.t 10)⟩,
       ⟨(some 12), none, .mv (.t 1)⟩,
       ⟨(some 13), none, .len (.t 12)⟩,
       ⟨(some 14), none, .bin .neq (.t 11) (.t 13)⟩] false)
     (.cond (.t 14)
      (.seq
       (.region [
         ⟨(some 6), none, .mv (.c (.bool false))⟩] false)
       .ret)
      .skip))
    (.seq
     (.seq
      (.region [
        ⟨(some 15), none, .mv (.t 0)⟩,
        ⟨(some 16), none, .len (.t 15)⟩,
        ⟨(some 17), none, .mv (.c (.int .i64 0))⟩] false)
      (.block 0
       (.loop
        (.seq
         (.region [
           ⟨(some 18), none, .bin .lss (.t 17) (.t 16)⟩] false)
         (.seq
          (.cond (.t 18)
           .skip
           (.exit 0))
          (.seq
           (.block 1
            (.seq
             (.region [
               ⟨(some 19), none, .mv (.t 17)⟩,
               ⟨(some 20), none, .iaddr 6 (.t 15) (.t 17)⟩,
               ⟨(some 21), none, .load true 6 (.t 20)⟩,
               ⟨(some 8), none, .alloc 131 [.int .i64 0, .str [], .str [], .str [], .int .i64 0, .nilS]⟩,
               ⟨(some 7), none, .mv (.t 19)⟩,
               ⟨none, none, .store 6 (.t 8) (.t 21)⟩] false)
             (.seq
              (.region [
                ⟨(some 22), none, .mv (.t 1)⟩,
                ⟨(some 23), none, .mv (.t 7)⟩,
                ⟨(some 24), none, .iaddr 6 (.t 22) (.t 23)⟩,
                ⟨(some 25), none, .load true 6 (.t 24)⟩,
                ⟨(some 9), none, .alloc 131 [.int .i64 0, .str [], .str [], .str [], .int .i64 0, .nilS]⟩,
                ⟨none, none, .store 6 (.t 9) (.t 25)⟩] false)
              (.seq
               (.region [
                 ⟨(some 26), none, .mv (.t 2)⟩,
                 ⟨(some 27), none, .load true 6 (.t 8)⟩,
                 ⟨(some 28), none, .load true 6 (.t 9)⟩,
                 ⟨(some 29), none, .callv (.t 26) [(.t 27), (.t 28)]⟩,
                 ⟨(some 30), none, .not (.t 29)⟩] false)
               (.cond (.t 30)
                (.seq
                 (.region [
                   ⟨(some 6), none, .mv (.c (.bool false))⟩] false)
                 .ret)
                .skip)))))
           (.region [
             ⟨(some 31), none, .bin .add (.t 17) (.c (.int .i64 1))⟩,
             ⟨(some 17), none, .mv (.t 31)⟩] false)))))))
     (.seq
      (.region [
        ⟨(some 6), none, .mv (.c (.bool true))⟩] false)
      .ret))))
def r71 : List ERes := [.t 6]
theorem c71 : chkF Tryz.prog Tryz.f71 3 e71 r71 = true := by kernel_rfl
def e72 : EC :=
  (.seq
   (.region [
     ⟨(some 2), none, .box 131 (.t 0)⟩,
     ⟨(some 3), none, .box 131 (.t 1)⟩,
     ⟨(some 4), none, .mv (.c (.bool false))⟩] false)
   (.seq
    (.region [
      ⟨(some 5), none, .faddr 0 (.t 2)⟩,
      ⟨(some 6), none, .load false 1 (.t 5)⟩,
      ⟨(some 7), none, .faddr 0 (.t 3)⟩,
      ⟨(some 8), none, .load false 1 (.t 7)⟩,
      ⟨(some 9), none, .bin .eql (.t 6) (.t 8)⟩,
      ⟨(some 10), none, .mv (.t 9)⟩,
      ⟨(some 11), (some (10, true)), .faddr 1 (.t 2)⟩,
      ⟨(some 12), (some (10, true)), .load false 1 (.t 11)⟩,
      ⟨(some 13), (some (10, true)), .faddr 1 (.t 3)⟩,
      ⟨(some 14), (some (10, true)), .load false 1 (.t 13)⟩,
      ⟨(some 15), (some (10, true)), .bin .eql (.t 12) (.t 14)⟩,
      ⟨(some 16), none, .pick (.t 10) (.t 15) (.c (.bool false))⟩,
      ⟨(some 17), none, .mv (.t 16)⟩,
      ⟨(some 18), (some (17, true)), .faddr 2 (.t 2)⟩,
      ⟨(some 19), (some (17, true)), .load false 1 (.t 18)⟩,
      ⟨(some 20), (some (17, true)), .faddr 2 (.t 3)⟩,
      ⟨(some 21), (some (17, true)), .load false 1 (.t 20)⟩,
      ⟨(some 22), (some (17, true)), .bin .eql (.t 19) (.t 21)⟩,
      ⟨(some 23), none, .pick (.t 17) (.t 22) (.c (.bool false))⟩,
      ⟨(some 24), none, .mv (.t 23)⟩,
      ⟨(some 25), (some (24, true)), .faddr 3 (.t 2)⟩,
      ⟨(some 26), (some (24, true)), .load false 1 (.t 25)⟩,
      ⟨(some 27), (some (24, true)), .faddr 3 (.t 3)⟩,
      ⟨(some 28), (some (24, true)), .load false 1 (.t 27)⟩,
      ⟨(some 29), (some (24, true)), .bin .eql (.t 26) (.t 28)⟩,
      ⟨(some 30), none, .pick (.t 24) (.t 29) (.c (.bool false))⟩,
      ⟨(some 31), none, .mv (.t 30)⟩,
      ⟨(some 32), (some (31, true)), .faddr 4 (.t 2)⟩,
      ⟨(some 33), (some (31, true)), .load false 1 (.t 32)⟩,
      ⟨(some 34), (some (31, true)), .faddr 4 (.t 3)⟩,
      ⟨(some 35), (some (31, true)), .load false 1 (.t 34)⟩,
      ⟨(some 36), (some (31, true)), .bin .eql (.t 33) (.t 35)⟩,
      ⟨(some 37), none, .pick (.t 31) (.t 36) (.c (.bool false))⟩,
      ⟨(some 38), none, .mv (.t 37)⟩,
      ⟨(some 39), (some (38, true)), .faddr 5 (.t 2)⟩,
      ⟨(some 40), (some (38, true)), .load false 1 (.t 39)⟩,
      ⟨(some 41), (some (38, true)), .faddr 5 (.t 3)⟩,
      ⟨(some 42), (some (38, true)), .load false 1 (.t 41)⟩,
      ⟨(some 43), (some (38, true)), .call 71 [(.t 40), (.t 42), (.c (.fn 72 []))]⟩,
      ⟨(some 44), none, .pick (.t 38) (.t 43) (.c (.bool false))⟩,
      ⟨(some 4), none, .mv (.t 44)⟩] false)
    .ret))
def r72 : List ERes := [.t 4]
theorem c72 : chkF Tryz.prog Tryz.f72 2 e72 r72 = true := by kernel_rfl
def e78 : EC :=
  (.block 0
   (.loop
    (.seq
     (.seq
      (.region [
        ⟨(some 4), none, .mv (.t 0)⟩,
        ⟨(some 5), none, .nilck (.t 4)⟩,
        ⟨(some 6), none, .faddr 1 (.t 5)⟩,
        ⟨(some 7), none, .load false 1 (.t 6)⟩,
        ⟨(some 8), none, .mv (.t 0)⟩,
        ⟨(some 9), none, .nilck (.t 8)⟩,
        ⟨(some 10), none, .faddr 0 (.t 9)⟩,
        ⟨(some 11), none, .load false 1 (.t 10)⟩,
        ⟨(some 12), none, .lenS (.t 11)⟩,
        ⟨(some 13), none, .bin .lss (.t 7) (.t 12)⟩] true)
      (.cond (.t 13)
       .skip
       (.exit 0)))
     (.block 1
      (.seq
       (.region [
         ⟨(some 14), none, .mv (.t 0)⟩,
         ⟨(some 15), none, .nilck (.t 14)⟩,
         ⟨(some 16), none, .faddr 0 (.t 15)⟩,
         ⟨(some 17), none, .load false 1 (.t 16)⟩,
         ⟨(some 18), none, .mv (.t 0)⟩,
         ⟨(some 19), none, .nilck (.t 18)⟩,
         ⟨(some 20), none, .faddr 1 (.t 19)⟩,
         ⟨(some 21), none, .load false 1 (.t 20)⟩,
         ⟨(some 22), none, .slS (.t 17) (some (.t 21)) none⟩,
         ⟨(some 2), none, .mv (.t 22)⟩] true)
       (.block 2
        (.seq
         (.region [
           ⟨(some 24), none, .mv (.t 2)⟩,
           ⟨(some 25), none, .idxS (.t 24) (.c (.int .i64 0))⟩,
           ⟨(some 26), none, .conv .i32 (.t 25)⟩,
           ⟨(some 27), none, .call 144 [(.c (.str [32, 9, 10, 13])), (.t 26)]⟩,
           ⟨(some 23), none, .mv (.t 27)⟩] false)
         (.cond (.t 23)
          (.region [
            ⟨(some 28), none, .mv (.t 0)⟩,
            ⟨(some 29), none, .nilck (.t 28)⟩,
            ⟨(some 30), none, .faddr 1 (.t 29)⟩,
            ⟨(some 31), none, .load false 1 (.t 30)⟩,
            ⟨(some 32), none, .bin .add (.t 31) (.c (.int .i64 1))⟩,
            ⟨(some 33), none, .nilck (.t 28)⟩,
            ⟨(some 34), none, .faddr 1 (.t 33)⟩,
            ⟨none, none, .store 1 (.t 34) (.t 32)⟩] false)
          (.seq
           (.region [
             ⟨(some 36), none, .mv (.t 2)⟩,
             ⟨(some 37), none, .call 145 [(.t 36), (.c (.str [47, 47]))]⟩,
             ⟨(some 35), none, .mv (.t 37)⟩] false)
           (.cond (.t 35)
            (.seq
             (.region [
               ⟨(some 38), none, .mv (.t 2)⟩,
               ⟨(some 39), none, .call 146 [(.t 38), (.c (.int .u8 10))]⟩,
               ⟨(some 3), none, .mv (.t 39)⟩] false)
             (.seq
              (.seq
               (.region [
                 ⟨(some 40), none, .mv (.t 3)⟩,
                 ⟨(some 41), none, .bin .lss (.t 40) (.c (.int .i64 0))⟩] false)
               (.cond (.t 41)
                (.region [
                  ⟨(some 42), none, .mv (.t 2)⟩,
                  ⟨(some 43), none, .lenS (.t 42)⟩,
                  ⟨(some 44), none, .bin .sub (.t 43) (.c (.int .i64 1))⟩,
                  ⟨(some 3), none, .mv (.t 44)⟩] false)
                .skip))
              (.region [
                ⟨(some 45), none, .mv (.t 0)⟩,
                ⟨(some 46), none, .nilck (.t 45)⟩,
                ⟨(some 47), none, .faddr 1 (.t 46)⟩,
                ⟨(some 48), none, .load false 1 (.t 47)⟩,
                ⟨(some 49), none, .mv (.t 3)⟩,
                ⟨(some 50), none, .bin .add (.t 49) (.c (.int .i64 1))⟩,
                ⟨(some 51), none, .bin .add (.t 48) (.t 50)⟩,
                ⟨(some 52), none, .nilck (.t 45)⟩,
                ⟨(some 53), none, .faddr 1 (.t 52)⟩,
                ⟨none, none, .store 1 (.t 53) (.t 51)⟩] false)))
            .ret))))))))))
def r78 : List ERes := []
theorem c78 : chkF Tryz.prog Tryz.f78 1 e78 r78 = true := by kernel_rfl
def e79 : EC :=
  (.seq
   (.region [
     ⟨(some 2), none, .alloc 152 [.int .i64 0, .str [], .int .i64 0, .int .i64 0]⟩,
     ⟨(some 3), none, .mv (.c (.int .i64 0))⟩] false)
   (.seq
    (.seq
     (.region [
       ⟨(some 7), none, .build [.str [], .str [], .str [], .str [], .str [], .str [], .str [], .str []] [(0, 1, (.c (.str [45, 62]))), (1, 1, (.c (.str [46, 46]))), (2, 1, (.c (.str [60, 61]))), (3, 1, (.c (.str [62, 61]))), (4, 1, (.c (.str [61, 61]))), (5, 1, (.c (.str [33, 61]))), (6, 1, (.c (.str [38, 38]))), (7, 1, (.c (.str [124, 124])))]⟩,
       ⟨(some 8), none, .mv (.c (.int .i64 0))⟩] false)
     (.block 0
      (.loop
       (.seq
        (.region [
          ⟨(some 9), none, .bin .lss (.t 8) (.c (.int .i64 8))⟩] false)
        (.seq
         (.cond (.t 9)
          .skip
          (.exit 0))
         (.seq
          (.block 1
           (.seq
            (.region [
              ⟨(some 10), none, .idxA false 8 1 (.t 7) (.t 8)⟩,
              ⟨(some 5), none, .mv (.t 10)⟩] false)
            (.seq
             (.region [
               ⟨(some 11), none, .mv (.t 0)⟩,
               ⟨(some 12), none, .nilck (.t 11)⟩,
               ⟨(some 13), none, .faddr 0 (.t 12)⟩,
               ⟨(some 14), none, .load false 1 (.t 13)⟩,
               ⟨(some 15), none, .mv (.t 0)⟩,
               ⟨(some 16), none, .nilck (.t 15)⟩,
               ⟨(some 17), none, .faddr 1 (.t 16)⟩,
               ⟨(some 18), none, .load false 1 (.t 17)⟩,
               ⟨(some 19), none, .slS (.t 14) (some (.t 18)) none⟩,
               ⟨(some 20), none, .mv (.t 5)⟩,
               ⟨(some 21), none, .pcall 145 [(.t 19), (.t 20)]⟩] true)
             (.cond (.t 21)
              (.seq
               (.region [
                 ⟨(some 22), none, .mv (.t 0)⟩,
                 ⟨(some 23), none, .nilck (.t 22)⟩,
                 ⟨(some 24), none, .faddr 1 (.t 23)⟩,
                 ⟨(some 25), none, .load false 1 (.t 24)⟩,
                 ⟨(some 26), none, .bin .add (.t 25) (.c (.int .i64 2))⟩,
                 ⟨(some 27), none, .nilck (.t 22)⟩,
                 ⟨(some 28), none, .faddr 1 (.t 27)⟩,
                 ⟨none, none, .store 1 (.t 28) (.t 26)⟩] false)
               (.seq
                (.region [
                  ⟨(some 29), none, .mv (.t 5)⟩,
                  ⟨(some 30), none, .build [.int .i64 0, .str [], .int .i64 0, .int .i64 0] [(0, 1, (.c (.int .i64 4))), (1, 1, (.t 29))]⟩,
                  ⟨none, none, .store 4 (.t 2) (.t 30)⟩,
                  ⟨(some 3), none, .mv (.c (.int .i64 0))⟩] false)
                .ret))
              .skip))))
          (.region [
            ⟨(some 31), none, .bin .add (.t 8) (.c (.int .i64 1))⟩,
            ⟨(some 8), none, .mv (.t 31)⟩] false)))))))
    (.seq
     (.region [
       ⟨(some 32), none, .mv (.t 0)⟩,
       ⟨(some 33), none, .nilck (.t 32)⟩,
       ⟨(some 34), none, .faddr 0 (.t 33)⟩,
       ⟨(some 35), none, .load false 1 (.t 34)⟩,
       ⟨(some 36), none, .mv (.t 0)⟩,
       ⟨(some 37), none, .nilck (.t 36)⟩,
       ⟨(some 38), none, .faddr 1 (.t 37)⟩,
       ⟨(some 39), none, .load false 1 (.t 38)⟩,
       ⟨(some 40), none, .mv (.t 0)⟩,
       ⟨(some 41), none, .nilck (.t 40)⟩,
       ⟨(some 42), none, .faddr 1 (.t 41)⟩,
       ⟨(some 43), none, .load false 1 (.t 42)⟩,
       ⟨(some 44), none, .bin .add (.t 43) (.c (.int .i64 1))⟩,
       ⟨(some 45), none, .slS (.t 35) (some (.t 39)) (some (.t 44))⟩,
       ⟨(some 6), none, .mv (.t 45)⟩] true)
     (.seq
      (.seq
       (.region [
         ⟨(some 46), none, .mv (.t 6)⟩,
         ⟨(some 47), none, .call 147 [(.c (.str [40, 41, 123, 125, 44, 59, 58, 46, 43, 45, 42, 47, 37, 60, 62, 61, 33])), (.t 46)]⟩,
         ⟨(some 48), none, .not (.t 47)⟩] false)
       (.cond (.t 48)
        (.seq
         (.region [
           ⟨(some 49), none, .build [.int .i64 0, .str [], .int .i64 0, .int .i64 0] []⟩,
           ⟨none, none, .store 4 (.t 2) (.t 49)⟩,
           ⟨(some 3), none, .mv (.c (.int .i64 3))⟩] false)
         .ret)
        .skip))
      (.seq
       (.region [
         ⟨(some 50), none, .mv (.t 0)⟩,
         ⟨(some 51), none, .nilck (.t 50)⟩,
         ⟨(some 52), none, .faddr 1 (.t 51)⟩,
         ⟨(some 53), none, .load false 1 (.t 52)⟩,
         ⟨(some 54), none, .bin .add (.t 53) (.c (.int .i64 1))⟩,
         ⟨(some 55), none, .nilck (.t 50)⟩,
         ⟨(some 56), none, .faddr 1 (.t 55)⟩,
         ⟨none, none, .store 1 (.t 56) (.t 54)⟩] false)
       (.seq
        (.region [
          ⟨(some 57), none, .mv (.t 6)⟩,
          ⟨(some 58), none, .build [.int .i64 0, .str [], .int .i64 0, .int .i64 0] [(0, 1, (.c (.int .i64 4))), (1, 1, (.t 57))]⟩,
          ⟨none, none, .store 4 (.t 2) (.t 58)⟩,
          ⟨(some 3), none, .mv (.c (.int .i64 0))⟩] false)
        .ret))))))
def r79 : List ERes := [.cell true 4 2, .t 3]
theorem c79 : chkF Tryz.prog Tryz.f79 1 e79 r79 = true := by kernel_rfl
def e80 : EC :=
  (.seq
   (.region [
     ⟨(some 2), none, .mv (.c (.bool false))⟩] false)
   (.seq
    (.region [
      ⟨(some 3), none, .mv (.t 0)⟩,
      ⟨(some 4), none, .bin .leq (.c (.int .u8 97)) (.t 3)⟩,
      ⟨(some 5), none, .mv (.t 4)⟩,
      ⟨(some 6), (some (5, true)), .mv (.t 0)⟩,
      ⟨(some 7), (some (5, true)), .bin .leq (.t 6) (.c (.int .u8 122))⟩,
      ⟨(some 8), none, .pick (.t 5) (.t 7) (.c (.bool false))⟩,
      ⟨(some 9), none, .mv (.t 8)⟩,
      ⟨(some 10), (some (9, false)), .mv (.t 0)⟩,
      ⟨(some 11), (some (9, false)), .bin .leq (.c (.int .u8 65)) (.t 10)⟩,
      ⟨(some 12), (some (9, false)), .mv (.t 11)⟩,
      ⟨(some 13), (some (12, true)), .mv (.t 0)⟩,
      ⟨(some 14), (some (12, true)), .bin .leq (.t 13) (.c (.int .u8 90))⟩,
      ⟨(some 15), (some (9, false)), .pick (.t 12) (.t 14) (.c (.bool false))⟩,
      ⟨(some 16), none, .pick (.t 9) (.c (.bool true)) (.t 15)⟩,
      ⟨(some 2), none, .mv (.t 16)⟩] false)
    .ret))
def r80 : List ERes := [.t 2]
theorem c80 : chkF Tryz.prog Tryz.f80 1 e80 r80 = true := by kernel_rfl
def e81 : EC :=
  (.seq
   (.region [
     ⟨(some 2), none, .alloc 152 [.int .i64 0, .str [], .int .i64 0, .int .i64 0]⟩,
     ⟨(some 3), none, .mv (.c (.int .i64 0))⟩] false)
   (.seq
    (.region [
      ⟨(some 5), none, .mv (.t 0)⟩,
      ⟨(some 6), none, .call 148 [(.t 5), (.c (.fn 149 []))]⟩,
      ⟨(some 4), none, .mv (.t 6)⟩] false)
    (.seq
     (.seq
      (.region [
        ⟨(some 7), none, .mv (.t 4)⟩,
        ⟨(some 8), none, .lenS (.t 7)⟩,
        ⟨(some 9), none, .bin .gtr (.t 8) (.c (.int .i64 16))⟩] false)
      (.cond (.t 9)
       (.seq
        (.region [
          ⟨(some 10), none, .build [.int .i64 0, .str [], .int .i64 0, .int .i64 0] []⟩,
          ⟨none, none, .store 4 (.t 2) (.t 10)⟩,
          ⟨(some 3), none, .mv (.c (.int .i64 6))⟩] false)
        .ret)
       .skip))
     (.seq
      (.region [
        ⟨(some 11), none, .mv (.t 4)⟩,
        ⟨(some 12), none, .build [.int .i64 0, .str [], .int .i64 0, .int .i64 0] [(0, 1, (.c (.int .i64 1))), (1, 1, (.t 11))]⟩,
        ⟨none, none, .store 4 (.t 2) (.t 12)⟩,
        ⟨(some 3), none, .mv (.c (.int .i64 0))⟩] false)
      .ret))))
def r81 : List ERes := [.cell true 4 2, .t 3]
theorem c81 : chkF Tryz.prog Tryz.f81 1 e81 r81 = true := by kernel_rfl
def e82 : EC :=
  (.seq
   (.region [
     ⟨(some 2), none, .mv (.c (.bool false))⟩] false)
   (.seq
    (.region [
      ⟨(some 3), none, .mv (.t 0)⟩,
      ⟨(some 4), none, .bin .leq (.c (.int .u8 48)) (.t 3)⟩,
      ⟨(some 5), none, .mv (.t 4)⟩,
      ⟨(some 6), (some (5, true)), .mv (.t 0)⟩,
      ⟨(some 7), (some (5, true)), .bin .leq (.t 6) (.c (.int .u8 57))⟩,
      ⟨(some 8), none, .pick (.t 5) (.t 7) (.c (.bool false))⟩,
      ⟨(some 2), none, .mv (.t 8)⟩] false)
    .ret))
def r82 : List ERes := [.t 2]
theorem c82 : chkF Tryz.prog Tryz.f82 1 e82 r82 = true := by kernel_rfl
def e83 : EC :=
  (.seq
   (.region [
     ⟨(some 2), none, .alloc 152 [.int .i64 0, .str [], .int .i64 0, .int .i64 0]⟩,
     ⟨(some 3), none, .mv (.c (.int .i64 0))⟩] false)
   (.seq
    (.region [
      ⟨(some 7), none, .mv (.t 0)⟩,
      ⟨(some 8), none, .call 148 [(.t 7), (.c (.fn 82 []))]⟩,
      ⟨(some 4), none, .mv (.t 8)⟩] false)
    (.seq
     (.seq
      (.region [
        ⟨(some 9), none, .mv (.t 0)⟩,
        ⟨(some 10), none, .nilck (.t 9)⟩,
        ⟨(some 11), none, .faddr 1 (.t 10)⟩,
        ⟨(some 12), none, .load false 1 (.t 11)⟩,
        ⟨(some 13), none, .mv (.t 0)⟩,
        ⟨(some 14), none, .nilck (.t 13)⟩,
        ⟨(some 15), none, .faddr 0 (.t 14)⟩,
        ⟨(some 16), none, .load false 1 (.t 15)⟩,
        ⟨(some 17), none, .lenS (.t 16)⟩,
        ⟨(some 18), none, .bin .lss (.t 12) (.t 17)⟩,
        ⟨(some 19), none, .mv (.t 18)⟩,
        ⟨(some 20), (some (19, true)), .mv (.t 0)⟩,
        ⟨(some 21), (some (19, true)), .nilck (.t 20)⟩,
        ⟨(some 22), (some (19, true)), .faddr 0 (.t 21)⟩,
        ⟨(some 23), (some (19, true)), .load false 1 (.t 22)⟩,
        ⟨(some 24), (some (19, true)), .mv (.t 0)⟩,
        ⟨(some 25), (some (19, true)), .nilck (.t 24)⟩,
        ⟨(some 26), (some (19, true)), .faddr 1 (.t 25)⟩,
        ⟨(some 27), (some (19, true)), .load false 1 (.t 26)⟩,
        ⟨(some 28), (some (19, true)), .idxS (.t 23) (.t 27)⟩,
        ⟨(some 29), (some (19, true)), .pcall 149 [(.t 28)]⟩,
        ⟨(some 30), none, .pick (.t 19) (.t 29) (.c (.bool false))⟩] true)
      (.cond (.t 30)
       (.seq
        (.region [
          ⟨(some 31), none, .build [.int .i64 0, .str [], .int .i64 0, .int .i64 0] []⟩,
          ⟨none, none, .store 4 (.t 2) (.t 31)⟩,
          ⟨(some 3), none, .mv (.c (.int .i64 3))⟩] false)
        .ret)
       .skip))
     (.seq
      (.seq
       (.region [
         ⟨(some 32), none, .mv (.t 4)⟩,
         ⟨(some 33), none, .lenS (.t 32)⟩,
         ⟨(some 34), none, .bin .gtr (.t 33) (.c (.int .i64 6))⟩,
         ⟨(some 35), none, .mv (.t 34)⟩,
         ⟨(some 36), (some (35, false)), .mv (.t 4)⟩,
         ⟨(some 37), (some (35, false)), .lenS (.t 36)⟩,
         ⟨(some 38), (some (35, false)), .bin .gtr (.t 37) (.c (.int .i64 1))⟩,
         ⟨(some 39), (some (35, false)), .mv (.t 38)⟩,
         ⟨(some 40), (some (39, true)), .mv (.t 4)⟩,
         ⟨(some 41), (some (39, true)), .idxS (.t 40) (.c (.int .i64 0))⟩,
         ⟨(some 42), (some (39, true)), .bin .eql (.t 41) (.c (.int .u8 48))⟩,
         ⟨(some 43), (some (35, false)), .pick (.t 39) (.t 42) (.c (.bool false))⟩,
         ⟨(some 44), none, .pick (.t 35) (.c (.bool true)) (.t 43)⟩] false)
       (.cond (.t 44)
        (.seq
         (.region [
           ⟨(some 45), none, .build [.int .i64 0, .str [], .int .i64 0, .int .i64 0] []⟩,
           ⟨none, none, .store 4 (.t 2) (.t 45)⟩,
           ⟨(some 3), none, .mv (.c (.int .i64 2))⟩] false)
         .ret)
        .skip))
      (.seq
       (.region [
         ⟨(some 46), none, .build [.int .i64 0, .str [], .int .i64 0, .int .i64 0] [(0, 1, (.c (.int .i64 2)))]⟩,
         ⟨(some 5), none, .alloc 152 [.int .i64 0, .str [], .int .i64 0, .int .i64 0]⟩,
         ⟨none, none, .store 4 (.t 5) (.t 46)⟩] false)
       (.seq
        (.seq
         (.region [
           ⟨(some 47), none, .mv (.t 4)⟩,
           ⟨(some 48), none, .lenS (.t 47)⟩,
           ⟨(some 49), none, .mv (.c (.int .i64 0))⟩] false)
         (.block 0
          (.loop
           (.seq
            (.region [
              ⟨(some 50), none, .bin .lss (.t 49) (.t 48)⟩] false)
            (.seq
             (.cond (.t 50)
              .skip
              (.exit 0))
             (.seq
              (.block 1
               (.seq
                (.region [
                  ⟨(some 51), none, .mv (.t 49)⟩,
                  ⟨(some 6), none, .mv (.t 51)⟩] false)
                (.region [
                  ⟨(some 52), none, .faddr 2 (.t 5)⟩,
                  ⟨(some 53), none, .load false 1 (.t 52)⟩,
                  ⟨(some 54), none, .bin .mul (.c (.int .i64 10)) (.t 53)⟩,
                  ⟨(some 55), none, .mv (.t 4)⟩,
                  ⟨(some 56), none, .mv (.t 6)⟩,
                  ⟨(some 57), none, .idxS (.t 55) (.t 56)⟩,
                  ⟨(some 58), none, .bin .sub (.t 57) (.c (.int .u8 48))⟩,
                  ⟨(some 59), none, .conv .i64 (.t 58)⟩,
                  ⟨(some 60), none, .bin .add (.t 54) (.t 59)⟩,
                  ⟨(some 61), none, .faddr 2 (.t 5)⟩,
                  ⟨none, none, .store 1 (.t 61) (.t 60)⟩] true)))
              (.region [
                ⟨(some 62), none, .bin .add (.t 49) (.c (.int .i64 1))⟩,
                ⟨(some 49), none, .mv (.t 62)⟩] false)))))))
        (.seq
         (.region [
           ⟨(some 63), none, .load true 4 (.t 5)⟩,
           ⟨none, none, .store 4 (.t 2) (.t 63)⟩,
           ⟨(some 3), none, .mv (.c (.int .i64 0))⟩] false)
         .ret)))))))
def r83 : List ERes := [.cell true 4 2, .t 3]
theorem c83 : chkF Tryz.prog Tryz.f83 1 e83 r83 = true := by kernel_rfl
end Go.Aw.T.N
