/- Part of a proof; own work. -/
import Derived.Test.YtjkbgcgljnldeaaGreatDoorProg
import Derived.Test.YtjkbgcgljnldeaaGreatDoorPS3
namespace Go.Aw
open Go
set_option linter.unusedVariables false
set_option linter.unusedSimpArgs false
section
variable {P : Program} {rs : List ERes} {n0 t0 : Nat} {k : List JI} {Q : Out → CS → Prop} {env : Env} {c c1 : CS} {v : AV}
theorem DCJ.mono {f : FuncId} {caps : List AV} {x : AV} {c : CS} {Q1 Q2 : CS → Prop} (h : DCJ P f caps x c Q1) (hq : ∀ c', Q1 c' → Q2 c') : DCJ P f caps x c Q2 := fun H0 s caps' x' H h1 h2 h3 =>
  DCalls.mono (h H0 s caps' x' H h1 h2 h3) fun H2 ⟨s', c1, g1, g2, g3⟩ => ⟨s', c1, g1, hq c1 g2, g3⟩
theorem J.dfrP2 {d : Nat} {f : FuncId} {cap : List EOpd} (Qp : AV → CS → Prop) (kt : Env) (hkt : ∀ p ∈ kt, env.get p.1 = p.2) (hkd : ∀ p ∈ kt, d ≠ p.1) (hkn : ∀ p ∈ kt, noWJ p.1 k = true)
    (hf : callable P f = true) (hid : ∀ caps : List AV, caps.length = cap.length → DIdle P f caps) (hk : noRndJ k = true)
    (hp : ∀ x c1, Qp x c1 → DCJ P f (cap.map (cev env)) x c1 fun c2 => ∃ v, cres rs kt c2.H = some v ∧ Q (.ret v) c2)
    (h : J P rs c.nb c.nt k (fun o c => match o with | .ret v => Q (.ret v) c | .pan x => Qp x c) ((d, .fn f (cap.map (cev env))) :: env) c) : J P rs n0 t0 (.c (.dfr d f cap) :: k) Q env c := fun H0 s0 s env' H R hn ht hs he hr hR => by
  have he2 : RnE s ((d, .fn f (cap.map (cev env))) :: env) ((d, .fn f (cap.map (EOpd.ev env'))) :: env') := he.put (by simp only [Rn]; exact ⟨_, rfl, cevs_rn he cap⟩) (some d)
  have hek : RnE s kt (tmpsOf env' kt) := fun j => by
    rcases tmpsOf_get env' kt j with e | ⟨_, e⟩
    · rw [e]
      exact RnE.weak (kt_get kt hkt) he j
    · rw [e]
      exact Rn.top _ _
  refine .dfr (fun o H' => match o with
    | .ret x => R (.ret x) H'
    | .pan x' => ∃ s' x c1, Sg.Le s0 s' ∧ Sg.Le s s' ∧ Qp x c1 ∧ Rn s' x x' ∧ HRc H0 s' c1 H') (tmpsOf env' kt) (fun j => ?_) (fun p hp => ?_) (fun p hp => ?_) (noRndJ_ok hk) hf (hid _ (List.length_map _)) (fun v H' h => h) (fun x' H' hx => ?_) ?_
  · rcases tmpsOf_get env' kt j with e | ⟨e, _⟩ <;> rw [e]
    · exact AVLe.refl _
    · exact AVLe.top _
  · obtain ⟨q, hq, rfl⟩ := List.mem_map.1 hp
    exact noWJ_ok (hkn q hq)
  · obtain ⟨q, hq, rfl⟩ := List.mem_map.1 hp
    exact hkd q hq
  · obtain ⟨s', x, c1, q0, q1, q2, q3, q4⟩ := hx
    refine DCalls.mono (hp x c1 q2 H0 s' _ x' H' (RnL.mono q1 _ _ (cevs_rn he cap)) q3 q4) fun H2 ⟨s2, c2, g1, ⟨v, g2, g3⟩, g4⟩ => ?_
    obtain ⟨v', h1, h2⟩ := cres_ok (hek.mono (q1.trans g1)) g4 g2
    exact ⟨v', h1, hR s2 (.ret v) (.ret v') c2 H2 (q0.trans g1) g3 h2 g4⟩
  · rw [noRndJ_tr (s1 := s) hk]
    refine h H0 s s _ H _ hr.nb.symm hr.nt.symm (Sg.Le.refl s) he2 hr fun s' o o' c1 H' q1 q2 q3 q4 => ?_
    cases o with
    | ret x =>
      cases o' with
      | ret x' => exact hR s' (.ret x) (.ret x') c1 H' (hs.trans q1) q2 q3 q4
      | pan x' => cases q3
    | pan x =>
      cases o' with
      | ret x' => cases q3
      | pan x' => exact ⟨s', x, c1, hs.trans q1, q1, q2, q3, q4⟩
end
section
variable {P : Program} {env : Env} {c : CS} {anns : List AV} {l : List EI} {K : Env → CS → Prop} {Rp : AV → CS → Prop} {f : FuncId} {args : List EOpd} {as0 : List AV}
theorem D.FP2 {d : Option Nat} (s : Sg) {bl0 : BL} {tl0 : TL} {n q : Nat} {x : AV} (h : FC P f as0 (CS.of n q bl0 tl0) (Rpn x)) (hk : Rp x (c.upd s [] []))
    (hc : (s.b.length == n && (s.t.length == q && (nodupB s.b && (nodupB s.t && (s.b.all (fun x => Nat.blt x c.nb) && (s.t.all (fun x => Nat.blt x c.nt) && (bdL n q as0 && (bdB n q bl0 && (bdT n q tl0 && x.bd n q))))))))) = true := by simp (disch := omega) only [go_sem, simprocAttr] <;> rfl) (hB : hasP c.H.blk s bl0 := by repeat first | exact trivial | refine ⟨rfl, ?_⟩) (hT : hasPT c.H.tok s tl0 := by repeat first | exact trivial | refine ⟨rfl, ?_⟩) (ha : args.map (cev env) = renL s as0 := by simp (disch := omega) only [go_sem, simprocAttr] <;> rfl) (hr : x.ren s = x := by rfl) : DJ P anns (⟨d, none, .call f args⟩ :: l) env c K Rp := by
  simp only [Bool.and_eq_true, beq_iff_eq] at hc
  obtain ⟨c1, c2, c3, c4, c5, c6, c7, c8, c9, c10⟩ := hc
  refine DJ.cq rfl (FC.fp s h c1 c2 (by rw [c3, c4, c5, c6]; rfl) hB hT (by rw [c7, c8, c9]; rfl) c10 hr rfl) ha ?_ ?_
  · rintro v c1 ⟨e, _⟩
    cases e
  · rintro v c1 ⟨e, rfl⟩
    cases e
    exact hk
end
end Go.Aw
namespace Go.Aw
open Go
set_option linter.unusedVariables false
set_option linter.unusedSimpArgs false
structure Hold (A : Prop) : Prop where
  a : A
theorem GoG {A B : Prop} (hk : A) (h : Hold A → B := by intro hk; (repeat' first | refine D.S ?_ | refine D.JJ true true ?_ | refine DJ.nil ?_ | refine J.reg0 ?_ | refine D.W ?_ | refine D.Z ?_ | refine D.X ‹_› ?_ | refine D.XO ‹_› ?_ | refine D.XS ‹_› ?_); exact hk.a) : B := h ⟨hk⟩
theorem GoB {A B : Prop} (hk : A) (h : Hold A → B := by intro hk; (repeat' first | refine D.S ?_ | refine D.JJ true false ?_ | refine DJ.nil ?_ | refine J.reg0 ?_ | refine D.W ?_ | refine D.Z ?_ | refine D.X ‹_› ?_ | refine D.XO ‹_› ?_ | refine D.XS ‹_› ?_); exact hk.a) : B := h ⟨hk⟩
theorem GoD {A B : Prop} (hk : A) (h : Hold A → B := by intro hk; (repeat' first | refine D.S ?_ | refine DJ.nil ?_ | refine D.W ?_ | refine D.Z ?_ | refine D.X ‹_› ?_ | refine D.XO ‹_› ?_ | refine D.XS ‹_› ?_); exact hk.a) : B := h ⟨hk⟩
theorem GoK {A B : Prop} (hk : A) (h : Hold A → B := by intro hk; ((repeat refine D.JJ true true ?_); (refine J.reg0 ?_); (repeat' first | refine D.S ?_ | refine DJ.nil ?_ | refine D.W ?_ | refine D.Z ?_ | refine D.X ‹_› ?_ | refine D.XO ‹_› ?_ | refine D.XS ‹_› ?_)); exact hk.a) : B := h ⟨hk⟩
theorem GoG1 {A B : Prop} (hk : A) (h : Hold A → B := by intro hk; (repeat' first | (apply DJ.s rfl; (· simp (disch := omega) only [go_sem, simprocAttr, z1] <;> with_reducible rfl)) | (apply J.s true true; (· simp (disch := omega) only [go_sem, simprocAttr, z1] <;> with_reducible rfl)) | apply DJ.nil | (refine J.reg0 ?_) | (apply DJ.gw; (· simp (disch := omega) only [go_sem, simprocAttr, z1] <;> with_reducible rfl)) | (apply DJ.gz; (· rfl); (· simp (disch := omega) only [go_sem, simprocAttr, z1] <;> with_reducible rfl)) | ((first | apply DJ.ixm | apply DJ.ixom | apply DJ.ixsm); (· simp (disch := omega) only [go_sem, simprocAttr, z1] <;> with_reducible rfl); (· simp (disch := omega) only [go_sem, simprocAttr, z1] <;> with_reducible rfl); (· assumption); (· omega))); exact hk.a) : B := h ⟨hk⟩
theorem GoB1 {A B : Prop} (hk : A) (h : Hold A → B := by intro hk; (repeat' first | (apply DJ.s rfl; (· simp (disch := omega) only [go_sem, simprocAttr, z1] <;> with_reducible rfl)) | (apply J.s true false; (· simp (disch := omega) only [go_sem, simprocAttr, z1] <;> with_reducible rfl)) | apply DJ.nil | (refine J.reg0 ?_) | (apply DJ.gw; (· simp (disch := omega) only [go_sem, simprocAttr, z1] <;> with_reducible rfl)) | (apply DJ.gz; (· rfl); (· simp (disch := omega) only [go_sem, simprocAttr, z1] <;> with_reducible rfl)) | ((first | apply DJ.ixm | apply DJ.ixom | apply DJ.ixsm); (· simp (disch := omega) only [go_sem, simprocAttr, z1] <;> with_reducible rfl); (· simp (disch := omega) only [go_sem, simprocAttr, z1] <;> with_reducible rfl); (· assumption); (· omega))); exact hk.a) : B := h ⟨hk⟩
theorem GoD1 {A B : Prop} (hk : A) (h : Hold A → B := by intro hk; (repeat' first | (apply DJ.s rfl; (· simp (disch := omega) only [go_sem, simprocAttr, z1] <;> with_reducible rfl)) | apply DJ.nil | (apply DJ.gw; (· simp (disch := omega) only [go_sem, simprocAttr, z1] <;> with_reducible rfl)) | (apply DJ.gz; (· rfl); (· simp (disch := omega) only [go_sem, simprocAttr, z1] <;> with_reducible rfl)) | ((first | apply DJ.ixm | apply DJ.ixom | apply DJ.ixsm); (· simp (disch := omega) only [go_sem, simprocAttr, z1] <;> with_reducible rfl); (· simp (disch := omega) only [go_sem, simprocAttr, z1] <;> with_reducible rfl); (· assumption); (· omega))); exact hk.a) : B := h ⟨hk⟩
theorem GoK1 {A B : Prop} (hk : A) (h : Hold A → B := by intro hk; ((repeat (apply J.s true true; (· simp (disch := omega) only [go_sem, simprocAttr, z1] <;> with_reducible rfl))); (refine J.reg0 ?_); (repeat' first | (apply DJ.s rfl; (· simp (disch := omega) only [go_sem, simprocAttr, z1] <;> with_reducible rfl)) | apply DJ.nil | (apply DJ.gw; (· simp (disch := omega) only [go_sem, simprocAttr, z1] <;> with_reducible rfl)) | (apply DJ.gz; (· rfl); (· simp (disch := omega) only [go_sem, simprocAttr, z1] <;> with_reducible rfl)) | ((first | apply DJ.ixm | apply DJ.ixom | apply DJ.ixsm); (· simp (disch := omega) only [go_sem, simprocAttr, z1] <;> with_reducible rfl); (· simp (disch := omega) only [go_sem, simprocAttr, z1] <;> with_reducible rfl); (· assumption); (· omega)))); exact hk.a) : B := h ⟨hk⟩
theorem GoJ1 {A B : Prop} (hk : A) (h : Hold A → B := by intro hk; (repeat (apply J.s true true; (· simp (disch := omega) only [go_sem, simprocAttr, z1] <;> with_reducible rfl))); exact hk.a) : B := h ⟨hk⟩
theorem GoG2 {A B : Prop} (hk : A) (h : Hold A → B := by intro hk; (repeat' first | (apply DJ.s rfl; (· simp (disch := omega) only [go_sem, simprocAttr, z1, z2] <;> with_reducible rfl)) | (apply J.s true true; (· simp (disch := omega) only [go_sem, simprocAttr, z1, z2] <;> with_reducible rfl)) | apply DJ.nil | (refine J.reg0 ?_) | (apply DJ.gw; (· simp (disch := omega) only [go_sem, simprocAttr, z1, z2] <;> with_reducible rfl)) | (apply DJ.gz; (· rfl); (· simp (disch := omega) only [go_sem, simprocAttr, z1, z2] <;> with_reducible rfl)) | ((first | apply DJ.ixm | apply DJ.ixom | apply DJ.ixsm); (· simp (disch := omega) only [go_sem, simprocAttr, z1, z2] <;> with_reducible rfl); (· simp (disch := omega) only [go_sem, simprocAttr, z1, z2] <;> with_reducible rfl); (· assumption); (· omega))); exact hk.a) : B := h ⟨hk⟩
theorem GoK2 {A B : Prop} (hk : A) (h : Hold A → B := by intro hk; ((repeat (apply J.s true true; (· simp (disch := omega) only [go_sem, simprocAttr, z1, z2] <;> with_reducible rfl))); (refine J.reg0 ?_); (repeat' first | (apply DJ.s rfl; (· simp (disch := omega) only [go_sem, simprocAttr, z1, z2] <;> with_reducible rfl)) | apply DJ.nil | (apply DJ.gw; (· simp (disch := omega) only [go_sem, simprocAttr, z1, z2] <;> with_reducible rfl)) | (apply DJ.gz; (· rfl); (· simp (disch := omega) only [go_sem, simprocAttr, z1, z2] <;> with_reducible rfl)) | ((first | apply DJ.ixm | apply DJ.ixom | apply DJ.ixsm); (· simp (disch := omega) only [go_sem, simprocAttr, z1, z2] <;> with_reducible rfl); (· simp (disch := omega) only [go_sem, simprocAttr, z1, z2] <;> with_reducible rfl); (· assumption); (· omega)))); exact hk.a) : B := h ⟨hk⟩
theorem GoJ2 {A B : Prop} (hk : A) (h : Hold A → B := by intro hk; (repeat (apply J.s true true; (· simp (disch := omega) only [go_sem, simprocAttr, z1, z2] <;> with_reducible rfl))); exact hk.a) : B := h ⟨hk⟩
theorem GoG3 {A B : Prop} (hk : A) (h : Hold A → B := by intro hk; (repeat' first | (apply DJ.s rfl; (· simp (disch := omega) only [go_sem, simprocAttr, z1, z2, z3] <;> with_reducible rfl)) | (apply J.s true true; (· simp (disch := omega) only [go_sem, simprocAttr, z1, z2, z3] <;> with_reducible rfl)) | apply DJ.nil | (refine J.reg0 ?_) | (apply DJ.gw; (· simp (disch := omega) only [go_sem, simprocAttr, z1, z2, z3] <;> with_reducible rfl)) | (apply DJ.gz; (· rfl); (· simp (disch := omega) only [go_sem, simprocAttr, z1, z2, z3] <;> with_reducible rfl)) | ((first | apply DJ.ixm | apply DJ.ixom | apply DJ.ixsm); (· simp (disch := omega) only [go_sem, simprocAttr, z1, z2, z3] <;> with_reducible rfl); (· simp (disch := omega) only [go_sem, simprocAttr, z1, z2, z3] <;> with_reducible rfl); (· assumption); (· omega))); exact hk.a) : B := h ⟨hk⟩
section
variable {P : Program} {env : Env} {c : CS} {anns : List AV} {l : List EI} {K : Env → CS → Prop} {Rp : AV → CS → Prop} {x y i lo hi : EOpd} {ik ik' : IntKind} {z z' : Int} {size : Nat} {rows new : List (List AV)} {row : List AV} {a b : List UInt8}
theorem D.cat {d : Nat} (h : DJ P anns l ((d, .str (a ++ b)) :: env) c K Rp) (hx : cev env x = .str a := by simp (disch := omega) only [go_sem, simprocAttr] <;> with_reducible rfl) (hy : cev env y = .str b := by simp (disch := omega) only [go_sem, simprocAttr] <;> with_reducible rfl) (hb : a.length + b.length ≤ maxLen := by simp only [List.length_append, List.length_cons, List.length_nil, maxLen]; omega) : DJ P anns (⟨some d, none, .bin .add x y⟩ :: l) env c K Rp := DJ.cat' hx hy hb h
theorem D.ap {T bytes t d : Nat} (h : DJ P anns l ((d, .own t size (rows ++ new)) :: env) (c.setT t (.frz T size (rows.length + new.length))) K Rp) (hx : cev env x = .own t size rows := by simp (disch := omega) only [go_sem, simprocAttr] <;> with_reducible rfl) (ht : c.H.tok t = some (.frz T size rows.length) := by simp (disch := omega) only [go_sem, simprocAttr] <;> with_reducible rfl) (hy : rowsOf size (cev env y) = some new := by simp only [rowsOf] <;> simp (disch := omega) only [go_sem, simprocAttr] <;> with_reducible rfl) (hb : (rows.length + new.length) * bytes ≤ 140737488355328 := by first | omega | (simp only [List.length_map, List.length_drop, List.length_take, List.length_append, List.length_nil, List.length_cons, maxLen] <;> omega)) (hm : rows.length + new.length ≤ maxLen := by first | omega | (simp only [List.length_map, List.length_drop, List.length_take, List.length_append, List.length_nil, List.length_cons, maxLen] <;> omega)) : DJ P anns (⟨some d, none, .append T size bytes x y⟩ :: l) env c K Rp := DJ.ap' hx ht hy hb hm h
theorem D.iv {p d : Nat} (hr : rows[p]? = some row) (h : DJ P anns l ((d, .rp row 0) :: env) c K Rp) (hx : cev env x = .vs size rows := by simp (disch := omega) only [go_sem, simprocAttr] <;> with_reducible rfl) (hi : cev env i = .int ik z := by simp (disch := omega) only [go_sem, simprocAttr] <;> with_reducible rfl) (e : z = p := by omega) : DJ P anns (⟨some d, none, .iaddr size x i⟩ :: l) env c K Rp := DJ.ixn hr hx hi e h
theorem D.is {p d : Nat} {u : UInt8} (hr : a[p]? = some u) (h : DJ P anns l ((d, .int .u8 u.toNat) :: env) c K Rp) (hx : cev env x = .str a := by simp (disch := omega) only [go_sem, simprocAttr] <;> with_reducible rfl) (hi : cev env i = .int ik z := by simp (disch := omega) only [go_sem, simprocAttr] <;> with_reducible rfl) (e : z = p := by omega) : DJ P anns (⟨some d, none, .idxS x i⟩ :: l) env c K Rp := DJ.ixsn hr hx hi e h
end
end Go.Aw
namespace Go.Aw.T.N
open Go Go.Aw Go.Proofs
set_option maxRecDepth 1000000
abbrev iI (d : Nat) (o : EOp) : EI := ⟨some d, none, o⟩
abbrev iG (d j : Nat) (b : Bool) (o : EOp) : EI := ⟨some d, some (j, b), o⟩
abbrev iN (o : EOp) : EI := ⟨none, none, o⟩
def e11 : EC :=
 (.seq
 (.region [iI 0 (.mv (.c (.bool false)))] false)
 (.seq
 (.region [iI 7 (.call 12 [(.c (.str [115, 101, 114, 118, 105, 99, 101, 32, 83, 32, 112, 108, 97, 121, 115, 32, 97, 32, 111, 102, 32, 80, 123, 118, 97, 114, 32, 110, 58, 105, 110, 116, 32, 48, 46, 46, 57, 61, 49, 59, 111, 110, 32, 109, 40, 120, 41, 102, 114, 111, 109, 32, 98, 123, 110, 61, 120, 59, 125, 111, 102, 102, 101, 114, 32, 107, 40, 110, 43, 49, 41, 116, 111, 32, 98, 32, 119, 104, 101, 114, 101, 32, 110, 60, 53, 59, 125]))]),iI 6 (.mv (.t 7)),iI 8 (.extract 0 (.t 6)),iI 9 (.extract 1 (.t 6)),iI 10 (.extract 2 (.t 6)),iI 1 (.alloc 27 [.str [], .str [], .str [], .nilS, .nilS, .nilS]),iN (.store 6 (.t 1) (.t 8)),iI 2 (.mv (.t 9)),iI 3 (.mv (.t 10))] false)
 (.seq
 (.region [iI 12 (.load true 6 (.t 1)),iI 13 (.call 18 [(.t 12)]),iI 11 (.mv (.t 13)),iI 14 (.extract 0 (.t 11)),iI 15 (.extract 1 (.t 11)),iI 4 (.mv (.t 14)),iI 5 (.mv (.t 15))] false)
 (.seq
 (.region [iI 16 (.mv (.t 3)),iI 17 (.bin .eql (.t 16) (.c (.int .i64 0))),iI 18 (.mv (.t 17)),iG 19 18 true (.mv (.t 5)),iG 20 18 true (.bin .eql (.t 19) (.c (.int .i64 0))),iI 21 (.pick (.t 18) (.t 20) (.c (.bool false))),iI 22 (.mv (.t 21)),iG 23 22 true (.faddr 3 (.t 1)),iG 24 22 true (.load false 1 (.t 23)),iG 25 22 true (.len (.t 24)),iG 26 22 true (.bin .eql (.t 25) (.c (.int .i64 1))),iI 27 (.pick (.t 22) (.t 26) (.c (.bool false))),iI 28 (.mv (.t 27)),iG 29 28 true (.faddr 4 (.t 1)),iG 30 28 true (.load false 1 (.t 29)),iG 31 28 true (.len (.t 30)),iG 32 28 true (.bin .eql (.t 31) (.c (.int .i64 1))),iI 33 (.pick (.t 28) (.t 32) (.c (.bool false))),iI 34 (.mv (.t 33)),iG 35 34 true (.faddr 5 (.t 1)),iG 36 34 true (.load false 1 (.t 35)),iG 37 34 true (.len (.t 36)),iG 38 34 true (.bin .eql (.t 37) (.c (.int .i64 1))),iI 39 (.pick (.t 34) (.t 38) (.c (.bool false))),iI 40 (.mv (.t 39)),iG 41 40 true (.faddr 5 (.t 1)),iG 42 40 true (.load false 1 (.t 41)),iG 43 40 true (.iaddr 4 (.t 42) (.c (.int .i64 0))),iG 44 40 true (.faddr 3 (.t 43)),iG 45 40 true (.load false 1 (.t 44)),iG 46 40 true (.len (.t 45)),iG 47 40 true (.bin .eql (.t 46) (.c (.int .i64 1))),iI 48 (.pick (.t 40) (.t 47) (.c (.bool false))),iI 49 (.mv (.t 48)),iG 50 49 true (.load true 6 (.t 1)),iG 51 49 true (.call 16 [(.t 50)]),iI 52 (.pick (.t 49) (.t 51) (.c (.bool false))),iI 53 (.mv (.t 52)),iG 54 53 true (.load true 6 (.t 1)),iG 55 53 true (.load true 6 (.t 1)),iG 56 53 true (.call 22 [(.t 54), (.t 55)]),iI 57 (.pick (.t 53) (.t 56) (.c (.bool false))),iI 58 (.mv (.t 57)),iG 59 58 true (.mv (.t 4)),iG 60 58 true (.bin .eql (.t 59) (.c (.str [115, 101, 114, 118, 105, 99, 101, 32, 83, 32, 112, 108, 97, 121, 115, 32, 97, 32, 111, 102, 32, 80, 32, 123, 10, 9, 118, 97, 114, 32, 110, 58, 32, 105, 110, 116, 32, 48, 32, 46, 46, 32, 57, 32, 61, 32, 49, 59, 10, 9, 111, 110, 32, 109, 40, 120, 41, 32, 102, 114, 111, 109, 32, 98, 32, 123, 10, 9, 9, 110, 32, 61, 32, 120, 59, 10, 9, 125, 10, 9, 111, 102, 102, 101, 114, 32, 107, 40, 110, 32, 43, 32, 49, 41, 32, 116, 111, 32, 98, 32, 119, 104, 101, 114, 101, 32, 110, 32, 60, 32, 53, 59, 10, 125, 10]))),iI 61 (.pick (.t 58) (.t 60) (.c (.bool false))),iI 0 (.mv (.t 61))] false)
 .ret))))
def r11 : List ERes := [.t 0]
theorem c11 : chkF Tryz.prog Tryz.f11 0 e11 r11 = true := by kernel_rfl
def e12 : EC :=
 (.seq
 (.region [iI 2 (.alloc 27 [.str [], .str [], .str [], .nilS, .nilS, .nilS]),iI 3 (.alloc 3 [.int .i64 0]),iI 4 (.alloc 28 [.int .i64 0])] false)
 (.seq
 (.region [iI 8 (.mv (.t 0)),iI 9 (.call 30 [(.t 8)]),iI 7 (.mv (.t 9)),iI 10 (.extract 0 (.t 7)),iI 11 (.extract 1 (.t 7)),iI 12 (.extract 2 (.t 7)),iI 5 (.mv (.t 10)),iN (.storeD 3 [2, 4] 1 (.t 3) (.t 11)),iN (.storeD 4 [2, 3] 1 (.t 4) (.t 12))] false)
 (.seq
 (.seq
 (.region [iI 13 (.loadD 4 false 1 (.t 4)),iI 14 (.bin .neq (.t 13) (.c (.int .i64 0)))] false)
 (.cond (.t 14)
 (.seq
 (.region [iI 15 (.build [.str [], .str [], .str [], .nilS, .nilS, .nilS] []),iI 16 (.loadD 3 false 1 (.t 3)),iI 17 (.loadD 4 false 1 (.t 4)),iN (.storeD 2 [3, 4] 6 (.t 2) (.t 15)),iN (.storeD 3 [2, 4] 1 (.t 3) (.t 16)),iN (.storeD 4 [2, 3] 1 (.t 4) (.t 17))] true)
 .ret)
 .skip))
 (.seq
 (.dfr 18 31 [(.t 2), (.t 3), (.t 4)])
 (.seq
 (.region [iI 19 (.mv (.t 5)),iI 20 (.mv (.t 0)),iI 21 (.lenS (.t 20)),iI 22 (.build [.nilS, .int .i64 0] [(0, 1, (.t 19)), (1, 1, (.t 21))]),iI 23 (.box 83 (.t 22)),iI 6 (.mv (.t 23))] false)
 (.seq
 (.region [iI 24 (.mv (.t 6)),iI 25 (.call 32 [(.t 24)]),iN (.storeD 2 [3, 4] 6 (.t 2) (.t 25))] false)
 (.seq
 (.seq
 (.region [iI 26 (.load true 6 (.t 2)),iI 27 (.call 16 [(.t 26)]),iI 28 (.not (.t 27))] false)
 (.cond (.t 28)
 (.seq
 (.region [iI 29 (.build [.str [], .str [], .str [], .nilS, .nilS, .nilS] []),iN (.storeD 2 [3, 4] 6 (.t 2) (.t 29)),iN (.storeD 3 [2, 4] 1 (.t 3) (.c (.int .i64 0))),iN (.storeD 4 [2, 3] 1 (.t 4) (.c (.int .i64 6)))] false)
 .ret)
 .skip))
 (.seq
 (.region [iI 30 (.load true 6 (.t 2)),iN (.storeD 2 [3, 4] 6 (.t 2) (.t 30)),iN (.storeD 3 [2, 4] 1 (.t 3) (.c (.int .i64 0))),iN (.storeD 4 [2, 3] 1 (.t 4) (.c (.int .i64 0)))] false)
 .ret))))))))
def r12 : List ERes := [.cell true 6 2, .cell false 1 3, .cell false 1 4]
theorem c12 : chkF Tryz.prog Tryz.f12 1 e12 r12 = true := by kernel_rfl
def e16 : EC :=
 (.seq
 (.region [iI 1 (.box 27 (.t 0)),iI 2 (.mv (.c (.bool false)))] false)
 (.seq
 (.seq
 (.region [iI 3 (.faddr 0 (.t 1)),iI 4 (.load false 1 (.t 3)),iI 5 (.call 45 [(.t 4)]),iI 6 (.not (.t 5)),iI 7 (.mv (.t 6)),iG 8 7 false (.faddr 1 (.t 1)),iG 9 7 false (.load false 1 (.t 8)),iG 10 7 false (.call 45 [(.t 9)]),iG 11 7 false (.not (.t 10)),iI 12 (.pick (.t 7) (.c (.bool true)) (.t 11)),iI 13 (.mv (.t 12)),iG 14 13 false (.faddr 2 (.t 1)),iG 15 13 false (.load false 1 (.t 14)),iG 16 13 false (.call 45 [(.t 15)]),iG 17 13 false (.not (.t 16)),iI 18 (.pick (.t 13) (.c (.bool true)) (.t 17)),iI 19 (.mv (.t 18)),iG 20 19 false (.faddr 3 (.t 1)),iG 21 19 false (.load false 1 (.t 20)),iG 22 19 false (.len (.t 21)),iG 23 19 false (.bin .gtr (.t 22) (.c (.int .i64 12))),iI 24 (.pick (.t 19) (.c (.bool true)) (.t 23)),iI 25 (.mv (.t 24)),iG 26 25 false (.faddr 4 (.t 1)),iG 27 25 false (.load false 1 (.t 26)),iG 28 25 false (.len (.t 27)),iG 29 25 false (.bin .gtr (.t 28) (.c (.int .i64 40))),iI 30 (.pick (.t 25) (.c (.bool true)) (.t 29)),iI 31 (.mv (.t 30)),iG 32 31 false (.faddr 5 (.t 1)),iG 33 31 false (.load false 1 (.t 32)),iG 34 31 false (.len (.t 33)),iG 35 31 false (.bin .gtr (.t 34) (.c (.int .i64 40))),iI 36 (.pick (.t 31) (.c (.bool true)) (.t 35))] false)
 (.cond (.t 36)
 (.seq
 (.region [iI 2 (.mv (.c (.bool false)))] false)
 .ret)
 .skip))
 (.seq
 (.region [iI 37 (.faddr 3 (.t 1)),iI 38 (.load false 1 (.t 37)),iI 39 (.call 46 [(.t 38), (.c (.fn 47 []))]),iI 40 (.mv (.t 39)),iG 41 40 true (.faddr 4 (.t 1)),iG 42 40 true (.load false 1 (.t 41)),iG 43 40 true (.call 48 [(.t 42), (.c (.fn 49 []))]),iI 44 (.pick (.t 40) (.t 43) (.c (.bool false))),iI 45 (.mv (.t 44)),iG 46 45 true (.faddr 5 (.t 1)),iG 47 45 true (.load false 1 (.t 46)),iG 48 45 true (.call 50 [(.t 47), (.c (.fn 51 []))]),iI 49 (.pick (.t 45) (.t 48) (.c (.bool false))),iI 50 (.mv (.t 49)),iG 51 50 true (.load true 6 (.t 1)),iG 52 50 true (.call 52 [(.t 51)]),iG 53 50 true (.lenS (.t 52)),iG 54 50 true (.bin .leq (.t 53) (.c (.int .i64 8000))),iI 55 (.pick (.t 50) (.t 54) (.c (.bool false))),iI 2 (.mv (.t 55))] false)
 .ret)))
def r16 : List ERes := [.t 2]
theorem c16 : chkF Tryz.prog Tryz.f16 1 e16 r16 = true := by kernel_rfl
def e18 : EC :=
 (.seq
 (.region [iI 1 (.box 27 (.t 0)),iI 2 (.mv (.c (.str []))),iI 3 (.mv (.c (.int .i64 0)))] false)
 (.seq
 (.seq
 (.region [iI 4 (.load true 6 (.t 1)),iI 5 (.call 16 [(.t 4)]),iI 6 (.not (.t 5))] false)
 (.cond (.t 6)
 (.seq
 (.region [iI 2 (.mv (.c (.str []))),iI 3 (.mv (.c (.int .i64 1)))] false)
 .ret)
 .skip))
 (.seq
 (.region [iI 7 (.load true 6 (.t 1)),iI 8 (.call 52 [(.t 7)]),iI 2 (.mv (.t 8)),iI 3 (.mv (.c (.int .i64 0)))] false)
 .ret)))
def r18 : List ERes := [.t 2, .t 3]
theorem c18 : chkF Tryz.prog Tryz.f18 1 e18 r18 = true := by kernel_rfl
def e22 : EC :=
 (.seq
 (.region [iI 2 (.box 27 (.t 0)),iI 3 (.box 27 (.t 1)),iI 4 (.mv (.c (.bool false)))] false)
 (.seq
 (.region [iI 5 (.faddr 0 (.t 2)),iI 6 (.load false 1 (.t 5)),iI 7 (.faddr 0 (.t 3)),iI 8 (.load false 1 (.t 7)),iI 9 (.bin .eql (.t 6) (.t 8)),iI 10 (.mv (.t 9)),iG 11 10 true (.faddr 1 (.t 2)),iG 12 10 true (.load false 1 (.t 11)),iG 13 10 true (.faddr 1 (.t 3)),iG 14 10 true (.load false 1 (.t 13)),iG 15 10 true (.bin .eql (.t 12) (.t 14)),iI 16 (.pick (.t 10) (.t 15) (.c (.bool false))),iI 17 (.mv (.t 16)),iG 18 17 true (.faddr 2 (.t 2)),iG 19 17 true (.load false 1 (.t 18)),iG 20 17 true (.faddr 2 (.t 3)),iG 21 17 true (.load false 1 (.t 20)),iG 22 17 true (.bin .eql (.t 19) (.t 21)),iI 23 (.pick (.t 17) (.t 22) (.c (.bool false))),iI 24 (.mv (.t 23)),iG 25 24 true (.faddr 3 (.t 2)),iG 26 24 true (.load false 1 (.t 25)),iG 27 24 true (.faddr 3 (.t 3)),iG 28 24 true (.load false 1 (.t 27)),iG 29 24 true (.call 63 [(.t 26), (.t 28)]),iI 30 (.pick (.t 24) (.t 29) (.c (.bool false))),iI 31 (.mv (.t 30)),iG 32 31 true (.faddr 4 (.t 2)),iG 33 31 true (.load false 1 (.t 32)),iG 34 31 true (.faddr 4 (.t 3)),iG 35 31 true (.load false 1 (.t 34)),iG 36 31 true (.call 64 [(.t 33), (.t 35), (.c (.fn 65 []))]),iI 37 (.pick (.t 31) (.t 36) (.c (.bool false))),iI 38 (.mv (.t 37)),iG 39 38 true (.faddr 5 (.t 2)),iG 40 38 true (.load false 1 (.t 39)),iG 41 38 true (.faddr 5 (.t 3)),iG 42 38 true (.load false 1 (.t 41)),iG 43 38 true (.call 69 [(.t 40), (.t 42), (.c (.fn 70 []))]),iI 44 (.pick (.t 38) (.t 43) (.c (.bool false))),iI 4 (.mv (.t 44))] false)
 .ret))
def r22 : List ERes := [.t 4]
theorem c22 : chkF Tryz.prog Tryz.f22 2 e22 r22 = true := by kernel_rfl
def e30 : EC :=
 (.seq
 (.region [iI 2 (.mv (.c (.nilS))),iI 3 (.mv (.c (.int .i64 0))),iI 4 (.mv (.c (.int .i64 0)))] false)
 (.seq
 (.seq
 (.region [iI 11 (.mv (.t 0)),iI 12 (.lenS (.t 11)),iI 13 (.bin .gtr (.t 12) (.c (.int .i64 8000)))] false)
 (.cond (.t 13)
 (.seq
 (.region [iI 2 (.mv (.c (.nilS))),iI 3 (.mv (.c (.int .i64 8000))),iI 4 (.mv (.c (.int .i64 6)))] false)
 .ret)
 .skip))
 (.seq
 (.region [iI 14 (.mv (.t 0)),iI 15 (.build [.str [], .int .i64 0] [(0, 1, (.t 14))]),iI 16 (.box 149 (.t 15)),iI 5 (.mv (.t 16))] false)
 (.seq
 (.seq
 (.region [iI 17 (.mv (.t 5)),iI 18 (.call 78 [(.t 17)])] false)
 (.block 0
 (.loop
 (.seq
 (.seq
 (.region [iI 19 (.mv (.t 5)),iI 20 (.nilck (.t 19)),iI 21 (.faddr 1 (.t 20)),iI 22 (.load false 1 (.t 21)),iI 23 (.mv (.t 0)),iI 24 (.lenS (.t 23)),iI 25 (.bin .lss (.t 22) (.t 24))] false)
 (.cond (.t 25)
 .skip
 (.exit 0)))
 (.seq
 (.block 1
 (.seq
 (.region [iI 28 (.mv (.t 5)),iI 29 (.mkfnB 79 [(.t 28)]),iI 6 (.mv (.t 29))] false)
 (.seq
 (.seq
 (.region [iI 30 (.mv (.t 0)),iI 31 (.mv (.t 5)),iI 32 (.nilck (.t 31)),iI 33 (.faddr 1 (.t 32)),iI 34 (.load false 1 (.t 33)),iI 35 (.idxS (.t 30) (.t 34)),iI 7 (.mv (.t 35))] false)
 (.block 2
 (.seq
 (.region [iI 37 (.mv (.t 7)),iI 38 (.call 80 [(.t 37)]),iI 36 (.mv (.t 38))] false)
 (.cond (.t 36)
 (.region [iI 39 (.mv (.t 5)),iI 40 (.mkfnB 81 [(.t 39)]),iI 6 (.mv (.t 40))] false)
 (.seq
 (.region [iI 42 (.mv (.t 7)),iI 43 (.call 82 [(.t 42)]),iI 41 (.mv (.t 43))] false)
 (.cond (.t 41)
 (.region [iI 44 (.mv (.t 5)),iI 45 (.mkfnB 83 [(.t 44)]),iI 6 (.mv (.t 45))] false)
 (.seq
 (.region [iI 47 (.mv (.t 7)),iI 48 (.bin .eql (.t 47) (.c (.int .u8 34))),iI 46 (.mv (.t 48))] false)
 (.cond (.t 46)
 (.region [iI 49 (.mv (.t 5)),iI 50 (.mkfnB 84 [(.t 49)]),iI 6 (.mv (.t 50))] false)
 .skip))))))))
 (.seq
 (.region [iI 51 (.mv (.t 5)),iI 52 (.nilck (.t 51)),iI 53 (.faddr 1 (.t 52)),iI 54 (.load false 1 (.t 53)),iI 8 (.mv (.t 54))] false)
 (.seq
 (.region [iI 56 (.mv (.t 6)),iI 57 (.callv (.t 56) []),iI 55 (.mv (.t 57)),iI 58 (.extract 0 (.t 55)),iI 59 (.extract 1 (.t 55)),iI 9 (.alloc 152 [.int .i64 0, .str [], .int .i64 0, .int .i64 0]),iN (.store 4 (.t 9) (.t 58)),iI 10 (.mv (.t 59))] false)
 (.seq
 (.seq
 (.region [iI 60 (.mv (.t 10)),iI 61 (.bin .neq (.t 60) (.c (.int .i64 0)))] false)
 (.cond (.t 61)
 (.seq
 (.region [iI 62 (.mv (.t 8)),iI 63 (.mv (.t 10)),iI 2 (.mv (.c (.nilS))),iI 3 (.mv (.t 62)),iI 4 (.mv (.t 63))] false)
 .ret)
 .skip))
 (.seq
 (.region [iI 64 (.mv (.t 8)),iI 65 (.faddr 3 (.t 9)),iN (.store 1 (.t 65) (.t 64))] false)
 (.region [iI 66 (.mv (.t 2)),iI 67 (.load true 4 (.t 9)),iI 68 (.bslice 152 4 1 [.int .i64 0, .str [], .int .i64 0, .int .i64 0] [(0, (.t 67))]),iI 69 (.append 152 4 40 (.t 66) (.t 68)),iI 2 (.mv (.t 69))] false))))))))
 (.region [iI 26 (.mv (.t 5)),iI 27 (.call 78 [(.t 26)])] false))))))
 (.seq
 (.region [iI 70 (.mv (.t 2)),iI 2 (.mv (.t 70)),iI 3 (.mv (.c (.int .i64 0))),iI 4 (.mv (.c (.int .i64 0)))] false)
 .ret)))))
def r30 : List ERes := [.t 2, .t 3, .t 4]
theorem c30 : chkF Tryz.prog Tryz.f30 1 e30 r30 = true := by kernel_rfl
def e32 : EC :=
 (.seq
 (.region [iI 2 (.alloc 27 [.str [], .str [], .str [], .nilS, .nilS, .nilS])] false)
 (.seq
 (.region [iI 3 (.alloc 27 [.str [], .str [], .str [], .nilS, .nilS, .nilS])] false)
 (.seq
 (.region [iI 4 (.mv (.t 0)),iI 5 (.call 85 [(.t 4), (.c (.str [115, 101, 114, 118, 105, 99, 101]))])] false)
 (.seq
 (.region [iI 6 (.mv (.t 0)),iI 7 (.call 86 [(.t 6)]),iI 8 (.faddr 0 (.t 3)),iN (.store 1 (.t 8) (.t 7))] false)
 (.seq
 (.region [iI 9 (.mv (.t 0)),iI 10 (.call 85 [(.t 9), (.c (.str [112, 108, 97, 121, 115]))])] false)
 (.seq
 (.region [iI 11 (.mv (.t 0)),iI 12 (.call 86 [(.t 11)]),iI 13 (.faddr 1 (.t 3)),iN (.store 1 (.t 13) (.t 12))] false)
 (.seq
 (.region [iI 14 (.mv (.t 0)),iI 15 (.call 85 [(.t 14), (.c (.str [111, 102]))])] false)
 (.seq
 (.region [iI 16 (.mv (.t 0)),iI 17 (.call 86 [(.t 16)]),iI 18 (.faddr 2 (.t 3)),iN (.store 1 (.t 18) (.t 17))] false)
 (.seq
 (.region [iI 19 (.mv (.t 0)),iI 20 (.call 85 [(.t 19), (.c (.str [123]))])] false)
 (.seq
 (.block 0
 (.loop
 (.seq
 (.seq
 (.region [iI 21 (.mv (.t 0)),iI 22 (.call 87 [(.t 21), (.c (.str [118, 97, 114]))])] false)
 (.cond (.t 22)
 .skip
 (.exit 0)))
 (.block 1
 (.region [iI 23 (.faddr 3 (.t 3)),iI 24 (.loadD 3 false 1 (.t 23)),iI 25 (.mv (.t 0)),iI 26 (.callD [3] 88 [(.t 25)]),iI 27 (.bslice 106 7 1 [.str [], .int .i64 0, .int .i64 0, .int .i64 0, .int .i64 0, .int .i64 0, .str []] [(0, (.t 26))]),iI 28 (.append 106 7 72 (.t 24) (.t 27)),iI 29 (.faddr 3 (.t 3)),iN (.store 1 (.t 29) (.t 28))] true)))))
 (.seq
 (.block 2
 (.loop
 (.seq
 (.seq
 (.region [iI 30 (.mv (.t 0)),iI 31 (.call 87 [(.t 30), (.c (.str [125]))]),iI 32 (.not (.t 31))] false)
 (.cond (.t 32)
 .skip
 (.exit 2)))
 (.block 3
 (.seq
 (.region [iI 33 (.mv (.t 0)),iI 34 (.call 87 [(.t 33), (.c (.str [111, 110]))])] false)
 (.cond (.t 34)
 (.region [iI 35 (.faddr 4 (.t 3)),iI 36 (.loadD 3 false 1 (.t 35)),iI 37 (.mv (.t 0)),iI 38 (.callD [3] 89 [(.t 37)]),iI 39 (.bslice 109 4 1 [.str [], .str [], .nilS, .nilS] [(0, (.t 38))]),iI 40 (.append 109 4 80 (.t 36) (.t 39)),iI 41 (.faddr 4 (.t 3)),iN (.store 1 (.t 41) (.t 40))] true)
 (.seq
 (.region [iI 42 (.mv (.t 0)),iI 43 (.call 85 [(.t 42), (.c (.str [111, 102, 102, 101, 114]))])] false)
 (.region [iI 44 (.faddr 5 (.t 3)),iI 45 (.loadD 3 false 1 (.t 44)),iI 46 (.mv (.t 0)),iI 47 (.callD [3] 90 [(.t 46)]),iI 48 (.bslice 74 4 1 [.str [], .str [], .nilS, .nilS] [(0, (.t 47))]),iI 49 (.append 74 4 80 (.t 45) (.t 48)),iI 50 (.faddr 5 (.t 3)),iN (.store 1 (.t 50) (.t 49))] true))))))))
 (.seq
 (.seq
 (.region [iI 51 (.mv (.t 0)),iI 52 (.nilck (.t 51)),iI 53 (.faddr 0 (.t 52)),iI 54 (.load false 1 (.t 53)),iI 55 (.len (.t 54)),iI 56 (.bin .gtr (.t 55) (.c (.int .i64 0)))] false)
 (.cond (.t 56)
 (.region [iI 57 (.mv (.t 0)),iI 58 (.call 91 [(.t 57), (.c (.int .i64 3))])] false)
 .skip))
 (.seq
 (.region [iI 59 (.load true 6 (.t 3)),iN (.store 6 (.t 2) (.t 59))] false)
 .ret)))))))))))))
def r32 : List ERes := [.cell true 6 2]
theorem c32 : chkF Tryz.prog Tryz.f32 1 e32 r32 = true := by kernel_rfl
def e46 : EC :=
 (.seq
 (.region [iI 3 (.box 113 (.t 1)),iI 4 (.mv (.c (.bool false)))] false)
 (.seq
 (.region [iI 5 (.mv (.t 0)),iI 6 (.mkfn 104 [(.t 3)]),iI 7 (.call 103 [(.t 5), (.t 6)]),iI 8 (.not (.t 7)),iI 4 (.mv (.t 8))] false)
 .ret))
def r46 : List ERes := [.t 4]
theorem c46 : chkF Tryz.prog Tryz.f46 2 e46 r46 = true := by kernel_rfl
def e47 : EC :=
 (.seq
 (.region [iI 1 (.box 106 (.t 0)),iI 2 (.mv (.c (.bool false)))] false)
 (.seq
 (.region [iI 4 (.faddr 1 (.t 1)),iI 5 (.load true 3 (.t 4)),iI 3 (.alloc 91 [.int .i64 0, .int .i64 0, .int .i64 0]),iN (.store 3 (.t 3) (.t 5))] false)
 (.seq
 (.block 0
 (.seq
 (.region [iI 7 (.faddr 0 (.t 1)),iI 8 (.load false 1 (.t 7)),iI 9 (.call 45 [(.t 8)]),iI 10 (.not (.t 9)),iI 11 (.mv (.t 10)),iG 12 11 false (.faddr 1 (.t 3)),iG 13 11 false (.load false 1 (.t 12)),iG 14 11 false (.call 105 [(.t 13)]),iG 15 11 false (.not (.t 14)),iI 16 (.pick (.t 11) (.c (.bool true)) (.t 15)),iI 17 (.mv (.t 16)),iG 18 17 false (.faddr 2 (.t 3)),iG 19 17 false (.load false 1 (.t 18)),iG 20 17 false (.call 105 [(.t 19)]),iG 21 17 false (.not (.t 20)),iI 22 (.pick (.t 17) (.c (.bool true)) (.t 21)),iI 6 (.mv (.t 22))] false)
 (.cond (.t 6)
 (.seq
 (.region [iI 2 (.mv (.c (.bool false)))] false)
 .ret)
 (.seq
 (.region [iI 24 (.faddr 0 (.t 3)),iI 25 (.load false 1 (.t 24)),iI 26 (.bin .neq (.t 25) (.c (.int .i64 1))),iI 27 (.mv (.t 26)),iG 28 27 true (.faddr 0 (.t 3)),iG 29 27 true (.load false 1 (.t 28)),iG 30 27 true (.bin .neq (.t 29) (.c (.int .i64 2))),iG 31 27 true (.mv (.t 30)),iG 32 31 false (.faddr 1 (.t 3)),iG 33 31 false (.load false 1 (.t 32)),iG 34 31 false (.bin .lss (.t 33) (.c (.int .i64 0))),iG 35 27 true (.pick (.t 31) (.c (.bool true)) (.t 34)),iG 36 27 true (.mv (.t 35)),iG 37 36 false (.faddr 2 (.t 3)),iG 38 36 false (.load false 1 (.t 37)),iG 39 36 false (.bin .lss (.t 38) (.c (.int .i64 0))),iG 40 27 true (.pick (.t 36) (.c (.bool true)) (.t 39)),iI 41 (.pick (.t 27) (.t 40) (.c (.bool false))),iI 23 (.mv (.t 41))] false)
 (.cond (.t 23)
 (.seq
 (.region [iI 2 (.mv (.c (.bool false)))] false)
 .ret)
 .skip)))))
 (.seq
 (.seq
 (.region [iI 42 (.faddr 4 (.t 1)),iI 43 (.faddr 0 (.t 42)),iI 44 (.load false 1 (.t 43))] false)
 (.block 1
 (.seq
 (.region [iI 46 (.bin .eql (.t 44) (.c (.int .i64 1))),iI 45 (.mv (.t 46))] false)
 (.cond (.t 45)
 (.seq
 (.region [iI 47 (.faddr 4 (.t 1)),iI 48 (.faddr 1 (.t 47)),iI 49 (.load false 1 (.t 48)),iI 50 (.call 105 [(.t 49)]),iI 51 (.mv (.t 50)),iG 52 51 true (.faddr 4 (.t 1)),iG 53 51 true (.faddr 2 (.t 52)),iG 54 51 true (.load false 1 (.t 53)),iG 55 51 true (.bin .eql (.t 54) (.c (.str []))),iI 56 (.pick (.t 51) (.t 55) (.c (.bool false))),iI 2 (.mv (.t 56))] false)
 .ret)
 (.seq
 (.region [iI 58 (.bin .eql (.t 44) (.c (.int .i64 2))),iI 57 (.mv (.t 58))] false)
 (.cond (.t 57)
 (.seq
 (.region [iI 59 (.faddr 4 (.t 1)),iI 60 (.faddr 1 (.t 59)),iI 61 (.load false 1 (.t 60)),iI 62 (.bin .eql (.t 61) (.c (.int .i64 0))),iI 63 (.mv (.t 62)),iG 64 63 true (.faddr 4 (.t 1)),iG 65 63 true (.faddr 2 (.t 64)),iG 66 63 true (.load false 1 (.t 65)),iG 67 63 true (.call 106 [(.t 66)]),iI 68 (.pick (.t 63) (.t 67) (.c (.bool false))),iI 2 (.mv (.t 68))] false)
 .ret)
 .skip))))))
 (.seq
 (.region [iI 2 (.mv (.c (.bool false)))] false)
 .ret)))))
def r47 : List ERes := [.t 2]
theorem c47 : chkF Tryz.prog Tryz.f47 1 e47 r47 = true := by kernel_rfl
def e48 : EC :=
 (.seq
 (.region [iI 3 (.box 115 (.t 1)),iI 4 (.mv (.c (.bool false)))] false)
 (.seq
 (.region [iI 5 (.mv (.t 0)),iI 6 (.mkfn 108 [(.t 3)]),iI 7 (.call 107 [(.t 5), (.t 6)]),iI 8 (.not (.t 7)),iI 4 (.mv (.t 8))] false)
 .ret))
def r48 : List ERes := [.t 4]
theorem c48 : chkF Tryz.prog Tryz.f48 2 e48 r48 = true := by kernel_rfl
def e49 : EC :=
 (.seq
 (.region [iI 1 (.box 109 (.t 0)),iI 2 (.mv (.c (.bool false)))] false)
 (.seq
 (.region [iI 3 (.mv (.c (.fn 109 [])))] false)
 (.seq
 (.region [iI 4 (.faddr 0 (.t 1)),iI 5 (.load false 1 (.t 4)),iI 6 (.call 111 [(.t 5)]),iI 7 (.mv (.t 6)),iG 8 7 true (.faddr 1 (.t 1)),iG 9 7 true (.load false 1 (.t 8)),iG 10 7 true (.call 45 [(.t 9)]),iI 11 (.pick (.t 7) (.t 10) (.c (.bool false))),iI 12 (.mv (.t 11)),iG 13 12 true (.faddr 2 (.t 1)),iG 14 12 true (.load false 1 (.t 13)),iG 15 12 true (.len (.t 14)),iG 16 12 true (.bin .leq (.t 15) (.c (.int .i64 4))),iI 17 (.pick (.t 12) (.t 16) (.c (.bool false))),iI 18 (.mv (.t 17)),iG 19 18 true (.faddr 2 (.t 1)),iG 20 18 true (.load false 1 (.t 19)),iG 21 18 true (.call 112 [(.t 20), (.c (.fn 45 []))]),iI 22 (.pick (.t 18) (.t 21) (.c (.bool false))),iI 23 (.mv (.t 22)),iG 24 23 true (.faddr 3 (.t 1)),iG 25 23 true (.load false 1 (.t 24)),iG 26 23 true (.call 113 [(.t 25), (.c (.fn 114 []))]),iI 27 (.pick (.t 23) (.t 26) (.c (.bool false))),iI 28 (.mv (.t 27)),iG 29 28 true (.faddr 3 (.t 1)),iG 30 28 true (.load false 1 (.t 29)),iG 31 28 true (.mv (.t 3)),iG 32 28 true (.call 113 [(.t 30), (.t 31)]),iI 33 (.pick (.t 28) (.t 32) (.c (.bool false))),iI 2 (.mv (.t 33))] false)
 .ret)))
def r49 : List ERes := [.t 2]
theorem c49 : chkF Tryz.prog Tryz.f49 1 e49 r49 = true := by kernel_rfl
def e50 : EC :=
 (.seq
 (.region [iI 3 (.box 117 (.t 1)),iI 4 (.mv (.c (.bool false)))] false)
 (.seq
 (.region [iI 5 (.mv (.t 0)),iI 6 (.mkfn 116 [(.t 3)]),iI 7 (.call 115 [(.t 5), (.t 6)]),iI 8 (.not (.t 7)),iI 4 (.mv (.t 8))] false)
 .ret))
def r50 : List ERes := [.t 4]
theorem c50 : chkF Tryz.prog Tryz.f50 2 e50 r50 = true := by kernel_rfl
def e51 : EC :=
 (.seq
 (.region [iI 1 (.box 74 (.t 0)),iI 2 (.mv (.c (.bool false)))] false)
 (.seq
 (.region [iI 3 (.mv (.c (.fn 117 [])))] false)
 (.seq
 (.region [iI 5 (.faddr 2 (.t 1)),iI 6 (.load false 1 (.t 5)),iI 7 (.faddr 3 (.t 1)),iI 8 (.load false 1 (.t 7)),iI 9 (.bslice 72 1 2 [.nilS] [(0, (.t 6)), (1, (.t 8))]),iI 10 (.call 119 [(.t 9)]),iI 4 (.mv (.t 10))] false)
 (.seq
 (.region [iI 11 (.faddr 0 (.t 1)),iI 12 (.load false 1 (.t 11)),iI 13 (.call 111 [(.t 12)]),iI 14 (.mv (.t 13)),iG 15 14 true (.faddr 1 (.t 1)),iG 16 14 true (.load false 1 (.t 15)),iG 17 14 true (.call 45 [(.t 16)]),iI 18 (.pick (.t 14) (.t 17) (.c (.bool false))),iI 19 (.mv (.t 18)),iG 20 19 true (.faddr 2 (.t 1)),iG 21 19 true (.load false 1 (.t 20)),iG 22 19 true (.len (.t 21)),iG 23 19 true (.bin .leq (.t 22) (.c (.int .i64 4))),iI 24 (.pick (.t 19) (.t 23) (.c (.bool false))),iI 25 (.mv (.t 24)),iG 26 25 true (.faddr 3 (.t 1)),iG 27 25 true (.load false 1 (.t 26)),iG 28 25 true (.len (.t 27)),iG 29 25 true (.bin .leq (.t 28) (.c (.int .i64 1))),iI 30 (.pick (.t 25) (.t 29) (.c (.bool false))),iI 31 (.mv (.t 30)),iG 32 31 true (.mv (.t 4)),iG 33 31 true (.call 120 [(.t 32), (.c (.fn 121 []))]),iI 34 (.pick (.t 31) (.t 33) (.c (.bool false))),iI 35 (.mv (.t 34)),iG 36 35 true (.mv (.t 4)),iG 37 35 true (.mv (.t 3)),iG 38 35 true (.call 120 [(.t 36), (.t 37)]),iI 39 (.pick (.t 35) (.t 38) (.c (.bool false))),iI 2 (.mv (.t 39))] false)
 .ret))))
def r51 : List ERes := [.t 2]
theorem c51 : chkF Tryz.prog Tryz.f51 1 e51 r51 = true := by kernel_rfl
def e52 : EC :=
 (.seq
 (.region [iI 1 (.box 27 (.t 0)),iI 2 (.mv (.c (.str [])))] false)
 (.seq
 (.region [iI 12 (.build [.raw (.pointer none), .nilS, .int .i64 0] []),iI 13 (.box 182 (.t 12)),iI 3 (.mv (.t 13))] false)
 (.seq
 (.region [iI 14 (.mv (.t 3)),iI 15 (.faddr 0 (.t 1)),iI 16 (.load false 1 (.t 15)),iI 17 (.faddr 1 (.t 1)),iI 18 (.load false 1 (.t 17)),iI 19 (.faddr 2 (.t 1)),iI 20 (.load false 1 (.t 19)),iI 21 (.bslice 9 1 7 [.str []] [(0, (.c (.str [115, 101, 114, 118, 105, 99, 101, 32]))), (1, (.t 16)), (2, (.c (.str [32, 112, 108, 97, 121, 115, 32]))), (3, (.t 18)), (4, (.c (.str [32, 111, 102, 32]))), (5, (.t 20)), (6, (.c (.str [32, 123])))]),iI 22 (.call 122 [(.t 14), (.t 21)])] false)
 (.seq
 (.region [iI 23 (.mv (.t 3)),iI 24 (.nilck (.t 23)),iI 25 (.faddr 2 (.t 24)),iN (.store 1 (.t 25) (.c (.int .i64 1)))] false)
 (.seq
 (.seq
 (.region [iI 26 (.faddr 3 (.t 1)),iI 27 (.load false 1 (.t 26)),iI 28 (.len (.t 27)),iI 29 (.mv (.c (.int .i64 0)))] false)
 (.block 0
 (.loop
 (.seq
 (.region [iI 30 (.bin .lss (.t 29) (.t 28))] false)
 (.seq
 (.cond (.t 30)
 .skip
 (.exit 0))
 (.seq
 (.block 1
 (.seq
 (.region [iI 31 (.iaddr 7 (.t 27) (.t 29)),iI 32 (.load true 7 (.t 31)),iI 5 (.alloc 106 [.str [], .int .i64 0, .int .i64 0, .int .i64 0, .int .i64 0, .int .i64 0, .str []]),iN (.store 7 (.t 5) (.t 32))] false)
 (.seq
 (.region [iI 6 (.mv (.c (.str [105, 110, 116, 32])))] false)
 (.seq
 (.seq
 (.region [iI 33 (.faddr 1 (.t 5)),iI 34 (.faddr 0 (.t 33)),iI 35 (.load false 1 (.t 34)),iI 36 (.bin .eql (.t 35) (.c (.int .i64 2)))] false)
 (.cond (.t 36)
 (.region [iI 6 (.mv (.c (.str [116, 101, 120, 116, 32])))] false)
 .skip))
 (.region [iI 37 (.mv (.t 3)),iI 38 (.faddr 0 (.t 5)),iI 39 (.load false 1 (.t 38)),iI 40 (.mv (.t 6)),iI 41 (.faddr 1 (.t 5)),iI 42 (.faddr 1 (.t 41)),iI 43 (.load false 1 (.t 42)),iI 44 (.pcall 123 [(.t 43)]),iI 45 (.faddr 1 (.t 5)),iI 46 (.faddr 2 (.t 45)),iI 47 (.load false 1 (.t 46)),iI 48 (.pcall 123 [(.t 47)]),iI 49 (.faddr 4 (.t 5)),iI 50 (.load true 3 (.t 49)),iI 51 (.pcall 124 [(.t 50)]),iI 52 (.bslice 9 1 10 [.str []] [(0, (.c (.str [118, 97, 114, 32]))), (1, (.t 39)), (2, (.c (.str [58, 32]))), (3, (.t 40)), (4, (.t 44)), (5, (.c (.str [32, 46, 46, 32]))), (6, (.t 48)), (7, (.c (.str [32, 61, 32]))), (8, (.t 51)), (9, (.c (.str [59])))]),iI 53 (.call 122 [(.t 37), (.t 52)])] true)))))
 (.region [iI 54 (.bin .add (.t 29) (.c (.int .i64 1))),iI 29 (.mv (.t 54))] false)))))))
 (.seq
 (.seq
 (.region [iI 55 (.faddr 4 (.t 1)),iI 56 (.load false 1 (.t 55)),iI 57 (.len (.t 56)),iI 58 (.mv (.c (.int .i64 0)))] false)
 (.block 2
 (.loop
 (.seq
 (.region [iI 59 (.bin .lss (.t 58) (.t 57))] false)
 (.seq
 (.cond (.t 59)
 .skip
 (.exit 2))
 (.seq
 (.block 3
 (.seq
 (.region [iI 60 (.iaddr 4 (.t 56) (.t 58)),iI 61 (.load true 4 (.t 60)),iI 8 (.alloc 109 [.str [], .str [], .nilS, .nilS]),iN (.store 4 (.t 8) (.t 61))] false)
 (.seq
 (.region [iI 62 (.mv (.t 3)),iI 63 (.faddr 0 (.t 8)),iI 64 (.load false 1 (.t 63)),iI 65 (.faddr 2 (.t 8)),iI 66 (.load false 1 (.t 65)),iI 67 (.pcall 125 [(.t 66), (.c (.str [44, 32]))]),iI 68 (.faddr 1 (.t 8)),iI 69 (.load false 1 (.t 68)),iI 70 (.bslice 9 1 7 [.str []] [(0, (.c (.str [111, 110, 32]))), (1, (.t 64)), (2, (.c (.str [40]))), (3, (.t 67)), (4, (.c (.str [41, 32, 102, 114, 111, 109, 32]))), (5, (.t 69)), (6, (.c (.str [32, 123])))]),iI 71 (.call 122 [(.t 62), (.t 70)])] true)
 (.seq
 (.region [iI 72 (.mv (.t 3)),iI 73 (.faddr 3 (.t 8)),iI 74 (.load false 1 (.t 73)),iI 75 (.call 126 [(.t 72), (.t 74)])] false)
 (.region [iI 76 (.mv (.t 3)),iI 77 (.bslice 9 1 1 [.str []] [(0, (.c (.str [125])))]),iI 78 (.call 122 [(.t 76), (.t 77)])] false)))))
 (.region [iI 79 (.bin .add (.t 58) (.c (.int .i64 1))),iI 58 (.mv (.t 79))] false)))))))
 (.seq
 (.seq
 (.region [iI 80 (.faddr 5 (.t 1)),iI 81 (.load false 1 (.t 80)),iI 82 (.len (.t 81)),iI 83 (.mv (.c (.int .i64 0)))] false)
 (.block 4
 (.loop
 (.seq
 (.region [iI 84 (.bin .lss (.t 83) (.t 82))] false)
 (.seq
 (.cond (.t 84)
 .skip
 (.exit 4))
 (.seq
 (.block 5
 (.seq
 (.region [iI 85 (.iaddr 4 (.t 81) (.t 83)),iI 86 (.load true 4 (.t 85)),iI 10 (.alloc 74 [.str [], .str [], .nilS, .nilS]),iN (.store 4 (.t 10) (.t 86))] false)
 (.seq
 (.region [iI 11 (.mv (.c (.str [])))] false)
 (.seq
 (.seq
 (.region [iI 87 (.faddr 3 (.t 10)),iI 88 (.load false 1 (.t 87)),iI 89 (.len (.t 88)),iI 90 (.bin .gtr (.t 89) (.c (.int .i64 0)))] false)
 (.cond (.t 90)
 (.region [iI 91 (.faddr 3 (.t 10)),iI 92 (.load false 1 (.t 91)),iI 93 (.iaddr 6 (.t 92) (.c (.int .i64 0))),iI 94 (.load true 6 (.t 93)),iI 95 (.call 127 [(.t 94)]),iI 96 (.bin .add (.c (.str [32, 119, 104, 101, 114, 101, 32])) (.t 95)),iI 11 (.mv (.t 96))] false)
 .skip))
 (.region [iI 97 (.mv (.t 3)),iI 98 (.faddr 0 (.t 10)),iI 99 (.load false 1 (.t 98)),iI 100 (.faddr 2 (.t 10)),iI 101 (.load false 1 (.t 100)),iI 102 (.pcall 128 [(.t 101)]),iI 103 (.faddr 1 (.t 10)),iI 104 (.load false 1 (.t 103)),iI 105 (.mv (.t 11)),iI 106 (.bslice 9 1 8 [.str []] [(0, (.c (.str [111, 102, 102, 101, 114, 32]))), (1, (.t 99)), (2, (.c (.str [40]))), (3, (.t 102)), (4, (.c (.str [41, 32, 116, 111, 32]))), (5, (.t 104)), (6, (.t 105)), (7, (.c (.str [59])))]),iI 107 (.call 122 [(.t 97), (.t 106)])] true)))))
 (.region [iI 108 (.bin .add (.t 83) (.c (.int .i64 1))),iI 83 (.mv (.t 108))] false)))))))
 (.seq
 (.region [iI 109 (.mv (.t 3)),iI 110 (.nilck (.t 109)),iI 111 (.faddr 2 (.t 110)),iN (.store 1 (.t 111) (.c (.int .i64 0)))] false)
 (.seq
 (.region [iI 112 (.mv (.t 3)),iI 113 (.bslice 9 1 1 [.str []] [(0, (.c (.str [125])))]),iI 114 (.call 122 [(.t 112), (.t 113)])] false)
 (.seq
 (.region [iI 115 (.mv (.t 3)),iI 116 (.nilck (.t 115)),iI 117 (.faddr 0 (.t 116)),iI 118 (.call 129 [(.t 117)]),iI 2 (.mv (.t 118))] false)
 .ret))))))))))
def r52 : List ERes := [.t 2]
theorem c52 : chkF Tryz.prog Tryz.f52 1 e52 r52 = true := by kernel_rfl
def e63 : EC :=
 (.seq
 (.region [iI 4 (.mv (.c (.bool false)))] false)
 (.seq
 (.seq
 (.region [iI 6 (.mv (.t 0)),iI 7 (.len (.t 6)),iI 8 (.mv (.t 1)),iI 9 (.len (.t 8)),iI 10 (.bin .neq (.t 7) (.t 9))] false)
 (.cond (.t 10)
 (.seq
 (.region [iI 4 (.mv (.c (.bool false)))] false)
 .ret)
 .skip))
 (.seq
 (.seq
 (.region [iI 11 (.mv (.t 0)),iI 12 (.len (.t 11)),iI 13 (.mv (.c (.int .i64 0)))] false)
 (.block 0
 (.loop
 (.seq
 (.region [iI 14 (.bin .lss (.t 13) (.t 12))] false)
 (.seq
 (.cond (.t 14)
 .skip
 (.exit 0))
 (.seq
 (.block 1
 (.seq
 (.region [iI 15 (.mv (.t 13)),iI 5 (.mv (.t 15))] false)
 (.seq
 (.region [iI 16 (.mv (.t 0)),iI 17 (.mv (.t 5)),iI 18 (.iaddr 7 (.t 16) (.t 17)),iI 19 (.load true 7 (.t 18)),iI 20 (.mv (.t 1)),iI 21 (.mv (.t 5)),iI 22 (.iaddr 7 (.t 20) (.t 21)),iI 23 (.load true 7 (.t 22)),iI 24 (.eqA true 106 [.s, .i .i64, .i .i64, .i .i64, .i .i64, .i .i64, .s] (.t 19) (.t 23))] true)
 (.cond (.t 24)
 (.seq
 (.region [iI 4 (.mv (.c (.bool false)))] false)
 .ret)
 .skip))))
 (.region [iI 25 (.bin .add (.t 13) (.c (.int .i64 1))),iI 13 (.mv (.t 25))] false)))))))
 (.seq
 (.region [iI 4 (.mv (.c (.bool true)))] false)
 .ret))))
def r63 : List ERes := [.t 4]
theorem c63 : chkF Tryz.prog Tryz.f63 2 e63 r63 = true := by kernel_rfl
def e64 : EC :=
 (.seq
 (.region [iI 6 (.mv (.c (.bool false)))] false)
 (.seq
 (.seq
 (.region [iI 10 (.mv (.t 0)),iI 11 (.len (.t 10)),iI 12 (.mv (.t 1)),iI 13 (.len (.t 12)),iI 14 (.bin .neq (.t 11) (.t 13))] false)
 (.cond (.t 14)
 (.seq
 (.region [iI 6 (.mv (.c (.bool false)))] false)
 .ret)
 .skip))
 (.seq
 (.seq
 (.region [iI 15 (.mv (.t 0)),iI 16 (.len (.t 15)),iI 17 (.mv (.c (.int .i64 0)))] false)
 (.block 0
 (.loop
 (.seq
 (.region [iI 18 (.bin .lss (.t 17) (.t 16))] false)
 (.seq
 (.cond (.t 18)
 .skip
 (.exit 0))
 (.seq
 (.block 1
 (.seq
 (.region [iI 19 (.mv (.t 17)),iI 20 (.iaddr 4 (.t 15) (.t 17)),iI 21 (.load true 4 (.t 20)),iI 8 (.alloc 109 [.str [], .str [], .nilS, .nilS]),iI 7 (.mv (.t 19)),iN (.store 4 (.t 8) (.t 21))] false)
 (.seq
 (.region [iI 22 (.mv (.t 1)),iI 23 (.mv (.t 7)),iI 24 (.iaddr 4 (.t 22) (.t 23)),iI 25 (.load true 4 (.t 24)),iI 9 (.alloc 109 [.str [], .str [], .nilS, .nilS]),iN (.store 4 (.t 9) (.t 25))] false)
 (.seq
 (.region [iI 26 (.mv (.t 2)),iI 27 (.load true 4 (.t 8)),iI 28 (.load true 4 (.t 9)),iI 29 (.callv (.t 26) [(.t 27), (.t 28)]),iI 30 (.not (.t 29))] false)
 (.cond (.t 30)
 (.seq
 (.region [iI 6 (.mv (.c (.bool false)))] false)
 .ret)
 .skip)))))
 (.region [iI 31 (.bin .add (.t 17) (.c (.int .i64 1))),iI 17 (.mv (.t 31))] false)))))))
 (.seq
 (.region [iI 6 (.mv (.c (.bool true)))] false)
 .ret))))
def r64 : List ERes := [.t 6]
theorem c64 : chkF Tryz.prog Tryz.f64 3 e64 r64 = true := by kernel_rfl
def e65 : EC :=
 (.seq
 (.region [iI 2 (.box 109 (.t 0)),iI 3 (.box 109 (.t 1)),iI 4 (.mv (.c (.bool false)))] false)
 (.seq
 (.region [iI 5 (.faddr 0 (.t 2)),iI 6 (.load false 1 (.t 5)),iI 7 (.faddr 0 (.t 3)),iI 8 (.load false 1 (.t 7)),iI 9 (.bin .eql (.t 6) (.t 8)),iI 10 (.mv (.t 9)),iG 11 10 true (.faddr 1 (.t 2)),iG 12 10 true (.load false 1 (.t 11)),iG 13 10 true (.faddr 1 (.t 3)),iG 14 10 true (.load false 1 (.t 13)),iG 15 10 true (.bin .eql (.t 12) (.t 14)),iI 16 (.pick (.t 10) (.t 15) (.c (.bool false))),iI 17 (.mv (.t 16)),iG 18 17 true (.faddr 2 (.t 2)),iG 19 17 true (.load false 1 (.t 18)),iG 20 17 true (.faddr 2 (.t 3)),iG 21 17 true (.load false 1 (.t 20)),iG 22 17 true (.call 66 [(.t 19), (.t 21)]),iI 23 (.pick (.t 17) (.t 22) (.c (.bool false))),iI 24 (.mv (.t 23)),iG 25 24 true (.faddr 3 (.t 2)),iG 26 24 true (.load false 1 (.t 25)),iG 27 24 true (.faddr 3 (.t 3)),iG 28 24 true (.load false 1 (.t 27)),iG 29 24 true (.call 67 [(.t 26), (.t 28), (.c (.fn 68 []))]),iI 30 (.pick (.t 24) (.t 29) (.c (.bool false))),iI 4 (.mv (.t 30))] false)
 .ret))
def r65 : List ERes := [.t 4]
theorem c65 : chkF Tryz.prog Tryz.f65 2 e65 r65 = true := by kernel_rfl
def e66 : EC :=
 (.seq
 (.region [iI 4 (.mv (.c (.bool false)))] false)
 (.seq
 (.seq
 (.region [iI 6 (.mv (.t 0)),iI 7 (.len (.t 6)),iI 8 (.mv (.t 1)),iI 9 (.len (.t 8)),iI 10 (.bin .neq (.t 7) (.t 9))] false)
 (.cond (.t 10)
 (.seq
 (.region [iI 4 (.mv (.c (.bool false)))] false)
 .ret)
 .skip))
 (.seq
 (.seq
 (.region [iI 11 (.mv (.t 0)),iI 12 (.len (.t 11)),iI 13 (.mv (.c (.int .i64 0)))] false)
 (.block 0
 (.loop
 (.seq
 (.region [iI 14 (.bin .lss (.t 13) (.t 12))] false)
 (.seq
 (.cond (.t 14)
 .skip
 (.exit 0))
 (.seq
 (.block 1
 (.seq
 (.region [iI 15 (.mv (.t 13)),iI 5 (.mv (.t 15))] false)
 (.seq
 (.region [iI 16 (.mv (.t 0)),iI 17 (.mv (.t 5)),iI 18 (.iaddr 1 (.t 16) (.t 17)),iI 19 (.load false 1 (.t 18)),iI 20 (.mv (.t 1)),iI 21 (.mv (.t 5)),iI 22 (.iaddr 1 (.t 20) (.t 21)),iI 23 (.load false 1 (.t 22)),iI 24 (.bin .neq (.t 19) (.t 23))] true)
 (.cond (.t 24)
 (.seq
 (.region [iI 4 (.mv (.c (.bool false)))] false)
 .ret)
 .skip))))
 (.region [iI 25 (.bin .add (.t 13) (.c (.int .i64 1))),iI 13 (.mv (.t 25))] false)))))))
 (.seq
 (.region [iI 4 (.mv (.c (.bool true)))] false)
 .ret))))
def r66 : List ERes := [.t 4]
theorem c66 : chkF Tryz.prog Tryz.f66 2 e66 r66 = true := by kernel_rfl
def e67 : EC :=
 (.seq
 (.region [iI 6 (.mv (.c (.bool false)))] false)
 (.seq
 (.seq
 (.region [iI 10 (.mv (.t 0)),iI 11 (.len (.t 10)),iI 12 (.mv (.t 1)),iI 13 (.len (.t 12)),iI 14 (.bin .neq (.t 11) (.t 13))] false)
 (.cond (.t 14)
 (.seq
 (.region [iI 6 (.mv (.c (.bool false)))] false)
 .ret)
 .skip))
 (.seq
 (.seq
 (.region [iI 15 (.mv (.t 0)),iI 16 (.len (.t 15)),iI 17 (.mv (.c (.int .i64 0)))] false)
 (.block 0
 (.loop
 (.seq
 (.region [iI 18 (.bin .lss (.t 17) (.t 16))] false)
 (.seq
 (.cond (.t 18)
 .skip
 (.exit 0))
 (.seq
 (.block 1
 (.seq
 (.region [iI 19 (.mv (.t 17)),iI 20 (.iaddr 11 (.t 15) (.t 17)),iI 21 (.load true 11 (.t 20)),iI 8 (.alloc 133 [.int .i64 0, .str [], .int .i64 0, .str [], .str [], .str [], .int .i64 0, .nilS, .int .i64 0, .nilS, .nilS]),iI 7 (.mv (.t 19)),iN (.store 11 (.t 8) (.t 21))] false)
 (.seq
 (.region [iI 22 (.mv (.t 1)),iI 23 (.mv (.t 7)),iI 24 (.iaddr 11 (.t 22) (.t 23)),iI 25 (.load true 11 (.t 24)),iI 9 (.alloc 133 [.int .i64 0, .str [], .int .i64 0, .str [], .str [], .str [], .int .i64 0, .nilS, .int .i64 0, .nilS, .nilS]),iN (.store 11 (.t 9) (.t 25))] false)
 (.seq
 (.region [iI 26 (.mv (.t 2)),iI 27 (.load true 11 (.t 8)),iI 28 (.load true 11 (.t 9)),iI 29 (.callv (.t 26) [(.t 27), (.t 28)]),iI 30 (.not (.t 29))] false)
 (.cond (.t 30)
 (.seq
 (.region [iI 6 (.mv (.c (.bool false)))] false)
 .ret)
 .skip)))))
 (.region [iI 31 (.bin .add (.t 17) (.c (.int .i64 1))),iI 17 (.mv (.t 31))] false)))))))
 (.seq
 (.region [iI 6 (.mv (.c (.bool true)))] false)
 .ret))))
def r67 : List ERes := [.t 6]
theorem c67 : chkF Tryz.prog Tryz.f67 3 e67 r67 = true := by kernel_rfl
def e68 : EC :=
 (.seq
 (.region [iI 2 (.box 133 (.t 0)),iI 3 (.box 133 (.t 1)),iI 4 (.mv (.c (.bool false)))] false)
 (.seq
 (.region [iI 5 (.faddr 0 (.t 2)),iI 6 (.load false 1 (.t 5)),iI 7 (.faddr 0 (.t 3)),iI 8 (.load false 1 (.t 7)),iI 9 (.bin .eql (.t 6) (.t 8)),iI 10 (.mv (.t 9)),iG 11 10 true (.faddr 1 (.t 2)),iG 12 10 true (.load false 1 (.t 11)),iG 13 10 true (.faddr 1 (.t 3)),iG 14 10 true (.load false 1 (.t 13)),iG 15 10 true (.bin .eql (.t 12) (.t 14)),iI 16 (.pick (.t 10) (.t 15) (.c (.bool false))),iI 17 (.mv (.t 16)),iG 18 17 true (.faddr 8 (.t 2)),iG 19 17 true (.load false 1 (.t 18)),iG 20 17 true (.faddr 8 (.t 3)),iG 21 17 true (.load false 1 (.t 20)),iG 22 17 true (.bin .eql (.t 19) (.t 21)),iI 23 (.pick (.t 17) (.t 22) (.c (.bool false))),iI 24 (.mv (.t 23)),iG 25 24 true (.faddr 2 (.t 2)),iG 26 24 true (.load true 6 (.t 25)),iG 27 24 true (.faddr 2 (.t 3)),iG 28 24 true (.load true 6 (.t 27)),iG 29 24 true (.call 72 [(.t 26), (.t 28)]),iI 30 (.pick (.t 24) (.t 29) (.c (.bool false))),iI 31 (.mv (.t 30)),iG 32 31 true (.faddr 9 (.t 2)),iG 33 31 true (.load false 1 (.t 32)),iG 34 31 true (.faddr 9 (.t 3)),iG 35 31 true (.load false 1 (.t 34)),iG 36 31 true (.call 67 [(.t 33), (.t 35), (.c (.fn 68 []))]),iI 37 (.pick (.t 31) (.t 36) (.c (.bool false))),iI 38 (.mv (.t 37)),iG 39 38 true (.faddr 10 (.t 2)),iG 40 38 true (.load false 1 (.t 39)),iG 41 38 true (.faddr 10 (.t 3)),iG 42 38 true (.load false 1 (.t 41)),iG 43 38 true (.call 67 [(.t 40), (.t 42), (.c (.fn 68 []))]),iI 44 (.pick (.t 38) (.t 43) (.c (.bool false))),iI 4 (.mv (.t 44))] false)
 .ret))
def r68 : List ERes := [.t 4]
theorem c68 : chkF Tryz.prog Tryz.f68 2 e68 r68 = true := by kernel_rfl
def e69 : EC :=
 (.seq
 (.region [iI 6 (.mv (.c (.bool false)))] false)
 (.seq
 (.seq
 (.region [iI 10 (.mv (.t 0)),iI 11 (.len (.t 10)),iI 12 (.mv (.t 1)),iI 13 (.len (.t 12)),iI 14 (.bin .neq (.t 11) (.t 13))] false)
 (.cond (.t 14)
 (.seq
 (.region [iI 6 (.mv (.c (.bool false)))] false)
 .ret)
 .skip))
 (.seq
 (.seq
 (.region [iI 15 (.mv (.t 0)),iI 16 (.len (.t 15)),iI 17 (.mv (.c (.int .i64 0)))] false)
 (.block 0
 (.loop
 (.seq
 (.region [iI 18 (.bin .lss (.t 17) (.t 16))] false)
 (.seq
 (.cond (.t 18)
 .skip
 (.exit 0))
 (.seq
 (.block 1
 (.seq
 (.region [iI 19 (.mv (.t 17)),iI 20 (.iaddr 4 (.t 15) (.t 17)),iI 21 (.load true 4 (.t 20)),iI 8 (.alloc 74 [.str [], .str [], .nilS, .nilS]),iI 7 (.mv (.t 19)),iN (.store 4 (.t 8) (.t 21))] false)
 (.seq
 (.region [iI 22 (.mv (.t 1)),iI 23 (.mv (.t 7)),iI 24 (.iaddr 4 (.t 22) (.t 23)),iI 25 (.load true 4 (.t 24)),iI 9 (.alloc 74 [.str [], .str [], .nilS, .nilS]),iN (.store 4 (.t 9) (.t 25))] false)
 (.seq
 (.region [iI 26 (.mv (.t 2)),iI 27 (.load true 4 (.t 8)),iI 28 (.load true 4 (.t 9)),iI 29 (.callv (.t 26) [(.t 27), (.t 28)]),iI 30 (.not (.t 29))] false)
 (.cond (.t 30)
 (.seq
 (.region [iI 6 (.mv (.c (.bool false)))] false)
 .ret)
 .skip)))))
 (.region [iI 31 (.bin .add (.t 17) (.c (.int .i64 1))),iI 17 (.mv (.t 31))] false)))))))
 (.seq
 (.region [iI 6 (.mv (.c (.bool true)))] false)
 .ret))))
def r69 : List ERes := [.t 6]
theorem c69 : chkF Tryz.prog Tryz.f69 3 e69 r69 = true := by kernel_rfl
def e70 : EC :=
 (.seq
 (.region [iI 2 (.box 74 (.t 0)),iI 3 (.box 74 (.t 1)),iI 4 (.mv (.c (.bool false)))] false)
 (.seq
 (.region [iI 5 (.faddr 0 (.t 2)),iI 6 (.load false 1 (.t 5)),iI 7 (.faddr 0 (.t 3)),iI 8 (.load false 1 (.t 7)),iI 9 (.bin .eql (.t 6) (.t 8)),iI 10 (.mv (.t 9)),iG 11 10 true (.faddr 1 (.t 2)),iG 12 10 true (.load false 1 (.t 11)),iG 13 10 true (.faddr 1 (.t 3)),iG 14 10 true (.load false 1 (.t 13)),iG 15 10 true (.bin .eql (.t 12) (.t 14)),iI 16 (.pick (.t 10) (.t 15) (.c (.bool false))),iI 17 (.mv (.t 16)),iG 18 17 true (.faddr 2 (.t 2)),iG 19 17 true (.load false 1 (.t 18)),iG 20 17 true (.faddr 2 (.t 3)),iG 21 17 true (.load false 1 (.t 20)),iG 22 17 true (.call 71 [(.t 19), (.t 21), (.c (.fn 72 []))]),iI 23 (.pick (.t 17) (.t 22) (.c (.bool false))),iI 24 (.mv (.t 23)),iG 25 24 true (.faddr 3 (.t 2)),iG 26 24 true (.load false 1 (.t 25)),iG 27 24 true (.faddr 3 (.t 3)),iG 28 24 true (.load false 1 (.t 27)),iG 29 24 true (.call 71 [(.t 26), (.t 28), (.c (.fn 72 []))]),iI 30 (.pick (.t 24) (.t 29) (.c (.bool false))),iI 4 (.mv (.t 30))] false)
 .ret))
def r70 : List ERes := [.t 4]
theorem c70 : chkF Tryz.prog Tryz.f70 2 e70 r70 = true := by kernel_rfl
def e71 : EC :=
 (.seq
 (.region [iI 6 (.mv (.c (.bool false)))] false)
 (.seq
 (.seq
 (.region [iI 10 (.mv (.t 0)),iI 11 (.len (.t 10)),iI 12 (.mv (.t 1)),iI 13 (.len (.t 12)),iI 14 (.bin .neq (.t 11) (.t 13))] false)
 (.cond (.t 14)
 (.seq
 (.region [iI 6 (.mv (.c (.bool false)))] false)
 .ret)
 .skip))
 (.seq
 (.seq
 (.region [iI 15 (.mv (.t 0)),iI 16 (.len (.t 15)),iI 17 (.mv (.c (.int .i64 0)))] false)
 (.block 0
 (.loop
 (.seq
 (.region [iI 18 (.bin .lss (.t 17) (.t 16))] false)
 (.seq
 (.cond (.t 18)
 .skip
 (.exit 0))
 (.seq
 (.block 1
 (.seq
 (.region [iI 19 (.mv (.t 17)),iI 20 (.iaddr 6 (.t 15) (.t 17)),iI 21 (.load true 6 (.t 20)),iI 8 (.alloc 131 [.int .i64 0, .str [], .str [], .str [], .int .i64 0, .nilS]),iI 7 (.mv (.t 19)),iN (.store 6 (.t 8) (.t 21))] false)
 (.seq
 (.region [iI 22 (.mv (.t 1)),iI 23 (.mv (.t 7)),iI 24 (.iaddr 6 (.t 22) (.t 23)),iI 25 (.load true 6 (.t 24)),iI 9 (.alloc 131 [.int .i64 0, .str [], .str [], .str [], .int .i64 0, .nilS]),iN (.store 6 (.t 9) (.t 25))] false)
 (.seq
 (.region [iI 26 (.mv (.t 2)),iI 27 (.load true 6 (.t 8)),iI 28 (.load true 6 (.t 9)),iI 29 (.callv (.t 26) [(.t 27), (.t 28)]),iI 30 (.not (.t 29))] false)
 (.cond (.t 30)
 (.seq
 (.region [iI 6 (.mv (.c (.bool false)))] false)
 .ret)
 .skip)))))
 (.region [iI 31 (.bin .add (.t 17) (.c (.int .i64 1))),iI 17 (.mv (.t 31))] false)))))))
 (.seq
 (.region [iI 6 (.mv (.c (.bool true)))] false)
 .ret))))
def r71 : List ERes := [.t 6]
theorem c71 : chkF Tryz.prog Tryz.f71 3 e71 r71 = true := by kernel_rfl
def e72 : EC :=
 (.seq
 (.region [iI 2 (.box 131 (.t 0)),iI 3 (.box 131 (.t 1)),iI 4 (.mv (.c (.bool false)))] false)
 (.seq
 (.region [iI 5 (.faddr 0 (.t 2)),iI 6 (.load false 1 (.t 5)),iI 7 (.faddr 0 (.t 3)),iI 8 (.load false 1 (.t 7)),iI 9 (.bin .eql (.t 6) (.t 8)),iI 10 (.mv (.t 9)),iG 11 10 true (.faddr 1 (.t 2)),iG 12 10 true (.load false 1 (.t 11)),iG 13 10 true (.faddr 1 (.t 3)),iG 14 10 true (.load false 1 (.t 13)),iG 15 10 true (.bin .eql (.t 12) (.t 14)),iI 16 (.pick (.t 10) (.t 15) (.c (.bool false))),iI 17 (.mv (.t 16)),iG 18 17 true (.faddr 2 (.t 2)),iG 19 17 true (.load false 1 (.t 18)),iG 20 17 true (.faddr 2 (.t 3)),iG 21 17 true (.load false 1 (.t 20)),iG 22 17 true (.bin .eql (.t 19) (.t 21)),iI 23 (.pick (.t 17) (.t 22) (.c (.bool false))),iI 24 (.mv (.t 23)),iG 25 24 true (.faddr 3 (.t 2)),iG 26 24 true (.load false 1 (.t 25)),iG 27 24 true (.faddr 3 (.t 3)),iG 28 24 true (.load false 1 (.t 27)),iG 29 24 true (.bin .eql (.t 26) (.t 28)),iI 30 (.pick (.t 24) (.t 29) (.c (.bool false))),iI 31 (.mv (.t 30)),iG 32 31 true (.faddr 4 (.t 2)),iG 33 31 true (.load false 1 (.t 32)),iG 34 31 true (.faddr 4 (.t 3)),iG 35 31 true (.load false 1 (.t 34)),iG 36 31 true (.bin .eql (.t 33) (.t 35)),iI 37 (.pick (.t 31) (.t 36) (.c (.bool false))),iI 38 (.mv (.t 37)),iG 39 38 true (.faddr 5 (.t 2)),iG 40 38 true (.load false 1 (.t 39)),iG 41 38 true (.faddr 5 (.t 3)),iG 42 38 true (.load false 1 (.t 41)),iG 43 38 true (.call 71 [(.t 40), (.t 42), (.c (.fn 72 []))]),iI 44 (.pick (.t 38) (.t 43) (.c (.bool false))),iI 4 (.mv (.t 44))] false)
 .ret))
def r72 : List ERes := [.t 4]
theorem c72 : chkF Tryz.prog Tryz.f72 2 e72 r72 = true := by kernel_rfl
def e78 : EC :=
 (.block 0
 (.loop
 (.seq
 (.seq
 (.region [iI 4 (.mv (.t 0)),iI 5 (.nilck (.t 4)),iI 6 (.faddr 1 (.t 5)),iI 7 (.load false 1 (.t 6)),iI 8 (.mv (.t 0)),iI 9 (.nilck (.t 8)),iI 10 (.faddr 0 (.t 9)),iI 11 (.load false 1 (.t 10)),iI 12 (.lenS (.t 11)),iI 13 (.bin .lss (.t 7) (.t 12))] true)
 (.cond (.t 13)
 .skip
 (.exit 0)))
 (.block 1
 (.seq
 (.region [iI 14 (.mv (.t 0)),iI 15 (.nilck (.t 14)),iI 16 (.faddr 0 (.t 15)),iI 17 (.load false 1 (.t 16)),iI 18 (.mv (.t 0)),iI 19 (.nilck (.t 18)),iI 20 (.faddr 1 (.t 19)),iI 21 (.load false 1 (.t 20)),iI 22 (.slS (.t 17) (some (.t 21)) none),iI 2 (.mv (.t 22))] true)
 (.block 2
 (.seq
 (.region [iI 24 (.mv (.t 2)),iI 25 (.idxS (.t 24) (.c (.int .i64 0))),iI 26 (.conv .i32 (.t 25)),iI 27 (.call 144 [(.c (.str [32, 9, 10, 13])), (.t 26)]),iI 23 (.mv (.t 27))] false)
 (.cond (.t 23)
 (.region [iI 28 (.mv (.t 0)),iI 29 (.nilck (.t 28)),iI 30 (.faddr 1 (.t 29)),iI 31 (.load false 1 (.t 30)),iI 32 (.bin .add (.t 31) (.c (.int .i64 1))),iI 33 (.nilck (.t 28)),iI 34 (.faddr 1 (.t 33)),iN (.store 1 (.t 34) (.t 32))] false)
 (.seq
 (.region [iI 36 (.mv (.t 2)),iI 37 (.call 145 [(.t 36), (.c (.str [47, 47]))]),iI 35 (.mv (.t 37))] false)
 (.cond (.t 35)
 (.seq
 (.region [iI 38 (.mv (.t 2)),iI 39 (.call 146 [(.t 38), (.c (.int .u8 10))]),iI 3 (.mv (.t 39))] false)
 (.seq
 (.seq
 (.region [iI 40 (.mv (.t 3)),iI 41 (.bin .lss (.t 40) (.c (.int .i64 0)))] false)
 (.cond (.t 41)
 (.region [iI 42 (.mv (.t 2)),iI 43 (.lenS (.t 42)),iI 44 (.bin .sub (.t 43) (.c (.int .i64 1))),iI 3 (.mv (.t 44))] false)
 .skip))
 (.region [iI 45 (.mv (.t 0)),iI 46 (.nilck (.t 45)),iI 47 (.faddr 1 (.t 46)),iI 48 (.load false 1 (.t 47)),iI 49 (.mv (.t 3)),iI 50 (.bin .add (.t 49) (.c (.int .i64 1))),iI 51 (.bin .add (.t 48) (.t 50)),iI 52 (.nilck (.t 45)),iI 53 (.faddr 1 (.t 52)),iN (.store 1 (.t 53) (.t 51))] false)))
 .ret))))))))))
def r78 : List ERes := []
theorem c78 : chkF Tryz.prog Tryz.f78 1 e78 r78 = true := by kernel_rfl
def e79 : EC :=
 (.seq
 (.region [iI 2 (.alloc 152 [.int .i64 0, .str [], .int .i64 0, .int .i64 0]),iI 3 (.mv (.c (.int .i64 0)))] false)
 (.seq
 (.seq
 (.region [iI 7 (.build [.str [], .str [], .str [], .str [], .str [], .str [], .str [], .str []] [(0, 1, (.c (.str [45, 62]))), (1, 1, (.c (.str [46, 46]))), (2, 1, (.c (.str [60, 61]))), (3, 1, (.c (.str [62, 61]))), (4, 1, (.c (.str [61, 61]))), (5, 1, (.c (.str [33, 61]))), (6, 1, (.c (.str [38, 38]))), (7, 1, (.c (.str [124, 124])))]),iI 8 (.mv (.c (.int .i64 0)))] false)
 (.block 0
 (.loop
 (.seq
 (.region [iI 9 (.bin .lss (.t 8) (.c (.int .i64 8)))] false)
 (.seq
 (.cond (.t 9)
 .skip
 (.exit 0))
 (.seq
 (.block 1
 (.seq
 (.region [iI 10 (.idxA false 8 1 (.t 7) (.t 8)),iI 5 (.mv (.t 10))] false)
 (.seq
 (.region [iI 11 (.mv (.t 0)),iI 12 (.nilck (.t 11)),iI 13 (.faddr 0 (.t 12)),iI 14 (.load false 1 (.t 13)),iI 15 (.mv (.t 0)),iI 16 (.nilck (.t 15)),iI 17 (.faddr 1 (.t 16)),iI 18 (.load false 1 (.t 17)),iI 19 (.slS (.t 14) (some (.t 18)) none),iI 20 (.mv (.t 5)),iI 21 (.pcall 145 [(.t 19), (.t 20)])] true)
 (.cond (.t 21)
 (.seq
 (.region [iI 22 (.mv (.t 0)),iI 23 (.nilck (.t 22)),iI 24 (.faddr 1 (.t 23)),iI 25 (.load false 1 (.t 24)),iI 26 (.bin .add (.t 25) (.c (.int .i64 2))),iI 27 (.nilck (.t 22)),iI 28 (.faddr 1 (.t 27)),iN (.store 1 (.t 28) (.t 26))] false)
 (.seq
 (.region [iI 29 (.mv (.t 5)),iI 30 (.build [.int .i64 0, .str [], .int .i64 0, .int .i64 0] [(0, 1, (.c (.int .i64 4))), (1, 1, (.t 29))]),iN (.store 4 (.t 2) (.t 30)),iI 3 (.mv (.c (.int .i64 0)))] false)
 .ret))
 .skip))))
 (.region [iI 31 (.bin .add (.t 8) (.c (.int .i64 1))),iI 8 (.mv (.t 31))] false)))))))
 (.seq
 (.region [iI 32 (.mv (.t 0)),iI 33 (.nilck (.t 32)),iI 34 (.faddr 0 (.t 33)),iI 35 (.load false 1 (.t 34)),iI 36 (.mv (.t 0)),iI 37 (.nilck (.t 36)),iI 38 (.faddr 1 (.t 37)),iI 39 (.load false 1 (.t 38)),iI 40 (.mv (.t 0)),iI 41 (.nilck (.t 40)),iI 42 (.faddr 1 (.t 41)),iI 43 (.load false 1 (.t 42)),iI 44 (.bin .add (.t 43) (.c (.int .i64 1))),iI 45 (.slS (.t 35) (some (.t 39)) (some (.t 44))),iI 6 (.mv (.t 45))] true)
 (.seq
 (.seq
 (.region [iI 46 (.mv (.t 6)),iI 47 (.call 147 [(.c (.str [40, 41, 123, 125, 44, 59, 58, 46, 43, 45, 42, 47, 37, 60, 62, 61, 33])), (.t 46)]),iI 48 (.not (.t 47))] false)
 (.cond (.t 48)
 (.seq
 (.region [iI 49 (.build [.int .i64 0, .str [], .int .i64 0, .int .i64 0] []),iN (.store 4 (.t 2) (.t 49)),iI 3 (.mv (.c (.int .i64 3)))] false)
 .ret)
 .skip))
 (.seq
 (.region [iI 50 (.mv (.t 0)),iI 51 (.nilck (.t 50)),iI 52 (.faddr 1 (.t 51)),iI 53 (.load false 1 (.t 52)),iI 54 (.bin .add (.t 53) (.c (.int .i64 1))),iI 55 (.nilck (.t 50)),iI 56 (.faddr 1 (.t 55)),iN (.store 1 (.t 56) (.t 54))] false)
 (.seq
 (.region [iI 57 (.mv (.t 6)),iI 58 (.build [.int .i64 0, .str [], .int .i64 0, .int .i64 0] [(0, 1, (.c (.int .i64 4))), (1, 1, (.t 57))]),iN (.store 4 (.t 2) (.t 58)),iI 3 (.mv (.c (.int .i64 0)))] false)
 .ret))))))
def r79 : List ERes := [.cell true 4 2, .t 3]
theorem c79 : chkF Tryz.prog Tryz.f79 1 e79 r79 = true := by kernel_rfl
def e80 : EC :=
 (.seq
 (.region [iI 2 (.mv (.c (.bool false)))] false)
 (.seq
 (.region [iI 3 (.mv (.t 0)),iI 4 (.bin .leq (.c (.int .u8 97)) (.t 3)),iI 5 (.mv (.t 4)),iG 6 5 true (.mv (.t 0)),iG 7 5 true (.bin .leq (.t 6) (.c (.int .u8 122))),iI 8 (.pick (.t 5) (.t 7) (.c (.bool false))),iI 9 (.mv (.t 8)),iG 10 9 false (.mv (.t 0)),iG 11 9 false (.bin .leq (.c (.int .u8 65)) (.t 10)),iG 12 9 false (.mv (.t 11)),iG 13 12 true (.mv (.t 0)),iG 14 12 true (.bin .leq (.t 13) (.c (.int .u8 90))),iG 15 9 false (.pick (.t 12) (.t 14) (.c (.bool false))),iI 16 (.pick (.t 9) (.c (.bool true)) (.t 15)),iI 2 (.mv (.t 16))] false)
 .ret))
def r80 : List ERes := [.t 2]
theorem c80 : chkF Tryz.prog Tryz.f80 1 e80 r80 = true := by kernel_rfl
def e81 : EC :=
 (.seq
 (.region [iI 2 (.alloc 152 [.int .i64 0, .str [], .int .i64 0, .int .i64 0]),iI 3 (.mv (.c (.int .i64 0)))] false)
 (.seq
 (.region [iI 5 (.mv (.t 0)),iI 6 (.call 148 [(.t 5), (.c (.fn 149 []))]),iI 4 (.mv (.t 6))] false)
 (.seq
 (.seq
 (.region [iI 7 (.mv (.t 4)),iI 8 (.lenS (.t 7)),iI 9 (.bin .gtr (.t 8) (.c (.int .i64 16)))] false)
 (.cond (.t 9)
 (.seq
 (.region [iI 10 (.build [.int .i64 0, .str [], .int .i64 0, .int .i64 0] []),iN (.store 4 (.t 2) (.t 10)),iI 3 (.mv (.c (.int .i64 6)))] false)
 .ret)
 .skip))
 (.seq
 (.region [iI 11 (.mv (.t 4)),iI 12 (.build [.int .i64 0, .str [], .int .i64 0, .int .i64 0] [(0, 1, (.c (.int .i64 1))), (1, 1, (.t 11))]),iN (.store 4 (.t 2) (.t 12)),iI 3 (.mv (.c (.int .i64 0)))] false)
 .ret))))
def r81 : List ERes := [.cell true 4 2, .t 3]
theorem c81 : chkF Tryz.prog Tryz.f81 1 e81 r81 = true := by kernel_rfl
def e82 : EC :=
 (.seq
 (.region [iI 2 (.mv (.c (.bool false)))] false)
 (.seq
 (.region [iI 3 (.mv (.t 0)),iI 4 (.bin .leq (.c (.int .u8 48)) (.t 3)),iI 5 (.mv (.t 4)),iG 6 5 true (.mv (.t 0)),iG 7 5 true (.bin .leq (.t 6) (.c (.int .u8 57))),iI 8 (.pick (.t 5) (.t 7) (.c (.bool false))),iI 2 (.mv (.t 8))] false)
 .ret))
def r82 : List ERes := [.t 2]
theorem c82 : chkF Tryz.prog Tryz.f82 1 e82 r82 = true := by kernel_rfl
def e83 : EC :=
 (.seq
 (.region [iI 2 (.alloc 152 [.int .i64 0, .str [], .int .i64 0, .int .i64 0]),iI 3 (.mv (.c (.int .i64 0)))] false)
 (.seq
 (.region [iI 7 (.mv (.t 0)),iI 8 (.call 148 [(.t 7), (.c (.fn 82 []))]),iI 4 (.mv (.t 8))] false)
 (.seq
 (.seq
 (.region [iI 9 (.mv (.t 0)),iI 10 (.nilck (.t 9)),iI 11 (.faddr 1 (.t 10)),iI 12 (.load false 1 (.t 11)),iI 13 (.mv (.t 0)),iI 14 (.nilck (.t 13)),iI 15 (.faddr 0 (.t 14)),iI 16 (.load false 1 (.t 15)),iI 17 (.lenS (.t 16)),iI 18 (.bin .lss (.t 12) (.t 17)),iI 19 (.mv (.t 18)),iG 20 19 true (.mv (.t 0)),iG 21 19 true (.nilck (.t 20)),iG 22 19 true (.faddr 0 (.t 21)),iG 23 19 true (.load false 1 (.t 22)),iG 24 19 true (.mv (.t 0)),iG 25 19 true (.nilck (.t 24)),iG 26 19 true (.faddr 1 (.t 25)),iG 27 19 true (.load false 1 (.t 26)),iG 28 19 true (.idxS (.t 23) (.t 27)),iG 29 19 true (.pcall 149 [(.t 28)]),iI 30 (.pick (.t 19) (.t 29) (.c (.bool false)))] true)
 (.cond (.t 30)
 (.seq
 (.region [iI 31 (.build [.int .i64 0, .str [], .int .i64 0, .int .i64 0] []),iN (.store 4 (.t 2) (.t 31)),iI 3 (.mv (.c (.int .i64 3)))] false)
 .ret)
 .skip))
 (.seq
 (.seq
 (.region [iI 32 (.mv (.t 4)),iI 33 (.lenS (.t 32)),iI 34 (.bin .gtr (.t 33) (.c (.int .i64 6))),iI 35 (.mv (.t 34)),iG 36 35 false (.mv (.t 4)),iG 37 35 false (.lenS (.t 36)),iG 38 35 false (.bin .gtr (.t 37) (.c (.int .i64 1))),iG 39 35 false (.mv (.t 38)),iG 40 39 true (.mv (.t 4)),iG 41 39 true (.idxS (.t 40) (.c (.int .i64 0))),iG 42 39 true (.bin .eql (.t 41) (.c (.int .u8 48))),iG 43 35 false (.pick (.t 39) (.t 42) (.c (.bool false))),iI 44 (.pick (.t 35) (.c (.bool true)) (.t 43))] false)
 (.cond (.t 44)
 (.seq
 (.region [iI 45 (.build [.int .i64 0, .str [], .int .i64 0, .int .i64 0] []),iN (.store 4 (.t 2) (.t 45)),iI 3 (.mv (.c (.int .i64 2)))] false)
 .ret)
 .skip))
 (.seq
 (.region [iI 46 (.build [.int .i64 0, .str [], .int .i64 0, .int .i64 0] [(0, 1, (.c (.int .i64 2)))]),iI 5 (.alloc 152 [.int .i64 0, .str [], .int .i64 0, .int .i64 0]),iN (.store 4 (.t 5) (.t 46))] false)
 (.seq
 (.seq
 (.region [iI 47 (.mv (.t 4)),iI 48 (.lenS (.t 47)),iI 49 (.mv (.c (.int .i64 0)))] false)
 (.block 0
 (.loop
 (.seq
 (.region [iI 50 (.bin .lss (.t 49) (.t 48))] false)
 (.seq
 (.cond (.t 50)
 .skip
 (.exit 0))
 (.seq
 (.block 1
 (.seq
 (.region [iI 51 (.mv (.t 49)),iI 6 (.mv (.t 51))] false)
 (.region [iI 52 (.faddr 2 (.t 5)),iI 53 (.load false 1 (.t 52)),iI 54 (.bin .mul (.c (.int .i64 10)) (.t 53)),iI 55 (.mv (.t 4)),iI 56 (.mv (.t 6)),iI 57 (.idxS (.t 55) (.t 56)),iI 58 (.bin .sub (.t 57) (.c (.int .u8 48))),iI 59 (.conv .i64 (.t 58)),iI 60 (.bin .add (.t 54) (.t 59)),iI 61 (.faddr 2 (.t 5)),iN (.store 1 (.t 61) (.t 60))] true)))
 (.region [iI 62 (.bin .add (.t 49) (.c (.int .i64 1))),iI 49 (.mv (.t 62))] false)))))))
 (.seq
 (.region [iI 63 (.load true 4 (.t 5)),iN (.store 4 (.t 2) (.t 63)),iI 3 (.mv (.c (.int .i64 0)))] false)
 .ret)))))))
def r83 : List ERes := [.cell true 4 2, .t 3]
theorem c83 : chkF Tryz.prog Tryz.f83 1 e83 r83 = true := by kernel_rfl
def e85 : EC :=
 (.seq
 (.region [iI 4 (.mv (.t 0)),iI 5 (.mv (.t 1)),iI 6 (.call 87 [(.t 4), (.t 5)]),iI 7 (.not (.t 6))] false)
 (.cond (.t 7)
 (.region [iI 8 (.mv (.t 0)),iI 9 (.call 91 [(.t 8), (.c (.int .i64 3))])] false)
 .skip))
def r85 : List ERes := []
theorem c85 : chkF Tryz.prog Tryz.f85 2 e85 r85 = true := by kernel_rfl
def e86 : EC :=
 (.seq
 (.region [iI 2 (.mv (.c (.str [])))] false)
 (.seq
 (.seq
 (.region [iI 3 (.mv (.t 0)),iI 4 (.call 150 [(.t 3)]),iI 5 (.not (.t 4))] false)
 (.cond (.t 5)
 (.region [iI 6 (.mv (.t 0)),iI 7 (.call 91 [(.t 6), (.c (.int .i64 3))])] false)
 .skip))
 (.seq
 (.region [iI 8 (.mv (.t 0)),iI 9 (.call 151 [(.t 8), (.c (.int .i64 1))]),iI 10 (.field false 1 1 (.t 9)),iI 2 (.mv (.t 10))] false)
 .ret)))
def r86 : List ERes := [.t 2]
theorem c86 : chkF Tryz.prog Tryz.f86 1 e86 r86 = true := by kernel_rfl
def e87 : EC :=
 (.seq
 (.region [iI 4 (.mv (.c (.bool false)))] false)
 (.seq
 (.region [iI 6 (.mv (.t 0)),iI 7 (.mv (.t 1)),iI 8 (.call 152 [(.t 6), (.t 7)]),iI 5 (.mv (.t 8))] false)
 (.seq
 (.seq
 (.region [iI 9 (.mv (.t 5))] false)
 (.cond (.t 9)
 (.region [iI 10 (.mv (.t 0)),iI 11 (.mv (.t 0)),iI 12 (.nilck (.t 11)),iI 13 (.faddr 0 (.t 12)),iI 14 (.load false 1 (.t 13)),iI 15 (.slV 4 (.t 14) (some (.c (.int .i64 1))) none none),iI 16 (.nilck (.t 10)),iI 17 (.faddr 0 (.t 16)),iN (.store 1 (.t 17) (.t 15))] false)
 .skip))
 (.seq
 (.region [iI 18 (.mv (.t 5)),iI 4 (.mv (.t 18))] false)
 .ret))))
def r87 : List ERes := [.t 4]
theorem c87 : chkF Tryz.prog Tryz.f87 2 e87 r87 = true := by kernel_rfl
def e88 : EC :=
 (.seq
 (.region [iI 2 (.alloc 106 [.str [], .int .i64 0, .int .i64 0, .int .i64 0, .int .i64 0, .int .i64 0, .str []])] false)
 (.seq
 (.region [iI 4 (.mv (.t 0)),iI 5 (.call 86 [(.t 4)]),iI 6 (.build [.str [], .int .i64 0, .int .i64 0, .int .i64 0, .int .i64 0, .int .i64 0, .str []] [(0, 1, (.t 5))]),iI 3 (.alloc 106 [.str [], .int .i64 0, .int .i64 0, .int .i64 0, .int .i64 0, .int .i64 0, .str []]),iN (.store 7 (.t 3) (.t 6))] false)
 (.seq
 (.region [iI 7 (.mv (.t 0)),iI 8 (.call 85 [(.t 7), (.c (.str [58]))])] false)
 (.seq
 (.seq
 (.region [iI 9 (.mv (.t 0)),iI 10 (.call 87 [(.t 9), (.c (.str [116, 101, 120, 116]))])] false)
 (.cond (.t 10)
 (.seq
 (.region [iI 11 (.mv (.t 0)),iI 12 (.call 151 [(.t 11), (.c (.int .i64 2))]),iI 13 (.field false 2 1 (.t 12)),iI 14 (.build [.int .i64 0, .int .i64 0, .int .i64 0] [(0, 1, (.c (.int .i64 2))), (1, 1, (.t 13))]),iI 15 (.faddr 1 (.t 3)),iN (.store 3 (.t 15) (.t 14))] false)
 (.seq
 (.region [iI 16 (.mv (.t 0)),iI 17 (.call 85 [(.t 16), (.c (.str [46, 46]))])] false)
 (.region [iI 18 (.mv (.t 0)),iI 19 (.call 151 [(.t 18), (.c (.int .i64 2))]),iI 20 (.field false 2 1 (.t 19)),iI 21 (.faddr 1 (.t 3)),iI 22 (.faddr 2 (.t 21)),iN (.store 1 (.t 22) (.t 20))] false)))
 (.seq
 (.region [iI 23 (.mv (.t 0)),iI 24 (.call 85 [(.t 23), (.c (.str [105, 110, 116]))])] false)
 (.seq
 (.region [iI 25 (.mv (.t 0)),iI 26 (.call 153 [(.t 25)]),iI 27 (.build [.int .i64 0, .int .i64 0, .int .i64 0] [(0, 1, (.c (.int .i64 1))), (1, 1, (.t 26))]),iI 28 (.faddr 1 (.t 3)),iN (.store 3 (.t 28) (.t 27))] false)
 (.seq
 (.region [iI 29 (.mv (.t 0)),iI 30 (.call 85 [(.t 29), (.c (.str [46, 46]))])] false)
 (.region [iI 31 (.mv (.t 0)),iI 32 (.call 153 [(.t 31)]),iI 33 (.faddr 1 (.t 3)),iI 34 (.faddr 2 (.t 33)),iN (.store 1 (.t 34) (.t 32))] false))))))
 (.seq
 (.region [iI 35 (.mv (.t 0)),iI 36 (.call 85 [(.t 35), (.c (.str [61]))])] false)
 (.seq
 (.seq
 (.region [iI 37 (.mv (.t 0)),iI 38 (.nilck (.t 37)),iI 39 (.faddr 0 (.t 38)),iI 40 (.load false 1 (.t 39)),iI 41 (.len (.t 40)),iI 42 (.bin .gtr (.t 41) (.c (.int .i64 0))),iI 43 (.mv (.t 42)),iG 44 43 true (.mv (.t 0)),iG 45 43 true (.nilck (.t 44)),iG 46 43 true (.faddr 0 (.t 45)),iG 47 43 true (.load false 1 (.t 46)),iG 48 43 true (.iaddr 4 (.t 47) (.c (.int .i64 0))),iG 49 43 true (.faddr 0 (.t 48)),iG 50 43 true (.load false 1 (.t 49)),iG 51 43 true (.bin .eql (.t 50) (.c (.int .i64 3))),iI 52 (.pick (.t 43) (.t 51) (.c (.bool false)))] false)
 (.cond (.t 52)
 (.region [iI 53 (.mv (.t 0)),iI 54 (.call 151 [(.t 53), (.c (.int .i64 3))]),iI 55 (.field false 1 1 (.t 54)),iI 56 (.build [.int .i64 0, .int .i64 0, .str []] [(0, 1, (.c (.int .i64 2))), (2, 1, (.t 55))]),iI 57 (.faddr 4 (.t 3)),iN (.store 3 (.t 57) (.t 56))] false)
 (.region [iI 58 (.mv (.t 0)),iI 59 (.call 153 [(.t 58)]),iI 60 (.build [.int .i64 0, .int .i64 0, .str []] [(0, 1, (.c (.int .i64 1))), (1, 1, (.t 59))]),iI 61 (.faddr 4 (.t 3)),iN (.store 3 (.t 61) (.t 60))] false)))
 (.seq
 (.region [iI 62 (.mv (.t 0)),iI 63 (.call 85 [(.t 62), (.c (.str [59]))])] false)
 (.seq
 (.region [iI 64 (.load true 7 (.t 3)),iN (.store 7 (.t 2) (.t 64))] false)
 .ret))))))))
def r88 : List ERes := [.cell true 7 2]
theorem c88 : chkF Tryz.prog Tryz.f88 1 e88 r88 = true := by kernel_rfl
def e89 : EC :=
 (.seq
 (.region [iI 2 (.alloc 109 [.str [], .str [], .nilS, .nilS])] false)
 (.seq
 (.region [iI 4 (.mv (.t 0)),iI 5 (.call 154 [(.t 4)]),iI 6 (.build [.str [], .str [], .nilS, .nilS] [(0, 1, (.t 5))]),iI 3 (.alloc 109 [.str [], .str [], .nilS, .nilS]),iN (.store 4 (.t 3) (.t 6))] false)
 (.seq
 (.region [iI 7 (.mv (.t 0)),iI 8 (.call 85 [(.t 7), (.c (.str [40]))])] false)
 (.seq
 (.seq
 (.region [iI 9 (.mv (.t 0)),iI 10 (.call 87 [(.t 9), (.c (.str [41]))]),iI 11 (.not (.t 10))] false)
 (.cond (.t 11)
 (.seq
 (.region [iI 12 (.faddr 2 (.t 3)),iI 13 (.loadD 3 false 1 (.t 12)),iI 14 (.mv (.t 0)),iI 15 (.callD [3] 86 [(.t 14)]),iI 16 (.bslice 9 1 1 [.str []] [(0, (.t 15))]),iI 17 (.append 9 1 16 (.t 13) (.t 16)),iI 18 (.faddr 2 (.t 3)),iN (.store 1 (.t 18) (.t 17))] true)
 (.seq
 (.block 0
 (.loop
 (.seq
 (.seq
 (.region [iI 19 (.mv (.t 0)),iI 20 (.call 87 [(.t 19), (.c (.str [44]))])] false)
 (.cond (.t 20)
 .skip
 (.exit 0)))
 (.block 1
 (.region [iI 21 (.faddr 2 (.t 3)),iI 22 (.loadD 3 false 1 (.t 21)),iI 23 (.mv (.t 0)),iI 24 (.callD [3] 86 [(.t 23)]),iI 25 (.bslice 9 1 1 [.str []] [(0, (.t 24))]),iI 26 (.append 9 1 16 (.t 22) (.t 25)),iI 27 (.faddr 2 (.t 3)),iN (.store 1 (.t 27) (.t 26))] true)))))
 (.region [iI 28 (.mv (.t 0)),iI 29 (.call 85 [(.t 28), (.c (.str [41]))])] false)))
 .skip))
 (.seq
 (.region [iI 30 (.mv (.t 0)),iI 31 (.call 85 [(.t 30), (.c (.str [102, 114, 111, 109]))])] false)
 (.seq
 (.region [iI 32 (.mv (.t 0)),iI 33 (.call 86 [(.t 32)]),iI 34 (.faddr 1 (.t 3)),iN (.store 1 (.t 34) (.t 33))] false)
 (.seq
 (.region [iI 35 (.mv (.t 0)),iI 36 (.call 155 [(.t 35)]),iI 37 (.faddr 3 (.t 3)),iN (.store 1 (.t 37) (.t 36))] false)
 (.seq
 (.region [iI 38 (.load true 4 (.t 3)),iN (.store 4 (.t 2) (.t 38))] false)
 .ret))))))))
def r89 : List ERes := [.cell true 4 2]
theorem c89 : chkF Tryz.prog Tryz.f89 1 e89 r89 = true := by kernel_rfl
def e90 : EC :=
 (.seq
 (.region [iI 2 (.alloc 74 [.str [], .str [], .nilS, .nilS])] false)
 (.seq
 (.region [iI 4 (.mv (.t 0)),iI 5 (.call 154 [(.t 4)]),iI 6 (.build [.str [], .str [], .nilS, .nilS] [(0, 1, (.t 5))]),iI 3 (.alloc 74 [.str [], .str [], .nilS, .nilS]),iN (.store 4 (.t 3) (.t 6))] false)
 (.seq
 (.region [iI 7 (.mv (.t 0)),iI 8 (.call 85 [(.t 7), (.c (.str [40]))])] false)
 (.seq
 (.seq
 (.region [iI 9 (.mv (.t 0)),iI 10 (.call 87 [(.t 9), (.c (.str [41]))]),iI 11 (.not (.t 10))] false)
 (.cond (.t 11)
 (.seq
 (.region [iI 12 (.faddr 2 (.t 3)),iI 13 (.loadD 3 false 1 (.t 12)),iI 14 (.mv (.t 0)),iI 15 (.callD [3] 156 [(.t 14), (.c (.int .i64 1))]),iI 16 (.bslice 131 6 1 [.int .i64 0, .str [], .str [], .str [], .int .i64 0, .nilS] [(0, (.t 15))]),iI 17 (.append 131 6 88 (.t 13) (.t 16)),iI 18 (.faddr 2 (.t 3)),iN (.store 1 (.t 18) (.t 17))] true)
 (.seq
 (.block 0
 (.loop
 (.seq
 (.seq
 (.region [iI 19 (.mv (.t 0)),iI 20 (.call 87 [(.t 19), (.c (.str [44]))])] false)
 (.cond (.t 20)
 .skip
 (.exit 0)))
 (.block 1
 (.region [iI 21 (.faddr 2 (.t 3)),iI 22 (.loadD 3 false 1 (.t 21)),iI 23 (.mv (.t 0)),iI 24 (.callD [3] 156 [(.t 23), (.c (.int .i64 1))]),iI 25 (.bslice 131 6 1 [.int .i64 0, .str [], .str [], .str [], .int .i64 0, .nilS] [(0, (.t 24))]),iI 26 (.append 131 6 88 (.t 22) (.t 25)),iI 27 (.faddr 2 (.t 3)),iN (.store 1 (.t 27) (.t 26))] true)))))
 (.region [iI 28 (.mv (.t 0)),iI 29 (.call 85 [(.t 28), (.c (.str [41]))])] false)))
 .skip))
 (.seq
 (.region [iI 30 (.mv (.t 0)),iI 31 (.call 85 [(.t 30), (.c (.str [116, 111]))])] false)
 (.seq
 (.region [iI 32 (.mv (.t 0)),iI 33 (.call 86 [(.t 32)]),iI 34 (.faddr 1 (.t 3)),iN (.store 1 (.t 34) (.t 33))] false)
 (.seq
 (.seq
 (.region [iI 35 (.mv (.t 0)),iI 36 (.call 87 [(.t 35), (.c (.str [119, 104, 101, 114, 101]))])] false)
 (.cond (.t 36)
 (.region [iI 37 (.mv (.t 0)),iI 38 (.call 156 [(.t 37), (.c (.int .i64 1))]),iI 39 (.bslice 131 6 1 [.int .i64 0, .str [], .str [], .str [], .int .i64 0, .nilS] [(0, (.t 38))]),iI 40 (.faddr 3 (.t 3)),iN (.store 1 (.t 40) (.t 39))] false)
 .skip))
 (.seq
 (.region [iI 41 (.mv (.t 0)),iI 42 (.call 85 [(.t 41), (.c (.str [59]))])] false)
 (.seq
 (.region [iI 43 (.load true 4 (.t 3)),iN (.store 4 (.t 2) (.t 43))] false)
 .ret)))))))))
def r90 : List ERes := [.cell true 4 2]
theorem c90 : chkF Tryz.prog Tryz.f90 1 e90 r90 = true := by kernel_rfl
def e91 : EC :=
 (.seq
 (.region [iI 5 (.mv (.t 0)),iI 6 (.nilck (.t 5)),iI 7 (.faddr 1 (.t 6)),iI 8 (.load false 1 (.t 7)),iI 4 (.mv (.t 8))] false)
 (.seq
 (.seq
 (.region [iI 9 (.mv (.t 0)),iI 10 (.nilck (.t 9)),iI 11 (.faddr 0 (.t 10)),iI 12 (.load false 1 (.t 11)),iI 13 (.len (.t 12)),iI 14 (.bin .gtr (.t 13) (.c (.int .i64 0)))] false)
 (.cond (.t 14)
 (.region [iI 15 (.mv (.t 0)),iI 16 (.nilck (.t 15)),iI 17 (.faddr 0 (.t 16)),iI 18 (.load false 1 (.t 17)),iI 19 (.iaddr 4 (.t 18) (.c (.int .i64 0))),iI 20 (.faddr 3 (.t 19)),iI 21 (.load false 1 (.t 20)),iI 4 (.mv (.t 21))] false)
 .skip))
 (.region [iI 22 (.mv (.t 4)),iI 23 (.mv (.t 1)),iI 24 (.build [.int .i64 0, .int .i64 0] [(0, 1, (.t 22)), (1, 1, (.t 23))]),iI 25 (.mkif 79 (.t 24)),iN (.panic (.t 25))] false)))
def r91 : List ERes := []
theorem c91 : chkF Tryz.prog Tryz.f91 2 e91 r91 = true := by kernel_rfl
def e103 : EC :=
 (.seq
 (.region [iI 4 (.mv (.c (.bool false)))] false)
 (.seq
 (.region [iI 5 (.mv (.t 0)),iI 6 (.mv (.t 1)),iI 7 (.call 160 [(.t 5), (.t 6)]),iI 8 (.bin .geq (.t 7) (.c (.int .i64 0))),iI 4 (.mv (.t 8))] false)
 .ret))
def r103 : List ERes := [.t 4]
theorem c103 : chkF Tryz.prog Tryz.f103 2 e103 r103 = true := by kernel_rfl
def e104 : EC :=
 (.seq
 (.region [iI 2 (.box 106 (.t 0)),iI 3 (.mv (.c (.bool false)))] false)
 (.seq
 (.region [iI 4 (.load false 1 (.t 1)),iI 5 (.load true 7 (.t 2)),iI 6 (.callv (.t 4) [(.t 5)]),iI 7 (.not (.t 6)),iI 3 (.mv (.t 7))] false)
 .ret))
def r104 : List ERes := [.t 3]
theorem c104 : chkF Tryz.prog Tryz.f104 1 e104 r104 = true := by kernel_rfl
def e105 : EC :=
 (.seq
 (.region [iI 2 (.mv (.c (.bool false)))] false)
 (.seq
 (.region [iI 3 (.mv (.t 0)),iI 4 (.bin .geq (.t 3) (.c (.int .i64 (-999999)))),iI 5 (.mv (.t 4)),iG 6 5 true (.mv (.t 0)),iG 7 5 true (.bin .leq (.t 6) (.c (.int .i64 999999))),iI 8 (.pick (.t 5) (.t 7) (.c (.bool false))),iI 2 (.mv (.t 8))] false)
 .ret))
def r105 : List ERes := [.t 2]
theorem c105 : chkF Tryz.prog Tryz.f105 1 e105 r105 = true := by kernel_rfl
def e106 : EC :=
 (.seq
 (.region [iI 2 (.mv (.c (.bool false)))] false)
 (.seq
 (.region [iI 3 (.mv (.t 0)),iI 4 (.lenS (.t 3)),iI 5 (.bin .leq (.t 4) (.c (.int .i64 40))),iI 6 (.mv (.t 5)),iG 7 6 true (.mv (.t 0)),iG 8 6 true (.call 161 [(.t 7), (.c (.fn 162 []))]),iG 9 6 true (.not (.t 8)),iI 10 (.pick (.t 6) (.t 9) (.c (.bool false))),iI 2 (.mv (.t 10))] false)
 .ret))
def r106 : List ERes := [.t 2]
theorem c106 : chkF Tryz.prog Tryz.f106 1 e106 r106 = true := by kernel_rfl
def e107 : EC :=
 (.seq
 (.region [iI 4 (.mv (.c (.bool false)))] false)
 (.seq
 (.region [iI 5 (.mv (.t 0)),iI 6 (.mv (.t 1)),iI 7 (.call 163 [(.t 5), (.t 6)]),iI 8 (.bin .geq (.t 7) (.c (.int .i64 0))),iI 4 (.mv (.t 8))] false)
 .ret))
def r107 : List ERes := [.t 4]
theorem c107 : chkF Tryz.prog Tryz.f107 2 e107 r107 = true := by kernel_rfl
def e108 : EC :=
 (.seq
 (.region [iI 2 (.box 109 (.t 0)),iI 3 (.mv (.c (.bool false)))] false)
 (.seq
 (.region [iI 4 (.load false 1 (.t 1)),iI 5 (.load true 4 (.t 2)),iI 6 (.callv (.t 4) [(.t 5)]),iI 7 (.not (.t 6)),iI 3 (.mv (.t 7))] false)
 .ret))
def r108 : List ERes := [.t 3]
theorem c108 : chkF Tryz.prog Tryz.f108 1 e108 r108 = true := by kernel_rfl
def e109 : EC :=
 (.seq
 (.region [iI 1 (.box 133 (.t 0)),iI 2 (.mv (.c (.bool false)))] false)
 (.seq
 (.region [iI 3 (.load true 11 (.t 1)),iI 4 (.call 110 [(.t 3)]),iI 5 (.bin .leq (.t 4) (.c (.int .i64 10))),iI 2 (.mv (.t 5))] false)
 .ret))
def r109 : List ERes := [.t 2]
theorem c109 : chkF Tryz.prog Tryz.f109 1 e109 r109 = true := by kernel_rfl
def e110 : EC :=
 (.seq
 (.region [iI 1 (.box 133 (.t 0)),iI 2 (.mv (.c (.int .i64 0)))] false)
 (.seq
 (.region [iI 6 (.faddr 2 (.t 1)),iI 7 (.load true 6 (.t 6)),iI 8 (.call 118 [(.t 7)]),iI 3 (.mv (.t 8))] false)
 (.seq
 (.seq
 (.region [iI 9 (.faddr 9 (.t 1)),iI 10 (.load false 1 (.t 9)),iI 11 (.faddr 10 (.t 1)),iI 12 (.load false 1 (.t 11)),iI 13 (.bslice 107 1 2 [.nilS] [(0, (.t 10)), (1, (.t 12))]),iI 14 (.call 164 [(.t 13)]),iI 15 (.len (.t 14)),iI 16 (.mv (.c (.int .i64 0)))] false)
 (.block 0
 (.loop
 (.seq
 (.region [iI 17 (.bin .lss (.t 16) (.t 15))] false)
 (.seq
 (.cond (.t 17)
 .skip
 (.exit 0))
 (.seq
 (.block 1
 (.seq
 (.region [iI 18 (.iaddr 11 (.t 14) (.t 16)),iI 19 (.load true 11 (.t 18)),iI 5 (.alloc 133 [.int .i64 0, .str [], .int .i64 0, .str [], .str [], .str [], .int .i64 0, .nilS, .int .i64 0, .nilS, .nilS]),iN (.store 11 (.t 5) (.t 19))] false)
 (.region [iI 20 (.mv (.t 3)),iI 21 (.load true 11 (.t 5)),iI 22 (.call 110 [(.t 21)]),iI 23 (.minmax true [(.t 20), (.t 22)]),iI 3 (.mv (.t 23))] false)))
 (.region [iI 24 (.bin .add (.t 16) (.c (.int .i64 1))),iI 16 (.mv (.t 24))] false)))))))
 (.seq
 (.region [iI 25 (.mv (.t 3)),iI 26 (.bin .add (.c (.int .i64 1)) (.t 25)),iI 2 (.mv (.t 26))] false)
 .ret))))
def r110 : List ERes := [.t 2]
theorem c110 : chkF Tryz.prog Tryz.f110 1 e110 r110 = true := by kernel_rfl
def e111 : EC :=
 (.seq
 (.region [iI 2 (.mv (.c (.bool false)))] false)
 (.seq
 (.region [iI 3 (.mv (.t 0)),iI 4 (.lenS (.t 3)),iI 5 (.bin .leq (.t 4) (.c (.int .i64 50))),iI 6 (.mv (.t 5)),iG 7 6 true (.mv (.t 0)),iG 8 6 true (.call 166 [(.t 7), (.c (.str [46]))]),iG 9 6 true (.call 165 [(.t 8), (.c (.fn 167 []))]),iG 10 6 true (.not (.t 9)),iI 11 (.pick (.t 6) (.t 10) (.c (.bool false))),iI 2 (.mv (.t 11))] false)
 .ret))
def r111 : List ERes := [.t 2]
theorem c111 : chkF Tryz.prog Tryz.f111 1 e111 r111 = true := by kernel_rfl
def e112 : EC :=
 (.seq
 (.region [iI 3 (.box 41 (.t 1)),iI 4 (.mv (.c (.bool false)))] false)
 (.seq
 (.region [iI 5 (.mv (.t 0)),iI 6 (.mkfn 168 [(.t 3)]),iI 7 (.call 165 [(.t 5), (.t 6)]),iI 8 (.not (.t 7)),iI 4 (.mv (.t 8))] false)
 .ret))
def r112 : List ERes := [.t 4]
theorem c112 : chkF Tryz.prog Tryz.f112 2 e112 r112 = true := by kernel_rfl
def e113 : EC :=
 (.seq
 (.region [iI 3 (.box 170 (.t 1)),iI 4 (.mv (.c (.bool false)))] false)
 (.seq
 (.region [iI 5 (.mv (.t 0)),iI 6 (.mkfn 170 [(.t 3)]),iI 7 (.call 169 [(.t 5), (.t 6)]),iI 8 (.not (.t 7)),iI 4 (.mv (.t 8))] false)
 .ret))
def r113 : List ERes := [.t 4]
theorem c113 : chkF Tryz.prog Tryz.f113 2 e113 r113 = true := by kernel_rfl
def e114 : EC :=
 (.seq
 (.region [iI 1 (.box 133 (.t 0)),iI 2 (.mv (.c (.bool false)))] false)
 (.seq
 (.seq
 (.region [iI 3 (.faddr 0 (.t 1)),iI 4 (.load false 1 (.t 3))] false)
 (.block 0
 (.seq
 (.region [iI 6 (.bin .eql (.t 4) (.c (.int .i64 1))),iI 5 (.mv (.t 6))] false)
 (.cond (.t 5)
 (.seq
 (.region [iI 7 (.faddr 1 (.t 1)),iI 8 (.load false 1 (.t 7)),iI 9 (.call 45 [(.t 8)]),iI 10 (.not (.t 9)),iI 11 (.mv (.t 10)),iG 12 11 false (.faddr 8 (.t 1)),iG 13 11 false (.load false 1 (.t 12)),iG 14 11 false (.bin .neq (.t 13) (.c (.int .i64 0))),iI 15 (.pick (.t 11) (.c (.bool true)) (.t 14)),iI 16 (.mv (.t 15)),iG 17 16 false (.faddr 9 (.t 1)),iG 18 16 false (.load false 1 (.t 17)),iG 19 16 false (.len (.t 18)),iG 20 16 false (.bin .gtr (.t 19) (.c (.int .i64 0))),iI 21 (.pick (.t 16) (.c (.bool true)) (.t 20)),iI 22 (.mv (.t 21)),iG 23 22 false (.faddr 10 (.t 1)),iG 24 22 false (.load false 1 (.t 23)),iG 25 22 false (.len (.t 24)),iG 26 22 false (.bin .gtr (.t 25) (.c (.int .i64 0))),iI 27 (.pick (.t 22) (.c (.bool true)) (.t 26))] false)
 (.cond (.t 27)
 (.seq
 (.region [iI 2 (.mv (.c (.bool false)))] false)
 .ret)
 .skip))
 (.seq
 (.region [iI 29 (.bin .eql (.t 4) (.c (.int .i64 2))),iI 28 (.mv (.t 29))] false)
 (.cond (.t 28)
 (.seq
 (.region [iI 30 (.faddr 1 (.t 1)),iI 31 (.load false 1 (.t 30)),iI 32 (.bin .neq (.t 31) (.c (.str []))),iI 33 (.mv (.t 32)),iG 34 33 false (.faddr 8 (.t 1)),iG 35 33 false (.load false 1 (.t 34)),iG 36 33 false (.bin .neq (.t 35) (.c (.int .i64 0))),iI 37 (.pick (.t 33) (.c (.bool true)) (.t 36))] false)
 (.cond (.t 37)
 (.seq
 (.region [iI 2 (.mv (.c (.bool false)))] false)
 .ret)
 .skip))
 (.seq
 (.region [iI 39 (.bin .eql (.t 4) (.c (.int .i64 3))),iI 38 (.mv (.t 39))] false)
 (.cond (.t 38)
 (.seq
 (.region [iI 40 (.faddr 1 (.t 1)),iI 41 (.load false 1 (.t 40)),iI 42 (.bin .neq (.t 41) (.c (.str []))),iI 43 (.mv (.t 42)),iG 44 43 false (.faddr 8 (.t 1)),iG 45 43 false (.load false 1 (.t 44)),iG 46 43 false (.bin .lss (.t 45) (.c (.int .i64 1))),iI 47 (.pick (.t 43) (.c (.bool true)) (.t 46)),iI 48 (.mv (.t 47)),iG 49 48 false (.faddr 8 (.t 1)),iG 50 48 false (.load false 1 (.t 49)),iG 51 48 false (.bin .gtr (.t 50) (.c (.int .i64 50))),iI 52 (.pick (.t 48) (.c (.bool true)) (.t 51)),iI 53 (.mv (.t 52)),iG 54 53 false (.faddr 10 (.t 1)),iG 55 53 false (.load false 1 (.t 54)),iG 56 53 false (.len (.t 55)),iG 57 53 false (.bin .gtr (.t 56) (.c (.int .i64 0))),iI 58 (.pick (.t 53) (.c (.bool true)) (.t 57))] false)
 (.cond (.t 58)
 (.seq
 (.region [iI 2 (.mv (.c (.bool false)))] false)
 .ret)
 .skip))
 (.seq
 (.region [iI 2 (.mv (.c (.bool false)))] false)
 .ret)))))))))
 (.seq
 (.region [iI 59 (.faddr 2 (.t 1)),iI 60 (.load true 6 (.t 59)),iI 61 (.call 121 [(.t 60)]),iI 62 (.mv (.t 61)),iG 63 62 true (.faddr 9 (.t 1)),iG 64 62 true (.load false 1 (.t 63)),iG 65 62 true (.call 113 [(.t 64), (.c (.fn 114 []))]),iI 66 (.pick (.t 62) (.t 65) (.c (.bool false))),iI 67 (.mv (.t 66)),iG 68 67 true (.faddr 10 (.t 1)),iG 69 67 true (.load false 1 (.t 68)),iG 70 67 true (.call 113 [(.t 69), (.c (.fn 114 []))]),iI 71 (.pick (.t 67) (.t 70) (.c (.bool false))),iI 2 (.mv (.t 71))] false)
 .ret)))
def r114 : List ERes := [.t 2]
theorem c114 : chkF Tryz.prog Tryz.f114 1 e114 r114 = true := by kernel_rfl
def e115 : EC :=
 (.seq
 (.region [iI 4 (.mv (.c (.bool false)))] false)
 (.seq
 (.region [iI 5 (.mv (.t 0)),iI 6 (.mv (.t 1)),iI 7 (.call 171 [(.t 5), (.t 6)]),iI 8 (.bin .geq (.t 7) (.c (.int .i64 0))),iI 4 (.mv (.t 8))] false)
 .ret))
def r115 : List ERes := [.t 4]
theorem c115 : chkF Tryz.prog Tryz.f115 2 e115 r115 = true := by kernel_rfl
def e116 : EC :=
 (.seq
 (.region [iI 2 (.box 74 (.t 0)),iI 3 (.mv (.c (.bool false)))] false)
 (.seq
 (.region [iI 4 (.load false 1 (.t 1)),iI 5 (.load true 4 (.t 2)),iI 6 (.callv (.t 4) [(.t 5)]),iI 7 (.not (.t 6)),iI 3 (.mv (.t 7))] false)
 .ret))
def r116 : List ERes := [.t 3]
theorem c116 : chkF Tryz.prog Tryz.f116 1 e116 r116 = true := by kernel_rfl
def e117 : EC :=
 (.seq
 (.region [iI 1 (.box 131 (.t 0)),iI 2 (.mv (.c (.bool false)))] false)
 (.seq
 (.region [iI 3 (.load true 6 (.t 1)),iI 4 (.call 118 [(.t 3)]),iI 5 (.bin .leq (.t 4) (.c (.int .i64 10))),iI 2 (.mv (.t 5))] false)
 .ret))
def r117 : List ERes := [.t 2]
theorem c117 : chkF Tryz.prog Tryz.f117 1 e117 r117 = true := by kernel_rfl
def e118 : EC :=
 (.seq
 (.region [iI 1 (.box 131 (.t 0)),iI 2 (.mv (.c (.int .i64 0)))] false)
 (.seq
 (.region [iI 3 (.mv (.c (.int .i64 0)))] false)
 (.seq
 (.seq
 (.region [iI 6 (.faddr 5 (.t 1)),iI 7 (.load false 1 (.t 6)),iI 8 (.len (.t 7)),iI 9 (.mv (.c (.int .i64 0)))] false)
 (.block 0
 (.loop
 (.seq
 (.region [iI 10 (.bin .lss (.t 9) (.t 8))] false)
 (.seq
 (.cond (.t 10)
 .skip
 (.exit 0))
 (.seq
 (.block 1
 (.seq
 (.region [iI 11 (.iaddr 6 (.t 7) (.t 9)),iI 12 (.load true 6 (.t 11)),iI 5 (.alloc 131 [.int .i64 0, .str [], .str [], .str [], .int .i64 0, .nilS]),iN (.store 6 (.t 5) (.t 12))] false)
 (.region [iI 13 (.mv (.t 3)),iI 14 (.load true 6 (.t 5)),iI 15 (.call 118 [(.t 14)]),iI 16 (.minmax true [(.t 13), (.t 15)]),iI 3 (.mv (.t 16))] false)))
 (.region [iI 17 (.bin .add (.t 9) (.c (.int .i64 1))),iI 9 (.mv (.t 17))] false)))))))
 (.seq
 (.region [iI 18 (.mv (.t 3)),iI 19 (.bin .add (.c (.int .i64 1)) (.t 18)),iI 2 (.mv (.t 19))] false)
 .ret))))
def r118 : List ERes := [.t 2]
theorem c118 : chkF Tryz.prog Tryz.f118 1 e118 r118 = true := by kernel_rfl
def e119 : EC :=
 (.seq
 (.region [iI 2 (.mv (.c (.nilS)))] false)
 (.seq
 (.region [iI 3 (.mv (.c (.int .i64 0)))] false)
 (.seq
 (.seq
 (.region [iI 9 (.mv (.t 0)),iI 10 (.len (.t 9)),iI 11 (.mv (.c (.int .i64 0)))] false)
 (.block 0
 (.loop
 (.seq
 (.region [iI 12 (.bin .lss (.t 11) (.t 10))] false)
 (.seq
 (.cond (.t 12)
 .skip
 (.exit 0))
 (.seq
 (.block 1
 (.seq
 (.region [iI 13 (.iaddr 1 (.t 9) (.t 11)),iI 14 (.load false 1 (.t 13)),iI 5 (.mv (.t 14))] false)
 (.seq
 (.region [iI 15 (.mv (.t 3)),iI 16 (.mv (.t 5)),iI 17 (.len (.t 16)),iI 18 (.bin .add (.t 15) (.t 17)),iI 3 (.mv (.t 18))] false)
 (.seq
 (.region [iI 19 (.mv (.t 3)),iI 20 (.bin .lss (.t 19) (.c (.int .i64 0)))] false)
 (.cond (.t 20)
 (.region [iI 21 (.mkif 9 (.c (.str [108, 101, 110, 32, 111, 117, 116, 32, 111, 102, 32, 114, 97, 110, 103, 101]))),iN (.panic (.t 21))] false)
 .skip)))))
 (.region [iI 22 (.bin .add (.t 11) (.c (.int .i64 1))),iI 11 (.mv (.t 22))] false)))))))
 (.seq
 (.region [iI 23 (.mv (.t 3)),iI 24 (.call 172 [(.c (.nilS)), (.t 23)]),iI 6 (.mv (.t 24))] false)
 (.seq
 (.seq
 (.region [iI 25 (.mv (.t 0)),iI 26 (.len (.t 25)),iI 27 (.mv (.c (.int .i64 0)))] false)
 (.block 2
 (.loop
 (.seq
 (.region [iI 28 (.bin .lss (.t 27) (.t 26))] false)
 (.seq
 (.cond (.t 28)
 .skip
 (.exit 2))
 (.seq
 (.block 3
 (.seq
 (.region [iI 29 (.iaddr 1 (.t 25) (.t 27)),iI 30 (.load false 1 (.t 29)),iI 8 (.mv (.t 30))] false)
 (.region [iI 31 (.mv (.t 6)),iI 32 (.mv (.t 8)),iI 33 (.append 131 6 88 (.t 31) (.t 32)),iI 6 (.mv (.t 33))] false)))
 (.region [iI 34 (.bin .add (.t 27) (.c (.int .i64 1))),iI 27 (.mv (.t 34))] false)))))))
 (.seq
 (.region [iI 35 (.mv (.t 6)),iI 2 (.mv (.t 35))] false)
 .ret))))))
def r119 : List ERes := [.t 2]
theorem c119 : chkF Tryz.prog Tryz.f119 1 e119 r119 = true := by kernel_rfl
def e120 : EC :=
 (.seq
 (.region [iI 3 (.box 174 (.t 1)),iI 4 (.mv (.c (.bool false)))] false)
 (.seq
 (.region [iI 5 (.mv (.t 0)),iI 6 (.mkfn 174 [(.t 3)]),iI 7 (.call 173 [(.t 5), (.t 6)]),iI 8 (.not (.t 7)),iI 4 (.mv (.t 8))] false)
 .ret))
def r120 : List ERes := [.t 4]
theorem c120 : chkF Tryz.prog Tryz.f120 2 e120 r120 = true := by kernel_rfl
def e121 : EC :=
 (.seq
 (.region [iI 1 (.box 131 (.t 0)),iI 2 (.mv (.c (.bool false)))] false)
 (.seq
 (.region [iI 5 (.faddr 0 (.t 1)),iI 6 (.load false 1 (.t 5)),iI 7 (.faddr 5 (.t 1)),iI 8 (.load false 1 (.t 7)),iI 9 (.build [.int .i64 0, .str [], .str [], .str [], .int .i64 0, .nilS] [(0, 1, (.t 6)), (5, 1, (.t 8))]),iI 3 (.alloc 131 [.int .i64 0, .str [], .str [], .str [], .int .i64 0, .nilS]),iN (.store 6 (.t 3) (.t 9))] false)
 (.seq
 (.region [iI 4 (.mv (.c (.int .i64 0)))] false)
 (.seq
 (.seq
 (.region [iI 10 (.faddr 0 (.t 1)),iI 11 (.load false 1 (.t 10))] false)
 (.block 0
 (.seq
 (.region [iI 13 (.bin .eql (.t 11) (.c (.int .i64 1))),iI 12 (.mv (.t 13))] false)
 (.cond (.t 12)
 (.seq
 (.region [iI 14 (.faddr 4 (.t 1)),iI 15 (.load false 1 (.t 14)),iI 16 (.faddr 4 (.t 3)),iN (.store 1 (.t 16) (.t 15))] false)
 (.seq
 (.region [iI 17 (.faddr 4 (.t 1)),iI 18 (.load false 1 (.t 17)),iI 19 (.bin .lss (.t 18) (.c (.int .i64 0))),iI 20 (.mv (.t 19)),iG 21 20 false (.faddr 4 (.t 1)),iG 22 20 false (.load false 1 (.t 21)),iG 23 20 false (.bin .gtr (.t 22) (.c (.int .i64 1000))),iI 24 (.pick (.t 20) (.c (.bool true)) (.t 23))] false)
 (.cond (.t 24)
 (.seq
 (.region [iI 2 (.mv (.c (.bool false)))] false)
 .ret)
 .skip)))
 (.seq
 (.region [iI 26 (.bin .eql (.t 11) (.c (.int .i64 2))),iI 25 (.mv (.t 26))] false)
 (.cond (.t 25)
 (.seq
 (.region [iI 27 (.faddr 3 (.t 1)),iI 28 (.load false 1 (.t 27)),iI 29 (.faddr 3 (.t 3)),iN (.store 1 (.t 29) (.t 28))] false)
 (.seq
 (.region [iI 30 (.faddr 3 (.t 1)),iI 31 (.load false 1 (.t 30)),iI 32 (.call 106 [(.t 31)]),iI 33 (.not (.t 32))] false)
 (.cond (.t 33)
 (.seq
 (.region [iI 2 (.mv (.c (.bool false)))] false)
 .ret)
 .skip)))
 (.seq
 (.region [iI 35 (.bin .eql (.t 11) (.c (.int .i64 3))),iI 34 (.mv (.t 35))] false)
 (.cond (.t 34)
 (.seq
 (.region [iI 36 (.faddr 2 (.t 1)),iI 37 (.load false 1 (.t 36)),iI 38 (.faddr 2 (.t 3)),iN (.store 1 (.t 38) (.t 37))] false)
 (.seq
 (.region [iI 39 (.faddr 2 (.t 1)),iI 40 (.load false 1 (.t 39)),iI 41 (.call 45 [(.t 40)]),iI 42 (.not (.t 41))] false)
 (.cond (.t 42)
 (.seq
 (.region [iI 2 (.mv (.c (.bool false)))] false)
 .ret)
 .skip)))
 (.seq
 (.region [iI 44 (.bin .eql (.t 11) (.c (.int .i64 4))),iI 43 (.mv (.t 44))] false)
 (.cond (.t 43)
 (.region [iI 4 (.mv (.c (.int .i64 1)))] false)
 (.seq
 (.region [iI 46 (.bin .eql (.t 11) (.c (.int .i64 5))),iI 45 (.mv (.t 46))] false)
 (.cond (.t 45)
 (.seq
 (.region [iI 47 (.faddr 1 (.t 1)),iI 48 (.load false 1 (.t 47)),iI 49 (.faddr 1 (.t 3)),iN (.store 1 (.t 49) (.t 48)),iI 4 (.mv (.c (.int .i64 1)))] false)
 (.seq
 (.region [iI 50 (.faddr 1 (.t 1)),iI 51 (.load false 1 (.t 50)),iI 52 (.bin .neq (.t 51) (.c (.str [45]))),iI 53 (.mv (.t 52)),iG 54 53 true (.faddr 1 (.t 1)),iG 55 53 true (.load false 1 (.t 54)),iG 56 53 true (.bin .neq (.t 55) (.c (.str [33]))),iI 57 (.pick (.t 53) (.t 56) (.c (.bool false)))] false)
 (.cond (.t 57)
 (.seq
 (.region [iI 2 (.mv (.c (.bool false)))] false)
 .ret)
 .skip)))
 (.seq
 (.region [iI 59 (.bin .eql (.t 11) (.c (.int .i64 6))),iI 58 (.mv (.t 59))] false)
 (.cond (.t 58)
 (.seq
 (.region [iI 60 (.faddr 1 (.t 1)),iI 61 (.load false 1 (.t 60)),iI 62 (.faddr 1 (.t 3)),iN (.store 1 (.t 62) (.t 61)),iI 4 (.mv (.c (.int .i64 2)))] false)
 (.seq
 (.region [iI 63 (.faddr 1 (.t 1)),iI 64 (.load false 1 (.t 63)),iI 65 (.call 175 [(.t 64)]),iI 66 (.bin .eql (.t 65) (.c (.int .i64 0)))] false)
 (.cond (.t 66)
 (.seq
 (.region [iI 2 (.mv (.c (.bool false)))] false)
 .ret)
 .skip)))
 (.seq
 (.region [iI 2 (.mv (.c (.bool false)))] false)
 .ret)))))))))))))))
 (.seq
 (.region [iI 67 (.faddr 5 (.t 1)),iI 68 (.load false 1 (.t 67)),iI 69 (.len (.t 68)),iI 70 (.mv (.t 4)),iI 71 (.bin .eql (.t 69) (.t 70)),iI 72 (.mv (.t 71)),iG 73 72 true (.faddr 1 (.t 1)),iG 74 72 true (.load false 1 (.t 73)),iG 75 72 true (.faddr 1 (.t 3)),iG 76 72 true (.load false 1 (.t 75)),iG 77 72 true (.bin .eql (.t 74) (.t 76)),iI 78 (.pick (.t 72) (.t 77) (.c (.bool false))),iI 79 (.mv (.t 78)),iG 80 79 true (.faddr 2 (.t 1)),iG 81 79 true (.load false 1 (.t 80)),iG 82 79 true (.faddr 2 (.t 3)),iG 83 79 true (.load false 1 (.t 82)),iG 84 79 true (.bin .eql (.t 81) (.t 83)),iI 85 (.pick (.t 79) (.t 84) (.c (.bool false))),iI 86 (.mv (.t 85)),iG 87 86 true (.faddr 3 (.t 1)),iG 88 86 true (.load false 1 (.t 87)),iG 89 86 true (.faddr 3 (.t 3)),iG 90 86 true (.load false 1 (.t 89)),iG 91 86 true (.bin .eql (.t 88) (.t 90)),iI 92 (.pick (.t 86) (.t 91) (.c (.bool false))),iI 93 (.mv (.t 92)),iG 94 93 true (.faddr 4 (.t 1)),iG 95 93 true (.load false 1 (.t 94)),iG 96 93 true (.faddr 4 (.t 3)),iG 97 93 true (.load false 1 (.t 96)),iG 98 93 true (.bin .eql (.t 95) (.t 97)),iI 99 (.pick (.t 93) (.t 98) (.c (.bool false))),iI 100 (.mv (.t 99)),iG 101 100 true (.faddr 5 (.t 1)),iG 102 100 true (.load false 1 (.t 101)),iG 103 100 true (.call 120 [(.t 102), (.c (.fn 121 []))]),iI 104 (.pick (.t 100) (.t 103) (.c (.bool false))),iI 2 (.mv (.t 104))] false)
 .ret)))))
def r121 : List ERes := [.t 2]
theorem c121 : chkF Tryz.prog Tryz.f121 1 e121 r121 = true := by kernel_rfl
def e122 : EC :=
 (.seq
 (.region [iI 6 (.mv (.t 0)),iI 7 (.nilck (.t 6)),iI 8 (.faddr 0 (.t 7)),iI 9 (.mv (.t 0)),iI 10 (.nilck (.t 9)),iI 11 (.faddr 2 (.t 10)),iI 12 (.load false 1 (.t 11)),iI 13 (.pcall 177 [(.c (.str [9])), (.t 12)]),iI 14 (.call 176 [(.t 8), (.t 13)])] true)
 (.seq
 (.seq
 (.region [iI 15 (.mv (.t 1)),iI 16 (.len (.t 15)),iI 17 (.mv (.c (.int .i64 0)))] false)
 (.block 0
 (.loop
 (.seq
 (.region [iI 18 (.bin .lss (.t 17) (.t 16))] false)
 (.seq
 (.cond (.t 18)
 .skip
 (.exit 0))
 (.seq
 (.block 1
 (.seq
 (.region [iI 19 (.iaddr 1 (.t 15) (.t 17)),iI 20 (.load false 1 (.t 19)),iI 5 (.mv (.t 20))] false)
 (.region [iI 21 (.mv (.t 0)),iI 22 (.nilck (.t 21)),iI 23 (.faddr 0 (.t 22)),iI 24 (.mv (.t 5)),iI 25 (.call 176 [(.t 23), (.t 24)])] false)))
 (.region [iI 26 (.bin .add (.t 17) (.c (.int .i64 1))),iI 17 (.mv (.t 26))] false)))))))
 (.region [iI 27 (.mv (.t 0)),iI 28 (.nilck (.t 27)),iI 29 (.faddr 0 (.t 28)),iI 30 (.call 178 [(.t 29), (.c (.int .u8 10))])] false)))
def r122 : List ERes := []
theorem c122 : chkF Tryz.prog Tryz.f122 2 e122 r122 = true := by kernel_rfl
def e124 : EC :=
 (.seq
 (.region [iI 1 (.box 93 (.t 0)),iI 2 (.mv (.c (.str [])))] false)
 (.seq
 (.seq
 (.region [iI 3 (.faddr 0 (.t 1)),iI 4 (.load false 1 (.t 3)),iI 5 (.bin .eql (.t 4) (.c (.int .i64 2)))] false)
 (.cond (.t 5)
 (.seq
 (.region [iI 6 (.faddr 2 (.t 1)),iI 7 (.load false 1 (.t 6)),iI 8 (.call 180 [(.t 7)]),iI 2 (.mv (.t 8))] false)
 .ret)
 .skip))
 (.seq
 (.region [iI 9 (.faddr 1 (.t 1)),iI 10 (.load false 1 (.t 9)),iI 11 (.call 123 [(.t 10)]),iI 2 (.mv (.t 11))] false)
 .ret)))
def r124 : List ERes := [.t 2]
theorem c124 : chkF Tryz.prog Tryz.f124 1 e124 r124 = true := by kernel_rfl
def e126 : EC :=
 (.seq
 (.region [iI 6 (.mv (.t 0)),iI 7 (.nilck (.t 6)),iI 8 (.faddr 2 (.t 7)),iI 9 (.load false 1 (.t 8)),iI 10 (.bin .add (.t 9) (.c (.int .i64 1))),iI 11 (.nilck (.t 6)),iI 12 (.faddr 2 (.t 11)),iN (.store 1 (.t 12) (.t 10))] false)
 (.seq
 (.seq
 (.region [iI 13 (.mv (.t 1)),iI 14 (.len (.t 13)),iI 15 (.mv (.c (.int .i64 0)))] false)
 (.block 0
 (.loop
 (.seq
 (.region [iI 16 (.bin .lss (.t 15) (.t 14))] false)
 (.seq
 (.cond (.t 16)
 .skip
 (.exit 0))
 (.seq
 (.block 1
 (.seq
 (.region [iI 17 (.iaddr 11 (.t 13) (.t 15)),iI 18 (.load true 11 (.t 17)),iI 5 (.alloc 133 [.int .i64 0, .str [], .int .i64 0, .str [], .str [], .str [], .int .i64 0, .nilS, .int .i64 0, .nilS, .nilS]),iN (.store 11 (.t 5) (.t 18))] false)
 (.region [iI 19 (.mv (.t 0)),iI 20 (.load true 11 (.t 5)),iI 21 (.call 182 [(.t 19), (.t 20)])] false)))
 (.region [iI 22 (.bin .add (.t 15) (.c (.int .i64 1))),iI 15 (.mv (.t 22))] false)))))))
 (.region [iI 23 (.mv (.t 0)),iI 24 (.nilck (.t 23)),iI 25 (.faddr 2 (.t 24)),iI 26 (.load false 1 (.t 25)),iI 27 (.bin .sub (.t 26) (.c (.int .i64 1))),iI 28 (.nilck (.t 23)),iI 29 (.faddr 2 (.t 28)),iN (.store 1 (.t 29) (.t 27))] false)))
def r126 : List ERes := []
theorem c126 : chkF Tryz.prog Tryz.f126 2 e126 r126 = true := by kernel_rfl
def e127 : EC :=
 (.seq
 (.region [iI 1 (.box 131 (.t 0)),iI 2 (.mv (.c (.str [])))] false)
 (.seq
 (.seq
 (.region [iI 4 (.faddr 0 (.t 1)),iI 5 (.load false 1 (.t 4))] false)
 (.block 0
 (.seq
 (.region [iI 7 (.bin .eql (.t 5) (.c (.int .i64 1))),iI 6 (.mv (.t 7))] false)
 (.cond (.t 6)
 (.seq
 (.region [iI 8 (.faddr 4 (.t 1)),iI 9 (.load false 1 (.t 8)),iI 10 (.call 123 [(.t 9)]),iI 2 (.mv (.t 10))] false)
 .ret)
 (.seq
 (.region [iI 12 (.bin .eql (.t 5) (.c (.int .i64 2))),iI 11 (.mv (.t 12))] false)
 (.cond (.t 11)
 (.seq
 (.region [iI 13 (.faddr 3 (.t 1)),iI 14 (.load false 1 (.t 13)),iI 15 (.call 180 [(.t 14)]),iI 2 (.mv (.t 15))] false)
 .ret)
 (.seq
 (.region [iI 17 (.bin .eql (.t 5) (.c (.int .i64 3))),iI 16 (.mv (.t 17))] false)
 (.cond (.t 16)
 (.seq
 (.region [iI 18 (.faddr 2 (.t 1)),iI 19 (.load false 1 (.t 18)),iI 2 (.mv (.t 19))] false)
 .ret)
 (.seq
 (.region [iI 21 (.bin .eql (.t 5) (.c (.int .i64 4))),iI 20 (.mv (.t 21))] false)
 (.cond (.t 20)
 (.seq
 (.region [iI 22 (.faddr 5 (.t 1)),iI 23 (.load false 1 (.t 22)),iI 24 (.iaddr 6 (.t 23) (.c (.int .i64 0))),iI 25 (.load true 6 (.t 24)),iI 26 (.call 127 [(.t 25)]),iI 27 (.bin .add (.c (.str [108, 101, 110, 40])) (.t 26)),iI 28 (.bin .add (.t 27) (.c (.str [41]))),iI 2 (.mv (.t 28))] false)
 .ret)
 (.seq
 (.region [iI 30 (.bin .eql (.t 5) (.c (.int .i64 5))),iI 29 (.mv (.t 30))] false)
 (.cond (.t 29)
 (.seq
 (.region [iI 31 (.faddr 1 (.t 1)),iI 32 (.load false 1 (.t 31)),iI 33 (.faddr 5 (.t 1)),iI 34 (.load false 1 (.t 33)),iI 35 (.iaddr 6 (.t 34) (.c (.int .i64 0))),iI 36 (.load true 6 (.t 35)),iI 37 (.pcall 183 [(.t 36), (.c (.int .i64 7))]),iI 38 (.bin .add (.t 32) (.t 37)),iI 2 (.mv (.t 38))] true)
 .ret)
 .skip))))))))))))
 (.seq
 (.region [iI 39 (.faddr 1 (.t 1)),iI 40 (.load false 1 (.t 39)),iI 41 (.call 175 [(.t 40)]),iI 3 (.mv (.t 41))] false)
 (.seq
 (.region [iI 42 (.faddr 5 (.t 1)),iI 43 (.load false 1 (.t 42)),iI 44 (.iaddr 6 (.t 43) (.c (.int .i64 0))),iI 45 (.load true 6 (.t 44)),iI 46 (.mv (.t 3)),iI 47 (.pcall 183 [(.t 45), (.t 46)]),iI 48 (.bin .add (.t 47) (.c (.str [32]))),iI 49 (.faddr 1 (.t 1)),iI 50 (.load false 1 (.t 49)),iI 51 (.bin .add (.t 48) (.t 50)),iI 52 (.bin .add (.t 51) (.c (.str [32]))),iI 53 (.faddr 5 (.t 1)),iI 54 (.load false 1 (.t 53)),iI 55 (.iaddr 6 (.t 54) (.c (.int .i64 1))),iI 56 (.load true 6 (.t 55)),iI 57 (.mv (.t 3)),iI 58 (.bin .add (.t 57) (.c (.int .i64 1))),iI 59 (.pcall 183 [(.t 56), (.t 58)]),iI 60 (.bin .add (.t 52) (.t 59)),iI 2 (.mv (.t 60))] true)
 .ret))))
def r127 : List ERes := [.t 2]
theorem c127 : chkF Tryz.prog Tryz.f127 1 e127 r127 = true := by kernel_rfl
def e128 : EC :=
 (.seq
 (.region [iI 2 (.mv (.c (.str [])))] false)
 (.seq
 (.region [iI 3 (.mv (.c (.nilS)))] false)
 (.seq
 (.seq
 (.region [iI 6 (.mv (.t 0)),iI 7 (.len (.t 6)),iI 8 (.mv (.c (.int .i64 0)))] false)
 (.block 0
 (.loop
 (.seq
 (.region [iI 9 (.bin .lss (.t 8) (.t 7))] false)
 (.seq
 (.cond (.t 9)
 .skip
 (.exit 0))
 (.seq
 (.block 1
 (.seq
 (.region [iI 10 (.iaddr 6 (.t 6) (.t 8)),iI 11 (.load true 6 (.t 10)),iI 5 (.alloc 131 [.int .i64 0, .str [], .str [], .str [], .int .i64 0, .nilS]),iN (.store 6 (.t 5) (.t 11))] false)
 (.region [iI 12 (.mv (.t 3)),iI 13 (.load true 6 (.t 5)),iI 14 (.call 127 [(.t 13)]),iI 15 (.bslice 9 1 1 [.str []] [(0, (.t 14))]),iI 16 (.append 9 1 16 (.t 12) (.t 15)),iI 3 (.mv (.t 16))] false)))
 (.region [iI 17 (.bin .add (.t 8) (.c (.int .i64 1))),iI 8 (.mv (.t 17))] false)))))))
 (.seq
 (.region [iI 18 (.mv (.t 3)),iI 19 (.call 125 [(.t 18), (.c (.str [44, 32]))]),iI 2 (.mv (.t 19))] false)
 .ret))))
def r128 : List ERes := [.t 2]
theorem c128 : chkF Tryz.prog Tryz.f128 1 e128 r128 = true := by kernel_rfl
def e148 : EC :=
 (.seq
 (.region [iI 4 (.mv (.c (.str [])))] false)
 (.seq
 (.region [iI 6 (.mv (.t 0)),iI 7 (.nilck (.t 6)),iI 8 (.faddr 1 (.t 7)),iI 9 (.load false 1 (.t 8)),iI 5 (.mv (.t 9))] false)
 (.seq
 (.block 0
 (.loop
 (.seq
 (.seq
 (.region [iI 10 (.mv (.t 0)),iI 11 (.nilck (.t 10)),iI 12 (.faddr 1 (.t 11)),iI 13 (.load false 1 (.t 12)),iI 14 (.mv (.t 0)),iI 15 (.nilck (.t 14)),iI 16 (.faddr 0 (.t 15)),iI 17 (.load false 1 (.t 16)),iI 18 (.lenS (.t 17)),iI 19 (.bin .lss (.t 13) (.t 18)),iI 20 (.mv (.t 19)),iG 21 20 true (.mv (.t 1)),iG 22 20 true (.mv (.t 0)),iG 23 20 true (.nilck (.t 22)),iG 24 20 true (.faddr 0 (.t 23)),iG 25 20 true (.load false 1 (.t 24)),iG 26 20 true (.mv (.t 0)),iG 27 20 true (.nilck (.t 26)),iG 28 20 true (.faddr 1 (.t 27)),iG 29 20 true (.load false 1 (.t 28)),iG 30 20 true (.idxS (.t 25) (.t 29)),iG 31 20 true (.pcallv (.t 21) [(.t 30)]),iI 32 (.pick (.t 20) (.t 31) (.c (.bool false)))] true)
 (.cond (.t 32)
 .skip
 (.exit 0)))
 (.block 1
 (.region [iI 33 (.mv (.t 0)),iI 34 (.nilck (.t 33)),iI 35 (.faddr 1 (.t 34)),iI 36 (.load false 1 (.t 35)),iI 37 (.bin .add (.t 36) (.c (.int .i64 1))),iI 38 (.nilck (.t 33)),iI 39 (.faddr 1 (.t 38)),iN (.store 1 (.t 39) (.t 37))] false)))))
 (.seq
 (.region [iI 40 (.mv (.t 0)),iI 41 (.nilck (.t 40)),iI 42 (.faddr 0 (.t 41)),iI 43 (.load false 1 (.t 42)),iI 44 (.mv (.t 5)),iI 45 (.mv (.t 0)),iI 46 (.nilck (.t 45)),iI 47 (.faddr 1 (.t 46)),iI 48 (.load false 1 (.t 47)),iI 49 (.slS (.t 43) (some (.t 44)) (some (.t 48))),iI 4 (.mv (.t 49))] true)
 .ret))))
def r148 : List ERes := [.t 4]
theorem c148 : chkF Tryz.prog Tryz.f148 2 e148 r148 = true := by kernel_rfl
def e149 : EC :=
 (.seq
 (.region [iI 2 (.mv (.c (.bool false)))] false)
 (.seq
 (.region [iI 3 (.mv (.t 0)),iI 4 (.call 80 [(.t 3)]),iI 5 (.mv (.t 4)),iG 6 5 false (.mv (.t 0)),iG 7 5 false (.call 82 [(.t 6)]),iI 8 (.pick (.t 5) (.c (.bool true)) (.t 7)),iI 9 (.mv (.t 8)),iG 10 9 false (.mv (.t 0)),iG 11 9 false (.bin .eql (.t 10) (.c (.int .u8 95))),iI 12 (.pick (.t 9) (.c (.bool true)) (.t 11)),iI 2 (.mv (.t 12))] false)
 .ret))
def r149 : List ERes := [.t 2]
theorem c149 : chkF Tryz.prog Tryz.f149 1 e149 r149 = true := by kernel_rfl
def e150 : EC :=
 (.seq
 (.region [iI 2 (.mv (.c (.bool false)))] false)
 (.seq
 (.region [iI 3 (.mv (.t 0)),iI 4 (.nilck (.t 3)),iI 5 (.faddr 0 (.t 4)),iI 6 (.load false 1 (.t 5)),iI 7 (.len (.t 6)),iI 8 (.bin .gtr (.t 7) (.c (.int .i64 0))),iI 9 (.mv (.t 8)),iG 10 9 true (.mv (.t 0)),iG 11 9 true (.nilck (.t 10)),iG 12 9 true (.faddr 0 (.t 11)),iG 13 9 true (.load false 1 (.t 12)),iG 14 9 true (.iaddr 4 (.t 13) (.c (.int .i64 0))),iG 15 9 true (.faddr 0 (.t 14)),iG 16 9 true (.load false 1 (.t 15)),iG 17 9 true (.bin .eql (.t 16) (.c (.int .i64 1))),iI 18 (.pick (.t 9) (.t 17) (.c (.bool false))),iI 19 (.mv (.t 18)),iG 20 19 true (.mv (.t 0)),iG 21 19 true (.nilck (.t 20)),iG 22 19 true (.faddr 0 (.t 21)),iG 23 19 true (.load false 1 (.t 22)),iG 24 19 true (.iaddr 4 (.t 23) (.c (.int .i64 0))),iG 25 19 true (.faddr 1 (.t 24)),iG 26 19 true (.load false 1 (.t 25)),iG 27 19 true (.call 45 [(.t 26)]),iI 28 (.pick (.t 19) (.t 27) (.c (.bool false))),iI 2 (.mv (.t 28))] false)
 .ret))
def r150 : List ERes := [.t 2]
theorem c150 : chkF Tryz.prog Tryz.f150 1 e150 r150 = true := by kernel_rfl
def e151 : EC :=
 (.seq
 (.region [iI 4 (.alloc 152 [.int .i64 0, .str [], .int .i64 0, .int .i64 0])] false)
 (.seq
 (.seq
 (.region [iI 6 (.mv (.t 0)),iI 7 (.nilck (.t 6)),iI 8 (.faddr 0 (.t 7)),iI 9 (.load false 1 (.t 8)),iI 10 (.len (.t 9)),iI 11 (.bin .eql (.t 10) (.c (.int .i64 0))),iI 12 (.mv (.t 11)),iG 13 12 false (.mv (.t 0)),iG 14 12 false (.nilck (.t 13)),iG 15 12 false (.faddr 0 (.t 14)),iG 16 12 false (.load false 1 (.t 15)),iG 17 12 false (.iaddr 4 (.t 16) (.c (.int .i64 0))),iG 18 12 false (.faddr 0 (.t 17)),iG 19 12 false (.load false 1 (.t 18)),iG 20 12 false (.mv (.t 1)),iG 21 12 false (.bin .neq (.t 19) (.t 20)),iI 22 (.pick (.t 12) (.c (.bool true)) (.t 21))] false)
 (.cond (.t 22)
 (.region [iI 23 (.mv (.t 0)),iI 24 (.call 91 [(.t 23), (.c (.int .i64 3))])] false)
 .skip))
 (.seq
 (.region [iI 25 (.mv (.t 0)),iI 26 (.nilck (.t 25)),iI 27 (.faddr 0 (.t 26)),iI 28 (.load false 1 (.t 27)),iI 29 (.iaddr 4 (.t 28) (.c (.int .i64 0))),iI 30 (.load true 4 (.t 29)),iI 5 (.alloc 152 [.int .i64 0, .str [], .int .i64 0, .int .i64 0]),iN (.store 4 (.t 5) (.t 30))] false)
 (.seq
 (.region [iI 31 (.mv (.t 0)),iI 32 (.mv (.t 0)),iI 33 (.nilck (.t 32)),iI 34 (.faddr 0 (.t 33)),iI 35 (.load false 1 (.t 34)),iI 36 (.slV 4 (.t 35) (some (.c (.int .i64 1))) none none),iI 37 (.nilck (.t 31)),iI 38 (.faddr 0 (.t 37)),iN (.store 1 (.t 38) (.t 36))] false)
 (.seq
 (.region [iI 39 (.load true 4 (.t 5)),iN (.store 4 (.t 4) (.t 39))] false)
 .ret)))))
def r151 : List ERes := [.cell true 4 4]
theorem c151 : chkF Tryz.prog Tryz.f151 2 e151 r151 = true := by kernel_rfl
def e152 : EC :=
 (.seq
 (.region [iI 4 (.mv (.c (.bool false)))] false)
 (.seq
 (.region [iI 5 (.mv (.t 0)),iI 6 (.nilck (.t 5)),iI 7 (.faddr 0 (.t 6)),iI 8 (.load false 1 (.t 7)),iI 9 (.len (.t 8)),iI 10 (.bin .gtr (.t 9) (.c (.int .i64 0))),iI 11 (.mv (.t 10)),iG 12 11 true (.mv (.t 0)),iG 13 11 true (.nilck (.t 12)),iG 14 11 true (.faddr 0 (.t 13)),iG 15 11 true (.load false 1 (.t 14)),iG 16 11 true (.iaddr 4 (.t 15) (.c (.int .i64 0))),iG 17 11 true (.faddr 1 (.t 16)),iG 18 11 true (.load false 1 (.t 17)),iG 19 11 true (.mv (.t 1)),iG 20 11 true (.bin .eql (.t 18) (.t 19)),iI 21 (.pick (.t 11) (.t 20) (.c (.bool false))),iI 22 (.mv (.t 21)),iG 23 22 true (.mv (.t 0)),iG 24 22 true (.nilck (.t 23)),iG 25 22 true (.faddr 0 (.t 24)),iG 26 22 true (.load false 1 (.t 25)),iG 27 22 true (.iaddr 4 (.t 26) (.c (.int .i64 0))),iG 28 22 true (.faddr 0 (.t 27)),iG 29 22 true (.load false 1 (.t 28)),iG 30 22 true (.bin .eql (.t 29) (.c (.int .i64 4))),iG 31 22 true (.mv (.t 30)),iG 32 31 false (.mv (.t 0)),iG 33 31 false (.nilck (.t 32)),iG 34 31 false (.faddr 0 (.t 33)),iG 35 31 false (.load false 1 (.t 34)),iG 36 31 false (.iaddr 4 (.t 35) (.c (.int .i64 0))),iG 37 31 false (.faddr 0 (.t 36)),iG 38 31 false (.load false 1 (.t 37)),iG 39 31 false (.bin .eql (.t 38) (.c (.int .i64 1))),iG 40 22 true (.pick (.t 31) (.c (.bool true)) (.t 39)),iI 41 (.pick (.t 22) (.t 40) (.c (.bool false))),iI 4 (.mv (.t 41))] false)
 .ret))
def r152 : List ERes := [.t 4]
theorem c152 : chkF Tryz.prog Tryz.f152 2 e152 r152 = true := by kernel_rfl
def e153 : EC :=
 (.seq
 (.region [iI 2 (.mv (.c (.int .i64 0)))] false)
 (.seq
 (.seq
 (.region [iI 3 (.mv (.t 0)),iI 4 (.call 87 [(.t 3), (.c (.str [45]))])] false)
 (.cond (.t 4)
 (.seq
 (.region [iI 5 (.mv (.t 0)),iI 6 (.call 151 [(.t 5), (.c (.int .i64 2))]),iI 7 (.field false 2 1 (.t 6)),iI 8 (.neg (.t 7)),iI 2 (.mv (.t 8))] false)
 .ret)
 .skip))
 (.seq
 (.region [iI 9 (.mv (.t 0)),iI 10 (.call 151 [(.t 9), (.c (.int .i64 2))]),iI 11 (.field false 2 1 (.t 10)),iI 2 (.mv (.t 11))] false)
 .ret)))
def r153 : List ERes := [.t 2]
theorem c153 : chkF Tryz.prog Tryz.f153 1 e153 r153 = true := by kernel_rfl
def e154 : EC :=
 (.seq
 (.region [iI 2 (.mv (.c (.str [])))] false)
 (.seq
 (.region [iI 4 (.mv (.t 0)),iI 5 (.call 86 [(.t 4)]),iI 3 (.mv (.t 5))] false)
 (.seq
 (.block 0
 (.loop
 (.seq
 (.seq
 (.region [iI 6 (.mv (.t 0)),iI 7 (.call 87 [(.t 6), (.c (.str [46]))])] false)
 (.cond (.t 7)
 .skip
 (.exit 0)))
 (.block 1
 (.region [iI 8 (.mv (.t 3)),iI 9 (.mv (.t 0)),iI 10 (.call 86 [(.t 9)]),iI 11 (.bin .add (.c (.str [46])) (.t 10)),iI 12 (.bin .add (.t 8) (.t 11)),iI 3 (.mv (.t 12))] false)))))
 (.seq
 (.region [iI 13 (.mv (.t 3)),iI 2 (.mv (.t 13))] false)
 .ret))))
def r154 : List ERes := [.t 2]
theorem c154 : chkF Tryz.prog Tryz.f154 1 e154 r154 = true := by kernel_rfl
def e155 : EC :=
 (.seq
 (.region [iI 2 (.mv (.c (.nilS)))] false)
 (.seq
 (.region [iI 4 (.mv (.t 0)),iI 5 (.call 85 [(.t 4), (.c (.str [123]))])] false)
 (.seq
 (.region [iI 3 (.mv (.c (.nilS)))] false)
 (.seq
 (.block 0
 (.loop
 (.seq
 (.seq
 (.region [iI 6 (.mv (.t 0)),iI 7 (.call 87 [(.t 6), (.c (.str [125]))]),iI 8 (.not (.t 7))] false)
 (.cond (.t 8)
 .skip
 (.exit 0)))
 (.block 1
 (.region [iI 9 (.mv (.t 3)),iI 10 (.mv (.t 0)),iI 11 (.call 190 [(.t 10)]),iI 12 (.bslice 133 11 1 [.int .i64 0, .str [], .int .i64 0, .str [], .str [], .str [], .int .i64 0, .nilS, .int .i64 0, .nilS, .nilS] [(0, (.t 11))]),iI 13 (.append 133 11 168 (.t 9) (.t 12)),iI 3 (.mv (.t 13))] false)))))
 (.seq
 (.region [iI 14 (.mv (.t 3)),iI 2 (.mv (.t 14))] false)
 .ret)))))
def r155 : List ERes := [.t 2]
theorem c155 : chkF Tryz.prog Tryz.f155 1 e155 r155 = true := by kernel_rfl
def e156 : EC :=
 (.seq
 (.region [iI 4 (.alloc 131 [.int .i64 0, .str [], .str [], .str [], .int .i64 0, .nilS])] false)
 (.seq
 (.region [iI 8 (.mv (.t 0)),iI 9 (.call 191 [(.t 8)]),iI 5 (.alloc 131 [.int .i64 0, .str [], .str [], .str [], .int .i64 0, .nilS]),iN (.store 6 (.t 5) (.t 9))] false)
 (.seq
 (.block 0
 (.loop
 (.seq
 (.seq
 (.region [iI 10 (.mv (.t 0)),iI 11 (.nilck (.t 10)),iI 12 (.faddr 0 (.t 11)),iI 13 (.load false 1 (.t 12)),iI 14 (.len (.t 13)),iI 15 (.bin .gtr (.t 14) (.c (.int .i64 0))),iI 16 (.mv (.t 15)),iG 17 16 true (.mv (.t 0)),iG 18 16 true (.nilck (.t 17)),iG 19 16 true (.faddr 0 (.t 18)),iG 20 16 true (.load false 1 (.t 19)),iG 21 16 true (.iaddr 4 (.t 20) (.c (.int .i64 0))),iG 22 16 true (.faddr 0 (.t 21)),iG 23 16 true (.load false 1 (.t 22)),iG 24 16 true (.bin .eql (.t 23) (.c (.int .i64 4))),iI 25 (.pick (.t 16) (.t 24) (.c (.bool false)))] false)
 (.cond (.t 25)
 .skip
 (.exit 0)))
 (.block 1
 (.seq
 (.region [iI 26 (.mv (.t 0)),iI 27 (.nilck (.t 26)),iI 28 (.faddr 0 (.t 27)),iI 29 (.load false 1 (.t 28)),iI 30 (.iaddr 4 (.t 29) (.c (.int .i64 0))),iI 31 (.faddr 1 (.t 30)),iI 32 (.load false 1 (.t 31)),iI 6 (.mv (.t 32))] false)
 (.seq
 (.region [iI 33 (.mv (.t 6)),iI 34 (.call 175 [(.t 33)]),iI 7 (.mv (.t 34))] false)
 (.seq
 (.seq
 (.region [iI 35 (.mv (.t 7)),iI 36 (.mv (.t 1)),iI 37 (.bin .lss (.t 35) (.t 36))] false)
 (.cond (.t 37)
 (.exit 0)
 .skip))
 (.seq
 (.region [iI 38 (.mv (.t 0)),iI 39 (.mv (.t 6)),iI 40 (.call 85 [(.t 38), (.t 39)])] false)
 (.region [iI 41 (.mv (.t 6)),iI 42 (.loadD 5 true 6 (.t 5)),iI 43 (.mv (.t 0)),iI 44 (.mv (.t 7)),iI 45 (.bin .add (.t 44) (.c (.int .i64 1))),iI 46 (.callD [5] 156 [(.t 43), (.t 45)]),iI 47 (.bslice 131 6 2 [.int .i64 0, .str [], .str [], .str [], .int .i64 0, .nilS] [(0, (.t 42)), (1, (.t 46))]),iI 48 (.build [.int .i64 0, .str [], .str [], .str [], .int .i64 0, .nilS] [(0, 1, (.c (.int .i64 6))), (1, 1, (.t 41)), (5, 1, (.t 47))]),iN (.store 6 (.t 5) (.t 48))] true)))))))))
 (.seq
 (.region [iI 49 (.loadD 5 true 6 (.t 5)),iN (.store 6 (.t 4) (.t 49))] false)
 .ret))))
def r156 : List ERes := [.cell true 6 4]
theorem c156 : chkF Tryz.prog Tryz.f156 2 e156 r156 = true := by kernel_rfl
def e160 : EC :=
 (.seq
 (.region [iI 4 (.mv (.c (.int .i64 0)))] false)
 (.seq
 (.seq
 (.region [iI 6 (.mv (.t 0)),iI 7 (.len (.t 6)),iI 8 (.mv (.c (.int .i64 0)))] false)
 (.block 0
 (.loop
 (.seq
 (.region [iI 9 (.bin .lss (.t 8) (.t 7))] false)
 (.seq
 (.cond (.t 9)
 .skip
 (.exit 0))
 (.seq
 (.block 1
 (.seq
 (.region [iI 10 (.mv (.t 8)),iI 5 (.mv (.t 10))] false)
 (.seq
 (.region [iI 11 (.mv (.t 1)),iI 12 (.mv (.t 0)),iI 13 (.mv (.t 5)),iI 14 (.iaddr 7 (.t 12) (.t 13)),iI 15 (.load true 7 (.t 14)),iI 16 (.callv (.t 11) [(.t 15)])] false)
 (.cond (.t 16)
 (.seq
 (.region [iI 17 (.mv (.t 5)),iI 4 (.mv (.t 17))] false)
 .ret)
 .skip))))
 (.region [iI 18 (.bin .add (.t 8) (.c (.int .i64 1))),iI 8 (.mv (.t 18))] false)))))))
 (.seq
 (.region [iI 4 (.mv (.c (.int .i64 (-1))))] false)
 .ret)))
def r160 : List ERes := [.t 4]
theorem c160 : chkF Tryz.prog Tryz.f160 2 e160 r160 = true := by kernel_rfl
def e161 : EC :=
 (.seq
 (.region [iI 4 (.mv (.c (.bool false)))] false)
 (.seq
 (.region [iI 5 (.mv (.t 0)),iI 6 (.mv (.t 1)),iI 7 (.call 193 [(.t 5), (.t 6)]),iI 8 (.bin .geq (.t 7) (.c (.int .i64 0))),iI 4 (.mv (.t 8))] false)
 .ret))
def r161 : List ERes := [.t 4]
theorem c161 : chkF Tryz.prog Tryz.f161 2 e161 r161 = true := by kernel_rfl
def e162 : EC :=
 (.seq
 (.region [iI 2 (.mv (.c (.bool false)))] false)
 (.seq
 (.region [iI 3 (.mv (.t 0)),iI 4 (.bin .lss (.t 3) (.c (.int .i32 32))),iI 5 (.mv (.t 4)),iG 6 5 false (.mv (.t 0)),iG 7 5 false (.bin .gtr (.t 6) (.c (.int .i32 126))),iI 8 (.pick (.t 5) (.c (.bool true)) (.t 7)),iI 2 (.mv (.t 8))] false)
 .ret))
def r162 : List ERes := [.t 2]
theorem c162 : chkF Tryz.prog Tryz.f162 1 e162 r162 = true := by kernel_rfl
def e163 : EC :=
 (.seq
 (.region [iI 4 (.mv (.c (.int .i64 0)))] false)
 (.seq
 (.seq
 (.region [iI 6 (.mv (.t 0)),iI 7 (.len (.t 6)),iI 8 (.mv (.c (.int .i64 0)))] false)
 (.block 0
 (.loop
 (.seq
 (.region [iI 9 (.bin .lss (.t 8) (.t 7))] false)
 (.seq
 (.cond (.t 9)
 .skip
 (.exit 0))
 (.seq
 (.block 1
 (.seq
 (.region [iI 10 (.mv (.t 8)),iI 5 (.mv (.t 10))] false)
 (.seq
 (.region [iI 11 (.mv (.t 1)),iI 12 (.mv (.t 0)),iI 13 (.mv (.t 5)),iI 14 (.iaddr 4 (.t 12) (.t 13)),iI 15 (.load true 4 (.t 14)),iI 16 (.callv (.t 11) [(.t 15)])] false)
 (.cond (.t 16)
 (.seq
 (.region [iI 17 (.mv (.t 5)),iI 4 (.mv (.t 17))] false)
 .ret)
 .skip))))
 (.region [iI 18 (.bin .add (.t 8) (.c (.int .i64 1))),iI 8 (.mv (.t 18))] false)))))))
 (.seq
 (.region [iI 4 (.mv (.c (.int .i64 (-1))))] false)
 .ret)))
def r163 : List ERes := [.t 4]
theorem c163 : chkF Tryz.prog Tryz.f163 2 e163 r163 = true := by kernel_rfl
def e164 : EC :=
 (.seq
 (.region [iI 2 (.mv (.c (.nilS)))] false)
 (.seq
 (.region [iI 3 (.mv (.c (.int .i64 0)))] false)
 (.seq
 (.seq
 (.region [iI 9 (.mv (.t 0)),iI 10 (.len (.t 9)),iI 11 (.mv (.c (.int .i64 0)))] false)
 (.block 0
 (.loop
 (.seq
 (.region [iI 12 (.bin .lss (.t 11) (.t 10))] false)
 (.seq
 (.cond (.t 12)
 .skip
 (.exit 0))
 (.seq
 (.block 1
 (.seq
 (.region [iI 13 (.iaddr 1 (.t 9) (.t 11)),iI 14 (.load false 1 (.t 13)),iI 5 (.mv (.t 14))] false)
 (.seq
 (.region [iI 15 (.mv (.t 3)),iI 16 (.mv (.t 5)),iI 17 (.len (.t 16)),iI 18 (.bin .add (.t 15) (.t 17)),iI 3 (.mv (.t 18))] false)
 (.seq
 (.region [iI 19 (.mv (.t 3)),iI 20 (.bin .lss (.t 19) (.c (.int .i64 0)))] false)
 (.cond (.t 20)
 (.region [iI 21 (.mkif 9 (.c (.str [108, 101, 110, 32, 111, 117, 116, 32, 111, 102, 32, 114, 97, 110, 103, 101]))),iN (.panic (.t 21))] false)
 .skip)))))
 (.region [iI 22 (.bin .add (.t 11) (.c (.int .i64 1))),iI 11 (.mv (.t 22))] false)))))))
 (.seq
 (.region [iI 23 (.mv (.t 3)),iI 24 (.call 194 [(.c (.nilS)), (.t 23)]),iI 6 (.mv (.t 24))] false)
 (.seq
 (.seq
 (.region [iI 25 (.mv (.t 0)),iI 26 (.len (.t 25)),iI 27 (.mv (.c (.int .i64 0)))] false)
 (.block 2
 (.loop
 (.seq
 (.region [iI 28 (.bin .lss (.t 27) (.t 26))] false)
 (.seq
 (.cond (.t 28)
 .skip
 (.exit 2))
 (.seq
 (.block 3
 (.seq
 (.region [iI 29 (.iaddr 1 (.t 25) (.t 27)),iI 30 (.load false 1 (.t 29)),iI 8 (.mv (.t 30))] false)
 (.region [iI 31 (.mv (.t 6)),iI 32 (.mv (.t 8)),iI 33 (.append 133 11 168 (.t 31) (.t 32)),iI 6 (.mv (.t 33))] false)))
 (.region [iI 34 (.bin .add (.t 27) (.c (.int .i64 1))),iI 27 (.mv (.t 34))] false)))))))
 (.seq
 (.region [iI 35 (.mv (.t 6)),iI 2 (.mv (.t 35))] false)
 .ret))))))
def r164 : List ERes := [.t 2]
theorem c164 : chkF Tryz.prog Tryz.f164 1 e164 r164 = true := by kernel_rfl
def e165 : EC :=
 (.seq
 (.region [iI 4 (.mv (.c (.bool false)))] false)
 (.seq
 (.region [iI 5 (.mv (.t 0)),iI 6 (.mv (.t 1)),iI 7 (.call 195 [(.t 5), (.t 6)]),iI 8 (.bin .geq (.t 7) (.c (.int .i64 0))),iI 4 (.mv (.t 8))] false)
 .ret))
def r165 : List ERes := [.t 4]
theorem c165 : chkF Tryz.prog Tryz.f165 2 e165 r165 = true := by kernel_rfl
def e167 : EC :=
 (.seq
 (.region [iI 2 (.mv (.c (.bool false)))] false)
 (.seq
 (.region [iI 3 (.mv (.t 0)),iI 4 (.call 45 [(.t 3)]),iI 5 (.not (.t 4)),iI 2 (.mv (.t 5))] false)
 .ret))
def r167 : List ERes := [.t 2]
theorem c167 : chkF Tryz.prog Tryz.f167 1 e167 r167 = true := by kernel_rfl
def e168 : EC :=
 (.seq
 (.region [iI 3 (.mv (.c (.bool false)))] false)
 (.seq
 (.region [iI 4 (.load false 1 (.t 1)),iI 5 (.mv (.t 0)),iI 6 (.callv (.t 4) [(.t 5)]),iI 7 (.not (.t 6)),iI 3 (.mv (.t 7))] false)
 .ret))
def r168 : List ERes := [.t 3]
theorem c168 : chkF Tryz.prog Tryz.f168 1 e168 r168 = true := by kernel_rfl
def e169 : EC :=
 (.seq
 (.region [iI 4 (.mv (.c (.bool false)))] false)
 (.seq
 (.region [iI 5 (.mv (.t 0)),iI 6 (.mv (.t 1)),iI 7 (.call 197 [(.t 5), (.t 6)]),iI 8 (.bin .geq (.t 7) (.c (.int .i64 0))),iI 4 (.mv (.t 8))] false)
 .ret))
def r169 : List ERes := [.t 4]
theorem c169 : chkF Tryz.prog Tryz.f169 2 e169 r169 = true := by kernel_rfl
def e170 : EC :=
 (.seq
 (.region [iI 2 (.box 133 (.t 0)),iI 3 (.mv (.c (.bool false)))] false)
 (.seq
 (.region [iI 4 (.load false 1 (.t 1)),iI 5 (.load true 11 (.t 2)),iI 6 (.callv (.t 4) [(.t 5)]),iI 7 (.not (.t 6)),iI 3 (.mv (.t 7))] false)
 .ret))
def r170 : List ERes := [.t 3]
theorem c170 : chkF Tryz.prog Tryz.f170 1 e170 r170 = true := by kernel_rfl
def e171 : EC :=
 (.seq
 (.region [iI 4 (.mv (.c (.int .i64 0)))] false)
 (.seq
 (.seq
 (.region [iI 6 (.mv (.t 0)),iI 7 (.len (.t 6)),iI 8 (.mv (.c (.int .i64 0)))] false)
 (.block 0
 (.loop
 (.seq
 (.region [iI 9 (.bin .lss (.t 8) (.t 7))] false)
 (.seq
 (.cond (.t 9)
 .skip
 (.exit 0))
 (.seq
 (.block 1
 (.seq
 (.region [iI 10 (.mv (.t 8)),iI 5 (.mv (.t 10))] false)
 (.seq
 (.region [iI 11 (.mv (.t 1)),iI 12 (.mv (.t 0)),iI 13 (.mv (.t 5)),iI 14 (.iaddr 4 (.t 12) (.t 13)),iI 15 (.load true 4 (.t 14)),iI 16 (.callv (.t 11) [(.t 15)])] false)
 (.cond (.t 16)
 (.seq
 (.region [iI 17 (.mv (.t 5)),iI 4 (.mv (.t 17))] false)
 .ret)
 .skip))))
 (.region [iI 18 (.bin .add (.t 8) (.c (.int .i64 1))),iI 8 (.mv (.t 18))] false)))))))
 (.seq
 (.region [iI 4 (.mv (.c (.int .i64 (-1))))] false)
 .ret)))
def r171 : List ERes := [.t 4]
theorem c171 : chkF Tryz.prog Tryz.f171 2 e171 r171 = true := by kernel_rfl
def e173 : EC :=
 (.seq
 (.region [iI 4 (.mv (.c (.bool false)))] false)
 (.seq
 (.region [iI 5 (.mv (.t 0)),iI 6 (.mv (.t 1)),iI 7 (.call 198 [(.t 5), (.t 6)]),iI 8 (.bin .geq (.t 7) (.c (.int .i64 0))),iI 4 (.mv (.t 8))] false)
 .ret))
def r173 : List ERes := [.t 4]
theorem c173 : chkF Tryz.prog Tryz.f173 2 e173 r173 = true := by kernel_rfl
def e174 : EC :=
 (.seq
 (.region [iI 2 (.box 131 (.t 0)),iI 3 (.mv (.c (.bool false)))] false)
 (.seq
 (.region [iI 4 (.load false 1 (.t 1)),iI 5 (.load true 6 (.t 2)),iI 6 (.callv (.t 4) [(.t 5)]),iI 7 (.not (.t 6)),iI 3 (.mv (.t 7))] false)
 .ret))
def r174 : List ERes := [.t 3]
theorem c174 : chkF Tryz.prog Tryz.f174 1 e174 r174 = true := by kernel_rfl
def e175 : EC :=
 (.seq
 (.region [iI 2 (.mv (.c (.int .i64 0)))] false)
 (.seq
 (.seq
 (.region [iI 3 (.mv (.t 0))] false)
 (.block 0
 (.seq
 (.region [iI 5 (.bin .eql (.t 3) (.c (.str [124, 124]))),iI 4 (.mv (.t 5))] false)
 (.cond (.t 4)
 (.seq
 (.region [iI 2 (.mv (.c (.int .i64 1)))] false)
 .ret)
 (.seq
 (.region [iI 7 (.bin .eql (.t 3) (.c (.str [38, 38]))),iI 6 (.mv (.t 7))] false)
 (.cond (.t 6)
 (.seq
 (.region [iI 2 (.mv (.c (.int .i64 2)))] false)
 .ret)
 (.seq
 (.seq
 (.region [iI 9 (.bin .eql (.t 3) (.c (.str [61, 61]))),iI 8 (.mv (.t 9))] false)
 (.cond (.t 8)
 .skip
 (.region [iI 10 (.bin .eql (.t 3) (.c (.str [33, 61]))),iI 8 (.mv (.t 10))] false)))
 (.cond (.t 8)
 (.seq
 (.region [iI 2 (.mv (.c (.int .i64 3)))] false)
 .ret)
 (.seq
 (.seq
 (.region [iI 12 (.bin .eql (.t 3) (.c (.str [60]))),iI 11 (.mv (.t 12))] false)
 (.cond (.t 11)
 .skip
 (.seq
 (.region [iI 13 (.bin .eql (.t 3) (.c (.str [60, 61]))),iI 11 (.mv (.t 13))] false)
 (.cond (.t 11)
 .skip
 (.seq
 (.region [iI 14 (.bin .eql (.t 3) (.c (.str [62]))),iI 11 (.mv (.t 14))] false)
 (.cond (.t 11)
 .skip
 (.region [iI 15 (.bin .eql (.t 3) (.c (.str [62, 61]))),iI 11 (.mv (.t 15))] false)))))))
 (.cond (.t 11)
 (.seq
 (.region [iI 2 (.mv (.c (.int .i64 4)))] false)
 .ret)
 (.seq
 (.seq
 (.region [iI 17 (.bin .eql (.t 3) (.c (.str [43]))),iI 16 (.mv (.t 17))] false)
 (.cond (.t 16)
 .skip
 (.region [iI 18 (.bin .eql (.t 3) (.c (.str [45]))),iI 16 (.mv (.t 18))] false)))
 (.cond (.t 16)
 (.seq
 (.region [iI 2 (.mv (.c (.int .i64 5)))] false)
 .ret)
 (.seq
 (.seq
 (.region [iI 20 (.bin .eql (.t 3) (.c (.str [42]))),iI 19 (.mv (.t 20))] false)
 (.cond (.t 19)
 .skip
 (.seq
 (.region [iI 21 (.bin .eql (.t 3) (.c (.str [47]))),iI 19 (.mv (.t 21))] false)
 (.cond (.t 19)
 .skip
 (.region [iI 22 (.bin .eql (.t 3) (.c (.str [37]))),iI 19 (.mv (.t 22))] false)))))
 (.cond (.t 19)
 (.seq
 (.region [iI 2 (.mv (.c (.int .i64 6)))] false)
 .ret)
 .skip))))))))))))))
 (.seq
 (.region [iI 2 (.mv (.c (.int .i64 0)))] false)
 .ret)))
def r175 : List ERes := [.t 2]
theorem c175 : chkF Tryz.prog Tryz.f175 1 e175 r175 = true := by kernel_rfl
def e176 : EC :=
 (.seq
 (.region [iI 4 (.mv (.c (.int .i64 0))),iI 5 (.mv (.c (.raw .nilIface)))] false)
 (.seq
 (.region [iI 6 (.mv (.t 0)),iI 7 (.call 199 [(.t 6)])] false)
 (.seq
 (.region [iI 8 (.mv (.t 0)),iI 9 (.mv (.t 0)),iI 10 (.nilck (.t 9)),iI 11 (.faddr 1 (.t 10)),iI 12 (.load false 1 (.t 11)),iI 13 (.mv (.t 1)),iI 14 (.append 5 1 1 (.t 12) (.t 13)),iI 15 (.nilck (.t 8)),iI 16 (.faddr 1 (.t 15)),iN (.store 1 (.t 16) (.t 14))] false)
 (.seq
 (.region [iI 17 (.mv (.t 1)),iI 18 (.lenS (.t 17)),iI 4 (.mv (.t 18)),iI 5 (.mv (.c (.raw .nilIface)))] false)
 .ret))))
def r176 : List ERes := [.t 4, .t 5]
theorem c176 : chkF Tryz.prog Tryz.f176 2 e176 r176 = true := by kernel_rfl
def e178 : EC :=
 (.seq
 (.region [iI 4 (.mv (.c (.raw .nilIface)))] false)
 (.seq
 (.region [iI 5 (.mv (.t 0)),iI 6 (.call 199 [(.t 5)])] false)
 (.seq
 (.region [iI 7 (.mv (.t 0)),iI 8 (.mv (.t 0)),iI 9 (.nilck (.t 8)),iI 10 (.faddr 1 (.t 9)),iI 11 (.load false 1 (.t 10)),iI 12 (.mv (.t 1)),iI 13 (.bslice 5 1 1 [.int .u8 0] [(0, (.t 12))]),iI 14 (.append 5 1 1 (.t 11) (.t 13)),iI 15 (.nilck (.t 7)),iI 16 (.faddr 1 (.t 15)),iN (.store 1 (.t 16) (.t 14))] false)
 (.seq
 (.region [iI 4 (.mv (.c (.raw .nilIface)))] false)
 .ret))))
def r178 : List ERes := [.t 4]
theorem c178 : chkF Tryz.prog Tryz.f178 2 e178 r178 = true := by kernel_rfl
def e182 : EC :=
 (.seq
 (.region [iI 3 (.box 133 (.t 1))] false)
 (.seq
 (.region [iI 5 (.faddr 0 (.t 3)),iI 6 (.load false 1 (.t 5))] false)
 (.block 0
 (.seq
 (.region [iI 49 (.bin .eql (.t 6) (.c (.int .i64 1))),iI 48 (.mv (.t 49))] false)
 (.cond (.t 48)
 (.region [iI 50 (.mv (.t 0)),iI 51 (.faddr 1 (.t 3)),iI 52 (.load false 1 (.t 51)),iI 53 (.faddr 2 (.t 3)),iI 54 (.load true 6 (.t 53)),iI 55 (.pcall 127 [(.t 54)]),iI 56 (.bslice 9 1 4 [.str []] [(0, (.t 52)), (1, (.c (.str [32, 61, 32]))), (2, (.t 55)), (3, (.c (.str [59])))]),iI 57 (.call 122 [(.t 50), (.t 56)])] true)
 (.seq
 (.region [iI 59 (.bin .eql (.t 6) (.c (.int .i64 3))),iI 58 (.mv (.t 59))] false)
 (.cond (.t 58)
 (.seq
 (.region [iI 60 (.mv (.t 0)),iI 61 (.faddr 2 (.t 3)),iI 62 (.load true 6 (.t 61)),iI 63 (.pcall 127 [(.t 62)]),iI 64 (.faddr 8 (.t 3)),iI 65 (.load false 1 (.t 64)),iI 66 (.pcall 123 [(.t 65)]),iI 67 (.bslice 9 1 5 [.str []] [(0, (.c (.str [119, 104, 105, 108, 101, 32]))), (1, (.t 63)), (2, (.c (.str [32, 116, 105, 109, 101, 115, 32]))), (3, (.t 66)), (4, (.c (.str [32, 123])))]),iI 68 (.call 122 [(.t 60), (.t 67)])] true)
 (.seq
 (.region [iI 69 (.mv (.t 0)),iI 70 (.faddr 9 (.t 3)),iI 71 (.load false 1 (.t 70)),iI 72 (.call 126 [(.t 69), (.t 71)])] false)
 (.region [iI 73 (.mv (.t 0)),iI 74 (.bslice 9 1 1 [.str []] [(0, (.c (.str [125])))]),iI 75 (.call 122 [(.t 73), (.t 74)])] false)))
 (.seq
 (.region [iI 4 (.mv (.c (.str [105, 102, 32])))] false)
 (.seq
 (.block 1
 (.loop
 (.block 2
 (.seq
 (.region [iI 7 (.mv (.t 0)),iI 8 (.mv (.t 4)),iI 9 (.faddr 2 (.t 3)),iI 10 (.load true 6 (.t 9)),iI 11 (.call 127 [(.t 10)]),iI 12 (.bslice 9 1 3 [.str []] [(0, (.t 8)), (1, (.t 11)), (2, (.c (.str [32, 123])))]),iI 13 (.call 122 [(.t 7), (.t 12)])] false)
 (.seq
 (.region [iI 14 (.mv (.t 0)),iI 15 (.faddr 9 (.t 3)),iI 16 (.load false 1 (.t 15)),iI 17 (.call 126 [(.t 14), (.t 16)])] false)
 (.seq
 (.seq
 (.region [iI 18 (.faddr 10 (.t 3)),iI 19 (.load false 1 (.t 18)),iI 20 (.len (.t 19)),iI 21 (.bin .neq (.t 20) (.c (.int .i64 1))),iI 22 (.mv (.t 21)),iG 23 22 false (.faddr 10 (.t 3)),iG 24 22 false (.load false 1 (.t 23)),iG 25 22 false (.iaddr 11 (.t 24) (.c (.int .i64 0))),iG 26 22 false (.faddr 0 (.t 25)),iG 27 22 false (.load false 1 (.t 26)),iG 28 22 false (.bin .neq (.t 27) (.c (.int .i64 2))),iI 29 (.pick (.t 22) (.c (.bool true)) (.t 28))] false)
 (.cond (.t 29)
 (.exit 1)
 .skip))
 (.region [iI 30 (.faddr 10 (.t 3)),iI 31 (.load false 1 (.t 30)),iI 32 (.iaddr 11 (.t 31) (.c (.int .i64 0))),iI 33 (.load true 11 (.t 32)),iN (.store 11 (.t 3) (.t 33)),iI 4 (.mv (.c (.str [125, 32, 101, 108, 115, 101, 32, 105, 102, 32])))] false)))))))
 (.seq
 (.seq
 (.region [iI 34 (.faddr 10 (.t 3)),iI 35 (.load false 1 (.t 34)),iI 36 (.len (.t 35)),iI 37 (.bin .gtr (.t 36) (.c (.int .i64 0)))] false)
 (.cond (.t 37)
 (.seq
 (.region [iI 38 (.mv (.t 0)),iI 39 (.bslice 9 1 1 [.str []] [(0, (.c (.str [125, 32, 101, 108, 115, 101, 32, 123])))]),iI 40 (.call 122 [(.t 38), (.t 39)])] false)
 (.region [iI 41 (.mv (.t 0)),iI 42 (.faddr 10 (.t 3)),iI 43 (.load false 1 (.t 42)),iI 44 (.call 126 [(.t 41), (.t 43)])] false))
 .skip))
 (.region [iI 45 (.mv (.t 0)),iI 46 (.bslice 9 1 1 [.str []] [(0, (.c (.str [125])))]),iI 47 (.call 122 [(.t 45), (.t 46)])] false)))))))))))
def r182 : List ERes := []
theorem c182 : chkF Tryz.prog Tryz.f182 2 e182 r182 = true := by kernel_rfl
def e183 : EC :=
 (.seq
 (.region [iI 2 (.box 131 (.t 0)),iI 4 (.mv (.c (.str [])))] false)
 (.seq
 (.seq
 (.region [iI 5 (.faddr 0 (.t 2)),iI 6 (.load false 1 (.t 5)),iI 7 (.bin .eql (.t 6) (.c (.int .i64 6))),iI 8 (.mv (.t 7)),iG 9 8 true (.faddr 1 (.t 2)),iG 10 8 true (.load false 1 (.t 9)),iG 11 8 true (.call 175 [(.t 10)]),iG 12 8 true (.mv (.t 1)),iG 13 8 true (.bin .lss (.t 11) (.t 12)),iI 14 (.pick (.t 8) (.t 13) (.c (.bool false)))] false)
 (.cond (.t 14)
 (.seq
 (.region [iI 15 (.load true 6 (.t 2)),iI 16 (.call 127 [(.t 15)]),iI 17 (.bin .add (.c (.str [40])) (.t 16)),iI 18 (.bin .add (.t 17) (.c (.str [41]))),iI 4 (.mv (.t 18))] false)
 .ret)
 .skip))
 (.seq
 (.region [iI 19 (.load true 6 (.t 2)),iI 20 (.call 127 [(.t 19)]),iI 4 (.mv (.t 20))] false)
 .ret)))
def r183 : List ERes := [.t 4]
theorem c183 : chkF Tryz.prog Tryz.f183 2 e183 r183 = true := by kernel_rfl
def e190 : EC :=
 (.seq
 (.region [iI 2 (.alloc 133 [.int .i64 0, .str [], .int .i64 0, .str [], .str [], .str [], .int .i64 0, .nilS, .int .i64 0, .nilS, .nilS])] false)
 (.seq
 (.block 0
 (.seq
 (.region [iI 6 (.mv (.t 0)),iI 7 (.call 87 [(.t 6), (.c (.str [105, 102]))]),iI 5 (.mv (.t 7))] false)
 (.cond (.t 5)
 (.seq
 (.region [iI 8 (.mv (.t 0)),iI 9 (.call 209 [(.t 8)]),iN (.store 11 (.t 2) (.t 9))] false)
 .ret)
 (.seq
 (.region [iI 11 (.mv (.t 0)),iI 12 (.call 87 [(.t 11), (.c (.str [119, 104, 105, 108, 101]))]),iI 10 (.mv (.t 12))] false)
 (.cond (.t 10)
 (.seq
 (.region [iI 13 (.mv (.t 0)),iI 14 (.call 156 [(.t 13), (.c (.int .i64 1))]),iI 15 (.build [.int .i64 0, .str [], .int .i64 0, .str [], .str [], .str [], .int .i64 0, .nilS, .int .i64 0, .nilS, .nilS] [(0, 1, (.c (.int .i64 3))), (2, 6, (.t 14))]),iI 3 (.alloc 133 [.int .i64 0, .str [], .int .i64 0, .str [], .str [], .str [], .int .i64 0, .nilS, .int .i64 0, .nilS, .nilS]),iN (.store 11 (.t 3) (.t 15))] false)
 (.seq
 (.region [iI 16 (.mv (.t 0)),iI 17 (.call 85 [(.t 16), (.c (.str [116, 105, 109, 101, 115]))])] false)
 (.seq
 (.seq
 (.region [iI 18 (.mv (.t 0)),iI 19 (.nilck (.t 18)),iI 20 (.faddr 0 (.t 19)),iI 21 (.load false 1 (.t 20)),iI 22 (.len (.t 21)),iI 23 (.bin .gtr (.t 22) (.c (.int .i64 0))),iI 24 (.mv (.t 23)),iG 25 24 true (.mv (.t 0)),iG 26 24 true (.nilck (.t 25)),iG 27 24 true (.faddr 0 (.t 26)),iG 28 24 true (.load false 1 (.t 27)),iG 29 24 true (.iaddr 4 (.t 28) (.c (.int .i64 0))),iG 30 24 true (.faddr 0 (.t 29)),iG 31 24 true (.load false 1 (.t 30)),iG 32 24 true (.bin .eql (.t 31) (.c (.int .i64 2))),iI 33 (.pick (.t 24) (.t 32) (.c (.bool false))),iI 34 (.mv (.t 33)),iG 35 34 true (.mv (.t 0)),iG 36 34 true (.nilck (.t 35)),iG 37 34 true (.faddr 0 (.t 36)),iG 38 34 true (.load false 1 (.t 37)),iG 39 34 true (.iaddr 4 (.t 38) (.c (.int .i64 0))),iG 40 34 true (.faddr 2 (.t 39)),iG 41 34 true (.load false 1 (.t 40)),iG 42 34 true (.bin .lss (.t 41) (.c (.int .i64 1))),iG 43 34 true (.mv (.t 42)),iG 44 43 false (.mv (.t 0)),iG 45 43 false (.nilck (.t 44)),iG 46 43 false (.faddr 0 (.t 45)),iG 47 43 false (.load false 1 (.t 46)),iG 48 43 false (.iaddr 4 (.t 47) (.c (.int .i64 0))),iG 49 43 false (.faddr 2 (.t 48)),iG 50 43 false (.load false 1 (.t 49)),iG 51 43 false (.bin .gtr (.t 50) (.c (.int .i64 50))),iG 52 34 true (.pick (.t 43) (.c (.bool true)) (.t 51)),iI 53 (.pick (.t 34) (.t 52) (.c (.bool false)))] false)
 (.cond (.t 53)
 (.region [iI 54 (.mv (.t 0)),iI 55 (.call 91 [(.t 54), (.c (.int .i64 2))])] false)
 .skip))
 (.seq
 (.region [iI 56 (.mv (.t 0)),iI 57 (.call 151 [(.t 56), (.c (.int .i64 2))]),iI 58 (.field false 2 1 (.t 57)),iI 59 (.faddr 8 (.t 3)),iN (.store 1 (.t 59) (.t 58))] false)
 (.seq
 (.region [iI 60 (.mv (.t 0)),iI 61 (.call 155 [(.t 60)]),iI 62 (.faddr 9 (.t 3)),iN (.store 1 (.t 62) (.t 61))] false)
 (.seq
 (.region [iI 63 (.load true 11 (.t 3)),iN (.store 11 (.t 2) (.t 63))] false)
 .ret))))))
 .skip)))))
 (.seq
 (.region [iI 64 (.mv (.t 0)),iI 65 (.call 86 [(.t 64)]),iI 66 (.build [.int .i64 0, .str [], .int .i64 0, .str [], .str [], .str [], .int .i64 0, .nilS, .int .i64 0, .nilS, .nilS] [(0, 1, (.c (.int .i64 1))), (1, 1, (.t 65))]),iI 4 (.alloc 133 [.int .i64 0, .str [], .int .i64 0, .str [], .str [], .str [], .int .i64 0, .nilS, .int .i64 0, .nilS, .nilS]),iN (.store 11 (.t 4) (.t 66))] false)
 (.seq
 (.region [iI 67 (.mv (.t 0)),iI 68 (.call 85 [(.t 67), (.c (.str [61]))])] false)
 (.seq
 (.region [iI 69 (.mv (.t 0)),iI 70 (.call 156 [(.t 69), (.c (.int .i64 1))]),iI 71 (.faddr 2 (.t 4)),iN (.store 6 (.t 71) (.t 70))] false)
 (.seq
 (.region [iI 72 (.mv (.t 0)),iI 73 (.call 85 [(.t 72), (.c (.str [59]))])] false)
 (.seq
 (.region [iI 74 (.load true 11 (.t 4)),iN (.store 11 (.t 2) (.t 74))] false)
 .ret)))))))
def r190 : List ERes := [.cell true 11 2]
theorem c190 : chkF Tryz.prog Tryz.f190 1 e190 r190 = true := by kernel_rfl
def e191 : EC :=
 (.seq
 (.region [iI 2 (.alloc 131 [.int .i64 0, .str [], .str [], .str [], .int .i64 0, .nilS])] false)
 (.seq
 (.block 0
 (.seq
 (.region [iI 6 (.mv (.t 0)),iI 7 (.call 87 [(.t 6), (.c (.str [40]))]),iI 5 (.mv (.t 7))] false)
 (.cond (.t 5)
 (.seq
 (.region [iI 8 (.mv (.t 0)),iI 9 (.call 156 [(.t 8), (.c (.int .i64 1))]),iI 3 (.alloc 131 [.int .i64 0, .str [], .str [], .str [], .int .i64 0, .nilS]),iN (.store 6 (.t 3) (.t 9))] false)
 (.seq
 (.region [iI 10 (.mv (.t 0)),iI 11 (.call 85 [(.t 10), (.c (.str [41]))])] false)
 (.seq
 (.region [iI 12 (.load true 6 (.t 3)),iN (.store 6 (.t 2) (.t 12))] false)
 .ret)))
 (.seq
 (.region [iI 14 (.mv (.t 0)),iI 15 (.call 87 [(.t 14), (.c (.str [108, 101, 110]))]),iI 13 (.mv (.t 15))] false)
 (.cond (.t 13)
 (.seq
 (.region [iI 16 (.mv (.t 0)),iI 17 (.call 85 [(.t 16), (.c (.str [40]))])] false)
 (.seq
 (.region [iI 18 (.mv (.t 0)),iI 19 (.call 156 [(.t 18), (.c (.int .i64 1))]),iI 20 (.bslice 131 6 1 [.int .i64 0, .str [], .str [], .str [], .int .i64 0, .nilS] [(0, (.t 19))]),iI 21 (.build [.int .i64 0, .str [], .str [], .str [], .int .i64 0, .nilS] [(0, 1, (.c (.int .i64 4))), (5, 1, (.t 20))]),iI 4 (.alloc 131 [.int .i64 0, .str [], .str [], .str [], .int .i64 0, .nilS]),iN (.store 6 (.t 4) (.t 21))] false)
 (.seq
 (.region [iI 22 (.mv (.t 0)),iI 23 (.call 85 [(.t 22), (.c (.str [41]))])] false)
 (.seq
 (.region [iI 24 (.load true 6 (.t 4)),iN (.store 6 (.t 2) (.t 24))] false)
 .ret))))
 (.seq
 (.region [iI 26 (.mv (.t 0)),iI 27 (.call 87 [(.t 26), (.c (.str [45]))]),iI 25 (.mv (.t 27))] false)
 (.cond (.t 25)
 (.seq
 (.region [iI 28 (.mv (.t 0)),iI 29 (.call 191 [(.t 28)]),iI 30 (.bslice 131 6 1 [.int .i64 0, .str [], .str [], .str [], .int .i64 0, .nilS] [(0, (.t 29))]),iI 31 (.build [.int .i64 0, .str [], .str [], .str [], .int .i64 0, .nilS] [(0, 1, (.c (.int .i64 5))), (1, 1, (.c (.str [45]))), (5, 1, (.t 30))]),iN (.store 6 (.t 2) (.t 31))] false)
 .ret)
 (.seq
 (.region [iI 33 (.mv (.t 0)),iI 34 (.call 87 [(.t 33), (.c (.str [33]))]),iI 32 (.mv (.t 34))] false)
 (.cond (.t 32)
 (.seq
 (.region [iI 35 (.mv (.t 0)),iI 36 (.call 191 [(.t 35)]),iI 37 (.bslice 131 6 1 [.int .i64 0, .str [], .str [], .str [], .int .i64 0, .nilS] [(0, (.t 36))]),iI 38 (.build [.int .i64 0, .str [], .str [], .str [], .int .i64 0, .nilS] [(0, 1, (.c (.int .i64 5))), (1, 1, (.c (.str [33]))), (5, 1, (.t 37))]),iN (.store 6 (.t 2) (.t 38))] false)
 .ret)
 (.seq
 (.region [iI 40 (.mv (.t 0)),iI 41 (.call 150 [(.t 40)]),iI 39 (.mv (.t 41))] false)
 (.cond (.t 39)
 (.seq
 (.region [iI 42 (.mv (.t 0)),iI 43 (.call 86 [(.t 42)]),iI 44 (.build [.int .i64 0, .str [], .str [], .str [], .int .i64 0, .nilS] [(0, 1, (.c (.int .i64 3))), (2, 1, (.t 43))]),iN (.store 6 (.t 2) (.t 44))] false)
 .ret)
 (.seq
 (.region [iI 46 (.mv (.t 0)),iI 47 (.nilck (.t 46)),iI 48 (.faddr 0 (.t 47)),iI 49 (.load false 1 (.t 48)),iI 50 (.len (.t 49)),iI 51 (.bin .gtr (.t 50) (.c (.int .i64 0))),iI 52 (.mv (.t 51)),iG 53 52 true (.mv (.t 0)),iG 54 52 true (.nilck (.t 53)),iG 55 52 true (.faddr 0 (.t 54)),iG 56 52 true (.load false 1 (.t 55)),iG 57 52 true (.iaddr 4 (.t 56) (.c (.int .i64 0))),iG 58 52 true (.faddr 0 (.t 57)),iG 59 52 true (.load false 1 (.t 58)),iG 60 52 true (.bin .eql (.t 59) (.c (.int .i64 3))),iI 61 (.pick (.t 52) (.t 60) (.c (.bool false))),iI 45 (.mv (.t 61))] false)
 (.cond (.t 45)
 (.seq
 (.region [iI 62 (.mv (.t 0)),iI 63 (.call 151 [(.t 62), (.c (.int .i64 3))]),iI 64 (.field false 1 1 (.t 63)),iI 65 (.build [.int .i64 0, .str [], .str [], .str [], .int .i64 0, .nilS] [(0, 1, (.c (.int .i64 2))), (3, 1, (.t 64))]),iN (.store 6 (.t 2) (.t 65))] false)
 .ret)
 (.seq
 (.region [iI 67 (.mv (.t 0)),iI 68 (.nilck (.t 67)),iI 69 (.faddr 0 (.t 68)),iI 70 (.load false 1 (.t 69)),iI 71 (.len (.t 70)),iI 72 (.bin .gtr (.t 71) (.c (.int .i64 0))),iI 73 (.mv (.t 72)),iG 74 73 true (.mv (.t 0)),iG 75 73 true (.nilck (.t 74)),iG 76 73 true (.faddr 0 (.t 75)),iG 77 73 true (.load false 1 (.t 76)),iG 78 73 true (.iaddr 4 (.t 77) (.c (.int .i64 0))),iG 79 73 true (.faddr 0 (.t 78)),iG 80 73 true (.load false 1 (.t 79)),iG 81 73 true (.bin .eql (.t 80) (.c (.int .i64 2))),iI 82 (.pick (.t 73) (.t 81) (.c (.bool false))),iI 83 (.mv (.t 82)),iG 84 83 true (.mv (.t 0)),iG 85 83 true (.nilck (.t 84)),iG 86 83 true (.faddr 0 (.t 85)),iG 87 83 true (.load false 1 (.t 86)),iG 88 83 true (.iaddr 4 (.t 87) (.c (.int .i64 0))),iG 89 83 true (.faddr 2 (.t 88)),iG 90 83 true (.load false 1 (.t 89)),iG 91 83 true (.bin .gtr (.t 90) (.c (.int .i64 1000))),iI 92 (.pick (.t 83) (.t 91) (.c (.bool false))),iI 66 (.mv (.t 92))] false)
 (.cond (.t 66)
 (.region [iI 93 (.mv (.t 0)),iI 94 (.call 91 [(.t 93), (.c (.int .i64 2))])] false)
 .skip)))))))))))))))
 (.seq
 (.region [iI 95 (.mv (.t 0)),iI 96 (.call 151 [(.t 95), (.c (.int .i64 2))]),iI 97 (.field false 2 1 (.t 96)),iI 98 (.build [.int .i64 0, .str [], .str [], .str [], .int .i64 0, .nilS] [(0, 1, (.c (.int .i64 1))), (4, 1, (.t 97))]),iN (.store 6 (.t 2) (.t 98))] false)
 .ret)))
def r191 : List ERes := [.cell true 6 2]
theorem c191 : chkF Tryz.prog Tryz.f191 1 e191 r191 = true := by kernel_rfl
def e193 : EC :=
 (.seq
 (.region [iI 4 (.mv (.c (.int .i64 0)))] false)
 (.seq
 (.region [iI 5 (.mv (.t 0)),iI 6 (.mv (.t 1)),iI 7 (.call 210 [(.t 5), (.t 6), (.c (.bool true))]),iI 4 (.mv (.t 7))] false)
 .ret))
def r193 : List ERes := [.t 4]
theorem c193 : chkF Tryz.prog Tryz.f193 2 e193 r193 = true := by kernel_rfl
def e195 : EC :=
 (.seq
 (.region [iI 4 (.mv (.c (.int .i64 0)))] false)
 (.seq
 (.seq
 (.region [iI 6 (.mv (.t 0)),iI 7 (.len (.t 6)),iI 8 (.mv (.c (.int .i64 0)))] false)
 (.block 0
 (.loop
 (.seq
 (.region [iI 9 (.bin .lss (.t 8) (.t 7))] false)
 (.seq
 (.cond (.t 9)
 .skip
 (.exit 0))
 (.seq
 (.block 1
 (.seq
 (.region [iI 10 (.mv (.t 8)),iI 5 (.mv (.t 10))] false)
 (.seq
 (.region [iI 11 (.mv (.t 1)),iI 12 (.mv (.t 0)),iI 13 (.mv (.t 5)),iI 14 (.iaddr 1 (.t 12) (.t 13)),iI 15 (.load false 1 (.t 14)),iI 16 (.callv (.t 11) [(.t 15)])] false)
 (.cond (.t 16)
 (.seq
 (.region [iI 17 (.mv (.t 5)),iI 4 (.mv (.t 17))] false)
 .ret)
 .skip))))
 (.region [iI 18 (.bin .add (.t 8) (.c (.int .i64 1))),iI 8 (.mv (.t 18))] false)))))))
 (.seq
 (.region [iI 4 (.mv (.c (.int .i64 (-1))))] false)
 .ret)))
def r195 : List ERes := [.t 4]
theorem c195 : chkF Tryz.prog Tryz.f195 2 e195 r195 = true := by kernel_rfl
def e197 : EC :=
 (.seq
 (.region [iI 4 (.mv (.c (.int .i64 0)))] false)
 (.seq
 (.seq
 (.region [iI 6 (.mv (.t 0)),iI 7 (.len (.t 6)),iI 8 (.mv (.c (.int .i64 0)))] false)
 (.block 0
 (.loop
 (.seq
 (.region [iI 9 (.bin .lss (.t 8) (.t 7))] false)
 (.seq
 (.cond (.t 9)
 .skip
 (.exit 0))
 (.seq
 (.block 1
 (.seq
 (.region [iI 10 (.mv (.t 8)),iI 5 (.mv (.t 10))] false)
 (.seq
 (.region [iI 11 (.mv (.t 1)),iI 12 (.mv (.t 0)),iI 13 (.mv (.t 5)),iI 14 (.iaddr 11 (.t 12) (.t 13)),iI 15 (.load true 11 (.t 14)),iI 16 (.callv (.t 11) [(.t 15)])] false)
 (.cond (.t 16)
 (.seq
 (.region [iI 17 (.mv (.t 5)),iI 4 (.mv (.t 17))] false)
 .ret)
 .skip))))
 (.region [iI 18 (.bin .add (.t 8) (.c (.int .i64 1))),iI 8 (.mv (.t 18))] false)))))))
 (.seq
 (.region [iI 4 (.mv (.c (.int .i64 (-1))))] false)
 .ret)))
def r197 : List ERes := [.t 4]
theorem c197 : chkF Tryz.prog Tryz.f197 2 e197 r197 = true := by kernel_rfl
def e198 : EC :=
 (.seq
 (.region [iI 4 (.mv (.c (.int .i64 0)))] false)
 (.seq
 (.seq
 (.region [iI 6 (.mv (.t 0)),iI 7 (.len (.t 6)),iI 8 (.mv (.c (.int .i64 0)))] false)
 (.block 0
 (.loop
 (.seq
 (.region [iI 9 (.bin .lss (.t 8) (.t 7))] false)
 (.seq
 (.cond (.t 9)
 .skip
 (.exit 0))
 (.seq
 (.block 1
 (.seq
 (.region [iI 10 (.mv (.t 8)),iI 5 (.mv (.t 10))] false)
 (.seq
 (.region [iI 11 (.mv (.t 1)),iI 12 (.mv (.t 0)),iI 13 (.mv (.t 5)),iI 14 (.iaddr 6 (.t 12) (.t 13)),iI 15 (.load true 6 (.t 14)),iI 16 (.callv (.t 11) [(.t 15)])] false)
 (.cond (.t 16)
 (.seq
 (.region [iI 17 (.mv (.t 5)),iI 4 (.mv (.t 17))] false)
 .ret)
 .skip))))
 (.region [iI 18 (.bin .add (.t 8) (.c (.int .i64 1))),iI 8 (.mv (.t 18))] false)))))))
 (.seq
 (.region [iI 4 (.mv (.c (.int .i64 (-1))))] false)
 .ret)))
def r198 : List ERes := [.t 4]
theorem c198 : chkF Tryz.prog Tryz.f198 2 e198 r198 = true := by kernel_rfl
def e209 : EC :=
 (.seq
 (.region [iI 2 (.alloc 133 [.int .i64 0, .str [], .int .i64 0, .str [], .str [], .str [], .int .i64 0, .nilS, .int .i64 0, .nilS, .nilS])] false)
 (.seq
 (.region [iI 4 (.mv (.t 0)),iI 5 (.call 156 [(.t 4), (.c (.int .i64 1))]),iI 6 (.build [.int .i64 0, .str [], .int .i64 0, .str [], .str [], .str [], .int .i64 0, .nilS, .int .i64 0, .nilS, .nilS] [(0, 1, (.c (.int .i64 2))), (2, 6, (.t 5))]),iI 3 (.alloc 133 [.int .i64 0, .str [], .int .i64 0, .str [], .str [], .str [], .int .i64 0, .nilS, .int .i64 0, .nilS, .nilS]),iN (.store 11 (.t 3) (.t 6))] false)
 (.seq
 (.region [iI 7 (.mv (.t 0)),iI 8 (.call 155 [(.t 7)]),iI 9 (.faddr 9 (.t 3)),iN (.store 1 (.t 9) (.t 8))] false)
 (.seq
 (.seq
 (.region [iI 10 (.mv (.t 0)),iI 11 (.call 87 [(.t 10), (.c (.str [101, 108, 115, 101]))])] false)
 (.cond (.t 11)
 (.seq
 (.region [iI 12 (.mv (.t 0)),iI 13 (.call 87 [(.t 12), (.c (.str [105, 102]))])] false)
 (.cond (.t 13)
 (.region [iI 14 (.mv (.t 0)),iI 15 (.call 209 [(.t 14)]),iI 16 (.bslice 133 11 1 [.int .i64 0, .str [], .int .i64 0, .str [], .str [], .str [], .int .i64 0, .nilS, .int .i64 0, .nilS, .nilS] [(0, (.t 15))]),iI 17 (.faddr 10 (.t 3)),iN (.store 1 (.t 17) (.t 16))] false)
 (.region [iI 18 (.mv (.t 0)),iI 19 (.call 155 [(.t 18)]),iI 20 (.faddr 10 (.t 3)),iN (.store 1 (.t 20) (.t 19))] false)))
 .skip))
 (.seq
 (.region [iI 21 (.load true 11 (.t 3)),iN (.store 11 (.t 2) (.t 21))] false)
 .ret)))))
def r209 : List ERes := [.cell true 11 2]
theorem c209 : chkF Tryz.prog Tryz.f209 1 e209 r209 = true := by kernel_rfl
def e45 : EC :=
 (.seq
 (.region [iI 2 (.mv (.c (.bool false)))] false)
 (.seq
 (.region [iI 4 (.build [.str [], .str [], .str [], .str [], .str [], .str [], .str [], .str [], .str [], .str [], .str [], .str [], .str [], .str [], .str [], .str [], .str [], .str [], .str [], .str [], .str [], .str [], .str [], .str [], .str [], .str [], .str [], .str []] [(0, 1, (.c (.str [97, 103, 97, 105, 110]))), (1, 1, (.c (.str [97, 110, 100]))), (2, 1, (.c (.str [97, 115]))), (3, 1, (.c (.str [97, 116]))), (4, 1, (.c (.str [99, 97, 108, 108]))), (5, 1, (.c (.str [99, 104, 111, 105, 99, 101]))), (6, 1, (.c (.str [101, 108, 115, 101]))), (7, 1, (.c (.str [102, 114, 111, 109]))), (8, 1, (.c (.str [105, 102]))), (9, 1, (.c (.str [105, 110, 116]))), (10, 1, (.c (.str [108, 101, 110]))), (11, 1, (.c (.str [108, 111, 111, 112]))), (12, 1, (.c (.str [109, 101, 115, 115, 97, 103, 101]))), (13, 1, (.c (.str [111, 102]))), (14, 1, (.c (.str [111, 102, 102, 101, 114]))), (15, 1, (.c (.str [111, 110]))), (16, 1, (.c (.str [111, 114]))), (17, 1, (.c (.str [112, 97, 114]))), (18, 1, (.c (.str [112, 108, 97, 121, 115]))), (19, 1, (.c (.str [112, 114, 111, 116, 111, 99, 111, 108]))), (20, 1, (.c (.str [115, 101, 114, 118, 105, 99, 101]))), (21, 1, (.c (.str [116, 101, 120, 116]))), (22, 1, (.c (.str [116, 105, 109, 101, 115]))), (23, 1, (.c (.str [116, 111]))), (24, 1, (.c (.str [118, 97, 114]))), (25, 1, (.c (.str [119, 104, 101, 114, 101]))), (26, 1, (.c (.str [119, 104, 105, 108, 101]))), (27, 1, (.c (.str [119, 105, 116, 104, 105, 110])))]),iI 3 (.alloc 166 [.str [], .str [], .str [], .str [], .str [], .str [], .str [], .str [], .str [], .str [], .str [], .str [], .str [], .str [], .str [], .str [], .str [], .str [], .str [], .str [], .str [], .str [], .str [], .str [], .str [], .str [], .str [], .str []]),iN (.store 28 (.t 3) (.t 4))] false)
 (.seq
 (.region [iI 5 (.mv (.t 0)),iI 6 (.call 101 [(.t 5)]),iI 7 (.mv (.t 6)),iG 8 7 true (.slA 28 1 (.t 3)),iG 9 7 true (.mv (.t 0)),iG 10 7 true (.call 102 [(.t 8), (.t 9)]),iG 11 7 true (.not (.t 10)),iI 12 (.pick (.t 7) (.t 11) (.c (.bool false))),iI 2 (.mv (.t 12))] false)
 .ret)))
def r45 : List ERes := [.t 2]
theorem c45 : chkF Tryz.prog Tryz.f45 1 e45 r45 = true := by kernel_rfl
def e101 : EC :=
 (.seq
 (.region [iI 2 (.mv (.c (.bool false)))] false)
 (.seq
 (.seq
 (.region [iI 4 (.mv (.t 0)),iI 5 (.bin .eql (.t 4) (.c (.str []))),iI 6 (.mv (.t 5)),iG 7 6 false (.mv (.t 0)),iG 8 6 false (.lenS (.t 7)),iG 9 6 false (.bin .gtr (.t 8) (.c (.int .i64 16))),iI 10 (.pick (.t 6) (.c (.bool true)) (.t 9)),iI 11 (.mv (.t 10)),iG 12 11 false (.mv (.t 0)),iG 13 11 false (.idxS (.t 12) (.c (.int .i64 0))),iG 14 11 false (.call 80 [(.t 13)]),iG 15 11 false (.not (.t 14)),iI 16 (.pick (.t 11) (.c (.bool true)) (.t 15))] false)
 (.cond (.t 16)
 (.seq
 (.region [iI 2 (.mv (.c (.bool false)))] false)
 .ret)
 .skip))
 (.seq
 (.seq
 (.region [iI 17 (.mv (.t 0)),iI 18 (.lenS (.t 17)),iI 19 (.mv (.c (.int .i64 0)))] false)
 (.block 0
 (.loop
 (.seq
 (.region [iI 20 (.bin .lss (.t 19) (.t 18))] false)
 (.seq
 (.cond (.t 20)
 .skip
 (.exit 0))
 (.seq
 (.block 1
 (.seq
 (.region [iI 21 (.mv (.t 19)),iI 3 (.mv (.t 21))] false)
 (.seq
 (.region [iI 22 (.mv (.t 0)),iI 23 (.mv (.t 3)),iI 24 (.idxS (.t 22) (.t 23)),iI 25 (.call 149 [(.t 24)]),iI 26 (.not (.t 25))] false)
 (.cond (.t 26)
 (.seq
 (.region [iI 2 (.mv (.c (.bool false)))] false)
 .ret)
 .skip))))
 (.region [iI 27 (.bin .add (.t 19) (.c (.int .i64 1))),iI 19 (.mv (.t 27))] false)))))))
 (.seq
 (.region [iI 2 (.mv (.c (.bool true)))] false)
 .ret))))
def r101 : List ERes := [.t 2]
theorem c101 : chkF Tryz.prog Tryz.f101 1 e101 r101 = true := by kernel_rfl
def e102 : EC :=
 (.seq
 (.region [iI 4 (.mv (.c (.bool false)))] false)
 (.seq
 (.region [iI 5 (.mv (.t 0)),iI 6 (.mv (.t 1)),iI 7 (.call 159 [(.t 5), (.t 6)]),iI 8 (.bin .geq (.t 7) (.c (.int .i64 0))),iI 4 (.mv (.t 8))] false)
 .ret))
def r102 : List ERes := [.t 4]
theorem c102 : chkF Tryz.prog Tryz.f102 2 e102 r102 = true := by kernel_rfl
def e145 : EC :=
 (.seq
 (.region [iI 4 (.mv (.c (.bool false)))] false)
 (.seq
 (.region [iI 5 (.mv (.t 0)),iI 6 (.mv (.t 1)),iI 7 (.call 187 [(.t 5), (.t 6)]),iI 4 (.mv (.t 7))] false)
 .ret))
def r145 : List ERes := [.t 4]
theorem c145 : chkF Tryz.prog Tryz.f145 2 e145 r145 = true := by kernel_rfl
def e159 : EC :=
 (.seq
 (.region [iI 4 (.mv (.c (.int .i64 0)))] false)
 (.seq
 (.seq
 (.region [iI 6 (.mv (.t 0)),iI 7 (.len (.t 6)),iI 8 (.mv (.c (.int .i64 0)))] false)
 (.block 0
 (.loop
 (.seq
 (.region [iI 9 (.bin .lss (.t 8) (.t 7))] false)
 (.seq
 (.cond (.t 9)
 .skip
 (.exit 0))
 (.seq
 (.block 1
 (.seq
 (.region [iI 10 (.mv (.t 8)),iI 5 (.mv (.t 10))] false)
 (.seq
 (.region [iI 11 (.mv (.t 1)),iI 12 (.mv (.t 0)),iI 13 (.mv (.t 5)),iI 14 (.iaddr 1 (.t 12) (.t 13)),iI 15 (.load false 1 (.t 14)),iI 16 (.bin .eql (.t 11) (.t 15))] false)
 (.cond (.t 16)
 (.seq
 (.region [iI 17 (.mv (.t 5)),iI 4 (.mv (.t 17))] false)
 .ret)
 .skip))))
 (.region [iI 18 (.bin .add (.t 8) (.c (.int .i64 1))),iI 8 (.mv (.t 18))] false)))))))
 (.seq
 (.region [iI 4 (.mv (.c (.int .i64 (-1))))] false)
 .ret)))
def r159 : List ERes := [.t 4]
theorem c159 : chkF Tryz.prog Tryz.f159 2 e159 r159 = true := by kernel_rfl
def e187 : EC :=
 (.seq
 (.region [iI 4 (.mv (.c (.bool false)))] false)
 (.seq
 (.region [iI 5 (.mv (.t 0)),iI 6 (.lenS (.t 5)),iI 7 (.mv (.t 1)),iI 8 (.lenS (.t 7)),iI 9 (.bin .geq (.t 6) (.t 8)),iI 10 (.mv (.t 9)),iG 11 10 true (.mv (.t 0)),iG 12 10 true (.mv (.t 1)),iG 13 10 true (.lenS (.t 12)),iG 14 10 true (.slS (.t 11) none (some (.t 13))),iG 15 10 true (.mv (.t 1)),iG 16 10 true (.bin .eql (.t 14) (.t 15)),iI 17 (.pick (.t 10) (.t 16) (.c (.bool false))),iI 4 (.mv (.t 17))] false)
 .ret))
def r187 : List ERes := [.t 4]
theorem c187 : chkF Tryz.prog Tryz.f187 2 e187 r187 = true := by kernel_rfl
def e84 : EC :=
 (.seq
 (.region [iI 2 (.alloc 152 [.int .i64 0, .str [], .int .i64 0, .int .i64 0]),iI 3 (.mv (.c (.int .i64 0)))] false)
 (.seq
 (.region [iI 4 (.mv (.c (.nilS)))] false)
 (.seq
 (.seq
 (.region [iI 6 (.mv (.t 0)),iI 7 (.nilck (.t 6)),iI 8 (.faddr 1 (.t 7)),iI 9 (.load false 1 (.t 8)),iI 10 (.bin .add (.t 9) (.c (.int .i64 1))),iI 11 (.nilck (.t 6)),iI 12 (.faddr 1 (.t 11)),iN (.store 1 (.t 12) (.t 10))] false)
 (.block 0
 (.loop
 (.seq
 (.seq
 (.region [iI 13 (.mv (.t 0)),iI 14 (.nilck (.t 13)),iI 15 (.faddr 1 (.t 14)),iI 16 (.load false 1 (.t 15)),iI 17 (.mv (.t 0)),iI 18 (.nilck (.t 17)),iI 19 (.faddr 0 (.t 18)),iI 20 (.load false 1 (.t 19)),iI 21 (.lenS (.t 20)),iI 22 (.bin .lss (.t 16) (.t 21))] true)
 (.cond (.t 22)
 .skip
 (.exit 0)))
 (.seq
 (.block 1
 (.seq
 (.region [iI 30 (.mv (.t 0)),iI 31 (.nilck (.t 30)),iI 32 (.faddr 0 (.t 31)),iI 33 (.load false 1 (.t 32)),iI 34 (.mv (.t 0)),iI 35 (.nilck (.t 34)),iI 36 (.faddr 1 (.t 35)),iI 37 (.load false 1 (.t 36)),iI 38 (.idxS (.t 33) (.t 37)),iI 5 (.mv (.t 38))] true)
 (.seq
 (.seq
 (.region [iI 39 (.mv (.t 5)),iI 40 (.bin .eql (.t 39) (.c (.int .u8 34)))] false)
 (.cond (.t 40)
 (.seq
 (.region [iI 41 (.mv (.t 0)),iI 42 (.nilck (.t 41)),iI 43 (.faddr 1 (.t 42)),iI 44 (.load false 1 (.t 43)),iI 45 (.bin .add (.t 44) (.c (.int .i64 1))),iI 46 (.nilck (.t 41)),iI 47 (.faddr 1 (.t 46)),iN (.store 1 (.t 47) (.t 45))] false)
 (.seq
 (.seq
 (.region [iI 48 (.mv (.t 4)),iI 49 (.len (.t 48)),iI 50 (.bin .gtr (.t 49) (.c (.int .i64 40)))] false)
 (.cond (.t 50)
 (.seq
 (.region [iI 51 (.build [.int .i64 0, .str [], .int .i64 0, .int .i64 0] []),iN (.store 4 (.t 2) (.t 51)),iI 3 (.mv (.c (.int .i64 6)))] false)
 .ret)
 .skip))
 (.seq
 (.region [iI 52 (.mv (.t 4)),iI 53 (.convS false (.t 52)),iI 54 (.build [.int .i64 0, .str [], .int .i64 0, .int .i64 0] [(0, 1, (.c (.int .i64 3))), (1, 1, (.t 53))]),iN (.store 4 (.t 2) (.t 54)),iI 3 (.mv (.c (.int .i64 0)))] false)
 .ret)))
 .skip))
 (.seq
 (.seq
 (.region [iI 55 (.mv (.t 5)),iI 56 (.bin .eql (.t 55) (.c (.int .u8 92)))] false)
 (.cond (.t 56)
 (.seq
 (.region [iI 57 (.mv (.t 0)),iI 58 (.nilck (.t 57)),iI 59 (.faddr 1 (.t 58)),iI 60 (.load false 1 (.t 59)),iI 61 (.bin .add (.t 60) (.c (.int .i64 1))),iI 62 (.nilck (.t 57)),iI 63 (.faddr 1 (.t 62)),iN (.store 1 (.t 63) (.t 61))] false)
 (.seq
 (.seq
 (.region [iI 64 (.mv (.t 0)),iI 65 (.nilck (.t 64)),iI 66 (.faddr 1 (.t 65)),iI 67 (.load false 1 (.t 66)),iI 68 (.mv (.t 0)),iI 69 (.nilck (.t 68)),iI 70 (.faddr 0 (.t 69)),iI 71 (.load false 1 (.t 70)),iI 72 (.lenS (.t 71)),iI 73 (.bin .eql (.t 67) (.t 72)),iI 74 (.mv (.t 73)),iG 75 74 false (.mv (.t 0)),iG 76 74 false (.nilck (.t 75)),iG 77 74 false (.faddr 0 (.t 76)),iG 78 74 false (.load false 1 (.t 77)),iG 79 74 false (.mv (.t 0)),iG 80 74 false (.nilck (.t 79)),iG 81 74 false (.faddr 1 (.t 80)),iG 82 74 false (.load false 1 (.t 81)),iG 83 74 false (.idxS (.t 78) (.t 82)),iG 84 74 false (.bin .neq (.t 83) (.c (.int .u8 34))),iG 85 74 false (.mv (.t 84)),iG 86 85 true (.mv (.t 0)),iG 87 85 true (.nilck (.t 86)),iG 88 85 true (.faddr 0 (.t 87)),iG 89 85 true (.load false 1 (.t 88)),iG 90 85 true (.mv (.t 0)),iG 91 85 true (.nilck (.t 90)),iG 92 85 true (.faddr 1 (.t 91)),iG 93 85 true (.load false 1 (.t 92)),iG 94 85 true (.idxS (.t 89) (.t 93)),iG 95 85 true (.bin .neq (.t 94) (.c (.int .u8 92))),iG 96 74 false (.pick (.t 85) (.t 95) (.c (.bool false))),iI 97 (.pick (.t 74) (.c (.bool true)) (.t 96))] true)
 (.cond (.t 97)
 (.seq
 (.region [iI 98 (.build [.int .i64 0, .str [], .int .i64 0, .int .i64 0] []),iN (.store 4 (.t 2) (.t 98)),iI 3 (.mv (.c (.int .i64 3)))] false)
 .ret)
 .skip))
 (.region [iI 99 (.mv (.t 0)),iI 100 (.nilck (.t 99)),iI 101 (.faddr 0 (.t 100)),iI 102 (.load false 1 (.t 101)),iI 103 (.mv (.t 0)),iI 104 (.nilck (.t 103)),iI 105 (.faddr 1 (.t 104)),iI 106 (.load false 1 (.t 105)),iI 107 (.idxS (.t 102) (.t 106)),iI 5 (.mv (.t 107))] true)))
 .skip))
 (.seq
 (.seq
 (.region [iI 108 (.mv (.t 5)),iI 109 (.bin .lss (.t 108) (.c (.int .u8 32))),iI 110 (.mv (.t 109)),iG 111 110 false (.mv (.t 5)),iG 112 110 false (.bin .gtr (.t 111) (.c (.int .u8 126))),iI 113 (.pick (.t 110) (.c (.bool true)) (.t 112))] false)
 (.cond (.t 113)
 (.seq
 (.region [iI 114 (.build [.int .i64 0, .str [], .int .i64 0, .int .i64 0] []),iN (.store 4 (.t 2) (.t 114)),iI 3 (.mv (.c (.int .i64 3)))] false)
 .ret)
 .skip))
 (.region [iI 115 (.mv (.t 4)),iI 116 (.mv (.t 5)),iI 117 (.bslice 5 1 1 [.int .u8 0] [(0, (.t 116))]),iI 118 (.append 5 1 1 (.t 115) (.t 117)),iI 4 (.mv (.t 118))] false))))))
 (.region [iI 23 (.mv (.t 0)),iI 24 (.nilck (.t 23)),iI 25 (.faddr 1 (.t 24)),iI 26 (.load false 1 (.t 25)),iI 27 (.bin .add (.t 26) (.c (.int .i64 1))),iI 28 (.nilck (.t 23)),iI 29 (.faddr 1 (.t 28)),iN (.store 1 (.t 29) (.t 27))] false))))))
 (.seq
 (.region [iI 119 (.build [.int .i64 0, .str [], .int .i64 0, .int .i64 0] []),iN (.store 4 (.t 2) (.t 119)),iI 3 (.mv (.c (.int .i64 3)))] false)
 .ret))))
def r84 : List ERes := [.cell true 4 2, .t 3]
theorem c84 : chkF Tryz.prog Tryz.f84 1 e84 r84 = true := by kernel_rfl
def e180 : EC :=
 (.seq
 (.region [iI 2 (.mv (.c (.str [])))] false)
 (.seq
 (.region [iI 3 (.alloc 180 [.raw (.pointer none), .nilS])] false)
 (.seq
 (.region [iI 5 (.call 178 [(.t 3), (.c (.int .u8 34))])] false)
 (.seq
 (.seq
 (.region [iI 6 (.mv (.t 0)),iI 7 (.lenS (.t 6)),iI 8 (.mv (.c (.int .i64 0)))] false)
 (.block 0
 (.loop
 (.seq
 (.region [iI 9 (.bin .lss (.t 8) (.t 7))] false)
 (.seq
 (.cond (.t 9)
 .skip
 (.exit 0))
 (.seq
 (.block 1
 (.seq
 (.region [iI 10 (.mv (.t 8)),iI 4 (.mv (.t 10))] false)
 (.seq
 (.seq
 (.region [iI 11 (.mv (.t 0)),iI 12 (.mv (.t 4)),iI 13 (.idxS (.t 11) (.t 12)),iI 14 (.bin .eql (.t 13) (.c (.int .u8 34))),iI 15 (.mv (.t 14)),iG 16 15 false (.mv (.t 0)),iG 17 15 false (.mv (.t 4)),iG 18 15 false (.idxS (.t 16) (.t 17)),iG 19 15 false (.bin .eql (.t 18) (.c (.int .u8 92))),iI 20 (.pick (.t 15) (.c (.bool true)) (.t 19))] false)
 (.cond (.t 20)
 (.region [iI 21 (.call 178 [(.t 3), (.c (.int .u8 92))])] false)
 .skip))
 (.region [iI 22 (.mv (.t 0)),iI 23 (.mv (.t 4)),iI 24 (.idxS (.t 22) (.t 23)),iI 25 (.call 178 [(.t 3), (.t 24)])] false))))
 (.region [iI 26 (.bin .add (.t 8) (.c (.int .i64 1))),iI 8 (.mv (.t 26))] false)))))))
 (.seq
 (.region [iI 27 (.call 178 [(.t 3), (.c (.int .u8 34))])] false)
 (.seq
 (.region [iI 28 (.call 129 [(.t 3)]),iI 2 (.mv (.t 28))] false)
 .ret))))))
def r180 : List ERes := [.t 2]
theorem c180 : chkF Tryz.prog Tryz.f180 1 e180 r180 = true := by kernel_rfl
def e42 : EC :=
 (.seq
 (.region [iI 4 (.mv (.c (.bool false)))] false)
 (.seq
 (.seq
 (.region [iI 8 (.mv (.t 0)),iI 9 (.len (.t 8)),iI 10 (.mv (.t 1)),iI 11 (.len (.t 10)),iI 12 (.bin .neq (.t 9) (.t 11))] false)
 (.cond (.t 12)
 (.seq
 (.region [iI 4 (.mv (.c (.bool false)))] false)
 .ret)
 .skip))
 (.seq
 (.seq
 (.region [iI 5 (.mv (.c (.int .i64 0)))] false)
 (.block 0
 (.loop
 (.seq
 (.seq
 (.region [iI 13 (.mv (.t 5)),iI 14 (.mv (.t 0)),iI 15 (.len (.t 14)),iI 16 (.bin .lss (.t 13) (.t 15))] false)
 (.cond (.t 16)
 .skip
 (.exit 0)))
 (.seq
 (.block 1
 (.seq
 (.region [iI 19 (.mv (.t 0)),iI 20 (.mv (.t 5)),iI 21 (.iaddr 6 (.t 19) (.t 20)),iI 22 (.loadR true 6 (.t 21)),iI 23 (.mv (.t 1)),iI 24 (.mv (.t 5)),iI 25 (.iaddr 6 (.t 23) (.t 24)),iI 26 (.loadR true 6 (.t 25)),iI 6 (.alloc 51 [.int .i64 0, .str [], .str [], .str [], .int .i64 0, .nilS]),iI 7 (.alloc 51 [.int .i64 0, .str [], .str [], .str [], .int .i64 0, .nilS]),iN (.store 6 (.t 6) (.t 22)),iN (.store 6 (.t 7) (.t 26))] true)
 (.seq
 (.region [iI 27 (.faddr 0 (.t 6)),iI 28 (.load false 1 (.t 27)),iI 29 (.faddr 0 (.t 7)),iI 30 (.load false 1 (.t 29)),iI 31 (.bin .neq (.t 28) (.t 30)),iI 32 (.mv (.t 31)),iG 33 32 false (.faddr 1 (.t 6)),iG 34 32 false (.load false 1 (.t 33)),iG 35 32 false (.faddr 1 (.t 7)),iG 36 32 false (.load false 1 (.t 35)),iG 37 32 false (.bin .neq (.t 34) (.t 36)),iI 38 (.pick (.t 32) (.c (.bool true)) (.t 37)),iI 39 (.mv (.t 38)),iG 40 39 false (.faddr 2 (.t 6)),iG 41 39 false (.load false 1 (.t 40)),iG 42 39 false (.faddr 2 (.t 7)),iG 43 39 false (.load false 1 (.t 42)),iG 44 39 false (.bin .neq (.t 41) (.t 43)),iI 45 (.pick (.t 39) (.c (.bool true)) (.t 44)),iI 46 (.mv (.t 45)),iG 47 46 false (.faddr 3 (.t 6)),iG 48 46 false (.load false 1 (.t 47)),iG 49 46 false (.faddr 3 (.t 7)),iG 50 46 false (.load false 1 (.t 49)),iG 51 46 false (.bin .neq (.t 48) (.t 50)),iI 52 (.pick (.t 46) (.c (.bool true)) (.t 51)),iI 53 (.mv (.t 52)),iG 54 53 false (.faddr 4 (.t 6)),iG 55 53 false (.load false 1 (.t 54)),iG 56 53 false (.faddr 4 (.t 7)),iG 57 53 false (.load false 1 (.t 56)),iG 58 53 false (.bin .neq (.t 55) (.t 57)),iI 59 (.pick (.t 53) (.c (.bool true)) (.t 58)),iI 60 (.mv (.t 59)),iG 61 60 false (.faddr 5 (.t 6)),iG 62 60 false (.load false 1 (.t 61)),iG 63 60 false (.faddr 5 (.t 7)),iG 64 60 false (.load false 1 (.t 63)),iG 65 60 false (.call 42 [(.t 62), (.t 64)]),iG 66 60 false (.not (.t 65)),iI 67 (.pick (.t 60) (.c (.bool true)) (.t 66))] false)
 (.cond (.t 67)
 (.seq
 (.region [iI 4 (.mv (.c (.bool false)))] false)
 .ret)
 .skip))))
 (.region [iI 17 (.mv (.t 5)),iI 18 (.bin .add (.t 17) (.c (.int .i64 1))),iI 5 (.mv (.t 18))] false))))))
 (.seq
 (.region [iI 4 (.mv (.c (.bool true)))] false)
 .ret))))
def r42 : List ERes := [.t 4]
theorem c42 : chkF Tryz.prog Tryz.f42 2 e42 r42 = true := by kernel_rfl
def e6 : EC :=
 (.seq
 (.region [iI 6 (.mv (.c (.bool false)))] false)
 (.seq
 (.seq
 (.region [iI 23 (.call 11 []),iI 24 (.not (.t 23))] false)
 (.cond (.t 24)
 (.seq
 (.region [iI 6 (.mv (.c (.bool false)))] false)
 .ret)
 .skip))
 (.seq
 (.region [iI 25 (.bslice 9 1 13 [.str []] [(0, (.c (.str [124, 124]))), (1, (.c (.str [38, 38]))), (2, (.c (.str [61, 61]))), (3, (.c (.str [33, 61]))), (4, (.c (.str [60]))), (5, (.c (.str [60, 61]))), (6, (.c (.str [62]))), (7, (.c (.str [62, 61]))), (8, (.c (.str [43]))), (9, (.c (.str [45]))), (10, (.c (.str [42]))), (11, (.c (.str [47]))), (12, (.c (.str [37])))]),iI 7 (.mv (.t 25))] false)
 (.seq
 (.region [iI 26 (.mv (.t 7)),iI 27 (.mv (.t 0)),iI 28 (.conv .i64 (.t 27)),iI 29 (.mv (.t 7)),iI 30 (.len (.t 29)),iI 31 (.bin .rem (.t 28) (.t 30)),iI 32 (.iaddr 1 (.t 26) (.t 31)),iI 33 (.load false 1 (.t 32)),iI 34 (.mv (.t 7)),iI 35 (.mv (.t 1)),iI 36 (.conv .i64 (.t 35)),iI 37 (.mv (.t 7)),iI 38 (.len (.t 37)),iI 39 (.bin .rem (.t 36) (.t 38)),iI 40 (.iaddr 1 (.t 34) (.t 39)),iI 41 (.load false 1 (.t 40)),iI 8 (.mv (.t 33)),iI 9 (.mv (.t 41))] true)
 (.seq
 (.region [iI 43 (.mv (.t 8)),iI 44 (.bin .add (.c (.str [112, 32])) (.t 43)),iI 45 (.bin .add (.t 44) (.c (.str [32, 113, 32]))),iI 46 (.mv (.t 9)),iI 47 (.bin .add (.t 45) (.t 46)),iI 48 (.bin .add (.t 47) (.c (.str [32, 114]))),iI 49 (.call 23 [(.t 48)]),iI 42 (.mv (.t 49)),iI 50 (.extract 0 (.t 42)),iI 51 (.extract 1 (.t 42)),iI 10 (.alloc 51 [.int .i64 0, .str [], .str [], .str [], .int .i64 0, .nilS]),iN (.store 6 (.t 10) (.t 50)),iI 11 (.mv (.t 51))] false)
 (.seq
 (.region [iI 53 (.mv (.t 8)),iI 54 (.bin .add (.c (.str [40, 112, 32])) (.t 53)),iI 55 (.bin .add (.t 54) (.c (.str [32, 113, 41, 32]))),iI 56 (.mv (.t 9)),iI 57 (.bin .add (.t 55) (.t 56)),iI 58 (.bin .add (.t 57) (.c (.str [32, 114]))),iI 59 (.call 23 [(.t 58)]),iI 52 (.mv (.t 59)),iI 60 (.extract 0 (.t 52)),iI 61 (.extract 1 (.t 52)),iI 12 (.alloc 51 [.int .i64 0, .str [], .str [], .str [], .int .i64 0, .nilS]),iN (.store 6 (.t 12) (.t 60)),iI 13 (.mv (.t 61))] false)
 (.seq
 (.region [iI 63 (.mv (.t 8)),iI 64 (.bin .add (.c (.str [112, 32])) (.t 63)),iI 65 (.bin .add (.t 64) (.c (.str [32, 40, 113, 32]))),iI 66 (.mv (.t 9)),iI 67 (.bin .add (.t 65) (.t 66)),iI 68 (.bin .add (.t 67) (.c (.str [32, 114, 41]))),iI 69 (.call 23 [(.t 68)]),iI 62 (.mv (.t 69)),iI 70 (.extract 0 (.t 62)),iI 71 (.extract 1 (.t 62)),iI 14 (.alloc 51 [.int .i64 0, .str [], .str [], .str [], .int .i64 0, .nilS]),iN (.store 6 (.t 14) (.t 70)),iI 15 (.mv (.t 71))] false)
 (.seq
 (.seq
 (.region [iI 72 (.mv (.t 9)),iI 73 (.call 24 [(.t 72)]),iI 74 (.mv (.t 8)),iI 75 (.call 24 [(.t 74)]),iI 76 (.bin .gtr (.t 73) (.t 75))] false)
 (.cond (.t 76)
 (.region [iI 77 (.load true 6 (.t 14)),iI 78 (.load true 6 (.t 12)),iN (.store 6 (.t 12) (.t 77)),iN (.store 6 (.t 14) (.t 78))] false)
 .skip))
 (.seq
 (.region [iI 16 (.mv (.c (.str [45])))] false)
 (.seq
 (.seq
 (.region [iI 79 (.mv (.t 2))] false)
 (.cond (.t 79)
 (.region [iI 16 (.mv (.c (.str [33])))] false)
 .skip))
 (.seq
 (.region [iI 81 (.mv (.t 16)),iI 82 (.bin .add (.t 81) (.c (.str [112]))),iI 83 (.mv (.t 8)),iI 84 (.bin .add (.t 82) (.t 83)),iI 85 (.bin .add (.t 84) (.c (.str [113]))),iI 86 (.call 23 [(.t 85)]),iI 80 (.mv (.t 86)),iI 87 (.extract 0 (.t 80)),iI 88 (.extract 1 (.t 80)),iI 17 (.alloc 51 [.int .i64 0, .str [], .str [], .str [], .int .i64 0, .nilS]),iN (.store 6 (.t 17) (.t 87)),iI 18 (.mv (.t 88))] false)
 (.seq
 (.region [iI 90 (.mv (.t 16)),iI 91 (.bin .add (.c (.str [40])) (.t 90)),iI 92 (.bin .add (.t 91) (.c (.str [112, 41]))),iI 93 (.mv (.t 8)),iI 94 (.bin .add (.t 92) (.t 93)),iI 95 (.bin .add (.t 94) (.c (.str [113]))),iI 96 (.call 23 [(.t 95)]),iI 89 (.mv (.t 96)),iI 97 (.extract 0 (.t 89)),iI 98 (.extract 1 (.t 89)),iI 19 (.alloc 51 [.int .i64 0, .str [], .str [], .str [], .int .i64 0, .nilS]),iN (.store 6 (.t 19) (.t 97)),iI 20 (.mv (.t 98))] false)
 (.seq
 (.region [iI 100 (.mv (.t 16)),iI 101 (.bin .add (.t 100) (.c (.str [40, 112]))),iI 102 (.mv (.t 8)),iI 103 (.bin .add (.t 101) (.t 102)),iI 104 (.bin .add (.t 103) (.c (.str [113, 41]))),iI 105 (.call 23 [(.t 104)]),iI 99 (.mv (.t 105)),iI 106 (.extract 0 (.t 99)),iI 107 (.extract 1 (.t 99)),iI 21 (.alloc 51 [.int .i64 0, .str [], .str [], .str [], .int .i64 0, .nilS]),iN (.store 6 (.t 21) (.t 106)),iI 22 (.mv (.t 107))] false)
 (.seq
 (.region [iI 108 (.mv (.t 11)),iI 109 (.mv (.t 108)),iG 110 109 true (.mv (.t 13)),iI 111 (.pick (.t 109) (.t 110) (.c (.bool false))),iI 112 (.mv (.t 111)),iG 113 112 true (.mv (.t 15)),iI 114 (.pick (.t 112) (.t 113) (.c (.bool false))),iI 115 (.mv (.t 114)),iG 116 115 true (.mv (.t 18)),iI 117 (.pick (.t 115) (.t 116) (.c (.bool false))),iI 118 (.mv (.t 117)),iG 119 118 true (.mv (.t 20)),iI 120 (.pick (.t 118) (.t 119) (.c (.bool false))),iI 121 (.mv (.t 120)),iG 122 121 true (.mv (.t 22)),iI 123 (.pick (.t 121) (.t 122) (.c (.bool false))),iI 124 (.mv (.t 123)),iG 125 124 true (.load true 6 (.t 10)),iG 126 124 true (.load true 6 (.t 12)),iG 127 124 true (.call 25 [(.t 125), (.t 126)]),iI 128 (.pick (.t 124) (.t 127) (.c (.bool false))),iI 129 (.mv (.t 128)),iG 130 129 true (.load true 6 (.t 10)),iG 131 129 true (.load true 6 (.t 14)),iG 132 129 true (.call 25 [(.t 130), (.t 131)]),iG 133 129 true (.not (.t 132)),iI 134 (.pick (.t 129) (.t 133) (.c (.bool false))),iI 135 (.mv (.t 134)),iG 136 135 true (.load true 6 (.t 17)),iG 137 135 true (.load true 6 (.t 19)),iG 138 135 true (.call 25 [(.t 136), (.t 137)]),iI 139 (.pick (.t 135) (.t 138) (.c (.bool false))),iI 140 (.mv (.t 139)),iG 141 140 true (.load true 6 (.t 17)),iG 142 140 true (.load true 6 (.t 21)),iG 143 140 true (.call 25 [(.t 141), (.t 142)]),iG 144 140 true (.not (.t 143)),iI 145 (.pick (.t 140) (.t 144) (.c (.bool false))),iI 6 (.mv (.t 145))] false)
 .ret))))))))))))))
def r6 : List ERes := [.t 6]
theorem c6 : chkF Tryz.prog Tryz.f6 3 e6 r6 = true := by kernel_rfl
def e23 : EC :=
 (.seq
 (.region [iI 2 (.alloc 51 [.int .i64 0, .str [], .str [], .str [], .int .i64 0, .nilS]),iI 3 (.mv (.c (.bool false)))] false)
 (.seq
 (.region [iI 8 (.mv (.t 0)),iI 9 (.bin .add (.c (.str [115, 101, 114, 118, 105, 99, 101, 32, 83, 32, 112, 108, 97, 121, 115, 32, 97, 32, 111, 102, 32, 80, 32, 123, 32, 111, 102, 102, 101, 114, 32, 109, 40, 41, 32, 116, 111, 32, 98, 32, 119, 104, 101, 114, 101, 32])) (.t 8)),iI 10 (.bin .add (.t 9) (.c (.str [59, 32, 125]))),iI 11 (.call 12 [(.t 10)]),iI 7 (.mv (.t 11)),iI 12 (.extract 0 (.t 7)),iI 13 (.extract 1 (.t 7)),iI 14 (.extract 2 (.t 7)),iI 4 (.alloc 27 [.str [], .str [], .str [], .nilS, .nilS, .nilS]),iN (.store 6 (.t 4) (.t 12)),iI 5 (.mv (.t 13)),iI 6 (.mv (.t 14))] false)
 (.seq
 (.seq
 (.region [iI 15 (.mv (.t 6)),iI 16 (.bin .neq (.t 15) (.c (.int .i64 0))),iI 17 (.mv (.t 16)),iG 18 17 false (.faddr 5 (.t 4)),iG 19 17 false (.load false 1 (.t 18)),iG 20 17 false (.len (.t 19)),iG 21 17 false (.bin .neq (.t 20) (.c (.int .i64 1))),iI 22 (.pick (.t 17) (.c (.bool true)) (.t 21)),iI 23 (.mv (.t 22)),iG 24 23 false (.faddr 5 (.t 4)),iG 25 23 false (.load false 1 (.t 24)),iG 26 23 false (.iaddr 4 (.t 25) (.c (.int .i64 0))),iG 27 23 false (.faddr 3 (.t 26)),iG 28 23 false (.load false 1 (.t 27)),iG 29 23 false (.len (.t 28)),iG 30 23 false (.bin .neq (.t 29) (.c (.int .i64 1))),iI 31 (.pick (.t 23) (.c (.bool true)) (.t 30))] false)
 (.cond (.t 31)
 (.seq
 (.region [iI 32 (.build [.int .i64 0, .str [], .str [], .str [], .int .i64 0, .nilS] []),iN (.store 6 (.t 2) (.t 32)),iI 3 (.mv (.c (.bool false)))] false)
 .ret)
 .skip))
 (.seq
 (.region [iI 33 (.load true 6 (.t 4)),iI 34 (.call 15 [(.t 33)]),iI 35 (.field false 5 1 (.t 34)),iI 36 (.iaddr 4 (.t 35) (.c (.int .i64 0))),iI 37 (.faddr 3 (.t 36)),iI 38 (.load false 1 (.t 37)),iI 39 (.iaddr 6 (.t 38) (.c (.int .i64 0))),iI 40 (.load true 6 (.t 39)),iN (.store 6 (.t 2) (.t 40)),iI 3 (.mv (.c (.bool true)))] false)
 .ret))))
def r23 : List ERes := [.cell true 6 2, .t 3]
theorem c23 : chkF Tryz.prog Tryz.f23 1 e23 r23 = true := by kernel_rfl
def e24 : EC :=
 (.seq
 (.region [iI 2 (.mv (.c (.int .i64 0)))] false)
 (.seq
 (.region [iI 6 (.bslice 9 1 1 [.str []] [(0, (.c (.str [124, 124])))]),iI 7 (.bslice 9 1 1 [.str []] [(0, (.c (.str [38, 38])))]),iI 8 (.bslice 9 1 2 [.str []] [(0, (.c (.str [61, 61]))), (1, (.c (.str [33, 61])))]),iI 9 (.bslice 9 1 4 [.str []] [(0, (.c (.str [60]))), (1, (.c (.str [60, 61]))), (2, (.c (.str [62]))), (3, (.c (.str [62, 61])))]),iI 10 (.bslice 9 1 2 [.str []] [(0, (.c (.str [43]))), (1, (.c (.str [45])))]),iI 11 (.bslice 9 1 3 [.str []] [(0, (.c (.str [42]))), (1, (.c (.str [47]))), (2, (.c (.str [37])))]),iI 12 (.bslice 48 1 6 [.nilS] [(0, (.t 6)), (1, (.t 7)), (2, (.t 8)), (3, (.t 9)), (4, (.t 10)), (5, (.t 11))]),iI 3 (.mv (.t 12))] false)
 (.seq
 (.seq
 (.region [iI 4 (.mv (.c (.int .i64 0)))] false)
 (.block 0
 (.loop
 (.seq
 (.seq
 (.region [iI 13 (.mv (.t 4)),iI 14 (.mv (.t 3)),iI 15 (.len (.t 14)),iI 16 (.bin .lss (.t 13) (.t 15))] false)
 (.cond (.t 16)
 .skip
 (.exit 0)))
 (.seq
 (.block 1
 (.seq
 (.region [iI 5 (.mv (.c (.int .i64 0)))] false)
 (.block 2
 (.loop
 (.seq
 (.seq
 (.region [iI 19 (.mv (.t 5)),iI 20 (.mv (.t 3)),iI 21 (.mv (.t 4)),iI 22 (.iaddr 1 (.t 20) (.t 21)),iI 23 (.load false 1 (.t 22)),iI 24 (.len (.t 23)),iI 25 (.bin .lss (.t 19) (.t 24))] false)
 (.cond (.t 25)
 .skip
 (.exit 2)))
 (.seq
 (.block 3
 (.seq
 (.region [iI 28 (.mv (.t 3)),iI 29 (.mv (.t 4)),iI 30 (.iaddr 1 (.t 28) (.t 29)),iI 31 (.load false 1 (.t 30)),iI 32 (.mv (.t 5)),iI 33 (.iaddr 1 (.t 31) (.t 32)),iI 34 (.load false 1 (.t 33)),iI 35 (.mv (.t 0)),iI 36 (.bin .eql (.t 34) (.t 35))] false)
 (.cond (.t 36)
 (.seq
 (.region [iI 37 (.mv (.t 4)),iI 38 (.bin .add (.t 37) (.c (.int .i64 1))),iI 2 (.mv (.t 38))] false)
 .ret)
 .skip)))
 (.region [iI 26 (.mv (.t 5)),iI 27 (.bin .add (.t 26) (.c (.int .i64 1))),iI 5 (.mv (.t 27))] false)))))))
 (.region [iI 17 (.mv (.t 4)),iI 18 (.bin .add (.t 17) (.c (.int .i64 1))),iI 4 (.mv (.t 18))] false))))))
 (.seq
 (.region [iI 2 (.mv (.c (.int .i64 0)))] false)
 .ret))))
def r24 : List ERes := [.t 2]
theorem c24 : chkF Tryz.prog Tryz.f24 1 e24 r24 = true := by kernel_rfl
def e25 : EC :=
 (.seq
 (.region [iI 2 (.box 51 (.t 0)),iI 3 (.box 51 (.t 1)),iI 4 (.mv (.c (.bool false)))] false)
 (.seq
 (.region [iI 5 (.load true 6 (.t 2)),iI 6 (.bslice 51 6 1 [.int .i64 0, .str [], .str [], .str [], .int .i64 0, .nilS] [(0, (.t 5))]),iI 7 (.load true 6 (.t 3)),iI 8 (.bslice 51 6 1 [.int .i64 0, .str [], .str [], .str [], .int .i64 0, .nilS] [(0, (.t 7))]),iI 9 (.call 42 [(.t 6), (.t 8)]),iI 4 (.mv (.t 9))] false)
 .ret))
def r25 : List ERes := [.t 4]
theorem c25 : chkF Tryz.prog Tryz.f25 2 e25 r25 = true := by kernel_rfl
def e15 : EC :=
 (.seq
 (.region [iI 1 (.box 27 (.t 0)),iI 2 (.alloc 35 [.str [], .str [], .str [], .nilS, .nilS, .nilS])] false)
 (.seq
 (.region [iI 9 (.faddr 0 (.t 1)),iI 10 (.load false 1 (.t 9)),iI 11 (.faddr 1 (.t 1)),iI 12 (.load false 1 (.t 11)),iI 13 (.faddr 2 (.t 1)),iI 14 (.load false 1 (.t 13)),iI 15 (.build [.str [], .str [], .str [], .nilS, .nilS, .nilS] [(0, 1, (.t 10)), (1, 1, (.t 12)), (2, 1, (.t 14))]),iI 3 (.alloc 35 [.str [], .str [], .str [], .nilS, .nilS, .nilS]),iN (.store 6 (.t 3) (.t 15))] false)
 (.seq
 (.seq
 (.region [iI 4 (.mv (.c (.int .i64 0)))] false)
 (.block 0
 (.loop
 (.seq
 (.seq
 (.region [iI 16 (.mv (.t 4)),iI 17 (.faddr 3 (.t 1)),iI 18 (.load false 1 (.t 17)),iI 19 (.len (.t 18)),iI 20 (.bin .lss (.t 16) (.t 19))] false)
 (.cond (.t 20)
 .skip
 (.exit 0)))
 (.seq
 (.block 1
 (.region [iI 23 (.faddr 3 (.t 3)),iI 24 (.load false 1 (.t 23)),iI 25 (.faddr 3 (.t 1)),iI 26 (.load false 1 (.t 25)),iI 27 (.mv (.t 4)),iI 28 (.iaddr 7 (.t 26) (.t 27)),iI 29 (.load true 7 (.t 28)),iI 30 (.bslice 95 7 1 [.str [], .int .i64 0, .int .i64 0, .int .i64 0, .int .i64 0, .int .i64 0, .str []] [(0, (.t 29))]),iI 31 (.append 95 7 72 (.t 24) (.t 30)),iI 32 (.faddr 3 (.t 3)),iN (.store 1 (.t 32) (.t 31))] true))
 (.region [iI 21 (.mv (.t 4)),iI 22 (.bin .add (.t 21) (.c (.int .i64 1))),iI 4 (.mv (.t 22))] false))))))
 (.seq
 (.seq
 (.region [iI 5 (.mv (.c (.int .i64 0)))] false)
 (.block 2
 (.loop
 (.seq
 (.seq
 (.region [iI 33 (.mv (.t 5)),iI 34 (.faddr 4 (.t 1)),iI 35 (.load false 1 (.t 34)),iI 36 (.len (.t 35)),iI 37 (.bin .lss (.t 33) (.t 36))] false)
 (.cond (.t 37)
 .skip
 (.exit 2)))
 (.seq
 (.block 3
 (.seq
 (.region [iI 40 (.faddr 4 (.t 1)),iI 41 (.load false 1 (.t 40)),iI 42 (.mv (.t 5)),iI 43 (.iaddr 4 (.t 41) (.t 42)),iI 44 (.load true 4 (.t 43)),iI 6 (.alloc 109 [.str [], .str [], .nilS, .nilS]),iN (.store 4 (.t 6) (.t 44))] false)
 (.region [iI 45 (.faddr 4 (.t 3)),iI 46 (.load false 1 (.t 45)),iI 47 (.faddr 0 (.t 6)),iI 48 (.load false 1 (.t 47)),iI 49 (.faddr 1 (.t 6)),iI 50 (.load false 1 (.t 49)),iI 51 (.faddr 2 (.t 6)),iI 52 (.load false 1 (.t 51)),iI 53 (.faddr 3 (.t 6)),iI 54 (.load false 1 (.t 53)),iI 55 (.pcall 43 [(.t 54)]),iI 56 (.build [.str [], .str [], .nilS, .nilS] [(0, 1, (.t 48)), (1, 1, (.t 50)), (2, 1, (.t 52)), (3, 1, (.t 55))]),iI 57 (.bslice 99 4 1 [.str [], .str [], .nilS, .nilS] [(0, (.t 56))]),iI 58 (.append 99 4 80 (.t 46) (.t 57)),iI 59 (.faddr 4 (.t 3)),iN (.store 1 (.t 59) (.t 58))] true)))
 (.region [iI 38 (.mv (.t 5)),iI 39 (.bin .add (.t 38) (.c (.int .i64 1))),iI 5 (.mv (.t 39))] false))))))
 (.seq
 (.seq
 (.region [iI 7 (.mv (.c (.int .i64 0)))] false)
 (.block 4
 (.loop
 (.seq
 (.seq
 (.region [iI 60 (.mv (.t 7)),iI 61 (.faddr 5 (.t 1)),iI 62 (.load false 1 (.t 61)),iI 63 (.len (.t 62)),iI 64 (.bin .lss (.t 60) (.t 63))] false)
 (.cond (.t 64)
 .skip
 (.exit 4)))
 (.seq
 (.block 5
 (.seq
 (.region [iI 67 (.faddr 5 (.t 1)),iI 68 (.load false 1 (.t 67)),iI 69 (.mv (.t 7)),iI 70 (.iaddr 4 (.t 68) (.t 69)),iI 71 (.load true 4 (.t 70)),iI 8 (.alloc 74 [.str [], .str [], .nilS, .nilS]),iN (.store 4 (.t 8) (.t 71))] false)
 (.region [iI 72 (.faddr 5 (.t 3)),iI 73 (.load false 1 (.t 72)),iI 74 (.faddr 0 (.t 8)),iI 75 (.load false 1 (.t 74)),iI 76 (.faddr 1 (.t 8)),iI 77 (.load false 1 (.t 76)),iI 78 (.faddr 2 (.t 8)),iI 79 (.load false 1 (.t 78)),iI 80 (.pcall 44 [(.t 79)]),iI 81 (.faddr 3 (.t 8)),iI 82 (.load false 1 (.t 81)),iI 83 (.pcall 44 [(.t 82)]),iI 84 (.build [.str [], .str [], .nilS, .nilS] [(0, 1, (.t 75)), (1, 1, (.t 77)), (2, 1, (.t 80)), (3, 1, (.t 83))]),iI 85 (.bslice 66 4 1 [.str [], .str [], .nilS, .nilS] [(0, (.t 84))]),iI 86 (.append 66 4 80 (.t 73) (.t 85)),iI 87 (.faddr 5 (.t 3)),iN (.store 1 (.t 87) (.t 86))] true)))
 (.region [iI 65 (.mv (.t 7)),iI 66 (.bin .add (.t 65) (.c (.int .i64 1))),iI 7 (.mv (.t 66))] false))))))
 (.seq
 (.region [iI 88 (.load true 6 (.t 3)),iN (.store 6 (.t 2) (.t 88))] false)
 .ret))))))
def r15 : List ERes := [.cell true 6 2]
theorem c15 : chkF Tryz.prog Tryz.f15 1 e15 r15 = true := by kernel_rfl
def e43 : EC :=
 (.seq
 (.region [iI 2 (.mv (.c (.nilS)))] false)
 (.seq
 (.region [iI 3 (.mv (.c (.nilS)))] false)
 (.seq
 (.seq
 (.region [iI 4 (.mv (.c (.int .i64 0)))] false)
 (.block 0
 (.loop
 (.seq
 (.seq
 (.region [iI 6 (.mv (.t 4)),iI 7 (.mv (.t 0)),iI 8 (.len (.t 7)),iI 9 (.bin .lss (.t 6) (.t 8))] false)
 (.cond (.t 9)
 .skip
 (.exit 0)))
 (.seq
 (.block 1
 (.seq
 (.region [iI 12 (.mv (.t 0)),iI 13 (.mv (.t 4)),iI 14 (.iaddr 11 (.t 12) (.t 13)),iI 15 (.load true 11 (.t 14)),iI 5 (.alloc 133 [.int .i64 0, .str [], .int .i64 0, .str [], .str [], .str [], .int .i64 0, .nilS, .int .i64 0, .nilS, .nilS]),iN (.store 11 (.t 5) (.t 15))] false)
 (.region [iI 16 (.mv (.t 3)),iI 17 (.faddr 0 (.t 5)),iI 18 (.load false 1 (.t 17)),iI 19 (.faddr 1 (.t 5)),iI 20 (.load false 1 (.t 19)),iI 21 (.faddr 2 (.t 5)),iI 22 (.load true 6 (.t 21)),iI 23 (.bslice 131 6 1 [.int .i64 0, .str [], .str [], .str [], .int .i64 0, .nilS] [(0, (.t 22))]),iI 24 (.pcall 44 [(.t 23)]),iI 25 (.iaddr 6 (.t 24) (.c (.int .i64 0))),iI 26 (.load true 6 (.t 25)),iI 27 (.faddr 8 (.t 5)),iI 28 (.load false 1 (.t 27)),iI 29 (.faddr 9 (.t 5)),iI 30 (.load false 1 (.t 29)),iI 31 (.pcall 43 [(.t 30)]),iI 32 (.faddr 10 (.t 5)),iI 33 (.load false 1 (.t 32)),iI 34 (.pcall 43 [(.t 33)]),iI 35 (.build [.int .i64 0, .str [], .int .i64 0, .str [], .str [], .str [], .int .i64 0, .nilS, .int .i64 0, .nilS, .nilS] [(0, 1, (.t 18)), (1, 1, (.t 20)), (2, 6, (.t 26)), (8, 1, (.t 28)), (9, 1, (.t 31)), (10, 1, (.t 34))]),iI 36 (.bslice 165 11 1 [.int .i64 0, .str [], .int .i64 0, .str [], .str [], .str [], .int .i64 0, .nilS, .int .i64 0, .nilS, .nilS] [(0, (.t 35))]),iI 37 (.append 165 11 168 (.t 16) (.t 36)),iI 3 (.mv (.t 37))] true)))
 (.region [iI 10 (.mv (.t 4)),iI 11 (.bin .add (.t 10) (.c (.int .i64 1))),iI 4 (.mv (.t 11))] false))))))
 (.seq
 (.region [iI 38 (.mv (.t 3)),iI 2 (.mv (.t 38))] false)
 .ret))))
def r43 : List ERes := [.t 2]
theorem c43 : chkF Tryz.prog Tryz.f43 1 e43 r43 = true := by kernel_rfl
def e44 : EC :=
 (.seq
 (.region [iI 2 (.mv (.c (.nilS)))] false)
 (.seq
 (.region [iI 3 (.mv (.c (.nilS)))] false)
 (.seq
 (.seq
 (.region [iI 4 (.mv (.c (.int .i64 0)))] false)
 (.block 0
 (.loop
 (.seq
 (.seq
 (.region [iI 6 (.mv (.t 4)),iI 7 (.mv (.t 0)),iI 8 (.len (.t 7)),iI 9 (.bin .lss (.t 6) (.t 8))] false)
 (.cond (.t 9)
 .skip
 (.exit 0)))
 (.seq
 (.block 1
 (.seq
 (.region [iI 12 (.mv (.t 0)),iI 13 (.mv (.t 4)),iI 14 (.iaddr 6 (.t 12) (.t 13)),iI 15 (.load true 6 (.t 14)),iI 5 (.alloc 131 [.int .i64 0, .str [], .str [], .str [], .int .i64 0, .nilS]),iN (.store 6 (.t 5) (.t 15))] false)
 (.region [iI 16 (.mv (.t 3)),iI 17 (.faddr 0 (.t 5)),iI 18 (.load false 1 (.t 17)),iI 19 (.faddr 1 (.t 5)),iI 20 (.load false 1 (.t 19)),iI 21 (.faddr 2 (.t 5)),iI 22 (.load false 1 (.t 21)),iI 23 (.faddr 3 (.t 5)),iI 24 (.load false 1 (.t 23)),iI 25 (.faddr 4 (.t 5)),iI 26 (.load false 1 (.t 25)),iI 27 (.faddr 5 (.t 5)),iI 28 (.load false 1 (.t 27)),iI 29 (.pcall 44 [(.t 28)]),iI 30 (.build [.int .i64 0, .str [], .str [], .str [], .int .i64 0, .nilS] [(0, 1, (.t 18)), (1, 1, (.t 20)), (2, 1, (.t 22)), (3, 1, (.t 24)), (4, 1, (.t 26)), (5, 1, (.t 29))]),iI 31 (.bslice 51 6 1 [.int .i64 0, .str [], .str [], .str [], .int .i64 0, .nilS] [(0, (.t 30))]),iI 32 (.append 51 6 88 (.t 16) (.t 31)),iI 3 (.mv (.t 32))] true)))
 (.region [iI 10 (.mv (.t 4)),iI 11 (.bin .add (.t 10) (.c (.int .i64 1))),iI 4 (.mv (.t 11))] false))))))
 (.seq
 (.region [iI 33 (.mv (.t 3)),iI 2 (.mv (.t 33))] false)
 .ret))))
def r44 : List ERes := [.t 2]
theorem c44 : chkF Tryz.prog Tryz.f44 1 e44 r44 = true := by kernel_rfl
end Go.Aw.T.N
