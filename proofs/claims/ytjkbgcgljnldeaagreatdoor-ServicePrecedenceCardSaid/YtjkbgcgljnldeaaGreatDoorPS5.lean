/- Part of a proof; own work. -/
import Derived.Below
import Derived.Deep.Slices
import Derived.Deep.Fields
import Derived.ChangeSame
import Derived.WideShapes
import Derived.OpenShut
import Derived.SizedLaws
import Derived.Test.YtjkbgcgljnldeaaGreatDoorPS4
namespace Go.Aw
open Go Go.ChangeShapes Go.WideShapes Go.Deep Go.RowKit
set_option linter.unusedVariables false
theorem calls_at {P : Program} {f : FuncId} {args : List AV} {r : AV} (h : Pure P f args r) (w : World) (vs : List Value) (hg : GlobW w) (ha : ∀ m : Mem, m.w = w → m.H = AHeap.none → RvL m args vs) :
  Calls P f ⟨vs⟩ w fun e w' => (∃ v, e = .returned v ∧ ∃ m : Mem, Rv m r v) ∧ Below w.heap.size w w' := by
 have := h AHeap.none ⟨w, AHeap.none, fun _ => .nilFunc, 0⟩ vs rfl ⟨fun b T cs hb => by simp [AHeap.none] at hb, fun t i hi => by simp [AHeap.none] at hi, hg, fun p hp => ⟨rfl, fun t i hi => by simp [AHeap.none] at hi⟩⟩ (ha _ rfl rfl)
 refine this.mono fun e w' ⟨o, H', L', T', g1, g2, g3, g4, g5⟩ => ?_
 subst g4
 simp only [RvOut] at g3
 obtain ⟨v, e1, e2⟩ := g3
 exact ⟨⟨v, e1, _, e2⟩, ⟨g2.os, g2.tape, g2.output, g2.size, fun b hb => (g2.block b hb rfl (fun t i hi => by simp [AHeap.none] at hi)).1⟩⟩
theorem rvL_app {m : Mem} : ∀ {x y : List AV} {u v : List Value}, RvL m x u → RvL m y v → RvL m (x ++ y) (u ++ v)
 | [], _, _, _, h, k => by simp only [RvL] at h; subst h; exact k
 | a :: az, _, _, _, h, k => by
  simp only [RvL] at h
  obtain ⟨v, vs, rfl, h1, h2⟩ := h
  simp only [List.cons_append, RvL]
  exact ⟨v, _, rfl, h1, rvL_app h2 k⟩
section
variable {H : Type} {enc : TypeId × Value → H} {P : Program} {w : World} {base : Nat} {spare : Nat → Bool} {held : Bool}
inductive FK where
 | lk (k : LK)
 | sl (ks : List LK)
 deriving DecidableEq
end
theorem rows_map {α : Type} {f : α → List AV} : ∀ {rows : List (List AV)}, (∀ r ∈ rows, ∃ v, r = f v) → ∃ xs : List α, rows = xs.map f
 | [], _ => ⟨[], rfl⟩
 | r :: rs, h => by
  obtain ⟨v, hv⟩ := h r (by simp)
  obtain ⟨xs, hx⟩ := rows_map (rows := rs) fun r hr => h r (by simp [hr])
  exact ⟨v :: xs, by rw [hv, hx]; rfl⟩
end Go.Aw
namespace Go.Aw
open Go Go.ChangeShapes Go.WideShapes Go.Deep Go.RowKit
set_option linter.unusedVariables false
inductive Sh where
 | lk (k : LK)
 | sl (ks : List Sh)
mutual
def Sh.ok : Sh → AV → Prop
 | .lk .b, a => ∃ x, a = .bool x
 | .lk (.i k), a => ∃ n, a = .int k n ∧ (Lit.int k n).wf = true
 | .lk .s, a => ∃ s, a = .str s
 | .sl ks, a => ∃ rows, a = .vs ks.length rows ∧ ∀ r ∈ rows, ShL ks r
def ShL : List Sh → List AV → Prop
 | [], l => l = []
 | k :: ks, l => ∃ a l', l = a :: l' ∧ Sh.ok k a ∧ ShL ks l'
end
theorem ShL_app : ∀ {a b : List Sh} {x y : List AV}, ShL a x → ShL b y → ShL (a ++ b) (x ++ y)
 | [], _, _, _, h, k => by simp only [ShL] at h; subst h; exact k
 | _ :: _, _, _, _, h, k => by
  simp only [ShL] at h
  obtain ⟨a, l, rfl, h1, h⟩ := h
  simp only [List.cons_append, ShL]
  exact ⟨a, _, rfl, h1, ShL_app h k⟩
section
variable {H : Type} {enc : TypeId × Value → H} {P : Program} {w : World} {base : Nat} {spare : Nat → Bool} {held : Bool}
abbrev OpenTo (w : World) (ks : List Sh) (cs : List Value) : Prop := ∃ avs, ShL ks avs ∧ cs.length = ks.length ∧ (∀ v ∈ cs, v.oneCell' = true) ∧ ∀ m : Mem, m.w = w → m.H = AHeap.none → RvL m avs cs
theorem OpenTo.app {a b : List Sh} {u v : List Value} (h : OpenTo w a u) (k : OpenTo w b v) : OpenTo w (a ++ b) (u ++ v) := by
 obtain ⟨x, h1, h2, h3, h4⟩ := h
 obtain ⟨y, k1, k2, k3, k4⟩ := k
 refine ⟨x ++ y, ShL_app h1 k1, by simp [h2, k2], fun z hz => ?_, fun m hw hH => rvL_app (h4 m hw hH) (k4 m hw hH)⟩
 rcases List.mem_append.1 hz with hz | hz
 ·exact h3 z hz
 ·exact k3 z hz
theorem OpenTo.nil : OpenTo w [] [] := ⟨[], rfl, rfl, fun v hv => by simp at hv, fun m _ _ => by simp [RvL]⟩
end
set_option linter.unusedVariables false
inductive RS where
 | lk (k : LK)
 | sl (e : TypeId)
def RS.ok (P : Program) (R : Nat) (g : TypeId → List AV → Prop) : RS → AV → Prop
 | .lk .b, a => ∃ x, a = .bool x
 | .lk (.i k), a => ∃ n, a = .int k n ∧ (Lit.int k n).wf = true
 | .lk .s, a => ∃ s, a = .str s ∧ s.length ≤ R
 | .sl e, a => ∃ rows, a = .vs (P.cellsOf e) rows ∧ rows.length * P.bytesOf e ≤ R ∧ ∀ r ∈ rows, g e r
def RsL (P : Program) (R : Nat) (g : TypeId → List AV → Prop) : List RS → List AV → Prop
 | [], l => l = []
 | k :: ks, l => ∃ a l', l = a :: l' ∧ RS.ok P R g k a ∧ RsL P R g ks l'
def rsFs (P : Program) (g : TypeId → Option (List RS)) : Nat → List Field → Option (List RS)
 | _, [] => some []
 | off, f :: fs => match g f.type with
  | some ks => if f.offset = off ∧ P.cellsOf f.type = ks.length then (rsFs P g (off + ks.length) fs).map (ks ++ ·) else none
  | none => none
def rsT (P : Program) (E : List TypeId) : Nat → TypeId → Option (List RS)
 | 0, _ => none
 | d + 1, t => match P.underlying t with
  | some (.int k) => some [.lk (.i k)]
  | some .string => some [.lk .s]
  | some .bool => some [.lk .b]
  | some (.slice e) => if E.contains e then some [.sl e] else none
  | some (.struct fs) => match rsFs P (rsT P E d) 0 fs.toList with
   | some ks => if P.cellsOf t = ks.length then some ks else none
   | none => none
  | _ => none
def RsR (P : Program) (E : List TypeId) (R : Nat) : Nat → TypeId → List AV → Prop
 | 0, _, _ => False
 | n + 1, e, r => ∃ ks, rsT P E 8 e = some ks ∧ RsL P R (RsR P E R n) ks r
theorem RS.ok_mono {P : Program} {R : Nat} {g g' : TypeId → List AV → Prop} (h : ∀ e r, g e r → g' e r) : ∀ {k : RS} {a : AV}, RS.ok P R g k a → RS.ok P R g' k a
 | .lk .b, _, k => k
 | .lk (.i _), _, k => k
 | .lk .s, _, k => k
 | .sl e, _, k => by
  obtain ⟨rows, h1, h0, h2⟩ := k
  exact ⟨rows, h1, h0, fun r hr => h e r (h2 r hr)⟩
theorem RsL_mono {P : Program} {R : Nat} {g g' : TypeId → List AV → Prop} (h : ∀ e r, g e r → g' e r) : ∀ {ks : List RS} {l : List AV}, RsL P R g ks l → RsL P R g' ks l
 | [], _, k => k
 | _ :: _, _, k => by
  simp only [RsL] at k ⊢
  obtain ⟨a, l, e, h1, h2⟩ := k
  exact ⟨a, l, e, RS.ok_mono h h1, RsL_mono h h2⟩
theorem RsR_mono {P : Program} {E : List TypeId} {R : Nat} : ∀ {n : Nat} {e : TypeId} {r : List AV}, RsR P E R n e r → RsR P E R (n + 1) e r
 | 0, _, _, h => h.elim
 | n + 1, e, r, h => by
  obtain ⟨ks, h1, h2⟩ := h
  exact ⟨ks, h1, RsL_mono (fun e r => RsR_mono) h2⟩
theorem RsL_app {P : Program} {R : Nat} {g : TypeId → List AV → Prop} : ∀ {a b : List RS} {x y : List AV}, RsL P R g a x → RsL P R g b y → RsL P R g (a ++ b) (x ++ y)
 | [], _, _, _, h, k => by simp only [RsL] at h; subst h; exact k
 | _ :: _, _, _, _, h, k => by
  simp only [RsL] at h
  obtain ⟨a, l, rfl, h1, h⟩ := h
  simp only [List.cons_append, RsL]
  exact ⟨a, _, rfl, h1, RsL_app h k⟩
mutual
def AV.bk : AV → Nat
 | .str s => s.length + 1
 | .vs _ rows => bkR rows + 1
 | _ => 1
def bkL : List AV → Nat
 | [] => 0
 | a :: l => a.bk + bkL l
def bkR : List (List AV) → Nat
 | [] => 0
 | r :: l => bkL r + bkR l
end
theorem bkL_app : ∀ (a b : List AV), bkL (a ++ b) = bkL a + bkL b
 | [], b => by simp [bkL]
 | x :: a, b => by simp only [List.cons_append, bkL, bkL_app a b]; omega
section
variable {H : Type} {enc : TypeId × Value → H} {P : Program} {E : List TypeId} {R : Nat} {w : World} {base : Nat} {spare : Nat → Bool} {held : Bool}
abbrev RO (P : Program) (E : List TypeId) (R : Nat) (w : World) (n : Nat) (ks : List RS) (cs : List Value) (B : Nat) : Prop := ∃ avs, (RsL P R (RsR P E R n) ks avs ∧ bkL avs ≤ B) ∧ cs.length = ks.length ∧ (∀ v ∈ cs, v.oneCell' = true) ∧ ∀ m : Mem, m.w = w → m.H = AHeap.none → RvL m avs cs
theorem RO.mono {n : Nat} {ks : List RS} {cs : List Value} {B B' : Nat} (h : RO P E R w n ks cs B) (hB : B ≤ B') : RO P E R w (n + 1) ks cs B' := by
 obtain ⟨avs, ⟨h1, h0⟩, h2⟩ := h
 exact ⟨avs, ⟨RsL_mono (fun e r => RsR_mono) h1, Nat.le_trans h0 hB⟩, h2⟩
theorem RO.app {n : Nat} {a b : List RS} {u v : List Value} {B B' : Nat} (h : RO P E R w n a u B) (k : RO P E R w n b v B') : RO P E R w n (a ++ b) (u ++ v) (B + B') := by
 obtain ⟨x, ⟨h1, h0⟩, h2, h3, h4⟩ := h
 obtain ⟨y, ⟨k1, k0⟩, k2, k3, k4⟩ := k
 refine ⟨x ++ y, ⟨RsL_app h1 k1, by rw [bkL_app]; omega⟩, by simp [h2, k2], fun z hz => ?_, fun m hw hH => rvL_app (h4 m hw hH) (k4 m hw hH)⟩
 rcases List.mem_append.1 hz with hz | hz
 ·exact h3 z hz
 ·exact k3 z hz
theorem RO.nil {n B : Nat} : RO P E R w n [] [] B := ⟨[], ⟨rfl, Nat.zero_le _⟩, rfl, fun v hv => by simp at hv, fun m _ _ => by simp [RvL]⟩
end
end Go.Aw
namespace Go.Aw
open Go
set_option linter.unusedVariables false
inductive Ex where
 | mk (kind : Int) (op name text : List UInt8) (n : Int) (args : List Ex)
mutual
def Ex.row : Ex → List AV
 | .mk k o m t n l => [.int .i64 k, .str o, .str m, .str t, .int .i64 n, .vs 6 (Ex.rows l)]
def Ex.rows : List Ex → List (List AV)
 | [] => []
 | x :: l => x.row :: Ex.rows l
end
theorem Ex.rows_map : ∀ l : List Ex, Ex.rows l = l.map Ex.row
 | [] => rfl
 | x :: l => by simp only [Ex.rows, List.map_cons, Ex.rows_map l]
inductive Sm where
 | mk (kind : Int) (name : List UInt8) (expr : Ex) (times : Int) (body els : List Sm)
mutual
def Sm.row : Sm → List AV
 | .mk k m x t a b => [.int .i64 k, .str m] ++ x.row ++ [.int .i64 t, .vs 11 (Sm.rows a), .vs 11 (Sm.rows b)]
def Sm.rows : List Sm → List (List AV)
 | [] => []
 | x :: l => x.row :: Sm.rows l
end
theorem Sm.rows_map : ∀ l : List Sm, Sm.rows l = l.map Sm.row
 | [] => rfl
 | x :: l => by simp only [Sm.rows, List.map_cons, Sm.rows_map l]
def LW (n : Int) : Prop := (Lit.int .i64 n).wf = true
mutual
def Ex.ok (R : Nat) : Ex → Prop
 | .mk k o m t n l => LW k ∧ o.length ≤ R ∧ m.length ≤ R ∧ t.length ≤ R ∧ LW n ∧ l.length * 88 ≤ R ∧ Ex.oks R l
def Ex.oks (R : Nat) : List Ex → Prop
 | [] => True
 | x :: l => x.ok R ∧ Ex.oks R l
end
theorem Ex.oks_get {R : Nat} : ∀ {l : List Ex} {i : Nat} {x : Ex}, Ex.oks R l → l[i]? = some x → x.ok R
 | y :: l, 0, x, h, e => by simp at e; subst e; exact h.1
 | y :: l, i + 1, x, h, e => Ex.oks_get (l := l) (i := i) h.2 (by simpa using e)
 | [], _, _, _, e => by simp at e
mutual
def Sm.ok (R : Nat) : Sm → Prop
 | .mk k m x t a b => LW k ∧ m.length ≤ R ∧ x.ok R ∧ LW t ∧ a.length * 168 ≤ R ∧ b.length * 168 ≤ R ∧ Sm.oks R a ∧ Sm.oks R b
def Sm.oks (R : Nat) : List Sm → Prop
 | [] => True
 | x :: l => x.ok R ∧ Sm.oks R l
end
theorem Sm.oks_get {R : Nat} : ∀ {l : List Sm} {i : Nat} {x : Sm}, Sm.oks R l → l[i]? = some x → x.ok R
 | y :: l, 0, x, h, e => by simp at e; subst e; exact h.1
 | y :: l, i + 1, x, h, e => Sm.oks_get (l := l) (i := i) h.2 (by simpa using e)
 | [], _, _, _, e => by simp at e
section
variable {P : Program} {E : List TypeId} {R : Nat} {te ts : TypeId}
end
end Go.Aw
namespace Go.Aw
open Go
set_option linter.unusedVariables false
def eqF {α : Type} (e : α → α → Bool) : List α → List α → Bool
 | [], [] => true
 | x :: l, y :: l' => e x y && eqF e l l'
 | _, _ => false
theorem eqF_len {α : Type} {e : α → α → Bool} : ∀ {a b : List α}, eqF e a b = true → a.length = b.length
 | [], [], _ => rfl
 | x :: l, y :: l', h => by
  simp only [eqF, Bool.and_eq_true] at h
  simp [eqF_len h.2]
 | [], _ :: _, h => by simp [eqF] at h
 | _ :: _, [], h => by simp [eqF] at h
theorem eqF_ne {α : Type} {e : α → α → Bool} {a b : List α} (h : a.length ≠ b.length) : eqF e a b = false := by
 cases h' : eqF e a b with
 | false => rfl
 | true => exact absurd (eqF_len h') h
theorem eqF_drop {α : Type} {e : α → α → Bool} : ∀ {i : Nat} {a b : List α} {x y : α}, a[i]? = some x → b[i]? = some y → eqF e (a.drop i) (b.drop i) = (e x y && eqF e (a.drop (i + 1)) (b.drop (i + 1)))
 | 0, x :: l, y :: l', _, _, h, k => by simp at h k; subst h k; simp [eqF]
 | i + 1, x :: l, y :: l', _, _, h, k => by
  simp only [List.drop_succ_cons]
  exact eqF_drop (by simpa using h) (by simpa using k)
 | 0, [], _, _, _, h, _ => by simp at h
 | i + 1, [], _, _, _, h, _ => by simp at h
 | 0, _ :: _, [], _, _, _, k => by simp at k
 | i + 1, _ :: _, [], _, _, _, k => by simp at k
theorem eqF_end {α : Type} {e : α → α → Bool} {i : Nat} {a b : List α} (h : a.length ≤ i) (k : b.length ≤ i) : eqF e (a.drop i) (b.drop i) = true := by
 rw [List.drop_eq_nil_of_le h, List.drop_eq_nil_of_le k]
 rfl
mutual
def exSame : Ex → Ex → Bool
 | .mk k o m t n l, .mk k' o' m' t' n' l' => decide (k = k') && (decide (o = o') && (decide (m = m') && (decide (t = t') && (decide (n = n') && exSames l l'))))
def exSames : List Ex → List Ex → Bool
 | [], [] => true
 | x :: l, y :: l' => exSame x y && exSames l l'
 | _, _ => false
end
theorem exSames_eq : ∀ a b : List Ex, exSames a b = eqF exSame a b
 | [], [] => rfl
 | x :: l, y :: l' => by simp only [exSames, eqF, exSames_eq l l']
 | [], _ :: _ => rfl
 | _ :: _, [] => rfl
mutual
def stSame : Sm → Sm → Bool
 | .mk k m x t a b, .mk k' m' x' t' a' b' => decide (k = k') && (decide (m = m') && (decide (t = t') && (exSame x x' && (stSames a a' && stSames b b'))))
def stSames : List Sm → List Sm → Bool
 | [], [] => true
 | x :: l, y :: l' => stSame x y && stSames l l'
 | _, _ => false
end
theorem stSames_eq : ∀ a b : List Sm, stSames a b = eqF stSame a b
 | [], [] => rfl
 | x :: l, y :: l' => by simp only [stSames, eqF, stSames_eq l l']
 | [], _ :: _ => rfl
 | _ :: _, [] => rfl
mutual
theorem exSame_refl : ∀ x : Ex, exSame x x = true
 | .mk k o m t n l => by simp [exSame, exSames_refl l]
theorem exSames_refl : ∀ l : List Ex, exSames l l = true
 | [] => rfl
 | x :: l => by simp [exSames, exSame_refl x, exSames_refl l]
end
mutual
theorem stSame_refl : ∀ x : Sm, stSame x x = true
 | .mk k m x t a b => by simp [stSame, exSame_refl x, stSames_refl a, stSames_refl b]
theorem stSames_refl : ∀ l : List Sm, stSames l l = true
 | [] => rfl
 | x :: l => by simp [stSames, stSame_refl x, stSames_refl l]
end
theorem eqF_refl {α : Type} {e : α → α → Bool} (h : ∀ x, e x x = true) : ∀ l : List α, eqF e l l = true
 | [] => rfl
 | x :: l => by simp [eqF, h x, eqF_refl h l]
structure Vr where
 name : List UInt8
 sk : Int
 lo : Int
 hi : Int
 ik : Int
 n : Int
 s : List UInt8
deriving DecidableEq
def Vr.row (v : Vr) : List AV := [.str v.name, .int .i64 v.sk, .int .i64 v.lo, .int .i64 v.hi, .int .i64 v.ik, .int .i64 v.n, .str v.s]
structure Ha where
 msg : List UInt8
 peer : List UInt8
 ps : List (List UInt8)
 body : List Sm
def srow (s : List UInt8) : List AV := [.str s]
def Ha.row (h : Ha) : List AV := [.str h.msg, .str h.peer, .vs 1 (h.ps.map srow), .vs 11 (Sm.rows h.body)]
structure Off where
 msg : List UInt8
 peer : List UInt8
 args : List Ex
 whn : List Ex
def Off.row (o : Off) : List AV := [.str o.msg, .str o.peer, .vs 6 (Ex.rows o.args), .vs 6 (Ex.rows o.whn)]
structure Sv where
 name : List UInt8
 role : List UInt8
 proto : List UInt8
 vars : List Vr
 hs : List Ha
 os : List Off
def Sv.cells (x : Sv) : List AV := [.str x.name, .str x.role, .str x.proto, .vs 7 (x.vars.map Vr.row), .vs 4 (x.hs.map Ha.row), .vs 4 (x.os.map Off.row)]
def Sv.av (x : Sv) : AV := .agg x.cells
def haSame (a b : Ha) : Bool := decide (a.msg = b.msg) && (decide (a.peer = b.peer) && (decide (a.ps = b.ps) && stSames a.body b.body))
def ofSame (a b : Off) : Bool := decide (a.msg = b.msg) && (decide (a.peer = b.peer) && (exSames a.args b.args && exSames a.whn b.whn))
def svSame (x y : Sv) : Bool := decide (x.name = y.name) && (decide (x.role = y.role) && (decide (x.proto = y.proto) && (decide (x.vars = y.vars) && (eqF haSame x.hs y.hs && eqF ofSame x.os y.os))))
theorem haSame_refl (a : Ha) : haSame a a = true := by simp [haSame, stSames_refl]
theorem ofSame_refl (a : Off) : ofSame a a = true := by simp [ofSame, exSames_refl]
theorem svSame_refl (x : Sv) : svSame x x = true := by simp [svSame, eqF_refl haSame_refl, eqF_refl ofSame_refl]
theorem eqF_dec {α : Type} [DecidableEq α] : ∀ a b : List α, eqF (fun x y => decide (x = y)) a b = decide (a = b)
 | [], [] => by simp [eqF]
 | x :: l, y :: l' => by simp [eqF, eqF_dec l l', Bool.decide_and]
 | [], _ :: _ => by simp [eqF]
 | _ :: _, [] => by simp [eqF]
mutual
def Ex.amt : Ex → Nat
 | .mk _ _ _ _ _ l => 1 + Ex.amts l
def Ex.amts : List Ex → Nat
 | [] => 0
 | x :: l => x.amt + Ex.amts l
end
mutual
def Sm.amt : Sm → Nat
 | .mk _ _ x _ a b => 1 + x.amt + Sm.amts a + Sm.amts b
def Sm.amts : List Sm → Nat
 | [] => 0
 | x :: l => x.amt + Sm.amts l
end
theorem Ex.amts_take {l : List Ex} {i : Nat} {x : Ex} (h : l[i]? = some x) : Ex.amts (l.take (i + 1)) = Ex.amts (l.take i) + x.amt := by
 rw [List.take_add_one, h]
 induction l.take i with
 | nil => simp [Ex.amts]
 | cons y l ih => simp only [List.cons_append, Ex.amts, ih]; omega
theorem Sm.amts_take {l : List Sm} {i : Nat} {x : Sm} (h : l[i]? = some x) : Sm.amts (l.take (i + 1)) = Sm.amts (l.take i) + x.amt := by
 rw [List.take_add_one, h]
 induction l.take i with
 | nil => simp [Sm.amts]
 | cons y l ih => simp only [List.cons_append, Sm.amts, ih]; omega
theorem Ex.mem_amt {l : List Ex} {i : Nat} {x : Ex} (h : l[i]? = some x) : x.amt ≤ Ex.amts l := by
 have h1 := Ex.amts_take h
 have h2 : Ex.amts (l.take (i + 1)) ≤ Ex.amts l := by
  conv => rhs; rw [← List.take_append_drop (i + 1) l]
  induction l.take (i + 1) with
  | nil => simp [Ex.amts]
  | cons y l ih => simp only [List.cons_append, Ex.amts]; omega
 omega
theorem Sm.mem_amt {l : List Sm} {i : Nat} {x : Sm} (h : l[i]? = some x) : x.amt ≤ Sm.amts l := by
 have h1 := Sm.amts_take h
 have h2 : Sm.amts (l.take (i + 1)) ≤ Sm.amts l := by
  conv => rhs; rw [← List.take_append_drop (i + 1) l]
  induction l.take (i + 1) with
  | nil => simp [Sm.amts]
  | cons y l ih => simp only [List.cons_append, Sm.amts]; omega
 omega
theorem Ex.len_amt : ∀ l : List Ex, l.length ≤ Ex.amts l
 | [] => by simp
 | x :: l => by
  have := Ex.len_amt l
  have : 1 ≤ x.amt := by cases x; simp [Ex.amt]
  simp only [List.length_cons, Ex.amts]
  omega
theorem Sm.len_amt : ∀ l : List Sm, l.length ≤ Sm.amts l
 | [] => by simp
 | x :: l => by
  have := Sm.len_amt l
  have : 1 ≤ x.amt := by cases x; simp [Sm.amt]; omega
  simp only [List.length_cons, Sm.amts]
  omega
mutual
theorem Ex.row_flat : ∀ x : Ex, flatL x.row = true
 | .mk k o m t n l => by simp only [Ex.row, flatL, AV.flat, Ex.rows_flat l, Bool.and_self]
theorem Ex.rows_flat : ∀ l : List Ex, flatR (Ex.rows l) = true
 | [] => rfl
 | x :: l => by simp only [Ex.rows, flatR, Ex.row_flat x, Ex.rows_flat l, Bool.and_self]
end
theorem flatL_app : ∀ (a b : List AV), flatL (a ++ b) = (flatL a && flatL b)
 | [], b => by simp [flatL]
 | x :: a, b => by simp only [List.cons_append, flatL, flatL_app a b, Bool.and_assoc]
mutual
theorem Sm.row_flat : ∀ x : Sm, flatL x.row = true
 | .mk k m x t a b => by simp only [Sm.row, flatL_app, flatL, AV.flat, Ex.row_flat x, Sm.rows_flat a, Sm.rows_flat b, Bool.and_self]
theorem Sm.rows_flat : ∀ l : List Sm, flatR (Sm.rows l) = true
 | [] => rfl
 | x :: l => by simp only [Sm.rows, flatR, Sm.row_flat x, Sm.rows_flat l, Bool.and_self]
end
theorem drop_cons' {α : Type} {l : List α} {i : Nat} {v : α} (h : l[i]? = some v) : l.drop i = v :: l.drop (i + 1) := by
 obtain ⟨h3, e⟩ := List.getElem?_eq_some_iff.1 h
 rw [List.drop_eq_getElem_cons h3, e]
theorem take_snoc {α β : Type} (f : α → β) {l : List α} {i : Nat} {v : α} (h : l[i]? = some v) : (l.take (i + 1)).map f = (l.take i).map f ++ [f v] := by
 rw [List.take_add_one, h]; simp
theorem Ex.row_mk (k : Int) (o m t : List UInt8) (n : Int) (l : List Ex) : (Ex.mk k o m t n l).row = [.int .i64 k, .str o, .str m, .str t, .int .i64 n, .vs 6 (l.map Ex.row)] := by rw [Ex.row, Ex.rows_map]
theorem Sm.row_mk (k : Int) (m : List UInt8) (x : Ex) (t : Int) (a b : List Sm) : (Sm.mk k m x t a b).row = [.int .i64 k, .str m] ++ x.row ++ [.int .i64 t, .vs 11 (a.map Sm.row), .vs 11 (b.map Sm.row)] := by rw [Sm.row, Sm.rows_map, Sm.rows_map]
theorem Ex.rowsF (l : List Ex) : flatR (l.map Ex.row) = true := by rw [← Ex.rows_map]; exact Ex.rows_flat l
theorem Sm.rowsF (l : List Sm) : flatR (l.map Sm.row) = true := by rw [← Sm.rows_map]; exact Sm.rows_flat l
def Vr.ok (R : Nat) (v : Vr) : Prop := (v.name.length ≤ R ∧ v.s.length ≤ R) ∧ LW v.sk ∧ LW v.lo ∧ LW v.hi ∧ LW v.ik ∧ LW v.n
def Ha.ok (R : Nat) (h : Ha) : Prop := h.msg.length ≤ R ∧ h.peer.length ≤ R ∧ h.ps.length * 16 ≤ R ∧ (∀ s ∈ h.ps, s.length ≤ R) ∧ h.body.length * 168 ≤ R ∧ Sm.oks R h.body
def Off.ok (R : Nat) (o : Off) : Prop := o.msg.length ≤ R ∧ o.peer.length ≤ R ∧ o.args.length * 88 ≤ R ∧ Ex.oks R o.args ∧ o.whn.length * 88 ≤ R ∧ Ex.oks R o.whn
structure Sv.ok (R : Nat) (x : Sv) : Prop where
 name : x.name.length ≤ R
 role : x.role.length ≤ R
 proto : x.proto.length ≤ R
 nv : x.vars.length * 72 ≤ R
 vars : ∀ v ∈ x.vars, v.ok R
 nh : x.hs.length * 80 ≤ R
 hs : ∀ h ∈ x.hs, h.ok R
 no : x.os.length * 80 ≤ R
 os : ∀ o ∈ x.os, o.ok R
end Go.Aw
namespace Go.Aw
def letterZ (z : Int) : Bool := (decide (97 ≤ z) && decide (z ≤ 122)) || (decide (65 ≤ z) && decide (z ≤ 90))
def digitZ (z : Int) : Bool := decide (48 ≤ z) && decide (z ≤ 57)
def innerZ (z : Int) : Bool := letterZ z || (digitZ z || decide (z = 95))
def letterB (c : UInt8) : Bool := letterZ (c.toNat : Int)
def digitB (c : UInt8) : Bool := digitZ (c.toNat : Int)
def innerB (c : UInt8) : Bool := innerZ (c.toNat : Int)
def isNameB : List UInt8 → Bool
 | [] => false
 | c :: s => decide ((c :: s).length ≤ 16) && (letterB c && (c :: s).all innerB)
def kwords : List (List UInt8) := [[97, 103, 97, 105, 110], [97, 110, 100], [97, 115], [97, 116], [99, 97, 108, 108], [99, 104, 111, 105, 99, 101], [101, 108, 115, 101], [102, 114, 111, 109], [105, 102], [105, 110, 116], [108, 101, 110], [108, 111, 111, 112], [109, 101, 115, 115, 97, 103, 101], [111, 102], [111, 102, 102, 101, 114], [111, 110], [111, 114], [112, 97, 114], [112, 108, 97, 121, 115], [112, 114, 111, 116, 111, 99, 111, 108], [115, 101, 114, 118, 105, 99, 101], [116, 101, 120, 116], [116, 105, 109, 101, 115], [116, 111], [118, 97, 114], [119, 104, 101, 114, 101], [119, 104, 105, 108, 101], [119, 105, 116, 104, 105, 110]]
def isWordB (s : List UInt8) : Bool := isNameB s && !(kwords.contains s)
def idxFromL (l : List (List UInt8)) (s : List UInt8) : Nat → Nat → Int
 | 0, _ => -1
 | k + 1, i => match l[i]? with
  | some x => if s = x then (i : Int) else idxFromL l s k (i + 1)
  | none => -1
theorem idxFromL_contains (l : List (List UInt8)) (s : List UInt8) : ∀ (k i : Nat), i + k = l.length → (decide (0 ≤ idxFromL l s k i)) = (l.drop i).contains s
 | 0, i, h => by
  rw [List.drop_eq_nil_of_le (by omega)]
  simp [idxFromL]
 | k + 1, i, h => by
  have hlt : i < l.length := by omega
  have e := List.getElem?_eq_getElem hlt
  rw [List.drop_eq_getElem_cons hlt]
  simp only [idxFromL, e, List.contains_cons]
  by_cases hs : s = l[i]
  ·rw [if_pos hs]
   simp [hs]
  ·rw [if_neg hs, idxFromL_contains l s k (i + 1) (by omega)]
   have : (s == l[i]) = false := by simpa using hs
   rw [this, Bool.false_or]
end Go.Aw
