/- Part of a proof; own work. -/
import Derived.WalkKit
import Derived.Lib.Strings
import Derived.Lib.SmallJoins
/- Abstract values and how they are read in a world: the ground of the abstract walk (own work). -/
namespace Go.Aw
open Go

/-- An abstract value. Slices that are only read are lists of rows ('vs'); 'own' is such a slice with the right to append (token t); 'rp' points into a row; 'raw' is a value as it is. -/
inductive AV where
  | top
  | bool (b : Bool)
  | int (k : IntKind) (n : Int)
  | str (s : List UInt8)
  | raw (v : Value)
  | ptr (b o : Nat)
  | agg (cs : List AV)
  | tup (cs : List AV)
  | vs (size : Nat) (rows : List (List AV))
  | own (t : Nat) (size : Nat) (rows : List (List AV))
  | ms (t ver : Nat)
  | mp (t ver k : Nat)
  | rp (row : List AV) (off : Nat)
  | fn (f : FuncId) (cap : List AV)
  | ifc (t : TypeId) (v : AV)

/-- A token: n rows that will not change (ver = n, no contents), or rows that may be written (n = 0; their contents). -/
structure Own where
  ty : TypeId
  size : Nat
  n : Nat
  ver : Nat
  con : Option (List (List AV))
def Own.len (i : Own) : Nat := match i.con with | none => i.n | some rows => rows.length

/-- What is known of the memory that may be written: blocks by their numbers, tokens. -/
structure AHeap where
  blk : Nat → Option (TypeId × List AV)
  tok : Nat → Option Own

def AHeap.none : AHeap := ⟨fun _ => Option.none, fun _ => Option.none⟩
def AHeap.setB (H : AHeap) (b : Nat) (T : TypeId) (cs : List AV) : AHeap := { H with blk := fun x => if x = b then some (T, cs) else H.blk x }
def AHeap.setT (H : AHeap) (t : Nat) (o : Own) : AHeap := { H with tok := fun x => if x = t then some o else H.tok x }

structure Mem where
  w : World
  H : AHeap
  L : Nat → Value
  T : Nat

/-- A cell that will not change any more. -/
structure St (m : Mem) (b o : Nat) : Prop where
  lt : b < m.w.heap.size
  blk : m.H.blk b = Option.none
  tok : ∀ t i, m.H.tok t = some i → (m.L t).ownBlock = some b → o < i.n * i.size

mutual
def Rv (m : Mem) : AV → Value → Prop
  | .top, _ => True
  | .bool b, v => v = .bool b
  | .int k n, v => v = .int k n
  | .str s, v => v = .string ⟨⟨s⟩⟩ ∧ s.length ≤ maxLen
  | .raw x, v => v = x
  | .ptr b o, v => v = .pointer (some ⟨b, o, none⟩)
  | .agg cs, v => ∃ l, v = .agg ⟨l⟩ ∧ RvL m cs l
  | .tup cs, v => ∃ l, v = .tuple ⟨l⟩ ∧ RvL m cs l
  | .vs size rows, v => ∃ a len cap, v = .slice a len cap ∧ len = rows.length ∧ (len ≤ cap ∧ cap ≤ maxLen) ∧ (rows.length = 0 ∨ ∃ b o, a = some ⟨b, o, none⟩ ∧ RvR m size rows b o)
  | .own t size rows, v => (∃ a len cap, v = .slice a len cap ∧ len = rows.length ∧ (len ≤ cap ∧ cap ≤ maxLen) ∧ (rows.length = 0 ∨ ∃ b o, a = some ⟨b, o, none⟩ ∧ RvR m size rows b o)) ∧ t < m.T ∧ (∀ i, m.H.tok t = some i → rows.length ≤ i.ver ∧ (i.ver = rows.length → m.L t = v ∧ i.size = size))
  | .ms t ver, v => v.oneCell' = true ∧ t < m.T ∧ (∀ i, m.H.tok t = some i → ver ≤ i.ver ∧ (i.ver = ver → m.L t = v))
  | .mp t ver k, v => v.oneCell' = true ∧ t < m.T ∧ (∀ i, m.H.tok t = some i → ver ≤ i.ver ∧ (i.ver = ver → ∃ b len cap, m.L t = .slice (some ⟨b, 0, none⟩) len cap ∧ v = .pointer (some ⟨b, k, none⟩)))
  | .rp row off, v => ∃ b o, v = .pointer (some ⟨b, o + off, none⟩) ∧ RvC m row b o
  | .fn f cap, v => ∃ l, v = .func (.func f) #[] ⟨l⟩ ∧ RvL m cap l
  | .ifc t a, v => ∃ x, v = .iface t x ∧ Rv m a x
def RvL (m : Mem) : List AV → List Value → Prop
  | [], l => l = []
  | a :: as, l => ∃ v vs, l = v :: vs ∧ Rv m a v ∧ RvL m as vs
def RvC (m : Mem) : List AV → Nat → Nat → Prop
  | [], _, _ => True
  | a :: as, b, o => (∃ v, m.w.cell? ⟨b, o, none⟩ = some v ∧ v.oneCell' = true ∧ St m b o ∧ Rv m a v) ∧ RvC m as b (o + 1)
def RvR (m : Mem) (size : Nat) : List (List AV) → Nat → Nat → Prop
  | [], _, _ => True
  | r :: rs, b, o => r.length = size ∧ RvC m r b o ∧ RvR m size rs b (o + size)
end

/-- From m to m': what was stable stays; what is not known is not touched; tokens only grow. -/
structure Ev (m m' : Mem) : Prop where
  os : m'.w.os = m.w.os
  tape : m'.w.tape = m.w.tape
  output : m'.w.output = m.w.output
  size : m.w.heap.size ≤ m'.w.heap.size
  T : m.T ≤ m'.T
  block : ∀ b, b < m.w.heap.size → m.H.blk b = Option.none → (∀ t i, m.H.tok t = some i → (m.L t).ownBlock ≠ some b) → m'.w.heap[b]? = m.w.heap[b]? ∧ m'.H.blk b = Option.none ∧ (∀ t i, m'.H.tok t = some i → (m'.L t).ownBlock ≠ some b)
  cell : ∀ b o, St m b o → St m' b o ∧ m'.w.cell? ⟨b, o, none⟩ = m.w.cell? ⟨b, o, none⟩
  tok : ∀ t i', t < m.T → m'.H.tok t = some i' → ∃ i, m.H.tok t = some i ∧ i.ver ≤ i'.ver ∧ i'.size = i.size ∧ (i'.ver = i.ver → m'.L t = m.L t)

theorem Ev.refl (m : Mem) : Ev m m := ⟨rfl, rfl, rfl, Nat.le_refl _, Nat.le_refl _, fun _ _ h h' => ⟨rfl, h, h'⟩, fun _ _ h => ⟨h, rfl⟩, fun _ i' _ h => ⟨i', h, Nat.le_refl _, rfl, fun _ => rfl⟩⟩
theorem Ev.trans {a b c : Mem} (h : Ev a b) (k : Ev b c) : Ev a c where
  os := k.os.trans h.os
  tape := k.tape.trans h.tape
  output := k.output.trans h.output
  size := Nat.le_trans h.size k.size
  T := Nat.le_trans h.T k.T
  block := fun x hx hb ht => by
    obtain ⟨e1, e2, e3⟩ := h.block x hx hb ht
    obtain ⟨f1, f2, f3⟩ := k.block x (Nat.lt_of_lt_of_le hx h.size) e2 e3
    exact ⟨f1.trans e1, f2, f3⟩
  cell := fun x o hs => by
    obtain ⟨e1, e2⟩ := h.cell x o hs
    obtain ⟨f1, f2⟩ := k.cell x o e1
    exact ⟨f1, f2.trans e2⟩
  tok := fun t i'' ht hi => by
    obtain ⟨i', h1, h2, h3, h4⟩ := k.tok t i'' (Nat.lt_of_lt_of_le ht h.T) hi
    obtain ⟨i, g1, g2, g3, g4⟩ := h.tok t i' ht h1
    refine ⟨i, g1, Nat.le_trans g2 h2, h3.trans g3, fun e => ?_⟩
    rw [h4 (by omega), g4 (by omega)]

mutual
theorem Rv.ev {m m' : Mem} (e : Ev m m') : ∀ (a : AV) (v : Value), Rv m a v → Rv m' a v
  | .top, _, _ => by simp only [Rv]
  | .bool _, _, h => by simp only [Rv] at *; exact h
  | .int _ _, _, h => by simp only [Rv] at *; exact h
  | .str _, _, h => by simp only [Rv] at *; exact h
  | .raw _, _, h => by simp only [Rv] at *; exact h
  | .ptr _ _, _, h => by simp only [Rv] at *; exact h
  | .agg cs, _, h => by simp only [Rv] at *; obtain ⟨l, e1, e2⟩ := h; exact ⟨l, e1, RvL.ev e cs l e2⟩
  | .tup cs, _, h => by simp only [Rv] at *; obtain ⟨l, e1, e2⟩ := h; exact ⟨l, e1, RvL.ev e cs l e2⟩
  | .vs size rows, _, h => by
    simp only [Rv] at *
    obtain ⟨a, len, cap, h1, h2, h3, h4⟩ := h
    exact ⟨a, len, cap, h1, h2, h3, h4.imp id fun ⟨b, o, g1, g2⟩ => ⟨b, o, g1, RvR.ev e size rows b o g2⟩⟩
  | .own t size rows, _, h => by
    simp only [Rv] at *
    obtain ⟨⟨a, len, cap, h1, h2, h3, h4⟩, h5, h6⟩ := h
    refine ⟨⟨a, len, cap, h1, h2, h3, h4.imp id fun ⟨b, o, g1, g2⟩ => ⟨b, o, g1, RvR.ev e size rows b o g2⟩⟩, Nat.lt_of_lt_of_le h5 e.T, fun i hi => ?_⟩
    obtain ⟨i0, k1, k2, k3, k4⟩ := e.tok t i h5 hi
    obtain ⟨r0, r1⟩ := h6 i0 k1
    refine ⟨by omega, fun hn => ?_⟩
    obtain ⟨r1, r2⟩ := r1 (by omega)
    exact ⟨(k4 (by omega)).trans r1, k3.trans r2⟩
  | .ms t ver, _, h => by
    simp only [Rv] at *
    obtain ⟨h0, h5, h6⟩ := h
    refine ⟨h0, Nat.lt_of_lt_of_le h5 e.T, fun i hi => ?_⟩
    obtain ⟨i0, k1, k2, k3, k4⟩ := e.tok t i h5 hi
    obtain ⟨r0, r1⟩ := h6 i0 k1
    exact ⟨by omega, fun hn => (k4 (by omega)).trans (r1 (by omega))⟩
  | .mp t ver k, _, h => by
    simp only [Rv] at *
    obtain ⟨h0, h5, h6⟩ := h
    refine ⟨h0, Nat.lt_of_lt_of_le h5 e.T, fun i hi => ?_⟩
    obtain ⟨i0, k1, k2, k3, k4⟩ := e.tok t i h5 hi
    obtain ⟨r0, r1⟩ := h6 i0 k1
    refine ⟨by omega, fun hn => ?_⟩
    obtain ⟨b, len, cap, g1, g2⟩ := r1 (by omega)
    exact ⟨b, len, cap, (k4 (by omega)).trans g1, g2⟩
  | .rp row off, _, h => by
    simp only [Rv] at *
    obtain ⟨b, o, h1, h2⟩ := h
    exact ⟨b, o, h1, RvC.ev e row b o h2⟩
  | .fn f cs, _, h => by simp only [Rv] at *; obtain ⟨l, e1, e2⟩ := h; exact ⟨l, e1, RvL.ev e cs l e2⟩
  | .ifc t a, _, h => by simp only [Rv] at *; obtain ⟨x, e1, e2⟩ := h; exact ⟨x, e1, Rv.ev e a x e2⟩
theorem RvL.ev {m m' : Mem} (e : Ev m m') : ∀ (as : List AV) (l : List Value), RvL m as l → RvL m' as l
  | [], _, h => by simp only [RvL] at *; exact h
  | a :: as, _, h => by simp only [RvL] at *; obtain ⟨v, vs, h1, h2, h3⟩ := h; exact ⟨v, vs, h1, Rv.ev e a v h2, RvL.ev e as vs h3⟩
theorem RvC.ev {m m' : Mem} (e : Ev m m') : ∀ (as : List AV) (b o : Nat), RvC m as b o → RvC m' as b o
  | [], _, _, _ => by simp only [RvC]
  | a :: as, b, o, h => by
    simp only [RvC] at *
    obtain ⟨⟨v, h1, h1', h2, h3⟩, h4⟩ := h
    obtain ⟨s1, s2⟩ := e.cell b o h2
    exact ⟨⟨v, s2.trans h1, h1', s1, Rv.ev e a v h3⟩, RvC.ev e as b (o + 1) h4⟩
theorem RvR.ev {m m' : Mem} (e : Ev m m') (size : Nat) : ∀ (rs : List (List AV)) (b o : Nat), RvR m size rs b o → RvR m' size rs b o
  | [], _, _, _ => by simp only [RvR]
  | r :: rs, b, o, h => by
    simp only [RvR] at *
    exact ⟨h.1, RvC.ev e r b o h.2.1, RvR.ev e size rs b (o + size) h.2.2⟩
end

/-- The world holds what the abstract heap says. -/
structure RH (m : Mem) : Prop where
  blk : ∀ b T cs, m.H.blk b = some (T, cs) → ∃ l, m.w.heap[b]? = some (.cells ⟨l⟩ T (0, 0)) ∧ RvL m cs l ∧ ∀ v ∈ l, v.oneCell' = true
  tok : ∀ t i, m.H.tok t = some i → t < m.T ∧ i.size ≠ 0 ∧ (∃ xs, m.w.ownsRow 0 i.ty i.size (m.L t) i.len xs ∧ ∀ rows, i.con = some rows → RvL m rows.flatten xs ∧ (∀ r ∈ rows, r.length = i.size) ∧ ∀ v ∈ xs, v.oneCell' = true) ∧ (∀ b, (m.L t).ownBlock = some b → m.H.blk b = Option.none ∧ ∀ t' i', m.H.tok t' = some i' → (m.L t').ownBlock = some b → t' = t)

theorem RvL.length {m : Mem} : ∀ {as : List AV} {l : List Value}, RvL m as l → l.length = as.length
  | [], _, h => by simp only [RvL] at h; subst h; rfl
  | a :: as, _, h => by simp only [RvL] at h; obtain ⟨v, vs, rfl, _, h2⟩ := h; simp [RvL.length h2]
theorem RvL.get {m : Mem} : ∀ {as : List AV} {l : List Value} (_ : RvL m as l) (i : Nat) (a : AV), as[i]? = some a → ∃ v, l[i]? = some v ∧ Rv m a v
  | [], _, _, _, _, h => by simp at h
  | a :: as, _, h, 0, x, hx => by simp only [RvL] at h; obtain ⟨v, vs, rfl, h1, h2⟩ := h; simp at hx; subst hx; exact ⟨v, rfl, h1⟩
  | a :: as, _, h, i + 1, x, hx => by simp only [RvL] at h; obtain ⟨v, vs, rfl, h1, h2⟩ := h; simp at hx; obtain ⟨v', e1, e2⟩ := RvL.get h2 i x hx; exact ⟨v', by simpa using e1, e2⟩
theorem RvL.append {m : Mem} : ∀ {as : List AV} {l : List Value} {bs : List AV} {l' : List Value} (_ : RvL m as l) (_ : RvL m bs l'), RvL m (as ++ bs) (l ++ l')
  | [], _, _, _, h, k => by simp only [RvL] at h; subst h; simpa using k
  | a :: as, _, _, _, h, k => by simp only [RvL] at h; obtain ⟨v, vs, rfl, h1, h2⟩ := h; simp only [List.cons_append, RvL]; exact ⟨v, _, rfl, h1, RvL.append h2 k⟩
theorem RvL.drop {m : Mem} : ∀ (n : Nat) {as : List AV} {l : List Value} (_ : RvL m as l), RvL m (as.drop n) (l.drop n)
  | 0, _, _, h => by simpa using h
  | n + 1, [], _, h => by simp only [RvL] at h; subst h; simp [RvL]
  | n + 1, a :: as, _, h => by simp only [RvL] at h; obtain ⟨v, vs, rfl, h1, h2⟩ := h; simpa using RvL.drop n h2
theorem RvL.take {m : Mem} : ∀ (n : Nat) {as : List AV} {l : List Value} (_ : RvL m as l), RvL m (as.take n) (l.take n)
  | 0, _, _, _ => by simp [RvL]
  | n + 1, [], _, h => by simp only [RvL] at h; subst h; simp [RvL]
  | n + 1, a :: as, _, h => by simp only [RvL] at h; obtain ⟨v, vs, rfl, h1, h2⟩ := h; simp only [List.take_succ_cons, RvL]; exact ⟨v, _, rfl, h1, RvL.take n h2⟩
theorem RvL.set {m : Mem} : ∀ (n : Nat) {as : List AV} {l : List Value} (_ : RvL m as l) {a : AV} {v : Value}, Rv m a v → RvL m (as.set n a) (l.set n v)
  | _, [], _, h, _, _, _ => by simp only [RvL] at h; subst h; simp [RvL]
  | 0, a :: as, _, h, _, _, hv => by simp only [RvL] at h; obtain ⟨v, vs, rfl, h1, h2⟩ := h; simp only [List.set_cons_zero, RvL]; exact ⟨_, _, rfl, hv, h2⟩
  | n + 1, a :: as, _, h, _, _, hv => by simp only [RvL] at h; obtain ⟨v, vs, rfl, h1, h2⟩ := h; simp only [List.set_cons_succ, RvL]; exact ⟨_, _, rfl, h1, RvL.set n h2 hv⟩
theorem RvC.get {m : Mem} : ∀ {as : List AV} {b o : Nat} (_ : RvC m as b o) (i : Nat) (a : AV), as[i]? = some a → ∃ v, m.w.cell? ⟨b, o + i, none⟩ = some v ∧ v.oneCell' = true ∧ St m b (o + i) ∧ Rv m a v
  | [], _, _, _, _, _, h => by simp at h
  | a :: as, b, o, h, 0, x, hx => by simp only [RvC] at h; simp at hx; subst hx; exact h.1
  | a :: as, b, o, h, i + 1, x, hx => by
    simp only [RvC] at h
    simp at hx
    obtain ⟨v, e⟩ := RvC.get h.2 i x hx
    rw [show o + (i + 1) = o + 1 + i by omega]
    exact ⟨v, e⟩
theorem RvR.get {m : Mem} {size : Nat} : ∀ {rs : List (List AV)} {b o : Nat} (_ : RvR m size rs b o) (i : Nat) (r : List AV), rs[i]? = some r → r.length = size ∧ RvC m r b (o + i * size)
  | [], _, _, _, _, _, h => by simp at h
  | r :: rs, b, o, h, 0, x, hx => by simp only [RvR] at h; simp at hx; subst hx; simpa using ⟨h.1, h.2.1⟩
  | r :: rs, b, o, h, i + 1, x, hx => by
    simp only [RvR] at h
    simp at hx
    have := RvR.get h.2.2 i x hx
    rwa [show o + size + i * size = o + (i + 1) * size by rw [Nat.add_mul]; omega] at this
theorem RvR.drop {m : Mem} {size : Nat} : ∀ (n : Nat) {rs : List (List AV)} {b o : Nat}, RvR m size rs b o → RvR m size (rs.drop n) b (o + n * size)
  | 0, _, _, _, h => by simpa using h
  | n + 1, [], _, _, _ => by simp [RvR]
  | n + 1, r :: rs, b, o, h => by
    simp only [RvR] at h
    have := RvR.drop n h.2.2
    rw [List.drop_succ_cons]
    rwa [show o + size + n * size = o + (n + 1) * size by rw [Nat.add_mul]; omega] at this
theorem RvR.take {m : Mem} {size : Nat} : ∀ (n : Nat) {rs : List (List AV)} {b o : Nat}, RvR m size rs b o → RvR m size (rs.take n) b o
  | 0, _, _, _, _ => by simp [RvR]
  | n + 1, [], _, _, _ => by simp [RvR]
  | n + 1, r :: rs, b, o, h => by
    simp only [RvR] at h
    simp only [List.take_succ_cons, RvR]
    exact ⟨h.1, h.2.1, RvR.take n h.2.2⟩
/-- The values of a row, read from memory. -/
theorem RvC.vals {m : Mem} : ∀ {as : List AV} {b o : Nat}, RvC m as b o → ∃ l, RvL m as l ∧ (∀ j v, l[j]? = some v → m.w.cell? ⟨b, o + j, none⟩ = some v ∧ v.oneCell' = true)
  | [], _, _, _ => ⟨[], by simp [RvL], by simp⟩
  | a :: as, b, o, h => by
    simp only [RvC] at h
    obtain ⟨⟨v, h1, h1', _, h3⟩, h4⟩ := h
    obtain ⟨l, e1, e2⟩ := RvC.vals h4
    refine ⟨v :: l, by simp only [RvL]; exact ⟨v, l, rfl, h3, e1⟩, fun j u hj => ?_⟩
    cases j with
    | zero => simp at hj; subst hj; exact ⟨h1, h1'⟩
    | succ j => simp at hj; have := e2 j u hj; rwa [show o + 1 + j = o + (j + 1) by omega] at this
theorem RvR.vals {m : Mem} {size : Nat} : ∀ {rs : List (List AV)} {b o : Nat}, RvR m size rs b o → ∃ l, RvL m rs.flatten l ∧ l.length = rs.length * size ∧ (∀ j v, l[j]? = some v → m.w.cell? ⟨b, o + j, none⟩ = some v ∧ v.oneCell' = true)
  | [], _, _, _ => ⟨[], by simp [RvL], by simp, by simp⟩
  | r :: rs, b, o, h => by
    simp only [RvR] at h
    obtain ⟨h1, h2, h3⟩ := h
    obtain ⟨l, e1, e2⟩ := RvC.vals h2
    obtain ⟨l', f1, f2, f3⟩ := RvR.vals h3
    have hl : l.length = size := (RvL.length e1).trans h1
    refine ⟨l ++ l', by simpa using RvL.append e1 f1, by rw [List.length_append, f2, hl, List.length_cons, Nat.add_mul]; omega, fun j u hj => ?_⟩
    by_cases hj' : j < l.length
    · rw [List.getElem?_append_left hj'] at hj
      exact e2 j u hj
    · rw [List.getElem?_append_right (by omega)] at hj
      have := f3 _ u hj
      rwa [show o + size + (j - l.length) = o + j by omega] at this
/-- Rows from their values. -/
theorem RvC.of {m : Mem} : ∀ {as : List AV} {l : List Value} {b o : Nat}, RvL m as l → (∀ j v, l[j]? = some v → m.w.cell? ⟨b, o + j, none⟩ = some v ∧ v.oneCell' = true ∧ St m b (o + j)) → RvC m as b o
  | [], _, _, _, _, _ => by simp only [RvC]
  | a :: as, l, b, o, h, k => by
    simp only [RvL] at h
    obtain ⟨v, vs, rfl, h1, h2⟩ := h
    simp only [RvC]
    refine ⟨⟨v, (k 0 v rfl).1, (k 0 v rfl).2.1, (k 0 v rfl).2.2, h1⟩, RvC.of h2 fun j u hj => ?_⟩
    have := k (j + 1) u (by simpa using hj)
    rwa [show o + (j + 1) = o + 1 + j by omega] at this
theorem RvR.of {m : Mem} {size : Nat} : ∀ {rs : List (List AV)} {l : List Value} {b o : Nat}, (∀ r ∈ rs, r.length = size) → RvL m rs.flatten l → (∀ j v, l[j]? = some v → m.w.cell? ⟨b, o + j, none⟩ = some v ∧ v.oneCell' = true ∧ St m b (o + j)) → RvR m size rs b o
  | [], _, _, _, _, _, _ => by simp only [RvR]
  | r :: rs, l, b, o, hs, h, k => by
    simp only [List.flatten_cons] at h
    have hr : r.length = size := hs r (by simp)
    have h1 := RvL.take r.length h
    have h2 := RvL.drop r.length h
    simp only [List.take_left] at h1
    simp only [List.drop_left] at h2
    simp only [RvR]
    refine ⟨hr, RvC.of h1 fun j v hj => k j v ?_, RvR.of (fun x hx => hs x (by simp [hx])) h2 fun j v hj => ?_⟩
    · rw [List.getElem?_take] at hj
      split at hj
      · exact hj
      · cases hj
    · rw [List.getElem?_drop] at hj
      have := k _ v hj
      rwa [show o + (r.length + j) = o + size + j by omega] at this
end Go.Aw

/- The abstract machine: operations, their steps, code (own work). -/
namespace Go.Aw
open Go

abbrev AV.nilS : AV := .raw (.slice none 0 0)
abbrev AV.undef : AV := .raw Go.undef
def AVLe (a b : AV) : Prop := ∀ m v, Rv m a v → Rv m b v
def AVLes : List AV → List AV → Prop
  | [], l => l = []
  | a :: as, l => ∃ b bs, l = b :: bs ∧ AVLe a b ∧ AVLes as bs

inductive EOpd where
  | t (n : Nat)
  | c (a : AV)

abbrev Env := List (Nat × AV)
def Env.get : Env → Nat → AV
  | [], _ => .top
  | (k, v) :: e, j => bif k == j then v else Env.get e j
def Env.put (e : Env) : Option Nat → AV → Env
  | none, _ => e
  | some k, v => (k, v) :: e
def EOpd.ev (env : Env) : EOpd → AV
  | .t n => env.get n
  | .c a => a

/-- The kind of a plain cell. -/
inductive LK where
  | b
  | i (k : IntKind)
  | s
  deriving DecidableEq

inductive EOp where
  | mv (x : EOpd)
  | pick (c a b : EOpd)
  | nilck (x : EOpd)
  | box (T : TypeId) (x : EOpd)
  | alloc (T : TypeId) (zero : List AV)
  | build (zero : List AV) (parts : List (Nat × Nat × EOpd))
  | bslice (T size n : Nat) (zero : List AV) (parts : List (Nat × EOpd))
  | bsliceO (T size n : Nat) (zero : List AV) (parts : List (Nat × EOpd))
  | load (agg : Bool) (n : Nat) (x : EOpd)
  | loadD (me : Nat) (agg : Bool) (n : Nat) (x : EOpd)
  | store (n : Nat) (a v : EOpd)
  | faddr (off : Nat) (x : EOpd)
  | field (agg : Bool) (off n : Nat) (x : EOpd)
  | iaddr (size : Nat) (x i : EOpd)
  | iaddrA (len size : Nat) (x i : EOpd)
  | idxA (agg : Bool) (len size : Nat) (x i : EOpd)
  | idxS (x i : EOpd)
  | bin (op : BinOp) (x y : EOpd)
  | binB (op : BinOp) (x y : EOpd)
  | eqA (neg : Bool) (T : TypeId) (ks : List LK) (x y : EOpd)
  | not (x : EOpd)
  | neg (x : EOpd)
  | conv (k : IntKind) (x : EOpd)
  | lenS (x : EOpd)
  | len (x : EOpd)
  | lenA (n : Nat)
  | minmax (isMax : Bool) (xs : List EOpd)
  | append (T size bytes : Nat) (x y : EOpd)
  | slS (x : EOpd) (lo hi : Option EOpd)
  | slV (size : Nat) (x : EOpd) (lo hi mx : Option EOpd)
  | extract (i : Nat) (x : EOpd)
  | mkfn (f : FuncId) (cap : List EOpd)
  | mkif (T : TypeId) (x : EOpd)
  | call (f : FuncId) (args : List EOpd)
  | callv (x : EOpd) (args : List EOpd)
  | pcall (f : FuncId) (args : List EOpd)
  | pcallv (x : EOpd) (args : List EOpd)
  | pcallR (f : FuncId) (args : List EOpd) (r : AV)
  | pcallvR (x : EOpd) (args : List EOpd) (r : AV)
  | panic (x : EOpd)
  | storeD (me : Nat) (others : List Nat) (n : Nat) (a v : EOpd)
  | isnil (neg : Bool) (x : EOpd)
  | faddrM (off : Nat) (x : EOpd)
  | lenM (x : EOpd)
  | iaddrM (size : Nat) (x i : EOpd)
  | loadM (agg : Bool) (n : Nat) (x : EOpd)
  | appendM (T size bytes : Nat) (x y : EOpd)
  | slM (size : Nat) (x : EOpd) (lo hi : Option EOpd)
  | bsliceM (T size n : Nat) (zero : List AV) (parts : List (Nat × EOpd))
  | pcallM (T size : Nat) (f : FuncId) (args : List EOpd)
  | pcallMR (T size : Nat) (f : FuncId) (args : List EOpd) (rows : List (List AV))

def AV.one : AV → Bool
  | .agg _ => false
  | .tup _ => false
  | .top => false
  | .raw v => v.oneCell'
  | _ => true
def AV.cells : AV → List AV
  | .agg cs => cs
  | a => [a]
/-- Its cells are known by number. -/
def AV.okc : AV → Bool
  | .agg _ => true
  | a => a.one
def AV.ofCells (agg : Bool) (l : List AV) : Option AV :=
  bif agg then some (.agg l) else match l with
    | [a] => some a
    | _ => none

def binInt (op : BinOp) (k : IntKind) (a b : Int) : Option AV :=
  match op with
  | .add => some (.int k (k.wrap (a + b)))
  | .sub => some (.int k (k.wrap (a - b)))
  | .mul => some (.int k (k.wrap (a * b)))
  | .eql => some (.bool (decide (a = b)))
  | .neq => some (.bool (!decide (a = b)))
  | .lss => some (.bool (decide (a < b)))
  | .leq => some (.bool (decide (a ≤ b)))
  | .gtr => some (.bool (decide (b < a)))
  | .geq => some (.bool (decide (b ≤ a)))
  | _ => none
def binStr (op : BinOp) (a b : List UInt8) : Option AV :=
  match op with
  | .eql => some (.bool (decide (a = b)))
  | .neq => some (.bool (!decide (a = b)))
  | .lss => some (.bool (Go.Op.bytesLess a b))
  | .leq => some (.bool (Go.Op.bytesLess a b || decide (a = b)))
  | .gtr => some (.bool (!(Go.Op.bytesLess a b || decide (a = b))))
  | .geq => some (.bool (!Go.Op.bytesLess a b))
  | _ => none
def binBool (op : BinOp) (a b : Bool) : Option AV :=
  match op with
  | .eql => some (.bool (a == b))
  | .neq => some (.bool (!(a == b)))
  | _ => none

/-- Equality of two plain values, cell by cell. -/
def eqCell : LK → AV → AV → Option Bool
  | .i l, .int k a, .int j b => if k = l ∧ j = l then some (decide (a = b)) else none
  | .s, .str a, .str b => some (decide (a = b))
  | .b, .bool a, .bool b => some (a == b)
  | _, _, _ => none
def eqCells : List LK → List AV → List AV → Option Bool
  | [], [], [] => some true
  | k :: ks, a :: as, b :: bs => match eqCell k a b, eqCells ks as bs with
    | some x, some y => some (x && y)
    | _, _ => none
  | _, _, _ => none

def setRange (l : List AV) (o : Nat) (new : List AV) : List AV := l.take o ++ new ++ l.drop (o + new.length)

def buildParts (env : Env) (cells : List AV) : List (Nat × Nat × EOpd) → Option (List AV)
  | [] => some cells
  | (off, size, x) :: rest =>
    let cs := (x.ev env).cells
    if cs.length = size ∧ off + size ≤ cells.length ∧ (x.ev env).okc = true then buildParts env (setRange cells off cs) rest else none

def minmaxAV (isMax : Bool) : AV → List AV → Option AV
  | .int k a, [] => some (.int k a)
  | .int k a, .int j b :: rest => if k = j then minmaxAV isMax (.int k (if isMax then max a b else min a b)) rest else none
  | _, _ => none

/-- The value of an operation that only computes or reads, where nothing need be known beside. -/
def peval (op : EOp) (env : Env) (H : AHeap) : Option AV :=
  match op with
  | .mv x => some (x.ev env)
  | .pick c a b => match c.ev env with
    | .bool true => some (a.ev env)
    | .bool false => some (b.ev env)
    | _ => none
  | .nilck x => match x.ev env with
    | .ptr b o => some (.ptr b o)
    | .rp r o => some (.rp r o)
    | .fn f c => some (.fn f c)
    | _ => none
  | .build zero parts => (buildParts env zero parts).map .agg
  | .load agg n x => match x.ev env with
    | .ptr b o => match H.blk b with
      | some (_, cs) => if o + n ≤ cs.length then AV.ofCells agg ((cs.drop o).take n) else none
      | none => none
    | .rp row o => if o + n ≤ row.length then AV.ofCells agg ((row.drop o).take n) else none
    | _ => none
  | .loadD me agg n x => match env.get me, x.ev env with
    | .ptr b 0, .ptr b' o => if b' = b then (match H.blk b' with
      | some (_, cs) => if o + n ≤ cs.length then AV.ofCells agg ((cs.drop o).take n) else none
      | none => none) else none
    | _, _ => none
  | .faddr off x => match x.ev env with
    | .ptr b o => some (.ptr b (o + off))
    | .rp row o => some (.rp row (o + off))
    | _ => none
  | .field agg off n x => match x.ev env with
    | .agg cs => if off + n ≤ cs.length then AV.ofCells agg ((cs.drop off).take n) else none
    | _ => none
  | .bin op x y => match x.ev env, y.ev env with
    | .int k a, .int j b => if k = j then binInt op k a b else none
    | .str a, .str b => binStr op a b
    | _, _ => none
  | .binB op x y => match x.ev env, y.ev env with
    | .bool a, .bool b => binBool op a b
    | _, _ => none
  | .eqA neg _ ks x y => match x.ev env, y.ev env with
    | .agg a, .agg b => (eqCells ks a b).map fun r => .bool (bif neg then !r else r)
    | _, _ => none
  | .not x => match x.ev env with
    | .bool b => some (.bool (!b))
    | _ => none
  | .neg x => match x.ev env with
    | .int k n => some (.int k (k.wrap (0 - n)))
    | _ => none
  | .conv k x => match x.ev env with
    | .int _ n => some (.int k (k.wrap n))
    | _ => none
  | .lenS x => match x.ev env with
    | .str s => some (.int .i64 s.length)
    | _ => none
  | .len x => match x.ev env with
    | .vs _ rows => some (.int .i64 rows.length)
    | .own _ _ rows => some (.int .i64 rows.length)
    | .raw (.slice _ n _) => some (.int .i64 n)
    | _ => none
  | .lenA n => some (.int .i64 n)
  | .minmax isMax xs => match xs.map (EOpd.ev env) with
    | a :: rest => minmaxAV isMax a rest
    | [] => none
  | .extract i x => match x.ev env with
    | .tup l => l[i]?
    | _ => none
  | .mkfn f cap => some (.fn f (cap.map (EOpd.ev env)))
  | .mkif T x => some (.ifc T (x.ev env))
  | _ => none

def Own.frz (T size n : Nat) : Own := ⟨T, size, n, n, none⟩
def Own.mu (T size ver : Nat) (rows : List (List AV)) : Own := ⟨T, size, 0, ver, some rows⟩
/-- What a step that may change its place among others gives: a value; a new block; a new token. -/
inductive D where
  | det (v : AV)
  | nblk (T : TypeId) (cs : List AV)
  | nt (o : Own) (v : Nat → AV)
abbrev D.ntok (T size : Nat) (rows : List (List AV)) : D := .nt (.frz T size rows.length) fun x => .own x size rows
abbrev D.nms (T size : Nat) (rows : List (List AV)) : D := .nt (.mu T size 0 rows) fun x => .ms x 0
def D.fresh (d : D) (x : Nat) (H : AHeap) : Prop :=
  match d with
  | .det _ => True
  | .nblk _ _ => H.blk x = none
  | .nt _ _ => H.tok x = none
def D.val (d : D) (x : Nat) : AV :=
  match d with
  | .det v => v
  | .nblk _ _ => .ptr x 0
  | .nt _ v => v x
def D.heap (d : D) (H : AHeap) (x : Nat) : AHeap :=
  match d with
  | .det _ => H
  | .nblk T cs => H.setB x T cs
  | .nt o _ => H.setT x o

inductive Out where
  | ret (a : AV)
  | pan (a : AV)
def RvOut (m : Mem) : Out → Ending → Prop
  | .ret a, e => ∃ v, e = .returned v ∧ Rv m a v
  | .pan a, e => ∃ v, e = .panicked [{ v, recovered := false }] ∧ Rv m a v

/-- The contract of a function: from a memory as H says, with such arguments, the call ends as Q says. -/
def ACalls (P : Program) (f : FuncId) (args : List AV) (H : AHeap) (Q : Out → AHeap → Prop) : Prop :=
  ∀ (m : Mem) (vs : List Value), m.H = H → RH m → RvL m args vs →
    Calls P f ⟨vs⟩ m.w fun e w' => ∃ o H' L' T', RH ⟨w', H', L', T'⟩ ∧ Ev m ⟨w', H', L', T'⟩ ∧ RvOut ⟨w', H', L', T'⟩ o e ∧ Q o H'
/-- A function that gives r and leaves what is known as it is. -/
def Pure (P : Program) (f : FuncId) (args : List AV) (r : AV) : Prop := ∀ H, ACalls P f args H fun o H' => o = .ret r ∧ H' = H

/-- A function that gives a new slice, to be written at will, and leaves what is known as it is. -/
def PureM (P : Program) (f : FuncId) (args : List AV) (T size : Nat) (rows : List (List AV)) : Prop := ∀ H, ACalls P f args H fun o H' => ∃ t, H.tok t = none ∧ o = .ret (.ms t 0) ∧ H' = H.setT t (.mu T size 0 rows)

def callable (P : Program) (f : FuncId) : Bool := match P.funcs[f]? with | some fn => fn.body.isSome && !(fn.name == "runtime.NumGoroutine") | none => false

def rowsOf (size : Nat) : AV → Option (List (List AV))
  | .vs s rows => if s = size then some rows else none
  | .own _ s rows => if s = size then some rows else none
  | .raw (.slice _ 0 _) => some []
  | .str s => if size = 1 then some (s.map fun c => [.int .u8 c.toNat]) else none
  | _ => none
def bslRows (env : Env) (parts : List (Nat × EOpd)) : List (List AV) := parts.map fun p => (p.2.ev env).cells
def optNat (env : Env) (dflt : Nat) : Option EOpd → Option Nat
  | none => some dflt
  | some x => match x.ev env with
    | .int _ (.ofNat n) => some n
    | _ => none

inductive Desc (P : Program) : EOp → Env → AHeap → D → Prop
  | pure {op env H v} (h : peval op env H = some v) : Desc P op env H (.det v)
  | quo {x y env H k a b} (hx : x.ev env = .int k a) (hy : y.ev env = .int k b) (hb : b ≠ 0) : Desc P (.bin .quo x y) env H (.det (.int k (k.wrap (a.tdiv b))))
  | rem {x y env H k a b} (hx : x.ev env = .int k a) (hy : y.ev env = .int k b) (hb : b ≠ 0) : Desc P (.bin .rem x y) env H (.det (.int k (a.tmod b)))
  | cat {x y env H a b} (hx : x.ev env = .str a) (hy : y.ev env = .str b) (hb : a.length + b.length ≤ maxLen) : Desc P (.bin .add x y) env H (.det (.str (a ++ b)))
  | idxV {size x i env H rows k n r} (hx : x.ev env = .vs size rows) (hi : i.ev env = .int k n) (h0 : 0 ≤ n) (hr : rows[n.toNat]? = some r) : Desc P (.iaddr size x i) env H (.det (.rp r 0))
  | idxO {size x i env H t rows k n r} (hx : x.ev env = .own t size rows) (hi : i.ev env = .int k n) (h0 : 0 ≤ n) (hr : rows[n.toNat]? = some r) : Desc P (.iaddr size x i) env H (.det (.rp r 0))
  | idxM {size x i env H b o cap k} {len : Nat} {n : Int} (hx : x.ev env = .raw (.slice (some ⟨b, o, none⟩) len cap)) (hi : i.ev env = .int k n) (h0 : 0 ≤ n) (h1 : n < (len : Int)) : Desc P (.iaddr size x i) env H (.det (.ptr b (o + n.toNat * size)))
  | idxP {size x i env H b o k} {len : Nat} {n : Int} (hx : x.ev env = .ptr b o) (hi : i.ev env = .int k n) (h0 : 0 ≤ n) (h1 : n < (len : Int)) : Desc P (.iaddrA len size x i) env H (.det (.ptr b (o + n.toNat * size)))
  | idxR {size x i env H row o k} {len : Nat} {n : Int} (hx : x.ev env = .rp row o) (hi : i.ev env = .int k n) (h0 : 0 ≤ n) (h1 : n < (len : Int)) : Desc P (.iaddrA len size x i) env H (.det (.rp row (o + n.toNat * size)))
  | idxA {agg size x i env H cs k} {len : Nat} {n : Int} {v} (hx : x.ev env = .agg cs) (hi : i.ev env = .int k n) (h0 : 0 ≤ n) (h1 : n < (len : Int)) (hl : n.toNat * size + size ≤ cs.length) (hv : AV.ofCells agg ((cs.drop (n.toNat * size)).take size) = some v) : Desc P (.idxA agg len size x i) env H (.det v)
  | idxS {x i env H s k n c} (hx : x.ev env = .str s) (hi : i.ev env = .int k n) (h0 : 0 ≤ n) (hc : s[n.toNat]? = some c) : Desc P (.idxS x i) env H (.det (.int .u8 c.toNat))
  | slS {x lo hi env H s l h} (hx : x.ev env = .str s) (hl : optNat env 0 lo = some l) (hh : optNat env s.length hi = some h) (h1 : l ≤ h) (h2 : h ≤ s.length) : Desc P (.slS x lo hi) env H (.det (.str ((s.take h).drop l)))
  | slV {size x lo hi env H rows l h} (hx : x.ev env = .vs size rows) (hl : optNat env 0 lo = some l) (hh : optNat env rows.length hi = some h) (h1 : l ≤ h) (h2 : h ≤ rows.length) : Desc P (.slV size x lo hi none) env H (.det (.vs size ((rows.take h).drop l)))
  | box {T x env H} (hx : ((x.ev env).cells).all AV.one = true) : Desc P (.box T x) env H (.nblk T (x.ev env).cells)
  | alloc {T zero env H} (hz : zero.all AV.one = true) : Desc P (.alloc T zero) env H (.nblk T zero)
  | bsliceV {T size n zero parts env H rows} (hr : bslRows env parts = rows) (hs : rows.all (fun r => r.length == size) = true) (ho : rows.flatten.all AV.one = true) : Desc P (.bslice T size n zero parts) env H (.det (.vs size rows))
  | bsliceO {T size n zero parts env H rows} (hr : bslRows env parts = rows) (hs : rows.all (fun r => r.length == size) = true) (ho : rows.flatten.all AV.one = true) (h0 : size ≠ 0) : Desc P (.bsliceO T size n zero parts) env H (.ntok T size rows)
  | app0 {T size bytes x y env H rows} (hx : x.ev env = .nilS) (hy : rowsOf size (y.ev env) = some rows) (hb : rows.length * bytes ≤ 140737488355328) (hm : rows.length ≤ maxLen) (h0 : size ≠ 0) : Desc P (.append T size bytes x y) env H (.ntok T size rows)
  | lenM {x env H t ver T size rows} (hx : x.ev env = .ms t ver) (ht : H.tok t = some (.mu T size ver rows)) : Desc P (.lenM x) env H (.det (.int .i64 rows.length))
  | isnilT {neg x env H} (hx : x.ev env = .nilS) : Desc P (.isnil neg x) env H (.det (.bool (!neg)))
  | isnilF {neg x env H size rows} (hx : x.ev env = .vs size rows) (hr : rows ≠ []) : Desc P (.isnil neg x) env H (.det (.bool neg))
  | faddrM {off x env H t ver k T size rows} (hx : x.ev env = .mp t ver k) (ht : H.tok t = some (.mu T size ver rows)) : Desc P (.faddrM off x) env H (.det (.mp t ver (k + off)))
  | iaddrM {size x i env H t ver T rows k n} (hx : x.ev env = .ms t ver) (ht : H.tok t = some (.mu T size ver rows)) (hi : i.ev env = .int k n) (h0 : 0 ≤ n) (h1 : n < (rows.length : Int)) : Desc P (.iaddrM size x i) env H (.det (.mp t ver (n.toNat * size)))
  | loadM {agg n x env H t ver k T size rows v} (hx : x.ev env = .mp t ver k) (ht : H.tok t = some (.mu T size ver rows)) (hl : k + n ≤ rows.flatten.length) (hv : AV.ofCells agg ((rows.flatten.drop k).take n) = some v) : Desc P (.loadM agg n x) env H (.det v)
  | bsliceM {T size n zero parts env H rows} (hr : bslRows env parts = rows) (hs : rows.all (fun r => r.length == size) = true) (ho : rows.flatten.all AV.one = true) (h0 : size ≠ 0) : Desc P (.bsliceM T size n zero parts) env H (.nms T size rows)
  | appM0 {T size bytes x y env H rows} (hx : x.ev env = .nilS) (hy : rowsOf size (y.ev env) = some rows) (hb : rows.length * bytes ≤ 140737488355328) (hm : rows.length ≤ maxLen) (h0 : size ≠ 0) : Desc P (.appendM T size bytes x y) env H (.nms T size rows)
  | pcallM' {f args env H as T size rows} (ha : AVLes (args.map (EOpd.ev env)) as) (h : PureM P f as T size rows) : Desc P (.pcallMR T size f args rows) env H (.nms T size rows)
  | pcall {f args env H as r} (ha : AVLes (args.map (EOpd.ev env)) as) (h : Pure P f as r) : Desc P (.call f args) env H (.det r)
  | pcallv {x args env H f cap as r} (hx : x.ev env = .fn f cap) (hf : callable P f = true) (ha : AVLes (args.map (EOpd.ev env) ++ cap) as) (h : Pure P f as r) : Desc P (.callv x args) env H (.det r)
  | pcall' {f args env H as r} (ha : AVLes (args.map (EOpd.ev env)) as) (h : Pure P f as r) : Desc P (.pcallR f args r) env H (.det r)
  | pcallv' {x args env H f cap as r} (hx : x.ev env = .fn f cap) (hf : callable P f = true) (ha : AVLes (args.map (EOpd.ev env) ++ cap) as) (h : Pure P f as r) : Desc P (.pcallvR x args r) env H (.det r)

/-- How a step goes on with a callee's ending. -/
def OutK (K Rp : AV → AHeap → Prop) (H' : AHeap) : Out → Prop
  | .ret v => K v H'
  | .pan v => Rp v H'

inductive IStep (P : Program) : EOp → Env → AHeap → (AV → AHeap → Prop) → (AV → AHeap → Prop) → Prop
  | sw {op env H K Rp} (d : D) (hd : Desc P op env H d) (h : ∀ x, d.fresh x H → K (d.val x) (d.heap H x)) : IStep P op env H K Rp
  | store {n a v env H K Rp b o T cs} (ha : a.ev env = .ptr b o) (hb : H.blk b = some (T, cs)) (hn : (v.ev env).cells.length = n) (hl : o + n ≤ cs.length) (ho : ((v.ev env).cells).all AV.one = true)
      (h : K .undef (H.setB b T (setRange cs o (v.ev env).cells))) : IStep P (.store n a v) env H K Rp
  | storeD {me others n a v env H K Rp b o T cs} (hme : env.get me = .ptr b 0) (hoth : ∀ s ∈ others, ∃ b', env.get s = .ptr b' 0 ∧ b' ≠ b) (ha : a.ev env = .ptr b o) (hb : H.blk b = some (T, cs)) (hn : (v.ev env).cells.length = n) (hl : o + n ≤ cs.length) (ho : ((v.ev env).cells).all AV.one = true)
      (h : K .undef (H.setB b T (setRange cs o (v.ev env).cells))) : IStep P (.storeD me others n a v) env H K Rp
  | append {T size bytes x y env H K Rp t rows new} (hx : x.ev env = .own t size rows) (ht : H.tok t = some (.frz T size rows.length)) (hy : rowsOf size (y.ev env) = some new) (hb : (rows.length + new.length) * bytes ≤ 140737488355328) (hm : rows.length + new.length ≤ maxLen)
      (h : K (.own t size (rows ++ new)) (H.setT t (.frz T size (rows.length + new.length)))) : IStep P (.append T size bytes x y) env H K Rp
  | appendM {T size bytes x y env H K Rp t ver rows new} (hx : x.ev env = .ms t ver) (ht : H.tok t = some (.mu T size ver rows)) (hy : rowsOf size (y.ev env) = some new) (hb : (rows.length + new.length) * bytes ≤ 140737488355328) (hm : rows.length + new.length ≤ maxLen)
      (h : K (.ms t (ver + 1)) (H.setT t (.mu T size (ver + 1) (rows ++ new)))) : IStep P (.appendM T size bytes x y) env H K Rp
  | isnilU {neg x env H K Rp size rows} (hx : x.ev env = .vs size rows) (h : ∀ b, K (.bool b) H) : IStep P (.isnil neg x) env H K Rp
  | slM {size x lo hi env H K Rp t ver T rows h} (hx : x.ev env = .ms t ver) (ht : H.tok t = some (.mu T size ver rows)) (hl : optNat env 0 lo = some 0) (hh : optNat env rows.length hi = some h) (h1 : h ≤ rows.length)
      (h : K (.ms t (ver + 1)) (H.setT t (.mu T size (ver + 1) (rows.take h)))) : IStep P (.slM size x lo hi) env H K Rp
  | storeM {n a v env H K Rp t ver k T size rows rows'} (ha : a.ev env = .mp t ver k) (ht : H.tok t = some (.mu T size ver rows)) (hn : (v.ev env).cells.length = n) (hl : k + n ≤ rows.flatten.length) (ho : ((v.ev env).cells).all AV.one = true)
      (hf : rows'.flatten = setRange rows.flatten k (v.ev env).cells) (hr : ∀ r ∈ rows', r.length = size) (hlen : rows'.length = rows.length)
      (h : K .undef (H.setT t (.mu T size ver rows'))) : IStep P (.store n a v) env H K Rp
  | call {f args env H K Rp as} (Q : Out → AHeap → Prop) (ha : AVLes (args.map (EOpd.ev env)) as) (hc : ACalls P f as H Q) (h : ∀ o H', Q o H' → OutK K Rp H' o) : IStep P (.call f args) env H K Rp
  | callv {x args env H K Rp f cap as} (Q : Out → AHeap → Prop) (hx : x.ev env = .fn f cap) (hf : callable P f = true) (ha : AVLes (args.map (EOpd.ev env) ++ cap) as) (hc : ACalls P f as H Q) (h : ∀ o H', Q o H' → OutK K Rp H' o) : IStep P (.callv x args) env H K Rp
  | panic {x env H K Rp t v} (hx : x.ev env = .ifc t v) (h : Rp (.ifc t v) H) : IStep P (.panic x) env H K Rp

structure EI where
  dst : Option Nat
  guard : Option (Nat × Bool)
  op : EOp
def wanted (i : EI) (env : Env) : Option Bool :=
  match i.guard with
  | none => some true
  | some (j, want) => match env.get j with
    | .bool b => some (b == want)
    | .raw (.tuple ⟨[]⟩) => some false
    | _ => none

/-- A list of operations, in the order in which it stands. -/
def DM (P : Program) : List EI → Env → AHeap → (Env → AHeap → Prop) → (AV → AHeap → Prop) → Prop
  | [], env, H, K, _ => K env H
  | i :: l, env, H, K, Rp => match wanted i env with
    | some true => IStep P i.op env H (fun v H' => DM P l (env.put i.dst v) H' K Rp) Rp
    | some false => DM P l (env.put i.dst .undef) H K Rp
    | none => False

def AV.rows : AV → List (List AV)
  | .vs _ rows => rows
  | _ => []
/-- The pure calls of a region, with what they give. -/
def annotate : List EI → List AV → List EI
  | [], _ => []
  | ⟨d, g, .pcall f args⟩ :: l, r :: rs => ⟨d, g, .pcallR f args r⟩ :: annotate l rs
  | ⟨d, g, .pcallv x args⟩ :: l, r :: rs => ⟨d, g, .pcallvR x args r⟩ :: annotate l rs
  | ⟨d, g, .pcallM T size f args⟩ :: l, r :: rs => ⟨d, g, .pcallMR T size f args (AV.rows r)⟩ :: annotate l rs
  | i :: l, rs => i :: annotate l rs

inductive EC where
  | skip
  | region (ops : List EI) (draw : Bool)
  | seq (a b : EC)
  | cond (c : EOpd) (a b : EC)
  | block (id : Nat) (body : EC)
  | loop (body : EC)
  | exit (id : Nat)
  | ret

inductive Item where
  | c (c : EC)
  | blk (id : Nat)
  | round (I : Nat → Env → AHeap → Prop) (m0 : Nat)

def popTo (id : Nat) : List Item → Option (List Item)
  | .blk j :: k => if j = id then some k else popTo id k
  | _ :: k => popTo id k
  | [] => none

inductive ERes where
  | t (n : Nat)
  | cell (agg : Bool) (n : Nat) (addr : Nat)
def ERes.ev (env : Env) (H : AHeap) : ERes → Option AV
  | .t n => some (env.get n)
  | .cell agg n a => peval (.load agg n (.t a)) env H
def results (rs : List ERes) (env : Env) (H : AHeap) : Option AV :=
  match rs with
  | [r] => r.ev env H
  | rs => (rs.mapM (ERes.ev env H)).map .tup

/-- The walk. R: what must hold of the ending. -/
inductive AM (P : Program) (rs : List ERes) (R : Out → AHeap → Prop) : List Item → Env → AHeap → Prop
  | done {env H v} (hv : Aw.results rs env H = some v) (h : R (.ret v) H) : AM P rs R [] env H
  | ret {k env H v} (hv : Aw.results rs env H = some v) (h : R (.ret v) H) : AM P rs R (.c .ret :: k) env H
  | skip {k env H} (h : AM P rs R k env H) : AM P rs R (.c .skip :: k) env H
  | blkEnd {id k env H} (h : AM P rs R k env H) : AM P rs R (.blk id :: k) env H
  | seq {a b k env H} (h : AM P rs R (.c a :: .c b :: k) env H) : AM P rs R (.c (.seq a b) :: k) env H
  | block {id body k env H} (h : AM P rs R (.c body :: .blk id :: k) env H) : AM P rs R (.c (.block id body) :: k) env H
  | exit {id k k' env H} (hk : popTo id k = some k') (h : AM P rs R k' env H) : AM P rs R (.c (.exit id) :: k) env H
  | cond {c a b k env H t} (hc : c.ev env = .bool t) (h1 : t = true → AM P rs R (.c a :: k) env H) (h2 : t = false → AM P rs R (.c b :: k) env H) : AM P rs R (.c (.cond c a b) :: k) env H
  | region {ops draw k env H} (anns : List AV) (K : Env → AHeap → Prop) (h : DM P (annotate ops anns) env H K (fun v H' => R (.pan v) H')) (hK : ∀ env' H', K env' H' → AM P rs R k env' H') : AM P rs R (.c (.region ops draw) :: k) env H
  | loop {body k env H} (I : Nat → Env → AHeap → Prop) (m : Nat) (h0 : I m env H) (h : ∀ m' env' H', I m' env' H' → AM P rs R (.c body :: .round I m' :: k) env' H') : AM P rs R (.c (.loop body) :: k) env H
  | round {I m0 k env H} (m : Nat) (h0 : I m env H) (h1 : m < m0) : AM P rs R (.round I m0 :: k) env H
  | conv {k env H} (S : Env → AHeap → Prop) (hs : ∀ m : Mem, m.H = H → RH m → ∃ env' H' L' T', S env' H' ∧ RH ⟨m.w, H', L', T'⟩ ∧ Ev m ⟨m.w, H', L', T'⟩ ∧ ∀ j v, Rv m (env.get j) v → Rv ⟨m.w, H', L', T'⟩ (env'.get j) v) (h : ∀ env' H', S env' H' → AM P rs R k env' H') : AM P rs R k env H
  | weak {k env env' H} (he : ∀ j, AVLe (env.get j) (env'.get j)) (h : AM P rs R k env' H) : AM P rs R k env H
end Go.Aw

/- Steps of the walk, to be used one by one or in batches (own work). -/
namespace Go.Aw
open Go
variable {P : Program} {rs : List ERes} {R : Out → AHeap → Prop}

theorem AM.reg {ops draw k env H} (anns : List AV) (h : DM P (annotate ops anns) env H (fun env' H' => AM P rs R k env' H') (fun v H' => R (.pan v) H')) : AM P rs R (.c (.region ops draw) :: k) env H :=
  AM.region anns _ h fun _ _ h => h
theorem DM.nil {env H K Rp} (h : K env H) : DM P [] env H K Rp := h
theorem DM.step {i l env H K Rp} (hw : wanted i env = some true) (h : IStep P i.op env H (fun v H' => DM P l (env.put i.dst v) H' K Rp) Rp) : DM P (i :: l) env H K Rp := by
  simp only [DM, hw]; exact h
theorem DM.skip {i l env H K Rp} (hw : wanted i env = some false) (h : DM P l (env.put i.dst .undef) H K Rp) : DM P (i :: l) env H K Rp := by
  simp only [DM, hw]; exact h
theorem DM.pv {i l env H K Rp v} (hw : wanted i env = some true) (hv : peval i.op env H = some v) (h : DM P l (env.put i.dst v) H K Rp) : DM P (i :: l) env H K Rp :=
  DM.step hw (.sw (.det v) (.pure hv) fun _ _ => h)
theorem DM.de {i l env H K Rp} (d : D) (hw : wanted i env = some true) (hd : Desc P i.op env H d) (h : ∀ x, d.fresh x H → DM P l (env.put i.dst (d.val x)) (d.heap H x) K Rp) : DM P (i :: l) env H K Rp :=
  DM.step hw (.sw d hd h)

/-- As far as it goes without being told anything. -/
def prun : Nat → List EI → Env → AHeap → List EI × Env
  | 0, l, env, _ => (l, env)
  | _ + 1, [], env, _ => ([], env)
  | n + 1, i :: l, env, H => match wanted i env with
    | some false => prun n l (env.put i.dst .undef) H
    | some true => match peval i.op env H with
      | some v => prun n l (env.put i.dst v) H
      | none => (i :: l, env)
    | none => (i :: l, env)
theorem DM.run (n : Nat) {l env H K Rp} (h : DM P (prun n l env H).1 (prun n l env H).2 H K Rp) : DM P l env H K Rp := by
  induction n generalizing l env with
  | zero => exact h
  | succ n ih =>
    cases l with
    | nil => exact h
    | cons i l =>
      simp only [prun] at h
      split at h
      · rename_i hw
        exact DM.skip hw (ih h)
      · rename_i hw
        split at h
        · rename_i v hv
          exact DM.pv hw hv (ih h)
        · exact h
      · exact h
end Go.Aw

/- What the steps of a world do to what is known of it (own work). -/
namespace Go.Aw
open Go
set_option linter.unusedVariables false

theorem hpold (w : World) (o : Obj) (i : Nat) (h : i < w.heap.size) : (w.alloc o).heap[i]? = w.heap[i]? := by
  show (w.heap.push o)[i]? = _
  rw [Array.getElem?_push, if_neg (by omega)]
theorem hpnew (w : World) (o : Obj) : (w.alloc o).heap[w.heap.size]? = some o := by
  show (w.heap.push o)[w.heap.size]? = _
  rw [Array.getElem?_push, if_pos rfl]

theorem Ev.hid {m : Mem} {w' : World} (h1 : w'.os = m.w.os) (h2 : w'.tape = m.w.tape) (h3 : w'.output = m.w.output) (h4 : m.w.heap.size ≤ w'.heap.size) (h5 : ∀ b, b < m.w.heap.size → w'.heap[b]? = m.w.heap[b]?) : Ev m { m with w := w' } where
  os := h1
  tape := h2
  output := h3
  size := h4
  T := Nat.le_refl _
  block := fun b hb h h' => ⟨h5 b hb, h, h'⟩
  cell := fun b o hs => ⟨⟨Nat.lt_of_lt_of_le hs.lt h4, hs.blk, hs.tok⟩, World.cell?_of_block (a := ⟨b, o, none⟩) (h5 b hs.lt)⟩
  tok := fun t i' _ h => ⟨i', h, Nat.le_refl _, rfl, fun _ => rfl⟩

theorem ownsRow_mono {w w' : World} {base : Nat} {e : TypeId} {size n : Nat} {v : Value} {xs : List Value} (h : w.ownsRow base e size v n xs) (hk : ∀ b, v.ownBlock = some b → w'.heap[b]? = w.heap[b]?) : w'.ownsRow base e size v n xs := by
  refine ⟨h.1, ?_⟩
  rcases h.2 with hn | ⟨g, cap, cur, rfl, hb, hgg, rest⟩
  · exact .inl hn
  · exact .inr ⟨g, cap, cur, rfl, hb, by rw [hk g (by simp [Value.ownBlock])]; exact hgg, rest⟩

/-- Nothing that is known has turned. -/
theorem RH.hid {m : Mem} (r : RH m) {w' : World} (h1 : w'.os = m.w.os) (h2 : w'.tape = m.w.tape) (h3 : w'.output = m.w.output) (h4 : m.w.heap.size ≤ w'.heap.size) (h5 : ∀ b, b < m.w.heap.size → w'.heap[b]? = m.w.heap[b]?) : RH { m with w := w' } where
  blk := fun b T cs hb => by
    obtain ⟨l, e1, e2, e3⟩ := r.blk b T cs hb
    have hlt : b < m.w.heap.size := (Array.getElem?_eq_some_iff.1 e1).1
    exact ⟨l, (h5 b hlt).trans e1, RvL.ev (Ev.hid h1 h2 h3 h4 h5) cs l e2, e3⟩
  tok := fun t i ht => by
    obtain ⟨k1, k2, ⟨xs, k3, k5⟩, k4⟩ := r.tok t i ht
    exact ⟨k1, k2, ⟨xs, ownsRow_mono k3 fun b hb => h5 b (k3.lt b hb).2, fun rows hr => ⟨RvL.ev (Ev.hid h1 h2 h3 h4 h5) _ _ (k5 rows hr).1, (k5 rows hr).2⟩⟩, k4⟩

theorem Ev.drew (m : Mem) : Ev m { m with w := m.w.drew } := Ev.hid rfl rfl rfl (Nat.le_refl _) fun _ _ => rfl
theorem RH.drew {m : Mem} (r : RH m) : RH { m with w := m.w.drew } := r.hid rfl rfl rfl (Nat.le_refl _) fun _ _ => rfl
theorem Ev.alloc (m : Mem) (o : Obj) : Ev m { m with w := m.w.alloc o } := Ev.hid rfl rfl rfl (by simp) fun b hb => hpold m.w o b hb
theorem RH.alloc {m : Mem} (r : RH m) (o : Obj) : RH { m with w := m.w.alloc o } := r.hid rfl rfl rfl (by simp) fun b hb => hpold m.w o b hb

theorem blk_lt {m : Mem} (r : RH m) {b T cs} (h : m.H.blk b = some (T, cs)) : b < m.w.heap.size := by
  obtain ⟨l, e1, _⟩ := r.blk b T cs h
  exact (Array.getElem?_eq_some_iff.1 e1).1
theorem blk_new {m : Mem} (r : RH m) : m.H.blk m.w.heap.size = none := by
  cases h : m.H.blk m.w.heap.size with
  | none => rfl
  | some x => have := blk_lt r (b := m.w.heap.size) (T := x.1) (cs := x.2) h; omega
theorem tok_lt {m : Mem} (r : RH m) {t i b} (h : m.H.tok t = some i) (hb : (m.L t).ownBlock = some b) : b < m.w.heap.size := by
  obtain ⟨_, _, ⟨xs, k3, _⟩, _⟩ := r.tok t i h
  exact (k3.lt b hb).2
theorem tok_new {m : Mem} (r : RH m) : m.H.tok m.T = none := by
  cases h : m.H.tok m.T with
  | none => rfl
  | some i => have := (r.tok _ _ h).1; omega

/-- A new block that is known. -/
def Mem.nb (m : Mem) (T : TypeId) (cs : List AV) (l : List Value) : Mem := { m with w := m.w.alloc (.cells ⟨l⟩ T), H := m.H.setB m.w.heap.size T cs }
theorem Ev.nb (m : Mem) (T : TypeId) (cs : List AV) (l : List Value) : Ev m (m.nb T cs l) where
  os := rfl
  tape := rfl
  output := rfl
  size := by simp [Mem.nb]
  T := Nat.le_refl _
  block := fun b hb h h' => ⟨hpold m.w _ b hb, by simp only [Mem.nb, AHeap.setB]; rw [if_neg (by omega)]; exact h, h'⟩
  cell := fun b o hs => ⟨⟨by have := hs.lt; simp [Mem.nb]; omega, by have := hs.lt; simp only [Mem.nb, AHeap.setB]; rw [if_neg (by omega)]; exact hs.blk, hs.tok⟩, World.cell?_of_block (a := ⟨b, o, none⟩) (hpold m.w _ b hs.lt)⟩
  tok := fun t i' _ h => ⟨i', h, Nat.le_refl _, rfl, fun _ => rfl⟩
theorem RH.nb {m : Mem} (r : RH m) {T : TypeId} {cs : List AV} {l : List Value} (hl : RvL m cs l) (ho : ∀ v ∈ l, v.oneCell' = true) : RH (m.nb T cs l) where
  blk := fun b T' cs' hb => by
    simp only [Mem.nb, AHeap.setB] at hb
    by_cases e : b = m.w.heap.size
    · rw [if_pos e] at hb
      simp only [Option.some.injEq, Prod.mk.injEq] at hb
      obtain ⟨rfl, rfl⟩ := hb
      subst e
      exact ⟨l, hpnew m.w _, RvL.ev (Ev.nb m _ _ l) _ l hl, ho⟩
    · rw [if_neg e] at hb
      obtain ⟨l', e1, e2, e3⟩ := r.blk b T' cs' hb
      exact ⟨l', (hpold m.w _ b (blk_lt r hb)).trans e1, RvL.ev (Ev.nb m _ _ l) _ l' e2, e3⟩
  tok := fun t i ht => by
    obtain ⟨k1, k2, ⟨xs, k3, k5⟩, k4⟩ := r.tok t i ht
    refine ⟨k1, k2, ⟨xs, k3.alloc _, fun rows hr => ⟨RvL.ev (Ev.nb m _ _ l) _ _ (k5 rows hr).1, (k5 rows hr).2⟩⟩, fun b hb => ?_⟩
    obtain ⟨g1, g2⟩ := k4 b hb
    have := tok_lt r ht hb
    exact ⟨by simp only [Mem.nb, AHeap.setB]; rw [if_neg (by omega)]; exact g1, g2⟩

/-- A new token, over a new block or over nothing. -/
def Mem.nt (m : Mem) (w' : World) (v : Value) (o : Own) : Mem := ⟨w', m.H.setT m.T o, fun x => if x = m.T then v else m.L x, m.T + 1⟩
theorem Ev.nt {m : Mem} (r : RH m) {w' : World} {v : Value} {o : Own} (h1 : w'.os = m.w.os) (h2 : w'.tape = m.w.tape) (h3 : w'.output = m.w.output) (h4 : m.w.heap.size ≤ w'.heap.size) (h5 : ∀ b, b < m.w.heap.size → w'.heap[b]? = m.w.heap[b]?)
    (hv : ∀ b, v.ownBlock = some b → m.w.heap.size ≤ b) : Ev m (m.nt w' v o) where
  os := h1
  tape := h2
  output := h3
  size := h4
  T := by simp [Mem.nt]
  block := fun b hb h h' => ⟨h5 b hb, h, fun t i ht e => by
    simp only [Mem.nt, AHeap.setT] at ht e
    by_cases et : t = m.T
    · rw [if_pos et] at e
      have := hv b e
      omega
    · rw [if_neg et] at e ht
      exact h' t i ht e⟩
  cell := fun b c hs => ⟨⟨Nat.lt_of_lt_of_le hs.lt h4, hs.blk, fun t i ht e => by
    simp only [Mem.nt, AHeap.setT] at ht e
    by_cases et : t = m.T
    · rw [if_pos et] at e
      have := hv b e
      have := hs.lt
      omega
    · rw [if_neg et] at e ht
      exact hs.tok t i ht e⟩, World.cell?_of_block (a := ⟨b, c, none⟩) (h5 b hs.lt)⟩
  tok := fun t i' ht h => by
    simp only [Mem.nt, AHeap.setT] at h ⊢
    rw [if_neg (by omega)] at h ⊢
    exact ⟨i', h, Nat.le_refl _, rfl, fun _ => rfl⟩
theorem RH.nt {m : Mem} (r : RH m) {w' : World} {v : Value} {o : Own} (h1 : w'.os = m.w.os) (h2 : w'.tape = m.w.tape) (h3 : w'.output = m.w.output) (h4 : m.w.heap.size ≤ w'.heap.size) (h5 : ∀ b, b < m.w.heap.size → w'.heap[b]? = m.w.heap[b]?)
    (hv : ∀ b, v.ownBlock = some b → m.w.heap.size ≤ b) (hs : o.size ≠ 0) (ho : ∃ xs, w'.ownsRow 0 o.ty o.size v o.len xs ∧ ∀ rows, o.con = some rows → RvL (m.nt w' v o) rows.flatten xs ∧ (∀ r ∈ rows, r.length = o.size) ∧ ∀ v ∈ xs, v.oneCell' = true) : RH (m.nt w' v o) where
  blk := fun b T cs hb => by
    obtain ⟨l, e1, e2, e3⟩ := r.blk b T cs hb
    exact ⟨l, (h5 b (blk_lt r hb)).trans e1, RvL.ev (Ev.nt r h1 h2 h3 h4 h5 hv) cs l e2, e3⟩
  tok := fun t i ht => by
    simp only [Mem.nt, AHeap.setT] at ht ⊢
    by_cases et : t = m.T
    · rw [if_pos et] at ht
      simp only [Option.some.injEq] at ht
      subst ht
      refine ⟨by omega, hs, by rw [if_pos et]; exact ho, fun b hb => ?_⟩
      rw [if_pos et] at hb
      have hge := hv b hb
      refine ⟨?_, fun t' i' ht' hb' => ?_⟩
      · cases hx : m.H.blk b with
        | none => rfl
        | some x => have := blk_lt r (T := x.1) (cs := x.2) hx; omega
      · by_cases et' : t' = m.T
        · omega
        · rw [if_neg et'] at ht' hb'
          have := tok_lt r ht' hb'
          omega
    · rw [if_neg et] at ht
      obtain ⟨k1, k2, ⟨xs, k3, k5⟩, k4⟩ := r.tok t i ht
      refine ⟨by omega, k2, ⟨xs, by rw [if_neg et]; exact ownsRow_mono k3 fun b hb => h5 b (k3.lt b hb).2, fun rows hr => ⟨RvL.ev (Ev.nt r h1 h2 h3 h4 h5 hv) _ _ (k5 rows hr).1, (k5 rows hr).2⟩⟩, fun b hb => ?_⟩
      rw [if_neg et] at hb
      obtain ⟨g1, g2⟩ := k4 b hb
      refine ⟨g1, fun t' i' ht' hb' => ?_⟩
      by_cases et' : t' = m.T
      · rw [if_pos et'] at hb'
        have := hv b hb'
        have := (k3.lt b hb).2
        omega
      · rw [if_neg et'] at ht' hb'
        exact g2 t' i' ht' hb'

/-- A store into a known block. -/
def Mem.st (m : Mem) (w' : World) (b : Nat) (T : TypeId) (cs : List AV) : Mem := { m with w := w', H := m.H.setB b T cs }
theorem Ev.st {m : Mem} (r : RH m) {w' : World} {b : Nat} {T T0 : TypeId} {cs cs0 : List AV} (hb : m.H.blk b = some (T0, cs0)) (h1 : w'.os = m.w.os) (h2 : w'.tape = m.w.tape) (h3 : w'.output = m.w.output) (h4 : w'.heap.size = m.w.heap.size) (h5 : ∀ k, k ≠ b → w'.heap[k]? = m.w.heap[k]?) : Ev m (m.st w' b T cs) where
  os := h1
  tape := h2
  output := h3
  size := by simp [Mem.st, h4]
  T := Nat.le_refl _
  block := fun k hk h h' => by
    have hne : k ≠ b := fun e => by subst e; rw [h] at hb; cases hb
    exact ⟨h5 k hne, by simp only [Mem.st, AHeap.setB]; rw [if_neg hne]; exact h, h'⟩
  cell := fun k o hs => by
    have hne : k ≠ b := fun e => by subst e; have := hs.blk; rw [this] at hb; cases hb
    exact ⟨⟨by rw [show (m.st w' b T cs).w = w' from rfl, h4]; exact hs.lt, by simp only [Mem.st, AHeap.setB]; rw [if_neg hne]; exact hs.blk, hs.tok⟩, World.cell?_of_block (a := ⟨k, o, none⟩) (h5 k hne)⟩
  tok := fun t i' _ h => ⟨i', h, Nat.le_refl _, rfl, fun _ => rfl⟩
theorem RH.st {m : Mem} (r : RH m) {w' : World} {b : Nat} {T T0 : TypeId} {cs cs0 : List AV} {l : List Value} (hb : m.H.blk b = some (T0, cs0)) (h1 : w'.os = m.w.os) (h2 : w'.tape = m.w.tape) (h3 : w'.output = m.w.output) (h4 : w'.heap.size = m.w.heap.size) (h5 : ∀ k, k ≠ b → w'.heap[k]? = m.w.heap[k]?)
    (h6 : w'.heap[b]? = some (.cells ⟨l⟩ T (0, 0))) (hl : RvL m cs l) (ho : ∀ v ∈ l, v.oneCell' = true) : RH (m.st w' b T cs) where
  blk := fun k T' cs' hk => by
    simp only [Mem.st, AHeap.setB] at hk
    by_cases e : k = b
    · rw [if_pos e] at hk
      simp only [Option.some.injEq, Prod.mk.injEq] at hk
      obtain ⟨rfl, rfl⟩ := hk
      subst e
      exact ⟨l, h6, RvL.ev (Ev.st r hb h1 h2 h3 h4 h5) _ l hl, ho⟩
    · rw [if_neg e] at hk
      obtain ⟨l', e1, e2, e3⟩ := r.blk k T' cs' hk
      exact ⟨l', (h5 k e).trans e1, RvL.ev (Ev.st r hb h1 h2 h3 h4 h5) _ l' e2, e3⟩
  tok := fun t i ht => by
    obtain ⟨k1, k2, ⟨xs, k3, k5⟩, k4⟩ := r.tok t i ht
    have hne : ∀ k, (m.L t).ownBlock = some k → k ≠ b := fun k hk e => by subst e; have := (k4 k hk).1; rw [this] at hb; cases hb
    refine ⟨k1, k2, ⟨xs, ownsRow_mono k3 fun k hk => h5 k (hne k hk), fun rows hr => ⟨RvL.ev (Ev.st r hb h1 h2 h3 h4 h5) _ _ (k5 rows hr).1, (k5 rows hr).2⟩⟩, fun k hk => ?_⟩
    obtain ⟨g1, g2⟩ := k4 k hk
    exact ⟨by simp only [Mem.st, AHeap.setB]; rw [if_neg (hne k hk)]; exact g1, g2⟩

/-- A token grows: in its block, or into a new one. -/
def Mem.gt (m : Mem) (w' : World) (t : Nat) (v : Value) (o : Own) : Mem := { m with w := w', H := m.H.setT t o, L := fun x => if x = t then v else m.L x }
structure Grows0 (m : Mem) (w' : World) (t : Nat) (i : Own) (v : Value) (o : Own) : Prop where
  os : w'.os = m.w.os
  tape : w'.tape = m.w.tape
  output : w'.output = m.w.output
  size : m.w.heap.size ≤ w'.heap.size
  block : ∀ k, k < m.w.heap.size → (m.L t).ownBlock ≠ some k → w'.heap[k]? = m.w.heap[k]?
  cell : ∀ k c, (m.L t).ownBlock = some k → c < i.n * i.size → w'.cell? ⟨k, c, none⟩ = m.w.cell? ⟨k, c, none⟩
  own : ∀ k, v.ownBlock = some k → (m.L t).ownBlock = some k ∨ m.w.heap.size ≤ k
  n : i.n ≤ o.n
  sz : o.size = i.size
  ty : o.ty = i.ty
  ver : i.ver ≤ o.ver
  same : o.ver = i.ver → v = m.L t
structure Grows (m : Mem) (w' : World) (t : Nat) (i : Own) (v : Value) (o : Own) : Prop extends Grows0 m w' t i v o where
  row : ∃ xs, w'.ownsRow 0 o.ty o.size v o.len xs ∧ ∀ rows, o.con = some rows → RvL (m.gt w' t v o) rows.flatten xs ∧ (∀ r ∈ rows, r.length = o.size) ∧ ∀ v ∈ xs, v.oneCell' = true
theorem Ev.gt {m : Mem} (r : RH m) {w' : World} {t : Nat} {i : Own} {v : Value} {o : Own} (hi : m.H.tok t = some i) (g : Grows0 m w' t i v o) : Ev m (m.gt w' t v o) where
  os := g.os
  tape := g.tape
  output := g.output
  size := g.size
  T := Nat.le_refl _
  block := fun b hb h h' => ⟨g.block b hb (h' t i hi), h, fun t' i' ht' e => by
    simp only [Mem.gt, AHeap.setT] at ht' e
    by_cases et : t' = t
    · rw [if_pos et] at e
      rcases g.own b e with e | e
      · exact h' t i hi e
      · omega
    · rw [if_neg et] at e ht'
      exact h' t' i' ht' e⟩
  cell := fun b c hs => by
    refine ⟨⟨Nat.lt_of_lt_of_le hs.lt g.size, hs.blk, fun t' i' ht' e => ?_⟩, ?_⟩
    · simp only [Mem.gt, AHeap.setT] at ht' e
      by_cases et : t' = t
      · rw [if_pos et] at e ht'
        simp only [Option.some.injEq] at ht'
        subst ht'
        rcases g.own b e with e | e
        · have := hs.tok t i hi e
          rw [g.sz]
          exact Nat.lt_of_lt_of_le this (Nat.mul_le_mul_right _ g.n)
        · have := hs.lt
          omega
      · rw [if_neg et] at e ht'
        exact hs.tok t' i' ht' e
    · by_cases e : (m.L t).ownBlock = some b
      · exact g.cell b c e (hs.tok t i hi e)
      · exact World.cell?_of_block (a := ⟨b, c, none⟩) (g.block b hs.lt e)
  tok := fun t' i' ht' h => by
    simp only [Mem.gt, AHeap.setT] at h ⊢
    by_cases et : t' = t
    · rw [if_pos et] at h
      simp only [Option.some.injEq] at h
      subst h
      subst et
      exact ⟨i, hi, g.ver, g.sz, fun e => by rw [if_pos rfl]; exact g.same e⟩
    · rw [if_neg et] at h
      exact ⟨i', h, Nat.le_refl _, rfl, fun _ => by rw [if_neg et]⟩
theorem RH.gt {m : Mem} (r : RH m) {w' : World} {t : Nat} {i : Own} {v : Value} {o : Own} (hi : m.H.tok t = some i) (g : Grows m w' t i v o) : RH (m.gt w' t v o) where
  blk := fun b T cs hb => by
    obtain ⟨l, e1, e2, e3⟩ := r.blk b T cs hb
    refine ⟨l, (g.block b (blk_lt r hb) fun e => ?_).trans e1, RvL.ev (Ev.gt r hi g.toGrows0) cs l e2, e3⟩
    have := ((r.tok t i hi).2.2.2 b e).1
    have hb' : m.H.blk b = some (T, cs) := hb
    rw [this] at hb'
    cases hb'
  tok := fun t' i' ht' => by
    have hk := r.tok t i hi
    simp only [Mem.gt, AHeap.setT] at ht' ⊢
    by_cases et : t' = t
    · rw [if_pos et] at ht'
      simp only [Option.some.injEq] at ht'
      subst ht'
      subst et
      refine ⟨hk.1, by rw [g.sz]; exact hk.2.1, by rw [if_pos rfl]; exact g.row, fun b hb => ?_⟩
      rw [if_pos rfl] at hb
      have hcase := g.own b hb
      refine ⟨?_, fun t2 i2 ht2 hb2 => ?_⟩
      · rcases hcase with e | e
        · exact (hk.2.2.2 b e).1
        · cases hx : m.H.blk b with
          | none => rfl
          | some x => have := blk_lt r (T := x.1) (cs := x.2) hx; omega
      · by_cases e2 : t2 = t'
        · exact e2
        · rw [if_neg e2] at ht2 hb2
          rcases hcase with e | e
          · exact (hk.2.2.2 b e).2 t2 i2 ht2 hb2
          · have := tok_lt r ht2 hb2
            omega
    · rw [if_neg et] at ht'
      obtain ⟨k1, k2, ⟨xs, k3, k5⟩, k4⟩ := r.tok t' i' ht'
      have hne : ∀ b, (m.L t').ownBlock = some b → (m.L t).ownBlock ≠ some b := fun b hb e => et ((hk.2.2.2 b e).2 t' i' ht' hb)
      refine ⟨k1, k2, ⟨xs, by rw [if_neg et]; exact ownsRow_mono k3 fun b hb => g.block b (k3.lt b hb).2 (hne b hb), fun rows hr => ⟨RvL.ev (Ev.gt r hi g.toGrows0) _ _ (k5 rows hr).1, (k5 rows hr).2⟩⟩, fun b hb => ?_⟩
      rw [if_neg et] at hb
      obtain ⟨g1, g2⟩ := k4 b hb
      refine ⟨g1, fun t2 i2 ht2 hb2 => ?_⟩
      by_cases e2 : t2 = t
      · rw [if_pos e2] at hb2
        rcases g.own b hb2 with e | e
        · exact absurd e (hne b hb)
        · have := (k3.lt b hb).2
          omega
      · rw [if_neg e2] at ht2 hb2
        exact g2 t2 i2 ht2 hb2
end Go.Aw

/- That resolved code is what a function's body says (own work): checked by evaluation. -/
namespace Go.Aw
open Go
set_option linter.unusedVariables false

def cst : AV → Value → Bool
  | .bool b, .bool c => b == c
  | .int k n, .int j c => decide (k = j) && decide (n = c)
  | .str s, .string b => decide (b.data.toList = s) && Nat.ble s.length maxLen
  | .raw (.slice none 0 0), .slice none 0 0 => true
  | .raw (.pointer none), .pointer none => true
  | .raw .nilFunc, .nilFunc => true
  | .raw .nilIface, .nilIface => true
  | .raw (.map none), .map none => true
  | .fn f [], .func (.func g) ⟨[]⟩ ⟨[]⟩ => f == g
  | _, _ => false
def cstL : List AV → List Value → Bool
  | [], [] => true
  | a :: as, v :: vs => cst a v && cstL as vs
  | _, _ => false
def cstA : List AV → Value → Bool
  | l, .agg ⟨vs⟩ => cstL l vs
  | [a], v => cst a v
  | _, _ => false
def chkX : Operand → EOpd → Bool
  | .tmp t, .t n => t == n
  | .const v, .c a => cst a v
  | .func f, .c (.fn g []) => f == g
  | _, _ => false
def chkXs : List Operand → List EOpd → Bool
  | [], [] => true
  | x :: xs, y :: ys => chkX x y && chkXs xs ys
  | _, _ => false
def chkXo : Option Operand → Option EOpd → Bool
  | none, none => true
  | some x, some y => chkX x y
  | _, _ => false

def aggT (P : Program) (t : TypeId) : Option Bool :=
  match P.underlying t with
  | some (.struct _) | some (.array ..) => some true
  | some _ => some false
  | none => none
def sizeT (P : Program) (t : TypeId) : Option Nat := (P.info? t).map (·.size)
def ldT (P : Program) (t : TypeId) (agg : Bool) (n : Nat) : Bool :=
  decide (aggT P t = some agg) && decide (sizeT P t = some n) && (agg || n == 1) && !(n == 0)
def slT (P : Program) (t : TypeId) : Option TypeId :=
  match P.underlying t with
  | some (.slice e) => some e
  | _ => none
def zeroT (P : Program) (t : TypeId) (zero : List AV) : Bool :=
  match (P.info? t).bind (·.zero) with
  | some z => cstA zero z
  | none => false

def chkParts (P : Program) (fs : Array Field) : List (Nat × Operand) → List (Nat × Nat × EOpd) → Bool
  | [], [] => true
  | (i, x) :: ps, (off, size, y) :: qs => (match fs[i]? with
    | some f => decide (f.offset = off) && decide (sizeT P f.type = some size)
    | none => false) && chkX x y && chkParts P fs ps qs
  | _, _ => false
def chkPartsA (size : Nat) : List (Nat × Operand) → List (Nat × Nat × EOpd) → Bool
  | [], [] => true
  | (i, x) :: ps, (off, sz, y) :: qs => decide (off = i * size) && decide (sz = size) && chkX x y && chkPartsA size ps qs
  | _, _ => false
def chkPartsS : List (Nat × Operand) → List (Nat × EOpd) → Bool
  | [], [] => true
  | (i, x) :: ps, (j, y) :: qs => decide (i = j) && chkX x y && chkPartsS ps qs
  | _, _ => false
/-- The parts of a slice's literal: one after the other, from the first place on, no gap. -/
def inOrder : Nat → List (Nat × EOpd) → Bool
  | _, [] => true
  | k, (i, _) :: ps => decide (i = k) && inOrder (k + 1) ps

/-- A type of plain cells (numbers, strings, bools; structs of such): their kinds, one after the other. -/
def flatFs (P : Program) (g : TypeId → Option (List LK)) : Nat → List Field → Option (List LK)
  | _, [] => some []
  | off, f :: fs => match g f.type with
    | some ks => if f.offset = off ∧ f.name ≠ "_" ∧ sizeT P f.type = some ks.length ∧ ks ≠ [] then (flatFs P g (off + ks.length) fs).map (ks ++ ·) else none
    | none => none
def flatT (P : Program) : Nat → TypeId → Option (List LK)
  | 0, _ => none
  | d + 1, t => match P.underlying t with
    | some .bool => some [.b]
    | some (.int k) => some [.i k]
    | some .string => some [.s]
    | some (.struct fs) => if P.stoodInHeld t then none else flatFs P (flatT P d) 0 fs.toList
    | _ => none

def isB (P : Program) (t : TypeId) : Bool := match P.underlying t with | some .bool => true | _ => false

def chkOp (P : Program) (o : Op) (e : EOp) : Bool :=
  match o, e with
  | .move x, .mv y => chkX x y
  | .assign x, .mv y => chkX x y
  | .pick c a b, .pick c' a' b' => chkX c c' && chkX a a' && chkX b b'
  | .nilCheck x, .nilck y => chkX x y
  | .box T x, .box T' y => decide (T = T') && chkX x y
  | .alloc T, .alloc T' zero => decide (T = T') && zeroT P T zero
  | .build t parts, .build zero ps => zeroT P t zero && (match P.underlying t with
    | some (.struct fs) => chkParts P fs parts.toList ps && (fs.toList.mapM (fun f => (P.info? f.type).map fun i => (f.offset, i.size))).isSome
    | some (.array _ e) => (match sizeT P e with | some s => chkPartsA s parts.toList ps | none => false)
    | _ => false)
  | .buildSlice t n parts, .bslice T size n' zero ps => decide (n = n') && decide (slT P t = some T) && decide (sizeT P T = some size) && zeroT P T zero && decide (zero.length = size) && Nat.ble (n * size) 65536 && chkPartsS parts.toList ps && inOrder 0 ps && decide (ps.length = n) && !(size == 0)
  | .buildSlice t n parts, .bsliceO T size n' zero ps => decide (n = n') && decide (slT P t = some T) && decide (sizeT P T = some size) && zeroT P T zero && decide (zero.length = size) && Nat.ble (n * size) 65536 && chkPartsS parts.toList ps && inOrder 0 ps && decide (ps.length = n) && !(size == 0)
  | .buildSlice t n parts, .bsliceM T size n' zero ps => decide (n = n') && decide (slT P t = some T) && decide (sizeT P T = some size) && zeroT P T zero && decide (zero.length = size) && Nat.ble (n * size) 65536 && chkPartsS parts.toList ps && inOrder 0 ps && decide (ps.length = n) && !(size == 0)
  | .load t x, .load agg n y => ldT P t agg n && chkX x y
  | .load t x, .loadM agg n y => ldT P t agg n && chkX x y
  | .load t x, .loadD _ agg n y => ldT P t agg n && chkX x y
  | .store t a v, .store n a' v' => decide (sizeT P t = some n) && chkX a a' && chkX v v'
  | .store t a v, .storeD _ _ n a' v' => decide (sizeT P t = some n) && chkX a a' && chkX v v'
  | .fieldAddr s x f, .faddr off y => chkX x y && (match P.underlying s with
    | some (.struct fs) => (match fs[f]? with | some g => decide (g.offset = off) && (match sizeT P g.type with | some n => !(n == 0) | none => false) | none => false)
    | _ => false)
  | .field s x f, .field agg off n y => chkX x y && (match P.underlying s with
    | some (.struct fs) => (match fs[f]? with | some g => decide (g.offset = off) && ldT P g.type agg n | none => false)
    | _ => false)
  | .fieldAddr s x f, .faddrM off y => chkX x y && (match P.underlying s with
    | some (.struct fs) => (match fs[f]? with | some g => decide (g.offset = off) && (match sizeT P g.type with | some n => !(n == 0) | none => false) | none => false)
    | _ => false)
  | .indexAddr t x i, .iaddr size y j => chkX x y && chkX i j && (match slT P t with | some e => decide (sizeT P e = some size) | none => false)
  | .indexAddr t x i, .iaddrM size y j => chkX x y && chkX i j && (match slT P t with | some e => decide (sizeT P e = some size) | none => false)
  | .indexAddr t x i, .iaddrA len size y j => chkX x y && chkX i j && (match P.underlying t with | some (.array n e) => decide (n = len) && decide (sizeT P e = some size) | _ => false)
  | .index t x i, .idxA agg len size y j => chkX x y && chkX i j && (match P.underlying t with | some (.array n e) => decide (n = len) && ldT P e agg size | _ => false)
  | .index t x i, .idxS y j => chkX x y && chkX i j && (match P.underlying t with | some .string => true | _ => false)
  | .binOp op t x y _, .bin op' x' y' => decide (op = op') && chkX x x' && chkX y y'
  | .binOp op t x y _, .binB op' x' y' => decide (op = op') && chkX x x' && chkX y y' && (match P.underlying t with | some .bool => true | _ => false)
  | .binOp op t x y _, .eqA neg T ks x' y' => decide (op = (if neg then .neq else .eql)) && decide (t = T) && chkX x x' && chkX y y' && decide (flatT P 8 t = some ks) && !(P.eqGuardType P.depth t) && (match P.underlying t with | some (.struct _) => true | _ => false)
  | .binOp op t x y _, .isnil neg x' => decide (op = (if neg then .neq else .eql)) && chkX x x' && (match y with | .const (.slice none 0 0) => true | _ => false) && (match slT P t with | some _ => true | none => false) && !(P.eqGuardType P.depth t)
  | .unOp .not _ x, .not y => chkX x y
  | .unOp .neg _ x, .neg y => chkX x y
  | .convert s d x, .conv k y => chkX x y && (match P.underlying s with | some (.int _) => true | _ => false) && (match P.underlying d with | some (.int j) => decide (j = k) | _ => false)
  | .call { callee := .builtin .len, args, argTypes }, .len y => (match args.toList with | [x] => chkX x y | _ => false) && (match argTypes.toList with | [t] => (match P.underlying t with | some (.slice _) => true | _ => false) | _ => false)
  | .call { callee := .builtin .len, args, argTypes }, .lenM y => (match args.toList with | [x] => chkX x y | _ => false) && (match argTypes.toList with | [t] => (match P.underlying t with | some (.slice _) => true | _ => false) | _ => false)
  | .call { callee := .builtin .len, args, argTypes }, .lenS y => (match args.toList with | [x] => chkX x y | _ => false) && (match argTypes.toList with | [t] => (match P.underlying t with | some .string => true | _ => false) | _ => false)
  | .call { callee := .builtin .len, args, argTypes }, .lenA n => (match args.toList with | [_] => true | _ => false) && (match argTypes.toList with | [t] => (match P.underlying t with | some (.array m _) => decide (m = n) | some (.pointer a) => (match P.underlying a with | some (.array m _) => decide (m = n) | _ => false) | _ => false) | _ => false)
  | .call { callee := .builtin .min, args, .. }, .minmax false ys => chkXs args.toList ys
  | .call { callee := .builtin .max, args, .. }, .minmax true ys => chkXs args.toList ys
  | .call { callee := .builtin .append, args, argTypes }, .append T size bytes x y => chkXs args.toList [x, y] && (match argTypes.toList with
    | [t, u] => decide (slT P t = some T) && (decide (slT P u = some T) || (match P.underlying u, P.underlying T with | some .string, some (.int .u8) => true | _, _ => false)) && (match P.info? T with | some i => decide (i.size = size) && decide (i.bytes = bytes) && (match i.zero with | some z => decide (z.cells.size = size) | none => false) | none => false)
    | _ => false)
  | .call { callee := .builtin .append, args, argTypes }, .appendM T size bytes x y => chkXs args.toList [x, y] && (match argTypes.toList with
    | [t, u] => decide (slT P t = some T) && (decide (slT P u = some T) || (match P.underlying u, P.underlying T with | some .string, some (.int .u8) => true | _, _ => false)) && (match P.info? T with | some i => decide (i.size = size) && decide (i.bytes = bytes) && (match i.zero with | some z => decide (z.cells.size = size) | none => false) | none => false)
    | _ => false)
  | .slice t x lo hi none, .slS y lo' hi' => chkX x y && chkXo lo lo' && chkXo hi hi' && (match P.underlying t with | some .string => true | _ => false)
  | .slice t x lo hi mx, .slV size y lo' hi' mx' => chkX x y && chkXo lo lo' && chkXo hi hi' && chkXo mx mx' && (match slT P t with | some e => decide (sizeT P e = some size) | none => false)
  | .slice t x lo hi none, .slM size y lo' hi' => chkX x y && chkXo lo lo' && chkXo hi hi' && (match slT P t with | some e => decide (sizeT P e = some size) | none => false)
  | .extract x i, .extract j y => chkX x y && decide (i = j)
  | .makeFunc (.func f) first caps, .mkfn g ys => decide (f = g) && first.isEmpty && chkXs caps.toList ys
  | .makeInterface t x, .mkif T y => decide (t = T) && chkX x y && (match P.underlying t with | some (.interface _) => false | some _ => true | none => false)
  | .call { callee := .value f, args, .. }, .call g ys => (match f with | .func f' => decide (f' = g) | _ => false) && chkXs args.toList ys && callable P g
  | .call { callee := .value f, args, .. }, .callv y ys => chkX f y && chkXs args.toList ys
  | .call { callee := .value f, args, .. }, .pcall g ys => (match f with | .func f' => decide (f' = g) | _ => false) && chkXs args.toList ys && callable P g
  | .call { callee := .value f, args, .. }, .pcallM T size g ys => (match f with | .func f' => decide (f' = g) | _ => false) && chkXs args.toList ys && callable P g
  | .call { callee := .value f, args, .. }, .pcallMR T size g ys _ => (match f with | .func f' => decide (f' = g) | _ => false) && chkXs args.toList ys && callable P g
  | .call { callee := .value f, args, .. }, .pcallv y ys => chkX f y && chkXs args.toList ys
  | .call { callee := .value f, args, .. }, .pcallR g ys _ => (match f with | .func f' => decide (f' = g) | _ => false) && chkXs args.toList ys && callable P g
  | .call { callee := .value f, args, .. }, .pcallvR y ys _ => chkX f y && chkXs args.toList ys
  | .panic x, .panic y => chkX x y
  | _, _ => false

def chkG (ops : Array Oper) (g : Option (Nat × Bool)) (h : Option (Nat × Bool)) : Bool :=
  match g, h with
  | none, none => true
  | some (j, w), some (t, w') => decide (w = w') && decide ((ops[j]?).bind (·.dst) = some t)
  | _, _ => false
def chkI (P : Program) (n : Nat) (ops : Array Oper) (o : Oper) (i : EI) : Bool :=
  decide (o.dst = i.dst) && (match i.dst with | some d => Nat.blt d n | none => true) && (match i.guard with | some (t, _) => Nat.blt t n | none => true) && chkG ops o.guard i.guard && chkOp P o.op i.op
def chkIs (P : Program) (n : Nat) (ops : Array Oper) : List Oper → List EI → Bool
  | [], [] => true
  | o :: os, i :: is => chkI P n ops o i && chkIs P n ops os is
  | _, _ => false

/-! Regions that draw their order: which pairs may change places. -/
def EOpd.tmp? : EOpd → Option Nat
  | .t n => some n
  | .c _ => none
def EOp.opds : EOp → List EOpd
  | .mv x | .nilck x | .box _ x | .load _ _ x | .faddr _ x | .field _ _ _ x | .not x | .neg x | .conv _ x | .len x | .lenS x | .extract _ x | .mkif _ x | .panic x | .lenM x | .loadM _ _ x | .isnil _ x | .faddrM _ x => [x]
  | .pick a b c => [a, b, c]
  | .alloc _ _ | .lenA _ => []
  | .build _ ps => ps.map (·.2.2)
  | .bslice _ _ _ _ ps | .bsliceO _ _ _ _ ps | .bsliceM _ _ _ _ ps => ps.map (·.2)
  | .store _ a v => [a, v]
  | .loadD me _ _ x => [.t me, x]
  | .storeD me o _ a v => .t me :: a :: v :: o.map .t
  | .iaddr _ x i | .iaddrA _ _ x i | .idxA _ _ _ x i | .idxS x i | .bin _ x i | .binB _ x i | .eqA _ _ _ x i | .append _ _ _ x i | .iaddrM _ x i | .appendM _ _ _ x i => [x, i]
  | .minmax _ xs | .mkfn _ xs | .call _ xs | .pcall _ xs | .pcallR _ xs _ | .pcallM _ _ _ xs | .pcallMR _ _ _ xs _ => xs
  | .slS x l h | .slM _ x l h => x :: (l.toList ++ h.toList)
  | .slV _ x l h m => x :: (l.toList ++ h.toList ++ m.toList)
  | .callv x xs | .pcallv x xs | .pcallvR x xs _ => x :: xs
def EI.reads (i : EI) : List Nat := i.op.opds.filterMap EOpd.tmp? ++ (i.guard.map (·.1)).toList
/-- 0: looks at no memory; 1: reads, or makes new, or a call said to be pure; 2: appends; 3: the rest. -/
def EOp.rank : EOp → Nat
  | .mv _ | .pick .. | .nilck _ | .build .. | .faddr .. | .field .. | .iaddr .. | .iaddrA .. | .idxA .. | .idxS .. | .bin .. | .binB .. | .eqA .. | .not _ | .neg _ | .conv .. | .len _ | .lenS _ | .lenA _ | .minmax .. | .slS .. | .slV .. | .extract .. | .mkfn .. | .mkif .. => 0
  | .load .. | .loadD .. | .box .. | .alloc .. | .bslice .. | .bsliceO .. | .pcall .. | .pcallv .. | .pcallR .. | .pcallvR .. | .bsliceM .. | .pcallM .. | .pcallMR .. => 1
  | .append .. => 2
  | .store .. | .storeD .. | .call .. | .callv .. | .panic _ | .slM .. | .appendM .. | .lenM .. | .iaddrM .. | .loadM .. | .isnil .. | .faddrM .. => 3
/-- Rank 3, but with one outcome. -/
def EOp.live : EOp → Bool
  | .store .. | .storeD .. | .slM .. | .appendM .. | .lenM .. | .iaddrM .. | .loadM .. | .faddrM .. => true
  | _ => false
/-- Always gives a value. -/
def EI.total (i : EI) : Bool := i.guard.isNone && match i.op with
  | .mv _ | .lenA _ | .mkfn .. | .mkif .. => true
  | _ => false
/-- Its own block, and blocks that are others. -/
def EI.stInfo (i : EI) : Option (Bool × Nat × List Nat) := match i.guard, i.op with
  | none, .storeD me o _ _ _ => some (true, me, o)
  | none, .loadD me _ _ _ => some (false, me, [])
  | _, _ => none
def stD (i j : EI) : Bool := match i.stInfo, j.stInfo with
  | some (true, _, o), some (true, b, _) => o.contains b
  | some (false, m, _), some (true, _, o) => o.contains m
  | _, _ => false
/-- i stands ahead of j in the text: may j be carried out first? -/
def indep (i j : EI) : Bool :=
  (match i.dst with | some d => !j.reads.contains d && !(j.dst == some d) | none => true) &&
  (match j.dst with | some d => !i.reads.contains d | none => true) &&
  (i.op.rank == 0 || (i.op.live && j.op.rank == 0) || stD i j || (i.op.rank == 3 && j.total) || (i.op.rank ≤ 2 && j.op.rank ≤ 2 && !(i.op.rank == 2 && j.op.rank == 2)))
/-- The operations that must come ahead of each, as bits. -/
def ancs (ops : List Oper) : List Nat :=
  ops.foldl (fun acc o => acc ++ [o.after.foldl (fun s e => if Region.binds .any e then s ||| 2 ^ e.on ||| acc.getD e.on 0 else s) 0]) []
/-- A region that draws: what may change places commutes; the edges lead back. -/
def okDraw (ops : List Oper) (is : List EI) : Bool :=
  let an := ancs ops
  (ops.zipIdx.all fun (o, i) => o.after.all fun e => !Region.binds .any e || Nat.blt e.on i) &&
  (is.zipIdx.all fun (y, j) => is.zipIdx.all fun (x, i) => !(Nat.blt i j) || (an.getD j 0).testBit i || indep x y)
def chkC (P : Program) (n : Nat) : Code → EC → Bool
  | .skip, .skip => true
  | .region _ ops draw, .region is draw' => draw == draw' && chkIs P n ops ops.toList is && (!draw || okDraw ops.toList is)
  | .seq a b, .seq c d => chkC P n a c && chkC P n b d
  | .cond c a b, .cond c' a' b' => chkX c c' && chkC P n a a' && chkC P n b b'
  | .block i a, .block j b => i == j && chkC P n a b
  | .loop a, .loop b => chkC P n a b
  | .exit i, .exit j => i == j
  | .ret, .ret => true
  | _, _ => false
def chkR (P : Program) : List ResultVar → List ERes → Bool
  | [], [] => true
  | .tmp t :: l, .t n :: l' => t == n && chkR P l l'
  | .cell t ty :: l, .cell agg n t' :: l' => t == t' && ldT P ty agg n && chkR P l l'
  | _, _ => false
/-- Resolved code is a function's. -/
def chkF (P : Program) (fn : Func) (nargs : Nat) (e : EC) (rs : List ERes) : Bool :=
  Nat.ble nargs fn.ntmps && chkR P fn.results.toList rs && match fn.body with
  | some c => chkC P fn.ntmps c e
  | none => false
end Go.Aw

/- Each operation's run, in the model, gives what the abstract step says (own work). -/
namespace Go.Aw
open Go
set_option linter.unusedVariables false
set_option linter.unusedSimpArgs false

theorem bytes_toList (s : List UInt8) : (⟨⟨s⟩⟩ : ByteArray).toList = s := by
  rw [Lib.toList_data]
theorem bytes_mk (b : ByteArray) : b = ⟨⟨b.data.toList⟩⟩ := rfl
theorem bytes_append (s t : List UInt8) : (⟨⟨s⟩⟩ : ByteArray) ++ ⟨⟨t⟩⟩ = ⟨⟨s ++ t⟩⟩ := by
  rw [bytes_mk ((⟨⟨s⟩⟩ : ByteArray) ++ ⟨⟨t⟩⟩)]
  rw [Joins.data_append]
theorem bytes_extract (s : List UInt8) (l h : Nat) : (⟨⟨s⟩⟩ : ByteArray).extract l h = ⟨⟨(s.take h).drop l⟩⟩ := by
  rw [bytes_mk (ByteArray.extract _ _ _)]
  congr 2
  rw [Lib.extract_data]
  simp only [List.drop_take]

theorem cst_rv {m : Mem} {a : AV} {v : Value} (h : cst a v = true) : Rv m a v := by
  unfold cst at h
  split at h <;> first
    | (simp only [Rv]; done)
    | (simp only [Rv]; simp at h; subst h; rfl)
    | (simp only [Rv]; simp at h; obtain ⟨rfl, rfl⟩ := h; rfl)
    | skip
  · simp only [Rv]
    simp only [Bool.and_eq_true, decide_eq_true_eq] at h
    obtain ⟨rfl, h2⟩ := h
    exact ⟨rfl, Nat.le_of_ble_eq_true h2⟩
  · rename_i f g
    simp at h
    subst h
    simp only [Rv, RvL]
    exact ⟨[], rfl, rfl⟩
  · cases h
theorem cst_one {a : AV} {v : Value} (h : cst a v = true) : v.oneCell' = true := by
  unfold cst at h
  split at h <;> first | rfl | cases h
theorem cstL_rv {m : Mem} : ∀ {as : List AV} {l : List Value}, cstL as l = true → RvL m as l ∧ ∀ v ∈ l, v.oneCell' = true
  | [], [], _ => ⟨by simp only [RvL], by simp⟩
  | [], _ :: _, h => by simp [cstL] at h
  | _ :: _, [], h => by simp [cstL] at h
  | a :: as, v :: l, h => by
    simp only [cstL, Bool.and_eq_true] at h
    obtain ⟨k1, k2⟩ := cstL_rv (m := m) h.2
    refine ⟨by simp only [RvL]; exact ⟨v, l, rfl, cst_rv h.1, k1⟩, fun u hu => ?_⟩
    rcases List.mem_cons.1 hu with rfl | hu
    · exact cst_one h.1
    · exact k2 u hu
theorem cstA_rv {m : Mem} {as : List AV} {z : Value} (h : cstA as z = true) : RvL m as z.cells.toList ∧ ∀ v ∈ z.cells.toList, v.oneCell' = true := by
  unfold cstA at h
  split at h
  · exact cstL_rv h
  · rename_i a v hne
    have ho := cst_one h
    have hr := cst_rv (m := m) h
    have hc : Value.cells z = #[z] := by
      cases z <;> first | rfl | (simp [Value.oneCell'] at ho)
    rw [hc]
    refine ⟨by simp only [RvL]; exact ⟨z, [], rfl, hr, rfl⟩, fun u hu => ?_⟩
    simp at hu
    subst hu
    exact ho
  · cases h

/-- The frame as the environment says. -/
def RvE (m : Mem) (env : Env) (tmps : Array Value) : Prop := ∀ k, Rv m (env.get k) (tmps.getD k undef)
theorem chkX_rv {m : Mem} {env : Env} {a : Act} {x : Operand} {y : EOpd} (he : RvE m env a.tmps) (h : chkX x y = true) : Rv m (y.ev env) (a.eval x) := by
  unfold chkX at h
  split at h
  · rename_i t n
    have e : t = n := by simpa using h
    subst e
    exact he t
  · exact cst_rv h
  · rename_i f g
    have e : f = g := by simpa using h
    subst e
    simp only [EOpd.ev, Rv, RvL, Act.eval]
    exact ⟨[], rfl, rfl⟩
  · cases h
theorem chkXs_rv {m : Mem} {env : Env} {a : Act} (he : RvE m env a.tmps) : ∀ {xs : List Operand} {ys : List EOpd}, chkXs xs ys = true → RvL m (ys.map (EOpd.ev env)) (xs.map a.eval)
  | [], [], _ => by simp only [List.map_nil, RvL]
  | [], _ :: _, h => by simp [chkXs] at h
  | _ :: _, [], h => by simp [chkXs] at h
  | x :: xs, y :: ys, h => by
    simp only [chkXs, Bool.and_eq_true] at h
    simp only [List.map_cons, RvL]
    exact ⟨_, _, rfl, chkX_rv he h.1, chkXs_rv he h.2⟩

theorem one_rv {m : Mem} {a : AV} {v : Value} (h : Rv m a v) (ho : a.one = true) : v.oneCell' = true := by
  cases a <;> simp only [Rv, AV.one] at h ho <;> first
    | exact absurd ho Bool.false_ne_true
    | (obtain ⟨rfl, _⟩ := h; rfl)
    | (subst h; first | rfl | exact ho)
    | exact h.1
    | (obtain ⟨_, _, _, rfl, _⟩ := h; rfl)
    | (obtain ⟨⟨_, _, _, rfl, _⟩, _⟩ := h; rfl)
    | (obtain ⟨_, _, rfl, _⟩ := h; rfl)
    | (obtain ⟨_, rfl, _⟩ := h; rfl)
theorem cells_of_one {v : Value} (h : v.oneCell' = true) : v.cells = #[v] := by
  cases v <;> first | rfl | (simp [Value.oneCell'] at h)
theorem cells_rv {m : Mem} {a : AV} {v : Value} (h : Rv m a v) (ho : a.cells.all AV.one = true) : RvL m a.cells v.cells.toList ∧ ∀ u ∈ v.cells.toList, u.oneCell' = true := by
  cases ha : a with
  | agg cs =>
    subst ha
    simp only [Rv] at h
    obtain ⟨l, rfl, h2⟩ := h
    refine ⟨h2, fun u hu => ?_⟩
    simp only [AV.cells, List.all_eq_true] at ho
    obtain ⟨i, hi⟩ := List.getElem?_of_mem hu
    have hi' : i < l.length := (List.getElem?_eq_some_iff.1 hi).1
    rw [RvL.length h2] at hi'
    obtain ⟨v', e1, e2⟩ := RvL.get h2 i cs[i] (List.getElem?_eq_getElem hi')
    have : v' = u := by
      have hi2 : l[i]? = some u := hi
      rw [hi2] at e1
      simpa using e1.symm
    subst this
    exact one_rv e2 (ho _ (List.getElem_mem hi'))
  | _ =>
    subst ha
    simp only [AV.cells, List.all_cons, List.all_nil, Bool.and_true] at ho ⊢
    have h1 := one_rv h ho
    rw [cells_of_one h1]
    refine ⟨by simp only [RvL]; exact ⟨v, [], rfl, h, rfl⟩, fun u hu => ?_⟩
    simp at hu
    subst hu
    exact h1
end Go.Aw

/- What only computes or reads (own work). -/
namespace Go.Aw
open Go
set_option linter.unusedVariables false
set_option linter.unusedSimpArgs false

theorem rv_int {m : Mem} {k n v} (h : Rv m (.int k n) v) : v = .int k n := by simpa only [Rv] using h
theorem rv_bool {m : Mem} {b v} (h : Rv m (.bool b) v) : v = .bool b := by simpa only [Rv] using h
theorem rv_str {m : Mem} {s v} (h : Rv m (.str s) v) : v = .string ⟨⟨s⟩⟩ ∧ s.length ≤ maxLen := by simpa only [Rv] using h
theorem rv_ptr {m : Mem} {b o v} (h : Rv m (.ptr b o) v) : v = .pointer (some ⟨b, o, none⟩) := by simpa only [Rv] using h
theorem rv_raw {m : Mem} {x v} (h : Rv m (.raw x) v) : v = x := by simpa only [Rv] using h
theorem rv_rp {m : Mem} {r o v} (h : Rv m (.rp r o) v) : ∃ b p, v = .pointer (some ⟨b, p + o, none⟩) ∧ RvC m r b p := by simpa only [Rv] using h
theorem rv_agg {m : Mem} {cs v} (h : Rv m (.agg cs) v) : ∃ l, v = .agg ⟨l⟩ ∧ RvL m cs l := by simpa only [Rv] using h
theorem rv_tup {m : Mem} {cs v} (h : Rv m (.tup cs) v) : ∃ l, v = .tuple ⟨l⟩ ∧ RvL m cs l := by simpa only [Rv] using h
theorem rv_fn {m : Mem} {f cs v} (h : Rv m (.fn f cs) v) : ∃ l, v = .func (.func f) #[] ⟨l⟩ ∧ RvL m cs l := by simpa only [Rv] using h
theorem rv_vs {m : Mem} {size rows v} (h : Rv m (.vs size rows) v) : ∃ a cap, v = .slice a rows.length cap ∧ (rows.length ≤ cap ∧ cap ≤ maxLen) ∧ (rows.length = 0 ∨ ∃ b o, a = some ⟨b, o, none⟩ ∧ RvR m size rows b o) := by
  simp only [Rv] at h
  obtain ⟨a, len, cap, rfl, rfl, h3, h4⟩ := h
  exact ⟨a, cap, rfl, h3, h4⟩
theorem rv_own {m : Mem} {t size rows v} (h : Rv m (.own t size rows) v) : Rv m (.vs size rows) v := by
  simp only [Rv] at h ⊢
  exact h.1

theorem ofCells_rv {m : Mem} {agg : Bool} {cs : List AV} {r : AV} {l : List Value} (h : AV.ofCells agg cs = some r) (hl : RvL m cs l) : (agg = true ∧ Rv m r (.agg ⟨l⟩)) ∨ (agg = false ∧ ∃ v, l = [v] ∧ Rv m r v) := by
  unfold AV.ofCells at h
  cases agg with
  | true =>
    simp at h
    subst h
    exact .inl ⟨rfl, by simp only [Rv]; exact ⟨l, rfl, hl⟩⟩
  | false =>
    simp only [cond_false] at h
    split at h
    · rename_i a
      simp at h
      subst h
      simp only [RvL] at hl
      obtain ⟨v, vs, rfl, h1, rfl⟩ := hl
      exact .inr ⟨rfl, v, rfl, h1⟩
    · cases h

theorem run_isAgg {P : Program} {t : TypeId} {b : Bool} (h : aggT P t = some b) (w : World) : (isAgg t).run P w = .ok b w := by
  unfold aggT at h
  split at h
  · rename_i hu; simp at h; subst h; simp [isAgg, run_underlying hu]
  · rename_i hu; simp at h; subst h; simp [isAgg, run_underlying hu]
  · rename_i d h1 h2 hu
    simp at h; subst h
    cases d <;> first | (exact (h1 _ rfl).elim) | (exact (h2 _ _ rfl).elim) | (simp [isAgg, run_underlying hu]; done)
  · cases h
theorem sizeT_info {P : Program} {t : TypeId} {n : Nat} (h : sizeT P t = some n) : ∃ i, P.info? t = some i ∧ i.size = n := by
  unfold sizeT at h
  cases hi : P.info? t with
  | none => simp [hi] at h
  | some i => simp [hi] at h; exact ⟨i, rfl, h⟩
theorem run_sizeOf' {P : Program} {t : TypeId} {n : Nat} (h : sizeT P t = some n) (w : World) : (sizeOf t).run P w = .ok n w := by
  obtain ⟨i, hi, rfl⟩ := sizeT_info h
  simp [sizeOf, typeInfo, hi]
theorem ldT_parts {P : Program} {t : TypeId} {agg : Bool} {n : Nat} (h : ldT P t agg n = true) : aggT P t = some agg ∧ sizeT P t = some n ∧ (agg = false → n = 1) ∧ n ≠ 0 := by
  simp only [ldT, Bool.and_eq_true, decide_eq_true_eq] at h
  obtain ⟨⟨⟨h1, h2⟩, h3⟩, h4⟩ := h
  refine ⟨h1, h2, fun e => ?_, ?_⟩
  · subst e; simpa using h3
  · simpa using h4

theorem addr_add (b o n : Nat) : (⟨b, o, none⟩ : Addr).add n = ⟨b, o + n, none⟩ := by
  unfold Addr.add
  split
  · subst_vars; rfl
  · rfl
/-- A variable read: its cells are there. -/
theorem run_loadVar_cells {P : Program} {w : World} {t : TypeId} {agg : Bool} {n : Nat} (h : ldT P t agg n = true) (b o : Nat) (l : List Value) (hl : l.length = n) (hc : ∀ j v, l[j]? = some v → w.cell? ⟨b, o + j, none⟩ = some v) :
    (loadVar t ⟨b, o, none⟩).run P w = .ok (if agg then .agg ⟨l⟩ else l.getD 0 undef) w := by
  obtain ⟨h1, h2, h3, h4⟩ := ldT_parts h
  cases agg with
  | true =>
    have := run_loadCells_list (P := P) w ⟨b, o, none⟩ l (fun j v hj => by rw [addr_add]; exact hc j v hj)
    rw [hl] at this
    simp [loadVar, run_isAgg h1, run_sizeOf' h2, this]
  | false =>
    have hn := h3 rfl
    subst hn
    match l, hl with
    | [v], _ =>
      have := hc 0 v rfl
      simp at this
      simp [loadVar, run_isAgg h1, this]
theorem run_part {P : Program} {w : World} {t : TypeId} {agg : Bool} {n : Nat} (h : ldT P t agg n = true) (l : List Value) (off : Nat) (hl : off + n ≤ l.length) :
    (part t ⟨l⟩ off).run P w = .ok (if agg then .agg ⟨(l.drop off).take n⟩ else l.getD off undef) w := by
  obtain ⟨h1, h2, h3, h4⟩ := ldT_parts h
  cases agg with
  | true =>
    simp [part, run_isAgg h1, run_sizeOf' h2, List.take_drop, Nat.add_comm]
  | false =>
    have hn := h3 rfl
    have hlt : off < l.length := by omega
    simp [part, run_isAgg h1, hlt]

theorem getD_drop (l : List Value) (o : Nat) : l.getD o undef = (l.drop o).getD 0 undef := by
  simp [List.getD]

theorem eqGuard_int {P : Program} {w : World} (op : BinOp) (t : TypeId) (x y : Operand) (k j : IntKind) (a b : Int) : (eqGuard op t x y (.int k a) (.int j b)).run P w = .ok () w := by
  unfold eqGuard; cases op <;> rfl
theorem eqGuard_str {P : Program} {w : World} (op : BinOp) (t : TypeId) (x y : Operand) (a b : ByteArray) : (eqGuard op t x y (.string a) (.string b)).run P w = .ok () w := by
  unfold eqGuard; cases op <;> rfl
theorem eqGuard_bool {P : Program} {w : World} (op : BinOp) (t : TypeId) (x y : Operand) (a b : Bool) : (eqGuard op t x y (.bool a) (.bool b)).run P w = .ok () w := by
  unfold eqGuard; cases op <;> rfl
theorem eqGuard_agg {P : Program} {w : World} (op : BinOp) (t : TypeId) (x y : Operand) (a b : Array Value) (h : P.eqGuardType P.depth t = false) : (eqGuard op t x y (.agg a) (.agg b)).run P w = .ok () w := by
  unfold eqGuard; cases op <;> simp [h]
end Go.Aw

/- Equality of plain structs (own work). -/
namespace Go.Aw
open Go
set_option linter.unusedVariables false
set_option linter.unusedSimpArgs false

theorem eqCell_i {l : IntKind} {a b : AV} {r : Bool} (h : eqCell (.i l) a b = some r) : ∃ n j, a = .int l n ∧ b = .int l j ∧ r = decide (n = j) := by
  cases a <;> cases b <;> simp [eqCell] at h
  obtain ⟨⟨rfl, rfl⟩, rfl⟩ := h
  exact ⟨_, _, rfl, rfl, rfl⟩
theorem eqCell_s {a b : AV} {r : Bool} (h : eqCell .s a b = some r) : ∃ n j, a = .str n ∧ b = .str j ∧ r = decide (n = j) := by
  cases a <;> cases b <;> simp [eqCell] at h
  subst h
  exact ⟨_, _, rfl, rfl, rfl⟩
theorem eqCell_b {a b : AV} {r : Bool} (h : eqCell .b a b = some r) : ∃ n j, a = .bool n ∧ b = .bool j ∧ r = (n == j) := by
  cases a <;> cases b <;> simp [eqCell] at h
  subst h
  exact ⟨_, _, rfl, rfl, rfl⟩
theorem eqCells_len : ∀ {ks : List LK} {cs ds : List AV} {r : Bool}, eqCells ks cs ds = some r → cs.length = ks.length ∧ ds.length = ks.length
  | [], [], [], _, _ => ⟨rfl, rfl⟩
  | k :: ks, a :: cs, b :: ds, r, h => by
    simp only [eqCells] at h
    split at h
    · rename_i x y h1 h2
      obtain ⟨e1, e2⟩ := eqCells_len h2
      simp [e1, e2]
    · cases h
  | [], [], _ :: _, _, h => by simp [eqCells] at h
  | [], _ :: _, _, _, h => by simp [eqCells] at h
  | _ :: _, [], _, _, h => by simp [eqCells] at h
  | _ :: _, _ :: _, [], _, h => by simp [eqCells] at h
theorem eqCells_split : ∀ {ks ks' : List LK} {cs ds : List AV} {r : Bool}, eqCells (ks ++ ks') cs ds = some r → ∃ r1 r2, eqCells ks (cs.take ks.length) (ds.take ks.length) = some r1 ∧ eqCells ks' (cs.drop ks.length) (ds.drop ks.length) = some r2 ∧ r = (r1 && r2)
  | [], ks', cs, ds, r, h => ⟨true, r, by simp [eqCells], by simpa using h, by simp⟩
  | _ :: _, _, [], _, _, h => by simp [eqCells] at h
  | _ :: _, _, _ :: _, [], _, h => by simp [eqCells] at h
  | k :: ks, ks', a :: cs, b :: ds, r, h => by
    simp only [List.cons_append, eqCells] at h
    split at h
    · rename_i x y h1 h2
      obtain ⟨r1, r2, e1, e2, rfl⟩ := eqCells_split h2
      simp at h
      exact ⟨x && r1, r2, by simp [eqCells, h1, e1], by simpa using e2, by rw [← h, Bool.and_assoc]⟩
    · cases h

def ofL (agg : Bool) (l : List Value) : Value := if agg then .agg ⟨l⟩ else l.getD 0 undef

theorem run_part' {P : Program} {w : World} {t : TypeId} {agg : Bool} {n : Nat} (h1 : aggT P t = some agg) (h2 : sizeT P t = some n) (h3 : agg = false → n = 1) (l : List Value) (off : Nat) (hl : off + n ≤ l.length) :
    (part t ⟨l⟩ off).run P w = .ok (ofL agg ((l.drop off).take n)) w := by
  cases agg with
  | true => simp [part, run_isAgg h1, run_sizeOf' h2, ofL, List.take_drop, Nat.add_comm]
  | false =>
    have hn := h3 rfl
    have hlt : off < l.length := by omega
    subst hn
    simp [part, run_isAgg h1, hlt, ofL, List.getD, List.getElem?_take]

theorem flatT_agg {P : Program} : ∀ {d : Nat} {t : TypeId} {ks : List LK}, flatT P d t = some ks → ∃ agg, aggT P t = some agg ∧ (agg = false → ks.length = 1)
  | 0, _, _, h => by simp [flatT] at h
  | d + 1, t, ks, h => by
    simp only [flatT] at h
    split at h <;> first
      | (cases h; done)
      | (rename_i hu; simp only [Option.some.injEq] at h; subst h; exact ⟨false, by simp [aggT, hu], fun _ => rfl⟩)
      | (rename_i hu; exact ⟨true, by simp [aggT, hu], fun e => by cases e⟩)

theorem decide_toList (s u : List UInt8) : ((⟨⟨s⟩⟩ : ByteArray).toList == (⟨⟨u⟩⟩ : ByteArray).toList) = decide (s = u) := by
  rw [bytes_toList, bytes_toList]
  rw [Bool.eq_iff_iff]
  simp
theorem equalIn_flat {P : Program} {w : World} {m : Mem} : ∀ (d : Nat) {t : TypeId} {ks : List LK} {agg : Bool} {cs ds : List AV} {xs ys : List Value} {r : Bool} (e : Nat), flatT P d t = some ks → aggT P t = some agg → RvL m cs xs → RvL m ds ys → eqCells ks cs ds = some r →
    (Op.equalIn (d + e) t (ofL agg xs) (ofL agg ys)).run P w = .ok r w
  | 0, _, _, _, _, _, _, _, _, _, h, _, _, _, _ => by simp [flatT] at h
  | d + 1, t, ks, agg, cs, ds, xs, ys, r, e, h, ha, hx, hy, hr => by
    rw [show d + 1 + e = (d + e) + 1 by omega]
    simp only [flatT] at h
    have one : ∀ k, ks = [k] → agg = false → ∃ a b x y, eqCell k a b = some r ∧ Rv m a x ∧ Rv m b y ∧ ofL agg xs = x ∧ ofL agg ys = y := by
      rintro k rfl rfl
      match cs, ds, hr with
      | [a], [b], hr =>
        simp only [RvL] at hx hy
        obtain ⟨x, _, rfl, hx, rfl⟩ := hx
        obtain ⟨y, _, rfl, hy, rfl⟩ := hy
        simp only [eqCells] at hr
        split at hr
        · rename_i p q h1 h2
          simp at h2 hr
          subst h2
          simp at hr
          subst hr
          exact ⟨a, b, x, y, h1, hx, hy, rfl, rfl⟩
        · cases hr
      | [], _, hr => simp [eqCells] at hr
      | _ :: _, [], hr => simp [eqCells] at hr
      | _ :: _ :: _, _ :: _, hr => simp [eqCells] at hr
      | [_], _ :: _ :: _, hr => simp [eqCells] at hr
    split at h
    · rename_i hu
      simp at h
      have hagg : agg = false := by simp [aggT, hu] at ha; exact ha
      obtain ⟨a, b, x, y, h1, h2, h3, e1, e2⟩ := one _ h.symm hagg
      rw [e1, e2]
      obtain ⟨p, q, rfl, rfl, rfl⟩ := eqCell_b h1
      rw [rv_bool h2, rv_bool h3, run_equalIn_bool' _ _ _ _ _ hu]
    · rename_i k hu
      simp at h
      have hagg : agg = false := by simp [aggT, hu] at ha; exact ha
      obtain ⟨a, b, x, y, h1, h2, h3, e1, e2⟩ := one _ h.symm hagg
      rw [e1, e2]
      obtain ⟨p, q, rfl, rfl, rfl⟩ := eqCell_i h1
      rw [rv_int h2, rv_int h3, run_equalIn_int _ _ _ _ _ _ _ hu]
      congr 1
    · rename_i hu
      simp at h
      have hagg : agg = false := by simp [aggT, hu] at ha; exact ha
      obtain ⟨a, b, x, y, h1, h2, h3, e1, e2⟩ := one _ h.symm hagg
      rw [e1, e2]
      obtain ⟨p, q, rfl, rfl, rfl⟩ := eqCell_s h1
      rw [(rv_str h2).1, (rv_str h3).1, run_equalIn_string _ _ _ _ _ hu, decide_toList]
    · rename_i fs hu
      split at h
      · cases h
      · rename_i hst
        have hagg : agg = true := by simp [aggT, hu] at ha; exact ha
        subst hagg
        have hf : P.fieldsOf t = fs := by simp [Program.fieldsOf, hu]
        show (Op.equalIn ((d + e) + 1) t (.agg ⟨xs⟩) (.agg ⟨ys⟩)).run P w = _
        rw [run_equalIn_struct w (d + e) t ⟨xs⟩ ⟨ys⟩ (by rw [hf]; exact hu) (by simpa using hst), hf]
        have key : ∀ (fs : List Field) (off : Nat) (ks : List LK) (r : Bool), flatFs P (flatT P d) off fs = some ks → eqCells ks (cs.drop off) (ds.drop off) = some r → (Op.eqFields (d + e) ⟨xs⟩ ⟨ys⟩ fs).run P w = .ok r w := by
          intro fs
          induction fs with
          | nil =>
            intro off ks r h1 h2
            simp [flatFs] at h1
            subst h1
            have := eqCells_len h2
            simp at this
            rw [show cs.drop off = [] by exact List.drop_eq_nil_of_le (by omega), show ds.drop off = [] by exact List.drop_eq_nil_of_le (by omega)] at h2
            simp [eqCells] at h2
            subst h2
            simp [Op.eqFields]
          | cons f fs ih =>
            intro off ks r h1 h2
            simp only [flatFs] at h1
            split at h1
            · rename_i k1 hk1
              split at h1
              · rename_i hc
                obtain ⟨hc1, hc2, hc3, hc4⟩ := hc
                cases hrest : flatFs P (flatT P d) (off + k1.length) fs with
                | none => simp [hrest] at h1
                | some k2 =>
                  simp [hrest] at h1
                  subst h1
                  obtain ⟨r1, r2, g1, g2, rfl⟩ := eqCells_split h2
                  rw [List.drop_drop, List.drop_drop] at g2
                  obtain ⟨ag, ga, gs⟩ := flatT_agg hk1
                  have hpos : 0 < k1.length := List.length_pos_iff.2 hc4
                  have hle := eqCells_len h2
                  simp only [List.length_drop, List.length_append] at hle
                  have hl1 : off + k1.length ≤ xs.length := by have := RvL.length hx; omega
                  have hl2 : off + k1.length ≤ ys.length := by have := RvL.length hy; omega
                  have p1 := run_part' (w := w) ga hc3 gs xs off hl1
                  have p2 := run_part' (w := w) ga hc3 gs ys off hl2
                  have hq := equalIn_flat d e hk1 ga (RvL.take k1.length (RvL.drop off hx)) (RvL.take k1.length (RvL.drop off hy)) g1 (w := w)
                  simp only [Op.eqFields, hc2, ne_eq, not_false_eq_true, if_true, Sem.run_bind, hc1, p1, p2, Result.andThen_ok, hq]
                  cases r1 with
                  | false => simp
                  | true => simpa using ih _ _ _ hrest g2
              · cases h1
            · cases h1
        exact key fs.toList 0 ks r h (by simpa using hr)
    · cases h
end Go.Aw
