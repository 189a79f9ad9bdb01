/- Part of a proof; own work. -/
import Derived.WalkKit
import Derived.Recover
import Derived.Lib.Strings
import Derived.Lib.SmallJoins
namespace Go.Aw
open Go
def globs : List (Nat × (Obj → Prop)) := [
 (1, fun ob => ∃ T fr, ob = .cells (((List.range 20).map fun i => ((10 ^ i : Nat) : Int)).map fun z => Value.int .u64 z).toArray T fr)]
def GlobW (w : World) : Prop := ∀ p ∈ globs, ∃ ob, w.heap[p.1]? = some ob ∧ p.2 ob
def bnd : Nat := 1000000
def fnV (f : FuncId) (l : List Value) : Value := if f < bnd then .func (.func f) #[] ⟨l⟩ else .func (.func (f - bnd)) ⟨l⟩ #[]
theorem fnV_lt {f : FuncId} (h : f < bnd) (l : List Value) : fnV f l = .func (.func f) #[] ⟨l⟩ := if_pos h
theorem fnV_bnd (f : FuncId) (l : List Value) : fnV (f + bnd) l = .func (.func f) ⟨l⟩ #[] := by
 unfold fnV
 rw [if_neg (Nat.not_lt.2 (Nat.le_add_left bnd f)), Nat.add_sub_cancel]
inductive AV where
 | top
 | bool (b : Bool)
 | int (k : IntKind) (n : Int)
 | str (s : List UInt8)
 | raw (v : Value)
 | ptr (b o : Nat)
 | agg (cs : List AV)
 | tup (cs : List AV)
 | vs (size : Nat) (rows : List (List AV))
 | own (t : Nat) (size : Nat) (rows : List (List AV))
 | ms (t ver : Nat)
 | mp (t ver k : Nat)
 | rp (row : List AV) (off : Nat)
 | fn (f : FuncId) (cap : List AV)
 | ifc (t : TypeId) (v : AV)
structure Own where
 ty : TypeId
 size : Nat
 n : Nat
 ver : Nat
 con : Option (List (List AV))
def Own.len (i : Own) : Nat := match i.con with | none => i.n | some rows => rows.length
structure AHeap where
 blk : Nat → Option (TypeId × List AV)
 tok : Nat → Option Own
def AHeap.none : AHeap := ⟨fun _ => Option.none, fun _ => Option.none⟩
def AHeap.setB (H : AHeap) (b : Nat) (T : TypeId) (cs : List AV) : AHeap := { H with blk := fun x => if x = b then some (T, cs) else H.blk x }
def AHeap.dropB (H : AHeap) (b : Nat) : AHeap := { H with blk := fun x => if x = b then Option.none else H.blk x }
def AHeap.setT (H : AHeap) (t : Nat) (o : Own) : AHeap := { H with tok := fun x => if x = t then some o else H.tok x }
structure Mem where
 w : World
 H : AHeap
 L : Nat → Value
 T : Nat
structure St (m : Mem) (b o : Nat) : Prop where
 lt : b < m.w.heap.size
 blk : m.H.blk b = Option.none
 tok : ∀ t i, m.H.tok t = some i → (m.L t).ownBlock = some b → o < i.n * i.size
mutual
def Rv (m : Mem) : AV → Value → Prop
 | .top, _ => True
 | .bool b, v => v = .bool b
 | .int k n, v => v = .int k n
 | .str s, v => v = .string ⟨⟨s⟩⟩ ∧ s.length ≤ maxLen
 | .raw x, v => v = x
 | .ptr b o, v => v = .pointer (some ⟨b, o, none⟩)
 | .agg cs, v => ∃ l, v = .agg ⟨l⟩ ∧ RvL m cs l
 | .tup cs, v => ∃ l, v = .tuple ⟨l⟩ ∧ RvL m cs l
 | .vs size rows, v => ∃ a len cap, v = .slice a len cap ∧ len = rows.length ∧ (len ≤ cap ∧ cap ≤ maxLen) ∧ (rows.length = 0 ∨ ∃ b o, a = some ⟨b, o, none⟩ ∧ RvR m size rows b o)
 | .own t size rows, v => (∃ a len cap, v = .slice a len cap ∧ len = rows.length ∧ (len ≤ cap ∧ cap ≤ maxLen) ∧ (rows.length = 0 ∨ ∃ b o, a = some ⟨b, o, none⟩ ∧ RvR m size rows b o)) ∧ t < m.T ∧ (∀ i, m.H.tok t = some i → rows.length ≤ i.ver ∧ (i.ver = rows.length → m.L t = v ∧ i.size = size))
 | .ms t ver, v => v.oneCell' = true ∧ t < m.T ∧ (∀ i, m.H.tok t = some i → ver ≤ i.ver ∧ (i.ver = ver → m.L t = v))
 | .mp t ver k, v => v.oneCell' = true ∧ t < m.T ∧ (∀ i, m.H.tok t = some i → ver ≤ i.ver ∧ (i.ver = ver → ∃ b len cap, m.L t = .slice (some ⟨b, 0, none⟩) len cap ∧ v = .pointer (some ⟨b, k, none⟩)))
 | .rp row off, v => ∃ b o, v = .pointer (some ⟨b, o + off, none⟩) ∧ RvC m row b o
 | .fn f cap, v => ∃ l, v = fnV f l ∧ RvL m cap l
 | .ifc t a, v => ∃ x, v = .iface t x ∧ Rv m a x
def RvL (m : Mem) : List AV → List Value → Prop
 | [], l => l = []
 | a :: az, l => ∃ v vs, l = v :: vs ∧ Rv m a v ∧ RvL m az vs
def RvC (m : Mem) : List AV → Nat → Nat → Prop
 | [], _, _ => True
 | a :: az, b, o => (∃ v, m.w.cell? ⟨b, o, none⟩ = some v ∧ v.oneCell' = true ∧ St m b o ∧ Rv m a v) ∧ RvC m az b (o + 1)
def RvR (m : Mem) (size : Nat) : List (List AV) → Nat → Nat → Prop
 | [], _, _ => True
 | r :: rs, b, o => r.length = size ∧ RvC m r b o ∧ RvR m size rs b (o + size)
end
structure Ev (m m' : Mem) : Prop where
 os : m'.w.os = m.w.os
 tape : m'.w.tape = m.w.tape
 output : m'.w.output = m.w.output
 size : m.w.heap.size ≤ m'.w.heap.size
 T : m.T ≤ m'.T
 block : ∀ b, b < m.w.heap.size → m.H.blk b = Option.none → (∀ t i, m.H.tok t = some i → (m.L t).ownBlock ≠ some b) → m'.w.heap[b]? = m.w.heap[b]? ∧ m'.H.blk b = Option.none ∧ (∀ t i, m'.H.tok t = some i → (m'.L t).ownBlock ≠ some b)
 cell : ∀ b o, St m b o → St m' b o ∧ m'.w.cell? ⟨b, o, none⟩ = m.w.cell? ⟨b, o, none⟩
 tok : ∀ t i', t < m.T → m'.H.tok t = some i' → ∃ i, m.H.tok t = some i ∧ i.ver ≤ i'.ver ∧ i'.size = i.size ∧ (i'.ver = i.ver → m'.L t = m.L t)
theorem Ev.refl (m : Mem) : Ev m m := ⟨rfl, rfl, rfl, Nat.le_refl _, Nat.le_refl _, fun _ _ h h' => ⟨rfl, h, h'⟩, fun _ _ h => ⟨h, rfl⟩, fun _ i' _ h => ⟨i', h, Nat.le_refl _, rfl, fun _ => rfl⟩⟩
theorem Ev.trans {a b c : Mem} (h : Ev a b) (k : Ev b c) : Ev a c where
 os := k.os.trans h.os
 tape := k.tape.trans h.tape
 output := k.output.trans h.output
 size := Nat.le_trans h.size k.size
 T := Nat.le_trans h.T k.T
 block := fun x hx hb ht => by
  obtain ⟨e1, e2, e3⟩ := h.block x hx hb ht
  obtain ⟨f1, f2, f3⟩ := k.block x (Nat.lt_of_lt_of_le hx h.size) e2 e3
  exact ⟨f1.trans e1, f2, f3⟩
 cell := fun x o hs => by
  obtain ⟨e1, e2⟩ := h.cell x o hs
  obtain ⟨f1, f2⟩ := k.cell x o e1
  exact ⟨f1, f2.trans e2⟩
 tok := fun t i'' ht hi => by
  obtain ⟨i', h1, h2, h3, h4⟩ := k.tok t i'' (Nat.lt_of_lt_of_le ht h.T) hi
  obtain ⟨i, g1, g2, g3, g4⟩ := h.tok t i' ht h1
  refine ⟨i, g1, Nat.le_trans g2 h2, h3.trans g3, fun e => ?_⟩
  rw [h4 (by omega), g4 (by omega)]
mutual
theorem Rv.ev {m m' : Mem} (e : Ev m m') : ∀ (a : AV) (v : Value), Rv m a v → Rv m' a v
 | .top, _, _ => by simp only [Rv]
 | .bool _, _, h => by simp only [Rv] at *; exact h
 | .int _ _, _, h => by simp only [Rv] at *; exact h
 | .str _, _, h => by simp only [Rv] at *; exact h
 | .raw _, _, h => by simp only [Rv] at *; exact h
 | .ptr _ _, _, h => by simp only [Rv] at *; exact h
 | .agg cs, _, h => by simp only [Rv] at *; obtain ⟨l, e1, e2⟩ := h; exact ⟨l, e1, RvL.ev e cs l e2⟩
 | .tup cs, _, h => by simp only [Rv] at *; obtain ⟨l, e1, e2⟩ := h; exact ⟨l, e1, RvL.ev e cs l e2⟩
 | .vs size rows, _, h => by
  simp only [Rv] at *
  obtain ⟨a, len, cap, h1, h2, h3, h4⟩ := h
  exact ⟨a, len, cap, h1, h2, h3, h4.imp id fun ⟨b, o, g1, g2⟩ => ⟨b, o, g1, RvR.ev e size rows b o g2⟩⟩
 | .own t size rows, _, h => by
  simp only [Rv] at *
  obtain ⟨⟨a, len, cap, h1, h2, h3, h4⟩, h5, h6⟩ := h
  refine ⟨⟨a, len, cap, h1, h2, h3, h4.imp id fun ⟨b, o, g1, g2⟩ => ⟨b, o, g1, RvR.ev e size rows b o g2⟩⟩, Nat.lt_of_lt_of_le h5 e.T, fun i hi => ?_⟩
  obtain ⟨i0, k1, k2, k3, k4⟩ := e.tok t i h5 hi
  obtain ⟨r0, r1⟩ := h6 i0 k1
  refine ⟨by omega, fun hn => ?_⟩
  obtain ⟨r1, r2⟩ := r1 (by omega)
  exact ⟨(k4 (by omega)).trans r1, k3.trans r2⟩
 | .ms t ver, _, h => by
  simp only [Rv] at *
  obtain ⟨h0, h5, h6⟩ := h
  refine ⟨h0, Nat.lt_of_lt_of_le h5 e.T, fun i hi => ?_⟩
  obtain ⟨i0, k1, k2, k3, k4⟩ := e.tok t i h5 hi
  obtain ⟨r0, r1⟩ := h6 i0 k1
  exact ⟨by omega, fun hn => (k4 (by omega)).trans (r1 (by omega))⟩
 | .mp t ver k, _, h => by
  simp only [Rv] at *
  obtain ⟨h0, h5, h6⟩ := h
  refine ⟨h0, Nat.lt_of_lt_of_le h5 e.T, fun i hi => ?_⟩
  obtain ⟨i0, k1, k2, k3, k4⟩ := e.tok t i h5 hi
  obtain ⟨r0, r1⟩ := h6 i0 k1
  refine ⟨by omega, fun hn => ?_⟩
  obtain ⟨b, len, cap, g1, g2⟩ := r1 (by omega)
  exact ⟨b, len, cap, (k4 (by omega)).trans g1, g2⟩
 | .rp row off, _, h => by
  simp only [Rv] at *
  obtain ⟨b, o, h1, h2⟩ := h
  exact ⟨b, o, h1, RvC.ev e row b o h2⟩
 | .fn f cs, _, h => by simp only [Rv] at *; obtain ⟨l, e1, e2⟩ := h; exact ⟨l, e1, RvL.ev e cs l e2⟩
 | .ifc t a, _, h => by simp only [Rv] at *; obtain ⟨x, e1, e2⟩ := h; exact ⟨x, e1, Rv.ev e a x e2⟩
theorem RvL.ev {m m' : Mem} (e : Ev m m') : ∀ (az : List AV) (l : List Value), RvL m az l → RvL m' az l
 | [], _, h => by simp only [RvL] at *; exact h
 | a :: az, _, h => by simp only [RvL] at *; obtain ⟨v, vs, h1, h2, h3⟩ := h; exact ⟨v, vs, h1, Rv.ev e a v h2, RvL.ev e az vs h3⟩
theorem RvC.ev {m m' : Mem} (e : Ev m m') : ∀ (az : List AV) (b o : Nat), RvC m az b o → RvC m' az b o
 | [], _, _, _ => by simp only [RvC]
 | a :: az, b, o, h => by
  simp only [RvC] at *
  obtain ⟨⟨v, h1, h1', h2, h3⟩, h4⟩ := h
  obtain ⟨s1, s2⟩ := e.cell b o h2
  exact ⟨⟨v, s2.trans h1, h1', s1, Rv.ev e a v h3⟩, RvC.ev e az b (o + 1) h4⟩
theorem RvR.ev {m m' : Mem} (e : Ev m m') (size : Nat) : ∀ (rs : List (List AV)) (b o : Nat), RvR m size rs b o → RvR m' size rs b o
 | [], _, _, _ => by simp only [RvR]
 | r :: rs, b, o, h => by
  simp only [RvR] at *
  exact ⟨h.1, RvC.ev e r b o h.2.1, RvR.ev e size rs b (o + size) h.2.2⟩
end
def GlobF (m : Mem) : Prop := ∀ p ∈ globs, m.H.blk p.1 = Option.none ∧ ∀ t i, m.H.tok t = some i → (m.L t).ownBlock ≠ some p.1
theorem Glob.ev {m m' : Mem} (e : Ev m m') (h : GlobW m.w) (k : GlobF m) : GlobW m'.w ∧ GlobF m' := by
 have key : ∀ p ∈ globs, (∃ ob, m'.w.heap[p.1]? = some ob ∧ p.2 ob) ∧ m'.H.blk p.1 = Option.none ∧ ∀ t i, m'.H.tok t = some i → (m'.L t).ownBlock ≠ some p.1 := by
  intro p hp
  obtain ⟨ob, h1, h2⟩ := h p hp
  obtain ⟨k1, k2⟩ := k p hp
  obtain ⟨e1, e2, e3⟩ := e.block p.1 (Array.getElem?_eq_some_iff.1 h1).1 k1 k2
  exact ⟨⟨ob, e1.trans h1, h2⟩, e2, e3⟩
 exact ⟨fun p hp => (key p hp).1, fun p hp => (key p hp).2⟩
structure RH (m : Mem) : Prop where
 blk : ∀ b T cs, m.H.blk b = some (T, cs) → ∃ l, m.w.heap[b]? = some (.cells ⟨l⟩ T (0, 0)) ∧ RvL m cs l ∧ ∀ v ∈ l, v.oneCell' = true
 tok : ∀ t i, m.H.tok t = some i → t < m.T ∧ i.size ≠ 0 ∧ (∃ xs, m.w.ownsRow 0 i.ty i.size (m.L t) i.len xs ∧ ∀ rows, i.con = some rows → RvL m rows.flatten xs ∧ (∀ r ∈ rows, r.length = i.size) ∧ ∀ v ∈ xs, v.oneCell' = true) ∧ (∀ b, (m.L t).ownBlock = some b → m.H.blk b = Option.none ∧ ∀ t' i', m.H.tok t' = some i' → (m.L t').ownBlock = some b → t' = t)
 glob : GlobW m.w
 globf : GlobF m
theorem RvL.length {m : Mem} : ∀ {az : List AV} {l : List Value}, RvL m az l → l.length = az.length
 | [], _, h => by simp only [RvL] at h; subst h; rfl
 | a :: az, _, h => by simp only [RvL] at h; obtain ⟨v, vs, rfl, _, h2⟩ := h; simp [RvL.length h2]
theorem RvL.get {m : Mem} : ∀ {az : List AV} {l : List Value} (_ : RvL m az l) (i : Nat) (a : AV), az[i]? = some a → ∃ v, l[i]? = some v ∧ Rv m a v
 | [], _, _, _, _, h => by simp at h
 | a :: az, _, h, 0, x, hx => by simp only [RvL] at h; obtain ⟨v, vs, rfl, h1, h2⟩ := h; simp at hx; subst hx; exact ⟨v, rfl, h1⟩
 | a :: az, _, h, i + 1, x, hx => by simp only [RvL] at h; obtain ⟨v, vs, rfl, h1, h2⟩ := h; simp at hx; obtain ⟨v', e1, e2⟩ := RvL.get h2 i x hx; exact ⟨v', by simpa using e1, e2⟩
theorem RvL.append {m : Mem} : ∀ {az : List AV} {l : List Value} {bs : List AV} {l' : List Value} (_ : RvL m az l) (_ : RvL m bs l'), RvL m (az ++ bs) (l ++ l')
 | [], _, _, _, h, k => by simp only [RvL] at h; subst h; simpa using k
 | a :: az, _, _, _, h, k => by simp only [RvL] at h; obtain ⟨v, vs, rfl, h1, h2⟩ := h; simp only [List.cons_append, RvL]; exact ⟨v, _, rfl, h1, RvL.append h2 k⟩
theorem RvL.drop {m : Mem} : ∀ (n : Nat) {az : List AV} {l : List Value} (_ : RvL m az l), RvL m (az.drop n) (l.drop n)
 | 0, _, _, h => by simpa using h
 | n + 1, [], _, h => by simp only [RvL] at h; subst h; simp [RvL]
 | n + 1, a :: az, _, h => by simp only [RvL] at h; obtain ⟨v, vs, rfl, h1, h2⟩ := h; simpa using RvL.drop n h2
theorem RvL.take {m : Mem} : ∀ (n : Nat) {az : List AV} {l : List Value} (_ : RvL m az l), RvL m (az.take n) (l.take n)
 | 0, _, _, _ => by simp [RvL]
 | n + 1, [], _, h => by simp only [RvL] at h; subst h; simp [RvL]
 | n + 1, a :: az, _, h => by simp only [RvL] at h; obtain ⟨v, vs, rfl, h1, h2⟩ := h; simp only [List.take_succ_cons, RvL]; exact ⟨v, _, rfl, h1, RvL.take n h2⟩
theorem RvL.set {m : Mem} : ∀ (n : Nat) {az : List AV} {l : List Value} (_ : RvL m az l) {a : AV} {v : Value}, Rv m a v → RvL m (az.set n a) (l.set n v)
 | _, [], _, h, _, _, _ => by simp only [RvL] at h; subst h; simp [RvL]
 | 0, a :: az, _, h, _, _, hv => by simp only [RvL] at h; obtain ⟨v, vs, rfl, h1, h2⟩ := h; simp only [List.set_cons_zero, RvL]; exact ⟨_, _, rfl, hv, h2⟩
 | n + 1, a :: az, _, h, _, _, hv => by simp only [RvL] at h; obtain ⟨v, vs, rfl, h1, h2⟩ := h; simp only [List.set_cons_succ, RvL]; exact ⟨_, _, rfl, h1, RvL.set n h2 hv⟩
theorem RvC.get {m : Mem} : ∀ {az : List AV} {b o : Nat} (_ : RvC m az b o) (i : Nat) (a : AV), az[i]? = some a → ∃ v, m.w.cell? ⟨b, o + i, none⟩ = some v ∧ v.oneCell' = true ∧ St m b (o + i) ∧ Rv m a v
 | [], _, _, _, _, _, h => by simp at h
 | a :: az, b, o, h, 0, x, hx => by simp only [RvC] at h; simp at hx; subst hx; exact h.1
 | a :: az, b, o, h, i + 1, x, hx => by
  simp only [RvC] at h
  simp at hx
  obtain ⟨v, e⟩ := RvC.get h.2 i x hx
  rw [show o + (i + 1) = o + 1 + i by omega]
  exact ⟨v, e⟩
theorem RvR.get {m : Mem} {size : Nat} : ∀ {rs : List (List AV)} {b o : Nat} (_ : RvR m size rs b o) (i : Nat) (r : List AV), rs[i]? = some r → r.length = size ∧ RvC m r b (o + i * size)
 | [], _, _, _, _, _, h => by simp at h
 | r :: rs, b, o, h, 0, x, hx => by simp only [RvR] at h; simp at hx; subst hx; simpa using ⟨h.1, h.2.1⟩
 | r :: rs, b, o, h, i + 1, x, hx => by
  simp only [RvR] at h
  simp at hx
  have := RvR.get h.2.2 i x hx
  rwa [show o + size + i * size = o + (i + 1) * size by rw [Nat.add_mul]; omega] at this
theorem RvR.drop {m : Mem} {size : Nat} : ∀ (n : Nat) {rs : List (List AV)} {b o : Nat}, RvR m size rs b o → RvR m size (rs.drop n) b (o + n * size)
 | 0, _, _, _, h => by simpa using h
 | n + 1, [], _, _, _ => by simp [RvR]
 | n + 1, r :: rs, b, o, h => by
  simp only [RvR] at h
  have := RvR.drop n h.2.2
  rw [List.drop_succ_cons]
  rwa [show o + size + n * size = o + (n + 1) * size by rw [Nat.add_mul]; omega] at this
theorem RvR.take {m : Mem} {size : Nat} : ∀ (n : Nat) {rs : List (List AV)} {b o : Nat}, RvR m size rs b o → RvR m size (rs.take n) b o
 | 0, _, _, _, _ => by simp [RvR]
 | n + 1, [], _, _, _ => by simp [RvR]
 | n + 1, r :: rs, b, o, h => by
  simp only [RvR] at h
  simp only [List.take_succ_cons, RvR]
  exact ⟨h.1, h.2.1, RvR.take n h.2.2⟩
theorem RvC.vals {m : Mem} : ∀ {az : List AV} {b o : Nat}, RvC m az b o → ∃ l, RvL m az l ∧ (∀ j v, l[j]? = some v → m.w.cell? ⟨b, o + j, none⟩ = some v ∧ v.oneCell' = true)
 | [], _, _, _ => ⟨[], by simp [RvL], by simp⟩
 | a :: az, b, o, h => by
  simp only [RvC] at h
  obtain ⟨⟨v, h1, h1', _, h3⟩, h4⟩ := h
  obtain ⟨l, e1, e2⟩ := RvC.vals h4
  refine ⟨v :: l, by simp only [RvL]; exact ⟨v, l, rfl, h3, e1⟩, fun j u hj => ?_⟩
  cases j with
  | zero => simp at hj; subst hj; exact ⟨h1, h1'⟩
  | succ j => simp at hj; have := e2 j u hj; rwa [show o + 1 + j = o + (j + 1) by omega] at this
theorem RvR.vals {m : Mem} {size : Nat} : ∀ {rs : List (List AV)} {b o : Nat}, RvR m size rs b o → ∃ l, RvL m rs.flatten l ∧ l.length = rs.length * size ∧ (∀ j v, l[j]? = some v → m.w.cell? ⟨b, o + j, none⟩ = some v ∧ v.oneCell' = true)
 | [], _, _, _ => ⟨[], by simp [RvL], by simp, by simp⟩
 | r :: rs, b, o, h => by
  simp only [RvR] at h
  obtain ⟨h1, h2, h3⟩ := h
  obtain ⟨l, e1, e2⟩ := RvC.vals h2
  obtain ⟨l', f1, f2, f3⟩ := RvR.vals h3
  have hl : l.length = size := (RvL.length e1).trans h1
  refine ⟨l ++ l', by simpa using RvL.append e1 f1, by rw [List.length_append, f2, hl, List.length_cons, Nat.add_mul]; omega, fun j u hj => ?_⟩
  by_cases hj' : j < l.length
  ·rw [List.getElem?_append_left hj'] at hj
   exact e2 j u hj
  ·rw [List.getElem?_append_right (by omega)] at hj
   have := f3 _ u hj
   rwa [show o + size + (j - l.length) = o + j by omega] at this
theorem RvC.of {m : Mem} : ∀ {az : List AV} {l : List Value} {b o : Nat}, RvL m az l → (∀ j v, l[j]? = some v → m.w.cell? ⟨b, o + j, none⟩ = some v ∧ v.oneCell' = true ∧ St m b (o + j)) → RvC m az b o
 | [], _, _, _, _, _ => by simp only [RvC]
 | a :: az, l, b, o, h, k => by
  simp only [RvL] at h
  obtain ⟨v, vs, rfl, h1, h2⟩ := h
  simp only [RvC]
  refine ⟨⟨v, (k 0 v rfl).1, (k 0 v rfl).2.1, (k 0 v rfl).2.2, h1⟩, RvC.of h2 fun j u hj => ?_⟩
  have := k (j + 1) u (by simpa using hj)
  rwa [show o + (j + 1) = o + 1 + j by omega] at this
theorem RvR.of {m : Mem} {size : Nat} : ∀ {rs : List (List AV)} {l : List Value} {b o : Nat}, (∀ r ∈ rs, r.length = size) → RvL m rs.flatten l → (∀ j v, l[j]? = some v → m.w.cell? ⟨b, o + j, none⟩ = some v ∧ v.oneCell' = true ∧ St m b (o + j)) → RvR m size rs b o
 | [], _, _, _, _, _, _ => by simp only [RvR]
 | r :: rs, l, b, o, hs, h, k => by
  simp only [List.flatten_cons] at h
  have hr : r.length = size := hs r (by simp)
  have h1 := RvL.take r.length h
  have h2 := RvL.drop r.length h
  simp only [List.take_left] at h1
  simp only [List.drop_left] at h2
  simp only [RvR]
  refine ⟨hr, RvC.of h1 fun j v hj => k j v ?_, RvR.of (fun x hx => hs x (by simp [hx])) h2 fun j v hj => ?_⟩
  ·rw [List.getElem?_take] at hj
   split at hj
   ·exact hj
   ·cases hj
  ·rw [List.getElem?_drop] at hj
   have := k _ v hj
   rwa [show o + (r.length + j) = o + size + j by omega] at this
abbrev AV.nilS : AV := .raw (.slice none 0 0)
abbrev AV.undef : AV := .raw Go.undef
def AVLe (a b : AV) : Prop := ∀ m v, Rv m a v → Rv m b v
def AVLes : List AV → List AV → Prop
 | [], l => l = []
 | a :: az, l => ∃ b bs, l = b :: bs ∧ AVLe a b ∧ AVLes az bs
inductive EOpd where
 | t (n : Nat)
 | c (a : AV)
abbrev Env := List (Nat × AV)
def Env.get : Env → Nat → AV
 | [], _ => .top
 | (k, v) :: e, j => bif k == j then v else Env.get e j
def Env.put (e : Env) : Option Nat → AV → Env
 | none, _ => e
 | some k, v => (k, v) :: e
def EOpd.ev (env : Env) : EOpd → AV
 | .t n => env.get n
 | .c a => a
inductive LK where
 | b
 | i (k : IntKind)
 | s
 deriving DecidableEq
inductive EOp where
 | mv (x : EOpd)
 | pick (c a b : EOpd)
 | nilck (x : EOpd)
 | box (T : TypeId) (x : EOpd)
 | alloc (T : TypeId) (zero : List AV)
 | build (zero : List AV) (parts : List (Nat × Nat × EOpd))
 | bslice (T size n : Nat) (zero : List AV) (parts : List (Nat × EOpd))
 | bsliceO (T size n : Nat) (zero : List AV) (parts : List (Nat × EOpd))
 | load (agg : Bool) (n : Nat) (x : EOpd)
 | loadD (me : Nat) (agg : Bool) (n : Nat) (x : EOpd)
 | loadR (agg : Bool) (n : Nat) (x : EOpd)
 | store (n : Nat) (a v : EOpd)
 | faddr (off : Nat) (x : EOpd)
 | field (agg : Bool) (off n : Nat) (x : EOpd)
 | iaddr (size : Nat) (x i : EOpd)
 | iaddrA (len size : Nat) (x i : EOpd)
 | idxA (agg : Bool) (len size : Nat) (x i : EOpd)
 | idxS (x i : EOpd)
 | bin (op : BinOp) (x y : EOpd)
 | binB (op : BinOp) (x y : EOpd)
 | eqA (neg : Bool) (T : TypeId) (ks : List LK) (x y : EOpd)
 | not (x : EOpd)
 | neg (x : EOpd)
 | conv (k : IntKind) (x : EOpd)
 | lenS (x : EOpd)
 | len (x : EOpd)
 | lenA (n : Nat)
 | minmax (isMax : Bool) (xs : List EOpd)
 | append (T size bytes : Nat) (x y : EOpd)
 | slS (x : EOpd) (lo hi : Option EOpd)
 | slV (size : Nat) (x : EOpd) (lo hi mx : Option EOpd)
 | convS (int : Bool) (x : EOpd)
 | convBS (T : TypeId) (x : EOpd)
 | slA (len size : Nat) (x : EOpd)
 | mkfnB (f : FuncId) (cap : List EOpd)
 | extract (i : Nat) (x : EOpd)
 | mkfn (f : FuncId) (cap : List EOpd)
 | mkif (T : TypeId) (x : EOpd)
 | call (f : FuncId) (args : List EOpd)
 | callv (x : EOpd) (args : List EOpd)
 | callD (others : List Nat) (f : FuncId) (args : List EOpd)
 | pcall (f : FuncId) (args : List EOpd)
 | pcallv (x : EOpd) (args : List EOpd)
 | pcallR (f : FuncId) (args : List EOpd) (r : AV)
 | pcallvR (x : EOpd) (args : List EOpd) (r : AV)
 | panic (x : EOpd)
 | storeD (me : Nat) (others : List Nat) (n : Nat) (a v : EOpd)
 | isnil (neg : Bool) (x : EOpd)
 | pnil (neg : Bool) (x : EOpd)
 | mkM (T size bytes : Nat) (zero : List AV) (x : EOpd)
 | faddrM (off : Nat) (x : EOpd)
 | lenM (x : EOpd)
 | iaddrM (size : Nat) (x i : EOpd)
 | loadM (agg : Bool) (n : Nat) (x : EOpd)
 | appendM (T size bytes : Nat) (x y : EOpd)
 | slM (size : Nat) (x : EOpd) (lo hi : Option EOpd)
 | bsliceM (T size n : Nat) (zero : List AV) (parts : List (Nat × EOpd))
 | pcallM (T size : Nat) (f : FuncId) (args : List EOpd)
 | pcallMR (T size : Nat) (f : FuncId) (args : List EOpd) (rows : List (List AV))
def AV.one : AV → Bool
 | .agg _ => false
 | .tup _ => false
 | .top => false
 | .raw v => v.oneCell'
 | _ => true
def AV.cells : AV → List AV
 | .agg cs => cs
 | a => [a]
def AV.okc : AV → Bool
 | .agg _ => true
 | a => a.one
def AV.ofCells (agg : Bool) (l : List AV) : Option AV :=
 bif agg then some (.agg l) else match l with
  | [a] => some a
  | _ => none
def binInt (op : BinOp) (k : IntKind) (a b : Int) : Option AV :=
 match op with
 | .add => some (.int k (k.wrap (a + b)))
 | .sub => some (.int k (k.wrap (a - b)))
 | .mul => some (.int k (k.wrap (a * b)))
 | .eql => some (.bool (decide (a = b)))
 | .neq => some (.bool (!decide (a = b)))
 | .lss => some (.bool (decide (a < b)))
 | .leq => some (.bool (decide (a ≤ b)))
 | .gtr => some (.bool (decide (b < a)))
 | .geq => some (.bool (decide (b ≤ a)))
 | .and => some (.int k (k.wrap (BitVec.ofInt k.bits a &&& BitVec.ofInt k.bits b).toNat))
 | .or => some (.int k (k.wrap (BitVec.ofInt k.bits a ||| BitVec.ofInt k.bits b).toNat))
 | .xor => some (.int k (k.wrap (BitVec.ofInt k.bits a ^^^ BitVec.ofInt k.bits b).toNat))
 | .shl => if 0 ≤ b then some (.int k (k.wrap (a * 2 ^ (min b.toNat k.bits)))) else none
 | .shr => if 0 ≤ b then some (.int k (a.fdiv (2 ^ (min b.toNat k.bits)))) else none
 | _ => none
def shInt (op : BinOp) (k : IntKind) (a b : Int) : Option AV :=
 match op with
 | .shl => if 0 ≤ b then some (.int k (k.wrap (a * 2 ^ (min b.toNat k.bits)))) else none
 | .shr => if 0 ≤ b then some (.int k (a.fdiv (2 ^ (min b.toNat k.bits)))) else none
 | _ => none
def byteRows : List (List AV) → Option (List UInt8)
 | [] => some []
 | [.int .u8 n] :: rs => match byteRows rs with
  | some l => some (UInt8.ofNat n.toNat :: l)
  | none => none
 | _ => none
def optNat (env : Env) (dflt : Nat) : Option EOpd → Option Nat
 | none => some dflt
 | some x => match x.ev env with
  | .int _ (.ofNat n) => some n
  | _ => none
def binStr (op : BinOp) (a b : List UInt8) : Option AV :=
 match op with
 | .eql => some (.bool (decide (a = b)))
 | .neq => some (.bool (!decide (a = b)))
 | .lss => some (.bool (Go.Op.bytesLess a b))
 | .leq => some (.bool (Go.Op.bytesLess a b || decide (a = b)))
 | .gtr => some (.bool (!(Go.Op.bytesLess a b || decide (a = b))))
 | .geq => some (.bool (!Go.Op.bytesLess a b))
 | _ => none
def binBool (op : BinOp) (a b : Bool) : Option AV :=
 match op with
 | .eql => some (.bool (a == b))
 | .neq => some (.bool (!(a == b)))
 | _ => none
def eqCell : LK → AV → AV → Option Bool
 | .i l, .int k a, .int j b => if k = l ∧ j = l then some (decide (a = b)) else none
 | .s, .str a, .str b => some (decide (a = b))
 | .b, .bool a, .bool b => some (a == b)
 | _, _, _ => none
def eqCells : List LK → List AV → List AV → Option Bool
 | [], [], [] => some true
 | k :: ks, a :: az, b :: bs => match eqCell k a b, eqCells ks az bs with
  | some x, some y => some (x && y)
  | _, _ => none
 | _, _, _ => none
def setRange (l : List AV) (o : Nat) (new : List AV) : List AV := l.take o ++ new ++ l.drop (o + new.length)
def buildParts (env : Env) (cells : List AV) : List (Nat × Nat × EOpd) → Option (List AV)
 | [] => some cells
 | (off, size, x) :: rest =>
  let cs := (x.ev env).cells
  if cs.length = size ∧ off + size ≤ cells.length ∧ (x.ev env).okc = true then buildParts env (setRange cells off cs) rest else none
def minmaxAV (isMax : Bool) : AV → List AV → Option AV
 | .int k a, [] => some (.int k a)
 | .int k a, .int j b :: rest => if k = j then minmaxAV isMax (.int k (if isMax then max a b else min a b)) rest else none
 | _, _ => none
def peval (op : EOp) (env : Env) (H : AHeap) : Option AV :=
 match op with
 | .mv x => some (x.ev env)
 | .pick c a b => match c.ev env with
  | .bool true => some (a.ev env)
  | .bool false => some (b.ev env)
  | _ => none
 | .nilck x => match x.ev env with
  | .ptr b o => some (.ptr b o)
  | .rp r o => some (.rp r o)
  | .fn f c => some (.fn f c)
  | _ => none
 | .build zero parts => (buildParts env zero parts).map .agg
 | .load agg n x => match x.ev env with
  | .ptr b o => match H.blk b with
   | some (_, cs) => if o + n ≤ cs.length then AV.ofCells agg ((cs.drop o).take n) else none
   | none => none
  | .rp row o => if o + n ≤ row.length then AV.ofCells agg ((row.drop o).take n) else none
  | _ => none
 | .loadD me agg n x => match env.get me, x.ev env with
  | .ptr b 0, .ptr b' o => if b' = b then (match H.blk b' with
   | some (_, cs) => if o + n ≤ cs.length then AV.ofCells agg ((cs.drop o).take n) else none
   | none => none) else none
  | _, _ => none
 | .loadR agg n x => match x.ev env with
  | .rp row o => if o + n ≤ row.length then AV.ofCells agg ((row.drop o).take n) else none
  | _ => none
 | .faddr off x => match x.ev env with
  | .ptr b o => some (.ptr b (o + off))
  | .rp row o => some (.rp row (o + off))
  | _ => none
 | .field agg off n x => match x.ev env with
  | .agg cs => if off + n ≤ cs.length then AV.ofCells agg ((cs.drop off).take n) else none
  | _ => none
 | .bin op x y => match x.ev env, y.ev env with
  | .int k a, .int j b => if k = j then binInt op k a b else shInt op k a b
  | .str a, .str b => binStr op a b
  | _, _ => none
 | .binB op x y => match x.ev env, y.ev env with
  | .bool a, .bool b => binBool op a b
  | _, _ => none
 | .eqA neg _ ks x y => match x.ev env, y.ev env with
  | .agg a, .agg b => (eqCells ks a b).map fun r => .bool (bif neg then !r else r)
  | _, _ => none
 | .not x => match x.ev env with
  | .bool b => some (.bool (!b))
  | _ => none
 | .pnil neg x => match x.ev env with
  | .ptr _ _ => some (.bool neg)
  | .rp _ _ => some (.bool neg)
  | .raw (.pointer none) => some (.bool (!neg))
  | _ => none
 | .neg x => match x.ev env with
  | .int k n => some (.int k (k.wrap (0 - n)))
  | _ => none
 | .conv k x => match x.ev env with
  | .int _ n => some (.int k (k.wrap n))
  | _ => none
 | .lenS x => match x.ev env with
  | .str s => some (.int .i64 s.length)
  | _ => none
 | .len x => match x.ev env with
  | .vs _ rows => some (.int .i64 rows.length)
  | .own _ _ rows => some (.int .i64 rows.length)
  | .raw (.slice _ n _) => some (.int .i64 n)
  | _ => none
 | .lenA n => some (.int .i64 n)
 | .minmax isMax xs => match xs.map (EOpd.ev env) with
  | a :: rest => minmaxAV isMax a rest
  | [] => none
 | .extract i x => match x.ev env with
  | .tup l => l[i]?
  | _ => none
 | .mkfn f cap => some (.fn f (cap.map (EOpd.ev env)))
 | .mkfnB f cap => some (.fn (f + bnd) (cap.map (EOpd.ev env)))
 | .convS int x => match int, x.ev env with
  | true, .int _ n => some (.str (Utf8.encode n).data.toList)
  | false, .vs 1 rows => (byteRows rows).map .str
  | false, .own _ 1 rows => (byteRows rows).map .str
  | false, .raw (.slice none _ _) => some (.str [])
  | _, _ => none
 | .mkif T x => some (.ifc T (x.ev env))
 | _ => none
def Own.frz (T size n : Nat) : Own := ⟨T, size, n, n, none⟩
def Own.mu (T size ver : Nat) (rows : List (List AV)) : Own := ⟨T, size, 0, ver, some rows⟩
inductive D where
 | det (v : AV)
 | nblk (T : TypeId) (cs : List AV)
 | nt (o : Own) (v : Nat → AV)
abbrev D.ntok (T size : Nat) (rows : List (List AV)) : D := .nt (.frz T size rows.length) fun x => .own x size rows
abbrev D.nms (T size : Nat) (rows : List (List AV)) : D := .nt (.mu T size 0 rows) fun x => .ms x 0
def D.fresh (d : D) (x : Nat) (H : AHeap) : Prop :=
 match d with
 | .det _ => True
 | .nblk _ _ => H.blk x = none
 | .nt _ _ => H.tok x = none
def D.val (d : D) (x : Nat) : AV :=
 match d with
 | .det v => v
 | .nblk _ _ => .ptr x 0
 | .nt _ v => v x
def D.heap (d : D) (H : AHeap) (x : Nat) : AHeap :=
 match d with
 | .det _ => H
 | .nblk T cs => H.setB x T cs
 | .nt o _ => H.setT x o
inductive Out where
 | ret (a : AV)
 | pan (a : AV)
def RvOut (m : Mem) : Out → Ending → Prop
 | .ret a, e => ∃ v, e = .returned v ∧ Rv m a v
 | .pan a, e => ∃ v, e = .panicked [{ v, recovered := false }] ∧ Rv m a v
def ACalls (P : Program) (f : FuncId) (args : List AV) (H : AHeap) (Q : Out → AHeap → Prop) : Prop :=
 ∀ (m : Mem) (vs : List Value), m.H = H → RH m → RvL m args vs →
  Calls P f ⟨vs⟩ m.w fun e w' => ∃ o H' L' T', RH ⟨w', H', L', T'⟩ ∧ Ev m ⟨w', H', L', T'⟩ ∧ RvOut ⟨w', H', L', T'⟩ o e ∧ Q o H'
def Pure (P : Program) (f : FuncId) (args : List AV) (r : AV) : Prop := ∀ H, ACalls P f args H fun o H' => o = .ret r ∧ H' = H
def PureM (P : Program) (f : FuncId) (args : List AV) (T size : Nat) (rows : List (List AV)) : Prop := ∀ H, ACalls P f args H fun o H' => ∃ t, H.tok t = none ∧ o = .ret (.ms t 0) ∧ H' = H.setT t (.mu T size 0 rows)
def callable (P : Program) (f : FuncId) : Bool := match P.funcs[f]? with | some fn => fn.body.isSome && !(fn.name == "runtime.NumGoroutine") && Nat.blt f bnd | none => false
def rowsOf (size : Nat) : AV → Option (List (List AV))
 | .vs s rows => if s = size then some rows else none
 | .own _ s rows => if s = size then some rows else none
 | .raw (.slice _ 0 _) => some []
 | .str s => if size = 1 then some (s.map fun c => [.int .u8 c.toNat]) else none
 | _ => none
def bslRows (env : Env) (parts : List (Nat × EOpd)) : List (List AV) := parts.map fun p => (p.2.ev env).cells
def slRows (size : Nat) : AV → Option (List (List AV))
 | .vs s rows => if s = size then some rows else none
 | .own _ s rows => if s = size then some rows else none
 | _ => none
inductive Desc (P : Program) : EOp → Env → AHeap → D → Prop
 | pure {op env H v} (h : peval op env H = some v) : Desc P op env H (.det v)
 | quo {x y env H k a b} (hx : x.ev env = .int k a) (hy : y.ev env = .int k b) (hb : b ≠ 0) : Desc P (.bin .quo x y) env H (.det (.int k (k.wrap (a.tdiv b))))
 | rem {x y env H k a b} (hx : x.ev env = .int k a) (hy : y.ev env = .int k b) (hb : b ≠ 0) : Desc P (.bin .rem x y) env H (.det (.int k (a.tmod b)))
 | cat {x y env H a b} (hx : x.ev env = .str a) (hy : y.ev env = .str b) (hb : a.length + b.length ≤ maxLen) : Desc P (.bin .add x y) env H (.det (.str (a ++ b)))
 | idxV {size x i env H rows k n r} (hx : x.ev env = .vs size rows) (hi : i.ev env = .int k n) (h0 : 0 ≤ n) (hr : rows[n.toNat]? = some r) : Desc P (.iaddr size x i) env H (.det (.rp r 0))
 | idxO {size x i env H t rows k n r} (hx : x.ev env = .own t size rows) (hi : i.ev env = .int k n) (h0 : 0 ≤ n) (hr : rows[n.toNat]? = some r) : Desc P (.iaddr size x i) env H (.det (.rp r 0))
 | idxM {size x i env H b o cap k} {len : Nat} {n : Int} (hx : x.ev env = .raw (.slice (some ⟨b, o, none⟩) len cap)) (hi : i.ev env = .int k n) (h0 : 0 ≤ n) (h1 : n < (len : Int)) : Desc P (.iaddr size x i) env H (.det (.ptr b (o + n.toNat * size)))
 | idxP {size x i env H b o k} {len : Nat} {n : Int} (hx : x.ev env = .ptr b o) (hi : i.ev env = .int k n) (h0 : 0 ≤ n) (h1 : n < (len : Int)) : Desc P (.iaddrA len size x i) env H (.det (.ptr b (o + n.toNat * size)))
 | idxR {size x i env H row o k} {len : Nat} {n : Int} (hx : x.ev env = .rp row o) (hi : i.ev env = .int k n) (h0 : 0 ≤ n) (h1 : n < (len : Int)) : Desc P (.iaddrA len size x i) env H (.det (.rp row (o + n.toNat * size)))
 | idxA {agg size x i env H cs k} {len : Nat} {n : Int} {v} (hx : x.ev env = .agg cs) (hi : i.ev env = .int k n) (h0 : 0 ≤ n) (h1 : n < (len : Int)) (hl : n.toNat * size + size ≤ cs.length) (hv : AV.ofCells agg ((cs.drop (n.toNat * size)).take size) = some v) : Desc P (.idxA agg len size x i) env H (.det v)
 | idxS {x i env H s k n c} (hx : x.ev env = .str s) (hi : i.ev env = .int k n) (h0 : 0 ≤ n) (hc : s[n.toNat]? = some c) : Desc P (.idxS x i) env H (.det (.int .u8 c.toNat))
 | slS {x lo hi env H s l h} (hx : x.ev env = .str s) (hl : optNat env 0 lo = some l) (hh : optNat env s.length hi = some h) (h1 : l ≤ h) (h2 : h ≤ s.length) : Desc P (.slS x lo hi) env H (.det (.str ((s.take h).drop l)))
 | slV {size x lo hi env H rows l h} (hx : slRows size (x.ev env) = some rows) (hl : optNat env 0 lo = some l) (hh : optNat env rows.length hi = some h) (h1 : l ≤ h) (h2 : h ≤ rows.length) : Desc P (.slV size x lo hi none) env H (.det (.vs size ((rows.take h).drop l)))
 | convBS {T x env H s} (hx : x.ev env = .str s) : Desc P (.convBS T x) env H (.det (.vs 1 (s.map fun c => [.int .u8 c.toNat])))
 | box {T x env H} (hx : ((x.ev env).cells).all AV.one = true) : Desc P (.box T x) env H (.nblk T (x.ev env).cells)
 | alloc {T zero env H} (hz : zero.all AV.one = true) : Desc P (.alloc T zero) env H (.nblk T zero)
 | bsliceV {T size n zero parts env H rows} (hr : bslRows env parts = rows) (hs : rows.all (fun r => r.length == size) = true) (ho : rows.flatten.all AV.one = true) : Desc P (.bslice T size n zero parts) env H (.det (.vs size rows))
 | bsliceO {T size n zero parts env H rows} (hr : bslRows env parts = rows) (hs : rows.all (fun r => r.length == size) = true) (ho : rows.flatten.all AV.one = true) (h0 : size ≠ 0) : Desc P (.bsliceO T size n zero parts) env H (.ntok T size rows)
 | app0 {T size bytes x y env H rows} (hx : x.ev env = .nilS) (hy : rowsOf size (y.ev env) = some rows) (hb : rows.length * bytes ≤ 140737488355328) (hm : rows.length ≤ maxLen) (h0 : size ≠ 0) : Desc P (.append T size bytes x y) env H (.ntok T size rows)
 | lenM {x env H t ver T size rows} (hx : x.ev env = .ms t ver) (ht : H.tok t = some (.mu T size ver rows)) : Desc P (.lenM x) env H (.det (.int .i64 rows.length))
 | mkM {T size bytes zero x env H k} {n : Nat} (hx : x.ev env = .int k (n : Int)) (hb : bytes * n ≤ 281474976710656) (hm : n ≤ maxLen) (ho : zero.all AV.one = true) (hz : zero.length = size) (h0 : size ≠ 0) : Desc P (.mkM T size bytes zero x) env H (.nms T size (List.replicate n zero))
 | isnilT {neg x env H} (hx : x.ev env = .nilS) : Desc P (.isnil neg x) env H (.det (.bool (!neg)))
 | isnilF {neg x env H size rows} (hx : x.ev env = .vs size rows) (hr : rows ≠ []) : Desc P (.isnil neg x) env H (.det (.bool neg))
 | faddrM {off x env H t ver k T size rows} (hx : x.ev env = .mp t ver k) (ht : H.tok t = some (.mu T size ver rows)) : Desc P (.faddrM off x) env H (.det (.mp t ver (k + off)))
 | iaddrM {size x i env H t ver T rows k n} (hx : x.ev env = .ms t ver) (ht : H.tok t = some (.mu T size ver rows)) (hi : i.ev env = .int k n) (h0 : 0 ≤ n) (h1 : n < (rows.length : Int)) : Desc P (.iaddrM size x i) env H (.det (.mp t ver (n.toNat * size)))
 | loadM {agg n x env H t ver k T size rows v} (hx : x.ev env = .mp t ver k) (ht : H.tok t = some (.mu T size ver rows)) (hl : k + n ≤ rows.flatten.length) (hv : AV.ofCells agg ((rows.flatten.drop k).take n) = some v) : Desc P (.loadM agg n x) env H (.det v)
 | bsliceM {T size n zero parts env H rows} (hr : bslRows env parts = rows) (hs : rows.all (fun r => r.length == size) = true) (ho : rows.flatten.all AV.one = true) (h0 : size ≠ 0) : Desc P (.bsliceM T size n zero parts) env H (.nms T size rows)
 | appM0 {T size bytes x y env H rows} (hx : x.ev env = .nilS) (hy : rowsOf size (y.ev env) = some rows) (hb : rows.length * bytes ≤ 140737488355328) (hm : rows.length ≤ maxLen) (h0 : size ≠ 0) : Desc P (.appendM T size bytes x y) env H (.nms T size rows)
 | pcallM' {f args env H az T size rows} (ha : AVLes (args.map (EOpd.ev env)) az) (h : PureM P f az T size rows) : Desc P (.pcallMR T size f args rows) env H (.nms T size rows)
 | pcall {f args env H az r} (ha : AVLes (args.map (EOpd.ev env)) az) (h : Pure P f az r) : Desc P (.call f args) env H (.det r)
 | pcallv {x args env H f cap az r} (hx : x.ev env = .fn f cap) (hf : callable P f = true) (ha : AVLes (args.map (EOpd.ev env) ++ cap) az) (h : Pure P f az r) : Desc P (.callv x args) env H (.det r)
 | pcall' {f args env H az r} (ha : AVLes (args.map (EOpd.ev env)) az) (h : Pure P f az r) : Desc P (.pcallR f args r) env H (.det r)
 | pcallv' {x args env H f cap az r} (hx : x.ev env = .fn f cap) (hf : callable P f = true) (ha : AVLes (args.map (EOpd.ev env) ++ cap) az) (h : Pure P f az r) : Desc P (.pcallvR x args r) env H (.det r)
def OutK (K Rp : AV → AHeap → Prop) (H' : AHeap) : Out → Prop
 | .ret v => K v H'
 | .pan v => Rp v H'
def HFin (H : AHeap) : Prop := ∃ N, ∀ n, N ≤ n → H.blk n = none ∧ H.tok n = none
inductive IStep (P : Program) : EOp → Env → AHeap → (AV → AHeap → Prop) → (AV → AHeap → Prop) → Prop
 | sw {op env H K Rp} (d : D) (hd : Desc P op env H d) (h : ∀ x, d.fresh x H → K (d.val x) (d.heap H x)) : IStep P op env H K Rp
 | store {n a v env H K Rp b o T cs} (ha : a.ev env = .ptr b o) (hb : H.blk b = some (T, cs)) (hn : (v.ev env).cells.length = n) (hl : o + n ≤ cs.length) (ho : ((v.ev env).cells).all AV.one = true)
   (h : K .undef (H.setB b T (setRange cs o (v.ev env).cells))) : IStep P (.store n a v) env H K Rp
 | storeD {me others n a v env H K Rp b o T cs} (hme : env.get me = .ptr b 0) (hoth : ∀ s ∈ others, ∃ b', env.get s = .ptr b' 0 ∧ b' ≠ b) (ha : a.ev env = .ptr b o) (hb : H.blk b = some (T, cs)) (hn : (v.ev env).cells.length = n) (hl : o + n ≤ cs.length) (ho : ((v.ev env).cells).all AV.one = true)
   (h : K .undef (H.setB b T (setRange cs o (v.ev env).cells))) : IStep P (.storeD me others n a v) env H K Rp
 | append {T size bytes x y env H K Rp t rows new} (hx : x.ev env = .own t size rows) (ht : H.tok t = some (.frz T size rows.length)) (hy : rowsOf size (y.ev env) = some new) (hb : (rows.length + new.length) * bytes ≤ 140737488355328) (hm : rows.length + new.length ≤ maxLen)
   (h : K (.own t size (rows ++ new)) (H.setT t (.frz T size (rows.length + new.length)))) : IStep P (.append T size bytes x y) env H K Rp
 | appendM {T size bytes x y env H K Rp t ver rows new} (hx : x.ev env = .ms t ver) (ht : H.tok t = some (.mu T size ver rows)) (hy : rowsOf size (y.ev env) = some new) (hb : (rows.length + new.length) * bytes ≤ 140737488355328) (hm : rows.length + new.length ≤ maxLen)
   (h : K (.ms t (ver + 1)) (H.setT t (.mu T size (ver + 1) (rows ++ new)))) : IStep P (.appendM T size bytes x y) env H K Rp
 | isnilU {neg x env H K Rp size rows} (hx : x.ev env = .vs size rows) (h : ∀ b, K (.bool b) H) : IStep P (.isnil neg x) env H K Rp
 | slM {size x lo hi env H K Rp t ver T rows h} (hx : x.ev env = .ms t ver) (ht : H.tok t = some (.mu T size ver rows)) (hl : optNat env 0 lo = some 0) (hh : optNat env rows.length hi = some h) (h1 : h ≤ rows.length)
   (h : K (.ms t (ver + 1)) (H.setT t (.mu T size (ver + 1) (rows.take h)))) : IStep P (.slM size x lo hi) env H K Rp
 | storeM {n a v env H K Rp t ver k T size rows rows'} (ha : a.ev env = .mp t ver k) (ht : H.tok t = some (.mu T size ver rows)) (hn : (v.ev env).cells.length = n) (hl : k + n ≤ rows.flatten.length) (ho : ((v.ev env).cells).all AV.one = true)
   (hf : rows'.flatten = setRange rows.flatten k (v.ev env).cells) (hr : ∀ r ∈ rows', r.length = size) (hlen : rows'.length = rows.length)
   (h : K .undef (H.setT t (.mu T size ver rows'))) : IStep P (.store n a v) env H K Rp
 | call {f args env H K Rp az} (Q : Out → AHeap → Prop) (ha : AVLes (args.map (EOpd.ev env)) az) (hc : ACalls P f az H Q) (h : ∀ o H', Q o H' → OutK K Rp H' o) : IStep P (.call f args) env H K Rp
 | callD {others f args env H K Rp az} (Q : Out → AHeap → Prop) (ho : ∀ s ∈ others, ∃ b, env.get s = .ptr b 0 ∧ ∀ o H', Q o H' → H'.blk b = H.blk b) (he : HFin H → ∃ r H', Q (.ret r) H' ∧ HFin H') (ha : AVLes (args.map (EOpd.ev env)) az) (hc : ACalls P f az H Q) (h : ∀ o H', Q o H' → OutK K Rp H' o) : IStep P (.callD others f args) env H K Rp
 | callv {x args env H K Rp f cap az} (Q : Out → AHeap → Prop) (hx : x.ev env = .fn f cap) (hf : callable P f = true) (ha : AVLes (args.map (EOpd.ev env) ++ cap) az) (hc : ACalls P f az H Q) (h : ∀ o H', Q o H' → OutK K Rp H' o) : IStep P (.callv x args) env H K Rp
 | callvB {x args env H K Rp f cap az} (Q : Out → AHeap → Prop) (hx : x.ev env = .fn (f + bnd) cap) (hf : callable P f = true) (ha : AVLes (cap ++ args.map (EOpd.ev env)) az) (hc : ACalls P f az H Q) (h : ∀ o H', Q o H' → OutK K Rp H' o) : IStep P (.callv x args) env H K Rp
 | slAF {len size x env H K Rp b T cs rows} (hx : x.ev env = .ptr b 0) (hb : H.blk b = some (T, cs)) (hf : rows.flatten = cs) (hr : ∀ r ∈ rows, r.length = size) (hl : rows.length = len) (h0 : 0 < len) (hm : len ≤ maxLen)
   (h : K (.vs size rows) (H.dropB b)) : IStep P (.slA len size x) env H K Rp
 | panic {x env H K Rp t v} (hx : x.ev env = .ifc t v) (h : Rp (.ifc t v) H) : IStep P (.panic x) env H K Rp
structure EI where
 dst : Option Nat
 guard : Option (Nat × Bool)
 op : EOp
def wanted (i : EI) (env : Env) : Option Bool :=
 match i.guard with
 | none => some true
 | some (j, want) => match env.get j with
  | .bool b => some (b == want)
  | .raw (.tuple ⟨[]⟩) => some false
  | _ => none
def DM (P : Program) : List EI → Env → AHeap → (Env → AHeap → Prop) → (AV → AHeap → Prop) → Prop
 | [], env, H, K, _ => K env H
 | i :: l, env, H, K, Rp => match wanted i env with
  | some true => IStep P i.op env H (fun v H' => DM P l (env.put i.dst v) H' K Rp) Rp
  | some false => DM P l (env.put i.dst .undef) H K Rp
  | none => False
def AV.rows : AV → List (List AV)
 | .vs _ rows => rows
 | _ => []
def annotate : List EI → List AV → List EI
 | [], _ => []
 | ⟨d, g, .pcall f args⟩ :: l, r :: rs => ⟨d, g, .pcallR f args r⟩ :: annotate l rs
 | ⟨d, g, .pcallv x args⟩ :: l, r :: rs => ⟨d, g, .pcallvR x args r⟩ :: annotate l rs
 | ⟨d, g, .pcallM T size f args⟩ :: l, r :: rs => ⟨d, g, .pcallMR T size f args (AV.rows r)⟩ :: annotate l rs
 | i :: l, rs => i :: annotate l rs
inductive EC where
 | skip
 | region (ops : List EI) (draw : Bool)
 | seq (a b : EC)
 | cond (c : EOpd) (a b : EC)
 | block (id : Nat) (body : EC)
 | loop (body : EC)
 | exit (id : Nat)
 | ret
 | dfr (d : Nat) (f : FuncId) (cap : List EOpd)
inductive Item where
 | c (c : EC)
 | blk (id : Nat)
 | round (I : Nat → Env → AHeap → Prop) (m0 : Nat)
def popTo (id : Nat) : List Item → Option (List Item)
 | .blk j :: k => if j = id then some k else popTo id k
 | _ :: k => popTo id k
 | [] => none
inductive ERes where
 | t (n : Nat)
 | cell (agg : Bool) (n : Nat) (addr : Nat)
def ERes.ev (env : Env) (H : AHeap) : ERes → Option AV
 | .t n => some (env.get n)
 | .cell agg n a => peval (.load agg n (.t a)) env H
def results (rs : List ERes) (env : Env) (H : AHeap) : Option AV :=
 match rs with
 | [r] => r.ev env H
 | rs => (rs.mapM (ERes.ev env H)).map .tup
def EC.noW (t : Nat) : EC → Bool
 | .region ops _ => ops.all fun i => i.dst != some t
 | .seq a b => EC.noW t a && EC.noW t b
 | .cond _ a b => EC.noW t a && EC.noW t b
 | .block _ b => EC.noW t b
 | .loop b => EC.noW t b
 | .dfr d _ _ => d != t
 | _ => true
def Item.noW (t : Nat) : Item → Bool
 | .c e => e.noW t
 | .blk _ => true
 | .round _ _ => false
def DCalls (P : Program) (f : FuncId) (caps : List AV) (x : AV) (H : AHeap) (Q : AHeap → Prop) : Prop :=
 ∀ (m : Mem) (vs : List Value) (cv : Value), m.H = H → RH m → RvL m caps vs → Rv m x cv →
  CallsD P f ⟨vs⟩ (.panicking [{ v := cv, recovered := false }]) m.w fun e u' w' => (∃ v, e = .returned v) ∧ u' = .panicking [{ v := cv, recovered := true }] ∧ ∃ H' L' T', RH ⟨w', H', L', T'⟩ ∧ Ev m ⟨w', H', L', T'⟩ ∧ Q H'
def DIdle (P : Program) (f : FuncId) (caps : List AV) : Prop :=
 ∀ (m : Mem) (vs : List Value), RH m → RvL m caps vs → CallsD P f ⟨vs⟩ .returning m.w fun e u' w' => (∃ v, e = .returned v) ∧ u' = .returning ∧ ∃ L' T', RH ⟨w', m.H, L', T'⟩ ∧ Ev m ⟨w', m.H, L', T'⟩
inductive AM (P : Program) (rs : List ERes) : (Out → AHeap → Prop) → List Item → Env → AHeap → Prop
 | done {R : Out → AHeap → Prop} {env H v} (hv : Aw.results rs env H = some v) (h : R (.ret v) H) : AM P rs R [] env H
 | ret {R : Out → AHeap → Prop} {k env H v} (hv : Aw.results rs env H = some v) (h : R (.ret v) H) : AM P rs R (.c .ret :: k) env H
 | skip {R : Out → AHeap → Prop} {k env H} (h : AM P rs R k env H) : AM P rs R (.c .skip :: k) env H
 | blkEnd {R : Out → AHeap → Prop} {id k env H} (h : AM P rs R k env H) : AM P rs R (.blk id :: k) env H
 | seq {R : Out → AHeap → Prop} {a b k env H} (h : AM P rs R (.c a :: .c b :: k) env H) : AM P rs R (.c (.seq a b) :: k) env H
 | block {R : Out → AHeap → Prop} {id body k env H} (h : AM P rs R (.c body :: .blk id :: k) env H) : AM P rs R (.c (.block id body) :: k) env H
 | exit {R : Out → AHeap → Prop} {id k k' env H} (hk : popTo id k = some k') (h : AM P rs R k' env H) : AM P rs R (.c (.exit id) :: k) env H
 | cond {R : Out → AHeap → Prop} {c a b k env H t} (hc : c.ev env = .bool t) (h1 : t = true → AM P rs R (.c a :: k) env H) (h2 : t = false → AM P rs R (.c b :: k) env H) : AM P rs R (.c (.cond c a b) :: k) env H
 | region {R : Out → AHeap → Prop} {ops draw k env H} (anns : List AV) (K : Env → AHeap → Prop) (h : DM P (annotate ops anns) env H K (fun v H' => R (.pan v) H')) (hK : ∀ env' H', K env' H' → AM P rs R k env' H') : AM P rs R (.c (.region ops draw) :: k) env H
 | loop {R : Out → AHeap → Prop} {body k env H} (I : Nat → Env → AHeap → Prop) (m : Nat) (h0 : I m env H) (h : ∀ m' env' H', I m' env' H' → AM P rs R (.c body :: .round I m' :: k) env' H') : AM P rs R (.c (.loop body) :: k) env H
 | round {R : Out → AHeap → Prop} {I m0 k env H} (m : Nat) (h0 : I m env H) (h1 : m < m0) : AM P rs R (.round I m0 :: k) env H
 | conv {R : Out → AHeap → Prop} {k env H} (S : Env → AHeap → Prop) (hs : ∀ m : Mem, m.H = H → RH m → ∃ env' H' L' T', S env' H' ∧ RH ⟨m.w, H', L', T'⟩ ∧ Ev m ⟨m.w, H', L', T'⟩ ∧ ∀ j v, Rv m (env.get j) v → Rv ⟨m.w, H', L', T'⟩ (env'.get j) v) (h : ∀ env' H', S env' H' → AM P rs R k env' H') : AM P rs R k env H
 | weak {R : Out → AHeap → Prop} {k env env' H} (he : ∀ j, AVLe (env.get j) (env'.get j)) (h : AM P rs R k env' H) : AM P rs R k env H
 | dfr {R : Out → AHeap → Prop} {d : Nat} {f : FuncId} {cap : List EOpd} {k : List Item} {env : Env} {H : AHeap} (R' : Out → AHeap → Prop) (kt : Env) (hkt : ∀ j, AVLe (env.get j) (kt.get j)) (hk : ∀ p ∈ kt, k.all (Item.noW p.1) = true) (hd : ∀ p ∈ kt, d ≠ p.1) (hc : k.all (fun i => match i with | .round _ _ => false | _ => true) = true)
  (hf : callable P f = true) (hidle : DIdle P f (cap.map (EOpd.ev env))) (hret : ∀ v H', R' (.ret v) H' → R (.ret v) H')
  (hpan : ∀ x H', R' (.pan x) H' → DCalls P f (cap.map (EOpd.ev env)) x H' fun H2 => ∃ v, Aw.results rs kt H2 = some v ∧ R (.ret v) H2)
  (h : AM P rs R' k ((d, .fn f (cap.map (EOpd.ev env))) :: env) H) : AM P rs R (.c (.dfr d f cap) :: k) env H
variable {P : Program} {rs : List ERes} {R : Out → AHeap → Prop}
theorem AM.reg {ops draw k env H} (anns : List AV) (h : DM P (annotate ops anns) env H (fun env' H' => AM P rs R k env' H') (fun v H' => R (.pan v) H')) : AM P rs R (.c (.region ops draw) :: k) env H :=
 AM.region anns _ h fun _ _ h => h
theorem DM.nil {env H K Rp} (h : K env H) : DM P [] env H K Rp := h
theorem DM.step {i l env H K Rp} (hw : wanted i env = some true) (h : IStep P i.op env H (fun v H' => DM P l (env.put i.dst v) H' K Rp) Rp) : DM P (i :: l) env H K Rp := by
 simp only [DM, hw]; exact h
theorem DM.skip {i l env H K Rp} (hw : wanted i env = some false) (h : DM P l (env.put i.dst .undef) H K Rp) : DM P (i :: l) env H K Rp := by
 simp only [DM, hw]; exact h
theorem DM.pv {i l env H K Rp v} (hw : wanted i env = some true) (hv : peval i.op env H = some v) (h : DM P l (env.put i.dst v) H K Rp) : DM P (i :: l) env H K Rp :=
 DM.step hw (.sw (.det v) (.pure hv) fun _ _ => h)
theorem DM.de {i l env H K Rp} (d : D) (hw : wanted i env = some true) (hd : Desc P i.op env H d) (h : ∀ x, d.fresh x H → DM P l (env.put i.dst (d.val x)) (d.heap H x) K Rp) : DM P (i :: l) env H K Rp :=
 DM.step hw (.sw d hd h)
def prun : Nat → List EI → Env → AHeap → List EI × Env
 | 0, l, env, _ => (l, env)
 | _ + 1, [], env, _ => ([], env)
 | n + 1, i :: l, env, H => match wanted i env with
  | some false => prun n l (env.put i.dst .undef) H
  | some true => match peval i.op env H with
   | some v => prun n l (env.put i.dst v) H
   | none => (i :: l, env)
  | none => (i :: l, env)
theorem DM.run (n : Nat) {l env H K Rp} (h : DM P (prun n l env H).1 (prun n l env H).2 H K Rp) : DM P l env H K Rp := by
 induction n generalizing l env with
 | zero => exact h
 | succ n ih =>
  cases l with
  | nil => exact h
  | cons i l =>
   simp only [prun] at h
   split at h
   ·rename_i hw
    exact DM.skip hw (ih h)
   ·rename_i hw
    split at h
    ·rename_i v hv
     exact DM.pv hw hv (ih h)
    ·exact h
   ·exact h
end Go.Aw
namespace Go.Aw
open Go
set_option linter.unusedVariables false
theorem hpold (w : World) (o : Obj) (i : Nat) (h : i < w.heap.size) : (w.alloc o).heap[i]? = w.heap[i]? := by
 show (w.heap.push o)[i]? = _
 rw [Array.getElem?_push, if_neg (by omega)]
theorem hpnew (w : World) (o : Obj) : (w.alloc o).heap[w.heap.size]? = some o := by
 show (w.heap.push o)[w.heap.size]? = _
 rw [Array.getElem?_push, if_pos rfl]
theorem Ev.hid {m : Mem} {w' : World} (h1 : w'.os = m.w.os) (h2 : w'.tape = m.w.tape) (h3 : w'.output = m.w.output) (h4 : m.w.heap.size ≤ w'.heap.size) (h5 : ∀ b, b < m.w.heap.size → w'.heap[b]? = m.w.heap[b]?) : Ev m { m with w := w' } where
 os := h1
 tape := h2
 output := h3
 size := h4
 T := Nat.le_refl _
 block := fun b hb h h' => ⟨h5 b hb, h, h'⟩
 cell := fun b o hs => ⟨⟨Nat.lt_of_lt_of_le hs.lt h4, hs.blk, hs.tok⟩, World.cell?_of_block (a := ⟨b, o, none⟩) (h5 b hs.lt)⟩
 tok := fun t i' _ h => ⟨i', h, Nat.le_refl _, rfl, fun _ => rfl⟩
theorem ownsRow_mono {w w' : World} {base : Nat} {e : TypeId} {size n : Nat} {v : Value} {xs : List Value} (h : w.ownsRow base e size v n xs) (hk : ∀ b, v.ownBlock = some b → w'.heap[b]? = w.heap[b]?) : w'.ownsRow base e size v n xs := by
 refine ⟨h.1, ?_⟩
 rcases h.2 with hn | ⟨g, cap, cur, rfl, hb, hgg, rest⟩
 ·exact .inl hn
 ·exact .inr ⟨g, cap, cur, rfl, hb, by rw [hk g (by simp [Value.ownBlock])]; exact hgg, rest⟩
theorem RH.hid {m : Mem} (r : RH m) {w' : World} (h1 : w'.os = m.w.os) (h2 : w'.tape = m.w.tape) (h3 : w'.output = m.w.output) (h4 : m.w.heap.size ≤ w'.heap.size) (h5 : ∀ b, b < m.w.heap.size → w'.heap[b]? = m.w.heap[b]?) : RH { m with w := w' } where
 glob := (Glob.ev (Ev.hid h1 h2 h3 h4 h5) r.glob r.globf).1
 globf := (Glob.ev (Ev.hid h1 h2 h3 h4 h5) r.glob r.globf).2
 blk := fun b T cs hb => by
  obtain ⟨l, e1, e2, e3⟩ := r.blk b T cs hb
  have hlt : b < m.w.heap.size := (Array.getElem?_eq_some_iff.1 e1).1
  exact ⟨l, (h5 b hlt).trans e1, RvL.ev (Ev.hid h1 h2 h3 h4 h5) cs l e2, e3⟩
 tok := fun t i ht => by
  obtain ⟨k1, k2, ⟨xs, k3, k5⟩, k4⟩ := r.tok t i ht
  exact ⟨k1, k2, ⟨xs, ownsRow_mono k3 fun b hb => h5 b (k3.lt b hb).2, fun rows hr => ⟨RvL.ev (Ev.hid h1 h2 h3 h4 h5) _ _ (k5 rows hr).1, (k5 rows hr).2⟩⟩, k4⟩
theorem Ev.drew (m : Mem) : Ev m { m with w := m.w.drew } := Ev.hid rfl rfl rfl (Nat.le_refl _) fun _ _ => rfl
theorem RH.drew {m : Mem} (r : RH m) : RH { m with w := m.w.drew } := r.hid rfl rfl rfl (Nat.le_refl _) fun _ _ => rfl
theorem Ev.alloc (m : Mem) (o : Obj) : Ev m { m with w := m.w.alloc o } := Ev.hid rfl rfl rfl (by simp) fun b hb => hpold m.w o b hb
theorem RH.alloc {m : Mem} (r : RH m) (o : Obj) : RH { m with w := m.w.alloc o } := r.hid rfl rfl rfl (by simp) fun b hb => hpold m.w o b hb
theorem blk_lt {m : Mem} (r : RH m) {b T cs} (h : m.H.blk b = some (T, cs)) : b < m.w.heap.size := by
 obtain ⟨l, e1, _⟩ := r.blk b T cs h
 exact (Array.getElem?_eq_some_iff.1 e1).1
theorem blk_new {m : Mem} (r : RH m) : m.H.blk m.w.heap.size = none := by
 cases h : m.H.blk m.w.heap.size with
 | none => rfl
 | some x => have := blk_lt r (b := m.w.heap.size) (T := x.1) (cs := x.2) h; omega
theorem tok_lt {m : Mem} (r : RH m) {t i b} (h : m.H.tok t = some i) (hb : (m.L t).ownBlock = some b) : b < m.w.heap.size := by
 obtain ⟨_, _, ⟨xs, k3, _⟩, _⟩ := r.tok t i h
 exact (k3.lt b hb).2
theorem tok_new {m : Mem} (r : RH m) : m.H.tok m.T = none := by
 cases h : m.H.tok m.T with
 | none => rfl
 | some i => have := (r.tok _ _ h).1; omega
def Mem.nb (m : Mem) (T : TypeId) (cs : List AV) (l : List Value) : Mem := { m with w := m.w.alloc (.cells ⟨l⟩ T), H := m.H.setB m.w.heap.size T cs }
theorem Ev.nb (m : Mem) (T : TypeId) (cs : List AV) (l : List Value) : Ev m (m.nb T cs l) where
 os := rfl
 tape := rfl
 output := rfl
 size := by simp [Mem.nb]
 T := Nat.le_refl _
 block := fun b hb h h' => ⟨hpold m.w _ b hb, by simp only [Mem.nb, AHeap.setB]; rw [if_neg (by omega)]; exact h, h'⟩
 cell := fun b o hs => ⟨⟨by have := hs.lt; simp [Mem.nb]; omega, by have := hs.lt; simp only [Mem.nb, AHeap.setB]; rw [if_neg (by omega)]; exact hs.blk, hs.tok⟩, World.cell?_of_block (a := ⟨b, o, none⟩) (hpold m.w _ b hs.lt)⟩
 tok := fun t i' _ h => ⟨i', h, Nat.le_refl _, rfl, fun _ => rfl⟩
theorem RH.nb {m : Mem} (r : RH m) {T : TypeId} {cs : List AV} {l : List Value} (hl : RvL m cs l) (ho : ∀ v ∈ l, v.oneCell' = true) : RH (m.nb T cs l) where
 glob := (Glob.ev (Ev.nb m T cs l) r.glob r.globf).1
 globf := (Glob.ev (Ev.nb m T cs l) r.glob r.globf).2
 blk := fun b T' cs' hb => by
  simp only [Mem.nb, AHeap.setB] at hb
  by_cases e : b = m.w.heap.size
  ·rw [if_pos e] at hb
   simp only [Option.some.injEq, Prod.mk.injEq] at hb
   obtain ⟨rfl, rfl⟩ := hb
   subst e
   exact ⟨l, hpnew m.w _, RvL.ev (Ev.nb m _ _ l) _ l hl, ho⟩
  ·rw [if_neg e] at hb
   obtain ⟨l', e1, e2, e3⟩ := r.blk b T' cs' hb
   exact ⟨l', (hpold m.w _ b (blk_lt r hb)).trans e1, RvL.ev (Ev.nb m _ _ l) _ l' e2, e3⟩
 tok := fun t i ht => by
  obtain ⟨k1, k2, ⟨xs, k3, k5⟩, k4⟩ := r.tok t i ht
  refine ⟨k1, k2, ⟨xs, k3.alloc _, fun rows hr => ⟨RvL.ev (Ev.nb m _ _ l) _ _ (k5 rows hr).1, (k5 rows hr).2⟩⟩, fun b hb => ?_⟩
  obtain ⟨g1, g2⟩ := k4 b hb
  have := tok_lt r ht hb
  exact ⟨by simp only [Mem.nb, AHeap.setB]; rw [if_neg (by omega)]; exact g1, g2⟩
def Mem.nt (m : Mem) (w' : World) (v : Value) (o : Own) : Mem := ⟨w', m.H.setT m.T o, fun x => if x = m.T then v else m.L x, m.T + 1⟩
theorem Ev.nt {m : Mem} (r : RH m) {w' : World} {v : Value} {o : Own} (h1 : w'.os = m.w.os) (h2 : w'.tape = m.w.tape) (h3 : w'.output = m.w.output) (h4 : m.w.heap.size ≤ w'.heap.size) (h5 : ∀ b, b < m.w.heap.size → w'.heap[b]? = m.w.heap[b]?)
  (hv : ∀ b, v.ownBlock = some b → m.w.heap.size ≤ b) : Ev m (m.nt w' v o) where
 os := h1
 tape := h2
 output := h3
 size := h4
 T := by simp [Mem.nt]
 block := fun b hb h h' => ⟨h5 b hb, h, fun t i ht e => by
  simp only [Mem.nt, AHeap.setT] at ht e
  by_cases et : t = m.T
  ·rw [if_pos et] at e
   have := hv b e
   omega
  ·rw [if_neg et] at e ht
   exact h' t i ht e⟩
 cell := fun b c hs => ⟨⟨Nat.lt_of_lt_of_le hs.lt h4, hs.blk, fun t i ht e => by
  simp only [Mem.nt, AHeap.setT] at ht e
  by_cases et : t = m.T
  ·rw [if_pos et] at e
   have := hv b e
   have := hs.lt
   omega
  ·rw [if_neg et] at e ht
   exact hs.tok t i ht e⟩, World.cell?_of_block (a := ⟨b, c, none⟩) (h5 b hs.lt)⟩
 tok := fun t i' ht h => by
  simp only [Mem.nt, AHeap.setT] at h ⊢
  rw [if_neg (by omega)] at h ⊢
  exact ⟨i', h, Nat.le_refl _, rfl, fun _ => rfl⟩
theorem RH.nt {m : Mem} (r : RH m) {w' : World} {v : Value} {o : Own} (h1 : w'.os = m.w.os) (h2 : w'.tape = m.w.tape) (h3 : w'.output = m.w.output) (h4 : m.w.heap.size ≤ w'.heap.size) (h5 : ∀ b, b < m.w.heap.size → w'.heap[b]? = m.w.heap[b]?)
  (hv : ∀ b, v.ownBlock = some b → m.w.heap.size ≤ b) (hs : o.size ≠ 0) (ho : ∃ xs, w'.ownsRow 0 o.ty o.size v o.len xs ∧ ∀ rows, o.con = some rows → RvL (m.nt w' v o) rows.flatten xs ∧ (∀ r ∈ rows, r.length = o.size) ∧ ∀ v ∈ xs, v.oneCell' = true) : RH (m.nt w' v o) where
 glob := (Glob.ev (Ev.nt r h1 h2 h3 h4 h5 hv) r.glob r.globf).1
 globf := (Glob.ev (Ev.nt r h1 h2 h3 h4 h5 hv) r.glob r.globf).2
 blk := fun b T cs hb => by
  obtain ⟨l, e1, e2, e3⟩ := r.blk b T cs hb
  exact ⟨l, (h5 b (blk_lt r hb)).trans e1, RvL.ev (Ev.nt r h1 h2 h3 h4 h5 hv) cs l e2, e3⟩
 tok := fun t i ht => by
  simp only [Mem.nt, AHeap.setT] at ht ⊢
  by_cases et : t = m.T
  ·rw [if_pos et] at ht
   simp only [Option.some.injEq] at ht
   subst ht
   refine ⟨by omega, hs, by rw [if_pos et]; exact ho, fun b hb => ?_⟩
   rw [if_pos et] at hb
   have hge := hv b hb
   refine ⟨?_, fun t' i' ht' hb' => ?_⟩
   ·cases hx : m.H.blk b with
    | none => rfl
    | some x => have := blk_lt r (T := x.1) (cs := x.2) hx; omega
   ·by_cases et' : t' = m.T
    ·omega
    ·rw [if_neg et'] at ht' hb'
     have := tok_lt r ht' hb'
     omega
  ·rw [if_neg et] at ht
   obtain ⟨k1, k2, ⟨xs, k3, k5⟩, k4⟩ := r.tok t i ht
   refine ⟨by omega, k2, ⟨xs, by rw [if_neg et]; exact ownsRow_mono k3 fun b hb => h5 b (k3.lt b hb).2, fun rows hr => ⟨RvL.ev (Ev.nt r h1 h2 h3 h4 h5 hv) _ _ (k5 rows hr).1, (k5 rows hr).2⟩⟩, fun b hb => ?_⟩
   rw [if_neg et] at hb
   obtain ⟨g1, g2⟩ := k4 b hb
   refine ⟨g1, fun t' i' ht' hb' => ?_⟩
   by_cases et' : t' = m.T
   ·rw [if_pos et'] at hb'
    have := hv b hb'
    have := (k3.lt b hb).2
    omega
   ·rw [if_neg et'] at ht' hb'
    exact g2 t' i' ht' hb'
def Mem.st (m : Mem) (w' : World) (b : Nat) (T : TypeId) (cs : List AV) : Mem := { m with w := w', H := m.H.setB b T cs }
theorem Ev.st {m : Mem} (r : RH m) {w' : World} {b : Nat} {T T0 : TypeId} {cs cs0 : List AV} (hb : m.H.blk b = some (T0, cs0)) (h1 : w'.os = m.w.os) (h2 : w'.tape = m.w.tape) (h3 : w'.output = m.w.output) (h4 : w'.heap.size = m.w.heap.size) (h5 : ∀ k, k ≠ b → w'.heap[k]? = m.w.heap[k]?) : Ev m (m.st w' b T cs) where
 os := h1
 tape := h2
 output := h3
 size := by simp [Mem.st, h4]
 T := Nat.le_refl _
 block := fun k hk h h' => by
  have hne : k ≠ b := fun e => by subst e; rw [h] at hb; cases hb
  exact ⟨h5 k hne, by simp only [Mem.st, AHeap.setB]; rw [if_neg hne]; exact h, h'⟩
 cell := fun k o hs => by
  have hne : k ≠ b := fun e => by subst e; have := hs.blk; rw [this] at hb; cases hb
  exact ⟨⟨by rw [show (m.st w' b T cs).w = w' from rfl, h4]; exact hs.lt, by simp only [Mem.st, AHeap.setB]; rw [if_neg hne]; exact hs.blk, hs.tok⟩, World.cell?_of_block (a := ⟨k, o, none⟩) (h5 k hne)⟩
 tok := fun t i' _ h => ⟨i', h, Nat.le_refl _, rfl, fun _ => rfl⟩
theorem RH.st {m : Mem} (r : RH m) {w' : World} {b : Nat} {T T0 : TypeId} {cs cs0 : List AV} {l : List Value} (hb : m.H.blk b = some (T0, cs0)) (h1 : w'.os = m.w.os) (h2 : w'.tape = m.w.tape) (h3 : w'.output = m.w.output) (h4 : w'.heap.size = m.w.heap.size) (h5 : ∀ k, k ≠ b → w'.heap[k]? = m.w.heap[k]?)
  (h6 : w'.heap[b]? = some (.cells ⟨l⟩ T (0, 0))) (hl : RvL m cs l) (ho : ∀ v ∈ l, v.oneCell' = true) : RH (m.st w' b T cs) where
 glob := (Glob.ev (Ev.st r hb h1 h2 h3 h4 h5) r.glob r.globf).1
 globf := (Glob.ev (Ev.st r hb h1 h2 h3 h4 h5) r.glob r.globf).2
 blk := fun k T' cs' hk => by
  simp only [Mem.st, AHeap.setB] at hk
  by_cases e : k = b
  ·rw [if_pos e] at hk
   simp only [Option.some.injEq, Prod.mk.injEq] at hk
   obtain ⟨rfl, rfl⟩ := hk
   subst e
   exact ⟨l, h6, RvL.ev (Ev.st r hb h1 h2 h3 h4 h5) _ l hl, ho⟩
  ·rw [if_neg e] at hk
   obtain ⟨l', e1, e2, e3⟩ := r.blk k T' cs' hk
   exact ⟨l', (h5 k e).trans e1, RvL.ev (Ev.st r hb h1 h2 h3 h4 h5) _ l' e2, e3⟩
 tok := fun t i ht => by
  obtain ⟨k1, k2, ⟨xs, k3, k5⟩, k4⟩ := r.tok t i ht
  have hne : ∀ k, (m.L t).ownBlock = some k → k ≠ b := fun k hk e => by subst e; have := (k4 k hk).1; rw [this] at hb; cases hb
  refine ⟨k1, k2, ⟨xs, ownsRow_mono k3 fun k hk => h5 k (hne k hk), fun rows hr => ⟨RvL.ev (Ev.st r hb h1 h2 h3 h4 h5) _ _ (k5 rows hr).1, (k5 rows hr).2⟩⟩, fun k hk => ?_⟩
  obtain ⟨g1, g2⟩ := k4 k hk
  exact ⟨by simp only [Mem.st, AHeap.setB]; rw [if_neg (hne k hk)]; exact g1, g2⟩
def Mem.gt (m : Mem) (w' : World) (t : Nat) (v : Value) (o : Own) : Mem := { m with w := w', H := m.H.setT t o, L := fun x => if x = t then v else m.L x }
structure Grows0 (m : Mem) (w' : World) (t : Nat) (i : Own) (v : Value) (o : Own) : Prop where
 os : w'.os = m.w.os
 tape : w'.tape = m.w.tape
 output : w'.output = m.w.output
 size : m.w.heap.size ≤ w'.heap.size
 block : ∀ k, k < m.w.heap.size → (m.L t).ownBlock ≠ some k → w'.heap[k]? = m.w.heap[k]?
 cell : ∀ k c, (m.L t).ownBlock = some k → c < i.n * i.size → w'.cell? ⟨k, c, none⟩ = m.w.cell? ⟨k, c, none⟩
 own : ∀ k, v.ownBlock = some k → (m.L t).ownBlock = some k ∨ m.w.heap.size ≤ k
 n : i.n ≤ o.n
 sz : o.size = i.size
 ty : o.ty = i.ty
 ver : i.ver ≤ o.ver
 same : o.ver = i.ver → v = m.L t
structure Grows (m : Mem) (w' : World) (t : Nat) (i : Own) (v : Value) (o : Own) : Prop extends Grows0 m w' t i v o where
 row : ∃ xs, w'.ownsRow 0 o.ty o.size v o.len xs ∧ ∀ rows, o.con = some rows → RvL (m.gt w' t v o) rows.flatten xs ∧ (∀ r ∈ rows, r.length = o.size) ∧ ∀ v ∈ xs, v.oneCell' = true
theorem Ev.gt {m : Mem} (r : RH m) {w' : World} {t : Nat} {i : Own} {v : Value} {o : Own} (hi : m.H.tok t = some i) (g : Grows0 m w' t i v o) : Ev m (m.gt w' t v o) where
 os := g.os
 tape := g.tape
 output := g.output
 size := g.size
 T := Nat.le_refl _
 block := fun b hb h h' => ⟨g.block b hb (h' t i hi), h, fun t' i' ht' e => by
  simp only [Mem.gt, AHeap.setT] at ht' e
  by_cases et : t' = t
  ·rw [if_pos et] at e
   rcases g.own b e with e | e
   ·exact h' t i hi e
   ·omega
  ·rw [if_neg et] at e ht'
   exact h' t' i' ht' e⟩
 cell := fun b c hs => by
  refine ⟨⟨Nat.lt_of_lt_of_le hs.lt g.size, hs.blk, fun t' i' ht' e => ?_⟩, ?_⟩
  ·simp only [Mem.gt, AHeap.setT] at ht' e
   by_cases et : t' = t
   ·rw [if_pos et] at e ht'
    simp only [Option.some.injEq] at ht'
    subst ht'
    rcases g.own b e with e | e
    ·have := hs.tok t i hi e
     rw [g.sz]
     exact Nat.lt_of_lt_of_le this (Nat.mul_le_mul_right _ g.n)
    ·have := hs.lt
     omega
   ·rw [if_neg et] at e ht'
    exact hs.tok t' i' ht' e
  ·by_cases e : (m.L t).ownBlock = some b
   ·exact g.cell b c e (hs.tok t i hi e)
   ·exact World.cell?_of_block (a := ⟨b, c, none⟩) (g.block b hs.lt e)
 tok := fun t' i' ht' h => by
  simp only [Mem.gt, AHeap.setT] at h ⊢
  by_cases et : t' = t
  ·rw [if_pos et] at h
   simp only [Option.some.injEq] at h
   subst h
   subst et
   exact ⟨i, hi, g.ver, g.sz, fun e => by rw [if_pos rfl]; exact g.same e⟩
  ·rw [if_neg et] at h
   exact ⟨i', h, Nat.le_refl _, rfl, fun _ => by rw [if_neg et]⟩
theorem RH.gt {m : Mem} (r : RH m) {w' : World} {t : Nat} {i : Own} {v : Value} {o : Own} (hi : m.H.tok t = some i) (g : Grows m w' t i v o) : RH (m.gt w' t v o) where
 glob := (Glob.ev (Ev.gt r hi g.toGrows0) r.glob r.globf).1
 globf := (Glob.ev (Ev.gt r hi g.toGrows0) r.glob r.globf).2
 blk := fun b T cs hb => by
  obtain ⟨l, e1, e2, e3⟩ := r.blk b T cs hb
  refine ⟨l, (g.block b (blk_lt r hb) fun e => ?_).trans e1, RvL.ev (Ev.gt r hi g.toGrows0) cs l e2, e3⟩
  have := ((r.tok t i hi).2.2.2 b e).1
  have hb' : m.H.blk b = some (T, cs) := hb
  rw [this] at hb'
  cases hb'
 tok := fun t' i' ht' => by
  have hk := r.tok t i hi
  simp only [Mem.gt, AHeap.setT] at ht' ⊢
  by_cases et : t' = t
  ·rw [if_pos et] at ht'
   simp only [Option.some.injEq] at ht'
   subst ht'
   subst et
   refine ⟨hk.1, by rw [g.sz]; exact hk.2.1, by rw [if_pos rfl]; exact g.row, fun b hb => ?_⟩
   rw [if_pos rfl] at hb
   have hcase := g.own b hb
   refine ⟨?_, fun t2 i2 ht2 hb2 => ?_⟩
   ·rcases hcase with e | e
    ·exact (hk.2.2.2 b e).1
    ·cases hx : m.H.blk b with
     | none => rfl
     | some x => have := blk_lt r (T := x.1) (cs := x.2) hx; omega
   ·by_cases e2 : t2 = t'
    ·exact e2
    ·rw [if_neg e2] at ht2 hb2
     rcases hcase with e | e
     ·exact (hk.2.2.2 b e).2 t2 i2 ht2 hb2
     ·have := tok_lt r ht2 hb2
      omega
  ·rw [if_neg et] at ht'
   obtain ⟨k1, k2, ⟨xs, k3, k5⟩, k4⟩ := r.tok t' i' ht'
   have hne : ∀ b, (m.L t').ownBlock = some b → (m.L t).ownBlock ≠ some b := fun b hb e => et ((hk.2.2.2 b e).2 t' i' ht' hb)
   refine ⟨k1, k2, ⟨xs, by rw [if_neg et]; exact ownsRow_mono k3 fun b hb => g.block b (k3.lt b hb).2 (hne b hb), fun rows hr => ⟨RvL.ev (Ev.gt r hi g.toGrows0) _ _ (k5 rows hr).1, (k5 rows hr).2⟩⟩, fun b hb => ?_⟩
   rw [if_neg et] at hb
   obtain ⟨g1, g2⟩ := k4 b hb
   refine ⟨g1, fun t2 i2 ht2 hb2 => ?_⟩
   by_cases e2 : t2 = t
   ·rw [if_pos e2] at hb2
    rcases g.own b hb2 with e | e
    ·exact absurd e (hne b hb)
    ·have := (k3.lt b hb).2
     omega
   ·rw [if_neg e2] at ht2 hb2
    exact g2 t2 i2 ht2 hb2
structure HSub (H H' : AHeap) : Prop where
 blk : ∀ b x, H.blk b = some x → H'.blk b = some x
 tok : ∀ t x, H.tok t = some x → H'.tok t = some x
theorem HSub.refl (H : AHeap) : HSub H H := ⟨fun _ _ h => h, fun _ _ h => h⟩
theorem HSub.trans {a b c : AHeap} (h : HSub a b) (k : HSub b c) : HSub a c := ⟨fun x y e => k.blk x y (h.blk x y e), fun x y e => k.tok x y (h.tok x y e)⟩
theorem HSub.setB {H H' : AHeap} {b : Nat} {T : TypeId} {cs : List AV} (h : HSub H H') (hb : H.blk b = none) : HSub H (H'.setB b T cs) :=
 ⟨fun x y e => by simp only [AHeap.setB]; rw [if_neg (by intro hh; subst hh; rw [hb] at e; cases e)]; exact h.blk x y e, fun x y e => h.tok x y e⟩
theorem HSub.setT {H H' : AHeap} {t : Nat} {o : Own} (h : HSub H H') (hb : H.tok t = none) : HSub H (H'.setT t o) :=
 ⟨fun x y e => h.blk x y e, fun x y e => by simp only [AHeap.setT]; rw [if_neg (by intro hh; subst hh; rw [hb] at e; cases e)]; exact h.tok x y e⟩
theorem HSub.none_blk {H H' : AHeap} (h : HSub H H') {b : Nat} (hb : H'.blk b = none) : H.blk b = none := by
 cases e : H.blk b with
 | none => rfl
 | some x => rw [h.blk b x e] at hb; cases hb
theorem HSub.none_tok {H H' : AHeap} (h : HSub H H') {b : Nat} (hb : H'.tok b = none) : H.tok b = none := by
 cases e : H.tok b with
 | none => rfl
 | some x => rw [h.tok b x e] at hb; cases hb
section
variable {w : World} {H H' : AHeap} {L : Nat → Value} {T : Nat}
theorem St.forget (hh : HSub H H') {b o : Nat} (h : St ⟨w, H', L, T⟩ b o) : St ⟨w, H, L, T⟩ b o :=
 ⟨h.lt, hh.none_blk h.blk, fun t i hi hb => h.tok t i (hh.tok t i hi) hb⟩
mutual
theorem Rv.forget (hh : HSub H H') : ∀ (a : AV) (v : Value), Rv ⟨w, H', L, T⟩ a v → Rv ⟨w, H, L, T⟩ a v
 | .top, _, _ => by simp only [Rv]
 | .bool _, _, h => by simp only [Rv] at *; exact h
 | .int _ _, _, h => by simp only [Rv] at *; exact h
 | .str _, _, h => by simp only [Rv] at *; exact h
 | .raw _, _, h => by simp only [Rv] at *; exact h
 | .ptr _ _, _, h => by simp only [Rv] at *; exact h
 | .agg cs, _, h => by simp only [Rv] at *; obtain ⟨l, e1, e2⟩ := h; exact ⟨l, e1, RvL.forget hh cs l e2⟩
 | .tup cs, _, h => by simp only [Rv] at *; obtain ⟨l, e1, e2⟩ := h; exact ⟨l, e1, RvL.forget hh cs l e2⟩
 | .vs size rows, _, h => by
  simp only [Rv] at *
  obtain ⟨a, len, cap, h1, h2, h3, h4⟩ := h
  exact ⟨a, len, cap, h1, h2, h3, h4.imp id fun ⟨b, o, g1, g2⟩ => ⟨b, o, g1, RvR.forget hh size rows b o g2⟩⟩
 | .own t size rows, _, h => by
  simp only [Rv] at *
  obtain ⟨⟨a, len, cap, h1, h2, h3, h4⟩, h5, h6⟩ := h
  exact ⟨⟨a, len, cap, h1, h2, h3, h4.imp id fun ⟨b, o, g1, g2⟩ => ⟨b, o, g1, RvR.forget hh size rows b o g2⟩⟩, h5, fun i hi => h6 i (hh.tok t i hi)⟩
 | .ms t ver, _, h => by
  simp only [Rv] at *
  obtain ⟨h0, h5, h6⟩ := h
  exact ⟨h0, h5, fun i hi => h6 i (hh.tok t i hi)⟩
 | .mp t ver k, _, h => by
  simp only [Rv] at *
  obtain ⟨h0, h5, h6⟩ := h
  exact ⟨h0, h5, fun i hi => h6 i (hh.tok t i hi)⟩
 | .rp row off, _, h => by
  simp only [Rv] at *
  obtain ⟨b, o, h1, h2⟩ := h
  exact ⟨b, o, h1, RvC.forget hh row b o h2⟩
 | .fn f cs, _, h => by simp only [Rv] at *; obtain ⟨l, e1, e2⟩ := h; exact ⟨l, e1, RvL.forget hh cs l e2⟩
 | .ifc t a, _, h => by simp only [Rv] at *; obtain ⟨x, e1, e2⟩ := h; exact ⟨x, e1, Rv.forget hh a x e2⟩
theorem RvL.forget (hh : HSub H H') : ∀ (az : List AV) (l : List Value), RvL ⟨w, H', L, T⟩ az l → RvL ⟨w, H, L, T⟩ az l
 | [], _, h => by simp only [RvL] at *; exact h
 | a :: az, _, h => by simp only [RvL] at *; obtain ⟨v, vs, h1, h2, h3⟩ := h; exact ⟨v, vs, h1, Rv.forget hh a v h2, RvL.forget hh az vs h3⟩
theorem RvC.forget (hh : HSub H H') : ∀ (az : List AV) (b o : Nat), RvC ⟨w, H', L, T⟩ az b o → RvC ⟨w, H, L, T⟩ az b o
 | [], _, _, _ => by simp only [RvC]
 | a :: az, b, o, h => by
  simp only [RvC] at *
  obtain ⟨⟨v, h1, h1', h2, h3⟩, h4⟩ := h
  exact ⟨⟨v, h1, h1', St.forget hh h2, Rv.forget hh a v h3⟩, RvC.forget hh az b (o + 1) h4⟩
theorem RvR.forget (hh : HSub H H') (size : Nat) : ∀ (rs : List (List AV)) (b o : Nat), RvR ⟨w, H', L, T⟩ size rs b o → RvR ⟨w, H, L, T⟩ size rs b o
 | [], _, _, _ => by simp only [RvR]
 | r :: rs, b, o, h => by
  simp only [RvR] at *
  exact ⟨h.1, RvC.forget hh r b o h.2.1, RvR.forget hh size rs b (o + size) h.2.2⟩
end
theorem RH.forget (hh : HSub H H') (h : RH ⟨w, H', L, T⟩) : RH ⟨w, H, L, T⟩ where
 glob := h.glob
 globf := fun p hp => ⟨hh.none_blk (h.globf p hp).1, fun t i hi => (h.globf p hp).2 t i (hh.tok t i hi)⟩
 blk := fun b Ty cs hb => by
  obtain ⟨l, e1, e2, e3⟩ := h.blk b Ty cs (hh.blk b _ hb)
  exact ⟨l, e1, RvL.forget hh _ _ e2, e3⟩
 tok := fun t i hi => by
  obtain ⟨e1, e2, e3, e4⟩ := h.tok t i (hh.tok t i hi)
  obtain ⟨xs, x1, x2⟩ := e3
  refine ⟨e1, e2, ⟨xs, x1, fun rows hr => ⟨RvL.forget hh _ _ (x2 rows hr).1, (x2 rows hr).2⟩⟩, fun b hb => ?_⟩
  obtain ⟨f1, f2⟩ := e4 b hb
  exact ⟨hh.none_blk f1, fun t' i' hi' => f2 t' i' (hh.tok t' i' hi')⟩
theorem Ev.forget (hh : HSub H H') {m : Mem} (h : Ev m ⟨w, H', L, T⟩) : Ev m ⟨w, H, L, T⟩ where
 os := h.os
 tape := h.tape
 output := h.output
 size := h.size
 T := h.T
 block := fun b h1 h2 h3 => by
  obtain ⟨e1, e2, e3⟩ := h.block b h1 h2 h3
  exact ⟨e1, hh.none_blk e2, fun t i hi => e3 t i (hh.tok t i hi)⟩
 cell := fun b o hs => by
  obtain ⟨e1, e2⟩ := h.cell b o hs
  exact ⟨St.forget hh e1, e2⟩
 tok := fun t i' ht hi => h.tok t i' ht (hh.tok t i' hi)
end
theorem HSub.dropB (H : AHeap) (b : Nat) : HSub (H.dropB b) H := ⟨fun x y h => by simp only [AHeap.dropB] at h; by_cases e : x = b <;> simp [e] at h; exact h, fun _ _ h => h⟩
def cst : AV → Value → Bool
 | .bool b, .bool c => b == c
 | .int k n, .int j c => decide (k = j) && decide (n = c)
 | .str s, .string b => decide (b.data.toList = s) && Nat.ble s.length maxLen
 | .raw (.slice none 0 0), .slice none 0 0 => true
 | .raw (.pointer none), .pointer none => true
 | .raw .nilFunc, .nilFunc => true
 | .raw .nilIface, .nilIface => true
 | .raw (.map none), .map none => true
 | .fn f [], .func (.func g) ⟨[]⟩ ⟨[]⟩ => f == g && Nat.blt f bnd
 | _, _ => false
def cstL : List AV → List Value → Bool
 | [], [] => true
 | a :: az, v :: vs => cst a v && cstL az vs
 | _, _ => false
def cstA : List AV → Value → Bool
 | l, .agg ⟨vs⟩ => cstL l vs
 | [a], v => cst a v
 | _, _ => false
def chkX : Operand → EOpd → Bool
 | .tmp t, .t n => t == n
 | .const v, .c a => cst a v
 | .func f, .c (.fn g []) => f == g && Nat.blt f bnd
 | _, _ => false
def chkXs : List Operand → List EOpd → Bool
 | [], [] => true
 | x :: xs, y :: ys => chkX x y && chkXs xs ys
 | _, _ => false
def chkXo : Option Operand → Option EOpd → Bool
 | none, none => true
 | some x, some y => chkX x y
 | _, _ => false
def aggT (P : Program) (t : TypeId) : Option Bool :=
 match P.underlying t with
 | some (.struct _) | some (.array ..) => some true
 | some _ => some false
 | none => none
def sizeT (P : Program) (t : TypeId) : Option Nat := (P.info? t).map (·.size)
def ldT (P : Program) (t : TypeId) (agg : Bool) (n : Nat) : Bool :=
 decide (aggT P t = some agg) && decide (sizeT P t = some n) && (agg || n == 1) && !(n == 0)
def slT (P : Program) (t : TypeId) : Option TypeId :=
 match P.underlying t with
 | some (.slice e) => some e
 | _ => none
def zeroT (P : Program) (t : TypeId) (zero : List AV) : Bool :=
 match (P.info? t).bind (·.zero) with
 | some z => cstA zero z
 | none => false
def chkParts (P : Program) (fs : Array Field) : List (Nat × Operand) → List (Nat × Nat × EOpd) → Bool
 | [], [] => true
 | (i, x) :: ps, (off, size, y) :: qs => (match fs[i]? with
  | some f => decide (f.offset = off) && decide (sizeT P f.type = some size)
  | none => false) && chkX x y && chkParts P fs ps qs
 | _, _ => false
def chkPartsA (size : Nat) : List (Nat × Operand) → List (Nat × Nat × EOpd) → Bool
 | [], [] => true
 | (i, x) :: ps, (off, sz, y) :: qs => decide (off = i * size) && decide (sz = size) && chkX x y && chkPartsA size ps qs
 | _, _ => false
def chkPartsS : List (Nat × Operand) → List (Nat × EOpd) → Bool
 | [], [] => true
 | (i, x) :: ps, (j, y) :: qs => decide (i = j) && chkX x y && chkPartsS ps qs
 | _, _ => false
def inOrder : Nat → List (Nat × EOpd) → Bool
 | _, [] => true
 | k, (i, _) :: ps => decide (i = k) && inOrder (k + 1) ps
def flatFs (P : Program) (g : TypeId → Option (List LK)) : Nat → List Field → Option (List LK)
 | _, [] => some []
 | off, f :: fs => match g f.type with
  | some ks => if f.offset = off ∧ f.name ≠ "_" ∧ sizeT P f.type = some ks.length ∧ ks ≠ [] then (flatFs P g (off + ks.length) fs).map (ks ++ ·) else none
  | none => none
def flatT (P : Program) : Nat → TypeId → Option (List LK)
 | 0, _ => none
 | d + 1, t => match P.underlying t with
  | some .bool => some [.b]
  | some (.int k) => some [.i k]
  | some .string => some [.s]
  | some (.struct fs) => if P.stoodInHeld t then none else flatFs P (flatT P d) 0 fs.toList
  | _ => none
def isB (P : Program) (t : TypeId) : Bool := match P.underlying t with | some .bool => true | _ => false
def chkOp (P : Program) (o : Op) (e : EOp) : Bool :=
 match o, e with
 | .move x, .mv y => chkX x y
 | .assign x, .mv y => chkX x y
 | .pick c a b, .pick c' a' b' => chkX c c' && chkX a a' && chkX b b'
 | .nilCheck x, .nilck y => chkX x y
 | .box T x, .box T' y => decide (T = T') && chkX x y
 | .alloc T, .alloc T' zero => decide (T = T') && zeroT P T zero
 | .build t parts, .build zero ps => zeroT P t zero && (match P.underlying t with
  | some (.struct fs) => chkParts P fs parts.toList ps && (fs.toList.mapM (fun f => (P.info? f.type).map fun i => (f.offset, i.size))).isSome
  | some (.array _ e) => (match sizeT P e with | some s => chkPartsA s parts.toList ps | none => false)
  | _ => false)
 | .buildSlice t n parts, .bslice T size n' zero ps => decide (n = n') && decide (slT P t = some T) && decide (sizeT P T = some size) && zeroT P T zero && decide (zero.length = size) && Nat.ble (n * size) 65536 && chkPartsS parts.toList ps && inOrder 0 ps && decide (ps.length = n) && !(size == 0)
 | .buildSlice t n parts, .bsliceO T size n' zero ps => decide (n = n') && decide (slT P t = some T) && decide (sizeT P T = some size) && zeroT P T zero && decide (zero.length = size) && Nat.ble (n * size) 65536 && chkPartsS parts.toList ps && inOrder 0 ps && decide (ps.length = n) && !(size == 0)
 | .buildSlice t n parts, .bsliceM T size n' zero ps => decide (n = n') && decide (slT P t = some T) && decide (sizeT P T = some size) && zeroT P T zero && decide (zero.length = size) && Nat.ble (n * size) 65536 && chkPartsS parts.toList ps && inOrder 0 ps && decide (ps.length = n) && !(size == 0)
 | .load t x, .load agg n y => ldT P t agg n && chkX x y
 | .load t x, .loadM agg n y => ldT P t agg n && chkX x y
 | .load t x, .loadD _ agg n y => ldT P t agg n && chkX x y
 | .load t x, .loadR agg n y => ldT P t agg n && chkX x y
 | .store t a v, .store n a' v' => decide (sizeT P t = some n) && chkX a a' && chkX v v'
 | .store t a v, .storeD _ _ n a' v' => decide (sizeT P t = some n) && chkX a a' && chkX v v'
 | .fieldAddr s x f, .faddr off y => chkX x y && (match P.underlying s with
  | some (.struct fs) => (match fs[f]? with | some g => decide (g.offset = off) && (match sizeT P g.type with | some n => !(n == 0) | none => false) | none => false)
  | _ => false)
 | .field s x f, .field agg off n y => chkX x y && (match P.underlying s with
  | some (.struct fs) => (match fs[f]? with | some g => decide (g.offset = off) && ldT P g.type agg n | none => false)
  | _ => false)
 | .fieldAddr s x f, .faddrM off y => chkX x y && (match P.underlying s with
  | some (.struct fs) => (match fs[f]? with | some g => decide (g.offset = off) && (match sizeT P g.type with | some n => !(n == 0) | none => false) | none => false)
  | _ => false)
 | .indexAddr t x i, .iaddr size y j => chkX x y && chkX i j && (match slT P t with | some e => decide (sizeT P e = some size) | none => false)
 | .indexAddr t x i, .iaddrM size y j => chkX x y && chkX i j && (match slT P t with | some e => decide (sizeT P e = some size) | none => false)
 | .indexAddr t x i, .iaddrA len size y j => chkX x y && chkX i j && (match P.underlying t with | some (.array n e) => decide (n = len) && decide (sizeT P e = some size) | _ => false)
 | .index t x i, .idxA agg len size y j => chkX x y && chkX i j && (match P.underlying t with | some (.array n e) => decide (n = len) && ldT P e agg size | _ => false)
 | .index t x i, .idxS y j => chkX x y && chkX i j && (match P.underlying t with | some .string => true | _ => false)
 | .binOp op t x y _, .bin op' x' y' => decide (op = op') && chkX x x' && chkX y y'
 | .binOp op t x y _, .binB op' x' y' => decide (op = op') && chkX x x' && chkX y y' && (match P.underlying t with | some .bool => true | _ => false)
 | .binOp op t x y _, .eqA neg T ks x' y' => decide (op = (if neg then .neq else .eql)) && decide (t = T) && chkX x x' && chkX y y' && decide (flatT P 8 t = some ks) && !(P.eqGuardType P.depth t) && (match P.underlying t with | some (.struct _) => true | _ => false)
 | .binOp op t x y _, .isnil neg x' => decide (op = (if neg then .neq else .eql)) && chkX x x' && (match y with | .const (.slice none 0 0) => true | _ => false) && (match slT P t with | some _ => true | none => false) && !(P.eqGuardType P.depth t)
 | .binOp op t x y _, .pnil neg x' => decide (op = (if neg then .neq else .eql)) && chkX x x' && (match y with | .const (.pointer none) => true | _ => false) && (match P.underlying t with | some (.pointer _) => true | _ => false) && !P.eqGuardType P.depth t
 | .makeSlice t l c, .mkM T size bytes zero x => chkX l x && chkX c x && decide (slT P t = some T) && decide (sizeT P T = some size) && zeroT P T zero && (match P.info? T with | some i => decide (i.bytes = bytes) | none => false)
 | .unOp .not _ x, .not y => chkX x y
 | .unOp .neg _ x, .neg y => chkX x y
 | .convert s d x, .conv k y => chkX x y && (match P.underlying s with | some (.int _) => true | _ => false) && (match P.underlying d with | some (.int j) => decide (j = k) | _ => false)
 | .call { callee := .builtin .len, args, argTypes }, .len y => (match args.toList with | [x] => chkX x y | _ => false) && (match argTypes.toList with | [t] => (match P.underlying t with | some (.slice _) => true | _ => false) | _ => false)
 | .call { callee := .builtin .len, args, argTypes }, .lenM y => (match args.toList with | [x] => chkX x y | _ => false) && (match argTypes.toList with | [t] => (match P.underlying t with | some (.slice _) => true | _ => false) | _ => false)
 | .call { callee := .builtin .len, args, argTypes }, .lenS y => (match args.toList with | [x] => chkX x y | _ => false) && (match argTypes.toList with | [t] => (match P.underlying t with | some .string => true | _ => false) | _ => false)
 | .call { callee := .builtin .len, args, argTypes }, .lenA n => (match args.toList with | [_] => true | _ => false) && (match argTypes.toList with | [t] => (match P.underlying t with | some (.array m _) => decide (m = n) | some (.pointer a) => (match P.underlying a with | some (.array m _) => decide (m = n) | _ => false) | _ => false) | _ => false)
 | .call { callee := .builtin .min, args, .. }, .minmax false ys => chkXs args.toList ys
 | .call { callee := .builtin .max, args, .. }, .minmax true ys => chkXs args.toList ys
 | .call { callee := .builtin .append, args, argTypes }, .append T size bytes x y => chkXs args.toList [x, y] && (match argTypes.toList with
  | [t, u] => decide (slT P t = some T) && (decide (slT P u = some T) || (match P.underlying u, P.underlying T with | some .string, some (.int .u8) => true | _, _ => false)) && (match P.info? T with | some i => decide (i.size = size) && decide (i.bytes = bytes) && (match i.zero with | some z => decide (z.cells.size = size) | none => false) | none => false)
  | _ => false)
 | .call { callee := .builtin .append, args, argTypes }, .appendM T size bytes x y => chkXs args.toList [x, y] && (match argTypes.toList with
  | [t, u] => decide (slT P t = some T) && (decide (slT P u = some T) || (match P.underlying u, P.underlying T with | some .string, some (.int .u8) => true | _, _ => false)) && (match P.info? T with | some i => decide (i.size = size) && decide (i.bytes = bytes) && (match i.zero with | some z => decide (z.cells.size = size) | none => false) | none => false)
  | _ => false)
 | .slice t x lo hi none, .slS y lo' hi' => chkX x y && chkXo lo lo' && chkXo hi hi' && (match P.underlying t with | some .string => true | _ => false)
 | .slice t x lo hi mx, .slV size y lo' hi' mx' => chkX x y && chkXo lo lo' && chkXo hi hi' && chkXo mx mx' && (match slT P t with | some e => decide (sizeT P e = some size) | none => false)
 | .slice t x lo hi none, .slM size y lo' hi' => chkX x y && chkXo lo lo' && chkXo hi hi' && (match slT P t with | some e => decide (sizeT P e = some size) | none => false)
 | .extract x i, .extract j y => chkX x y && decide (i = j)
 | .makeFunc (.func f) first caps, .mkfn g ys => decide (f = g) && first.isEmpty && chkXs caps.toList ys && Nat.blt g bnd
 | .makeFunc (.func f) first caps, .mkfnB g ys => decide (f = g) && caps.isEmpty && chkXs first.toList ys
 | .convert s d x, .convS int y => chkX x y && (match P.underlying d with | some .string => true | _ => false) && (match P.underlying s with | some (.int _) => int | some (.slice e) => (match P.underlying e with | some (.int .u8) => !int | _ => false) | _ => false)
 | .convert s d x, .convBS T y => chkX x y && (match P.underlying s with | some .string => true | _ => false) && decide (slT P d = some T) && (match P.underlying T with | some (.int .u8) => true | _ => false)
 | .slice t x none none none, .slA len size y => chkX x y && (match P.underlying t with | some (.array n e) => decide (n = len) && decide (sizeT P e = some size) | _ => false)
 | .makeInterface t x, .mkif T y => decide (t = T) && chkX x y && (match P.underlying t with | some (.interface _) => false | some _ => true | none => false)
 | .call { callee := .value f, args, .. }, .call g ys => (match f with | .func f' => decide (f' = g) | _ => false) && chkXs args.toList ys && callable P g
 | .call { callee := .value f, args, .. }, .callD _ g ys => (match f with | .func f' => decide (f' = g) | _ => false) && chkXs args.toList ys && callable P g
 | .call { callee := .value f, args, .. }, .callv y ys => chkX f y && chkXs args.toList ys
 | .call { callee := .value f, args, .. }, .pcall g ys => (match f with | .func f' => decide (f' = g) | _ => false) && chkXs args.toList ys && callable P g
 | .call { callee := .value f, args, .. }, .pcallM T size g ys => (match f with | .func f' => decide (f' = g) | _ => false) && chkXs args.toList ys && callable P g
 | .call { callee := .value f, args, .. }, .pcallMR T size g ys _ => (match f with | .func f' => decide (f' = g) | _ => false) && chkXs args.toList ys && callable P g
 | .call { callee := .value f, args, .. }, .pcallv y ys => chkX f y && chkXs args.toList ys
 | .call { callee := .value f, args, .. }, .pcallR g ys _ => (match f with | .func f' => decide (f' = g) | _ => false) && chkXs args.toList ys && callable P g
 | .call { callee := .value f, args, .. }, .pcallvR y ys _ => chkX f y && chkXs args.toList ys
 | .panic x, .panic y => chkX x y
 | _, _ => false
def chkG (ops : Array Oper) (g : Option (Nat × Bool)) (h : Option (Nat × Bool)) : Bool :=
 match g, h with
 | none, none => true
 | some (j, w), some (t, w') => decide (w = w') && decide ((ops[j]?).bind (·.dst) = some t)
 | _, _ => false
def chkI (P : Program) (n : Nat) (ops : Array Oper) (o : Oper) (i : EI) : Bool :=
 decide (o.dst = i.dst) && (match i.dst with | some d => Nat.blt d n | none => true) && (match i.guard with | some (t, _) => Nat.blt t n | none => true) && chkG ops o.guard i.guard && chkOp P o.op i.op
def chkIs (P : Program) (n : Nat) (ops : Array Oper) : List Oper → List EI → Bool
 | [], [] => true
 | o :: os, i :: is => chkI P n ops o i && chkIs P n ops os is
 | _, _ => false
def EOpd.tmp? : EOpd → Option Nat
 | .t n => some n
 | .c _ => none
def EOp.opds : EOp → List EOpd
 | .mv x | .nilck x | .box _ x | .load _ _ x | .loadR _ _ x | .faddr _ x | .field _ _ _ x | .not x | .neg x | .conv _ x | .len x | .lenS x | .extract _ x | .mkif _ x | .panic x | .lenM x | .loadM _ _ x | .pnil _ x | .mkM _ _ _ _ x | .isnil _ x | .faddrM _ x | .convS _ x | .convBS _ x | .slA _ _ x => [x]
 | .pick a b c => [a, b, c]
 | .alloc _ _ | .lenA _ => []
 | .build _ ps => ps.map (·.2.2)
 | .bslice _ _ _ _ ps | .bsliceO _ _ _ _ ps | .bsliceM _ _ _ _ ps => ps.map (·.2)
 | .store _ a v => [a, v]
 | .loadD me _ _ x => [.t me, x]
 | .storeD me o _ a v => .t me :: a :: v :: o.map .t
 | .iaddr _ x i | .iaddrA _ _ x i | .idxA _ _ _ x i | .idxS x i | .bin _ x i | .binB _ x i | .eqA _ _ _ x i | .append _ _ _ x i | .iaddrM _ x i | .appendM _ _ _ x i => [x, i]
 | .minmax _ xs | .mkfn _ xs | .mkfnB _ xs | .call _ xs | .pcall _ xs | .pcallR _ xs _ | .pcallM _ _ _ xs | .pcallMR _ _ _ xs _ => xs
 | .slS x l h | .slM _ x l h => x :: (l.toList ++ h.toList)
 | .slV _ x l h m => x :: (l.toList ++ h.toList ++ m.toList)
 | .callv x xs | .pcallv x xs | .pcallvR x xs _ => x :: xs
 | .callD o _ xs => xs ++ o.map .t
def EI.reads (i : EI) : List Nat := i.op.opds.filterMap EOpd.tmp? ++ (i.guard.map (·.1)).toList
def EOp.rank : EOp → Nat
 | .mv _ | .loadR .. | .pick .. | .nilck _ | .build .. | .faddr .. | .field .. | .iaddr .. | .iaddrA .. | .idxA .. | .idxS .. | .bin .. | .binB .. | .eqA .. | .not _ | .pnil .. | .neg _ | .conv .. | .len _ | .lenS _ | .lenA _ | .minmax .. | .slS .. | .slV .. | .extract .. | .mkfn .. | .mkfnB .. | .convS .. | .mkif .. => 0
 | .load .. | .loadD .. | .box .. | .alloc .. | .convBS .. | .bslice .. | .bsliceO .. | .pcall .. | .pcallv .. | .pcallR .. | .pcallvR .. | .bsliceM .. | .mkM .. | .pcallM .. | .pcallMR .. => 1
 | .append .. => 2
 | .store .. | .storeD .. | .callD .. | .call .. | .callv .. | .panic _ | .slM .. | .appendM .. | .lenM .. | .iaddrM .. | .loadM .. | .isnil .. | .faddrM .. | .slA .. => 3
def EOp.live : EOp → Bool
 | .store .. | .storeD .. | .slM .. | .appendM .. | .lenM .. | .iaddrM .. | .loadM .. | .faddrM .. => true
 | _ => false
def EOp.quiet : EOp → Bool
 | .load .. | .loadD .. | .lenM .. | .iaddrM .. | .loadM .. | .faddrM .. => true
 | op => op.rank == 0
def EOp.tokq : EOp → Bool
 | .lenM .. | .iaddrM .. | .loadM .. | .faddrM .. => true
 | _ => false
def EOp.blkOnly : EOp → Bool
 | .alloc .. | .storeD .. => true
 | _ => false
def EI.total (i : EI) : Bool := i.guard.isNone && match i.op with
 | .mv _ | .lenA _ | .mkfn .. | .mkif .. => true
 | _ => false
def EI.stInfo (i : EI) : Option (Bool × Nat × List Nat) := match i.guard, i.op with
 | none, .storeD me o _ _ _ => some (true, me, o)
 | none, .loadD me _ _ _ => some (false, me, [])
 | _, _ => none
def stD (i j : EI) : Bool := match i.stInfo, j.stInfo with
 | some (true, _, o), some (true, b, _) => o.contains b
 | some (false, m, _), some (true, _, o) => o.contains m
 | _, _ => false
def EOp.still : EOp → Bool
 | .bslice .. | .convBS .. | .pcall .. | .pcallv .. | .pcallR .. | .pcallvR .. => true
 | op => op.rank == 0
def EI.cdInfo (i : EI) : Option (Option (List Nat) × Option Nat) := match i.guard, i.op with
 | none, .callD o _ _ => some (some o, none)
 | none, .loadD me _ _ _ => some (none, some me)
 | none, op => if op.still then some (none, none) else none
 | some _, _ => none
def rdOK (o : List Nat) : Option (Option (List Nat) × Option Nat) → Bool
 | some (none, some me) => o.contains me
 | some (none, none) => true
 | _ => false
def cdOK (i j : EI) : Bool := match i.cdInfo, j.cdInfo with
 | some (some o, _), x => rdOK o x
 | x, some (some o, _) => rdOK o x
 | _, _ => false
def indep (i j : EI) : Bool :=
 (match i.dst with | some d => !j.reads.contains d && !(j.dst == some d) | none => true) &&
 (match j.dst with | some d => !i.reads.contains d | none => true) &&
 (cdOK i j || i.op.rank == 0 || (i.op.quiet && j.op.quiet) || (i.op.tokq && j.op.blkOnly) || (i.op.live && j.op.rank == 0) || stD i j || (i.op.rank == 3 && j.total) || (i.op.rank ≤ 2 && j.op.rank ≤ 2 && !(i.op.rank == 2 && j.op.rank == 2)))
def ancs (ops : List Oper) : List Nat :=
 ops.foldl (fun acc o => acc ++ [o.after.foldl (fun s e => if Region.binds .any e then s ||| 2 ^ e.on ||| acc.getD e.on 0 else s) 0]) []
def okDraw (ops : List Oper) (is : List EI) : Bool :=
 let an := ancs ops
 (ops.zipIdx.all fun (o, i) => o.after.all fun e => !Region.binds .any e || Nat.blt e.on i) &&
 (is.zipIdx.all fun (y, j) => is.zipIdx.all fun (x, i) => !(Nat.blt i j) || (an.getD j 0).testBit i || indep x y)
def chkC (P : Program) (n : Nat) : Code → EC → Bool
 | .skip, .skip => true
 | .region _ ops draw, .region is draw' => draw == draw' && chkIs P n ops ops.toList is && (!draw || okDraw ops.toList is)
 | .seq a b, .seq c d => chkC P n a c && chkC P n b d
 | .cond c a b, .cond c' a' b' => chkX c c' && chkC P n a a' && chkC P n b b'
 | .block i a, .block j b => i == j && chkC P n a b
 | .loop a, .loop b => chkC P n a b
 | .exit i, .exit j => i == j
 | .ret, .ret => true
 | .region _ ops false, .dfr d f cap => Nat.blt d n && callable P f && match ops.toList with
  | [o1, o2] => o1.dst == some d && o1.guard.isNone && o2.dst == none && o2.guard.isNone && (match o1.op with | .makeFunc (.func g) first caps => decide (g = f) && first.isEmpty && chkXs caps.toList cap | _ => false) && (match o2.op with | .defer { callee := .value (.tmp t), args, .. } => t == d && args.isEmpty | _ => false)
  | _ => false
 | _, _ => false
def chkR (P : Program) : List ResultVar → List ERes → Bool
 | [], [] => true
 | .tmp t :: l, .t n :: l' => t == n && chkR P l l'
 | .cell t ty :: l, .cell agg n t' :: l' => t == t' && ldT P ty agg n && chkR P l l'
 | _, _ => false
def chkF (P : Program) (fn : Func) (nargs : Nat) (e : EC) (rs : List ERes) : Bool :=
 Nat.ble nargs fn.ntmps && chkR P fn.results.toList rs && match fn.body with
 | some c => chkC P fn.ntmps c e
 | none => false
end Go.Aw
namespace Go.Aw
open Go
set_option linter.unusedVariables false
set_option linter.unusedSimpArgs false
theorem bytes_toList (s : List UInt8) : (⟨⟨s⟩⟩ : ByteArray).toList = s := by
 rw [Lib.toList_data]
theorem bytes_mk (b : ByteArray) : b = ⟨⟨b.data.toList⟩⟩ := rfl
theorem bytes_append (s t : List UInt8) : (⟨⟨s⟩⟩ : ByteArray) ++ ⟨⟨t⟩⟩ = ⟨⟨s ++ t⟩⟩ := by
 rw [bytes_mk ((⟨⟨s⟩⟩ : ByteArray) ++ ⟨⟨t⟩⟩)]
 rw [Joins.data_append]
theorem bytes_extract (s : List UInt8) (l h : Nat) : (⟨⟨s⟩⟩ : ByteArray).extract l h = ⟨⟨(s.take h).drop l⟩⟩ := by
 rw [bytes_mk (ByteArray.extract _ _ _)]
 congr 2
 rw [Lib.extract_data]
 simp only [List.drop_take]
theorem cst_rv {m : Mem} {a : AV} {v : Value} (h : cst a v = true) : Rv m a v := by
 unfold cst at h
 split at h <;> first
  | (simp only [Rv]; done)
  | (simp only [Rv]; simp at h; subst h; rfl)
  | (simp only [Rv]; simp at h; obtain ⟨rfl, rfl⟩ := h; rfl)
  | skip
 ·simp only [Rv]
  simp only [Bool.and_eq_true, decide_eq_true_eq] at h
  obtain ⟨rfl, h2⟩ := h
  exact ⟨rfl, Nat.le_of_ble_eq_true h2⟩
 ·rename_i f g
  simp at h
  obtain ⟨rfl, hb⟩ := h
  simp only [Rv, RvL]
  exact ⟨[], (fnV_lt hb []).symm, rfl⟩
 ·cases h
theorem cst_one {a : AV} {v : Value} (h : cst a v = true) : v.oneCell' = true := by
 unfold cst at h
 split at h <;> first | rfl | cases h
theorem cstL_rv {m : Mem} : ∀ {az : List AV} {l : List Value}, cstL az l = true → RvL m az l ∧ ∀ v ∈ l, v.oneCell' = true
 | [], [], _ => ⟨by simp only [RvL], by simp⟩
 | [], _ :: _, h => by simp [cstL] at h
 | _ :: _, [], h => by simp [cstL] at h
 | a :: az, v :: l, h => by
  simp only [cstL, Bool.and_eq_true] at h
  obtain ⟨k1, k2⟩ := cstL_rv (m := m) h.2
  refine ⟨by simp only [RvL]; exact ⟨v, l, rfl, cst_rv h.1, k1⟩, fun u hu => ?_⟩
  rcases List.mem_cons.1 hu with rfl | hu
  ·exact cst_one h.1
  ·exact k2 u hu
theorem cstA_rv {m : Mem} {az : List AV} {z : Value} (h : cstA az z = true) : RvL m az z.cells.toList ∧ ∀ v ∈ z.cells.toList, v.oneCell' = true := by
 unfold cstA at h
 split at h
 ·exact cstL_rv h
 ·rename_i a v hne
  have ho := cst_one h
  have hr := cst_rv (m := m) h
  have hc : Value.cells z = #[z] := by
   cases z <;> first | rfl | (simp [Value.oneCell'] at ho)
  rw [hc]
  refine ⟨by simp only [RvL]; exact ⟨z, [], rfl, hr, rfl⟩, fun u hu => ?_⟩
  simp at hu
  subst hu
  exact ho
 ·cases h
def RvE (m : Mem) (env : Env) (tmps : Array Value) : Prop := ∀ k, Rv m (env.get k) (tmps.getD k undef)
theorem chkX_rv {m : Mem} {env : Env} {a : Act} {x : Operand} {y : EOpd} (he : RvE m env a.tmps) (h : chkX x y = true) : Rv m (y.ev env) (a.eval x) := by
 unfold chkX at h
 split at h
 ·rename_i t n
  have e : t = n := by simpa using h
  subst e
  exact he t
 ·exact cst_rv h
 ·rename_i f g
  have e : f = g ∧ f < bnd := by simpa using h
  obtain ⟨rfl, hb⟩ := e
  simp only [EOpd.ev, Rv, RvL, Act.eval]
  exact ⟨[], (fnV_lt hb []).symm, rfl⟩
 ·cases h
theorem chkXs_rv {m : Mem} {env : Env} {a : Act} (he : RvE m env a.tmps) : ∀ {xs : List Operand} {ys : List EOpd}, chkXs xs ys = true → RvL m (ys.map (EOpd.ev env)) (xs.map a.eval)
 | [], [], _ => by simp only [List.map_nil, RvL]
 | [], _ :: _, h => by simp [chkXs] at h
 | _ :: _, [], h => by simp [chkXs] at h
 | x :: xs, y :: ys, h => by
  simp only [chkXs, Bool.and_eq_true] at h
  simp only [List.map_cons, RvL]
  exact ⟨_, _, rfl, chkX_rv he h.1, chkXs_rv he h.2⟩
theorem one_rv {m : Mem} {a : AV} {v : Value} (h : Rv m a v) (ho : a.one = true) : v.oneCell' = true := by
 cases a <;> simp only [Rv, AV.one] at h ho <;> first
  | exact absurd ho Bool.false_ne_true
  | (obtain ⟨rfl, _⟩ := h; rfl)
  | (subst h; first | rfl | exact ho)
  | exact h.1
  | (obtain ⟨_, _, _, rfl, _⟩ := h; rfl)
  | (obtain ⟨⟨_, _, _, rfl, _⟩, _⟩ := h; rfl)
  | (obtain ⟨_, _, rfl, _⟩ := h; rfl)
  | (obtain ⟨_, rfl, _⟩ := h; first | rfl | (unfold fnV; split <;> rfl))
theorem cells_of_one {v : Value} (h : v.oneCell' = true) : v.cells = #[v] := by
 cases v <;> first | rfl | (simp [Value.oneCell'] at h)
theorem cells_rv {m : Mem} {a : AV} {v : Value} (h : Rv m a v) (ho : a.cells.all AV.one = true) : RvL m a.cells v.cells.toList ∧ ∀ u ∈ v.cells.toList, u.oneCell' = true := by
 cases ha : a with
 | agg cs =>
  subst ha
  simp only [Rv] at h
  obtain ⟨l, rfl, h2⟩ := h
  refine ⟨h2, fun u hu => ?_⟩
  simp only [AV.cells, List.all_eq_true] at ho
  obtain ⟨i, hi⟩ := List.getElem?_of_mem hu
  have hi' : i < l.length := (List.getElem?_eq_some_iff.1 hi).1
  rw [RvL.length h2] at hi'
  obtain ⟨v', e1, e2⟩ := RvL.get h2 i cs[i] (List.getElem?_eq_getElem hi')
  have : v' = u := by
   have hi2 : l[i]? = some u := hi
   rw [hi2] at e1
   simpa using e1.symm
  subst this
  exact one_rv e2 (ho _ (List.getElem_mem hi'))
 | _ =>
  subst ha
  simp only [AV.cells, List.all_cons, List.all_nil, Bool.and_true] at ho ⊢
  have h1 := one_rv h ho
  rw [cells_of_one h1]
  refine ⟨by simp only [RvL]; exact ⟨v, [], rfl, h, rfl⟩, fun u hu => ?_⟩
  simp at hu
  subst hu
  exact h1
theorem rv_int {m : Mem} {k n v} (h : Rv m (.int k n) v) : v = .int k n := by simpa only [Rv] using h
theorem rv_bool {m : Mem} {b v} (h : Rv m (.bool b) v) : v = .bool b := by simpa only [Rv] using h
theorem rv_str {m : Mem} {s v} (h : Rv m (.str s) v) : v = .string ⟨⟨s⟩⟩ ∧ s.length ≤ maxLen := by simpa only [Rv] using h
theorem rv_ptr {m : Mem} {b o v} (h : Rv m (.ptr b o) v) : v = .pointer (some ⟨b, o, none⟩) := by simpa only [Rv] using h
theorem rv_raw {m : Mem} {x v} (h : Rv m (.raw x) v) : v = x := by simpa only [Rv] using h
theorem rv_rp {m : Mem} {r o v} (h : Rv m (.rp r o) v) : ∃ b p, v = .pointer (some ⟨b, p + o, none⟩) ∧ RvC m r b p := by simpa only [Rv] using h
theorem rv_agg {m : Mem} {cs v} (h : Rv m (.agg cs) v) : ∃ l, v = .agg ⟨l⟩ ∧ RvL m cs l := by simpa only [Rv] using h
theorem rv_tup {m : Mem} {cs v} (h : Rv m (.tup cs) v) : ∃ l, v = .tuple ⟨l⟩ ∧ RvL m cs l := by simpa only [Rv] using h
theorem rv_fn {m : Mem} {f cs v} (h : Rv m (.fn f cs) v) : ∃ l, v = fnV f l ∧ RvL m cs l := by simpa only [Rv] using h
theorem rv_vs {m : Mem} {size rows v} (h : Rv m (.vs size rows) v) : ∃ a cap, v = .slice a rows.length cap ∧ (rows.length ≤ cap ∧ cap ≤ maxLen) ∧ (rows.length = 0 ∨ ∃ b o, a = some ⟨b, o, none⟩ ∧ RvR m size rows b o) := by
 simp only [Rv] at h
 obtain ⟨a, len, cap, rfl, rfl, h3, h4⟩ := h
 exact ⟨a, cap, rfl, h3, h4⟩
theorem rv_own {m : Mem} {t size rows v} (h : Rv m (.own t size rows) v) : Rv m (.vs size rows) v := by
 simp only [Rv] at h ⊢
 exact h.1
theorem ofCells_rv {m : Mem} {agg : Bool} {cs : List AV} {r : AV} {l : List Value} (h : AV.ofCells agg cs = some r) (hl : RvL m cs l) : (agg = true ∧ Rv m r (.agg ⟨l⟩)) ∨ (agg = false ∧ ∃ v, l = [v] ∧ Rv m r v) := by
 unfold AV.ofCells at h
 cases agg with
 | true =>
  simp at h
  subst h
  exact .inl ⟨rfl, by simp only [Rv]; exact ⟨l, rfl, hl⟩⟩
 | false =>
  simp only [cond_false] at h
  split at h
  ·rename_i a
   simp at h
   subst h
   simp only [RvL] at hl
   obtain ⟨v, vs, rfl, h1, rfl⟩ := hl
   exact .inr ⟨rfl, v, rfl, h1⟩
  ·cases h
theorem run_isAgg {P : Program} {t : TypeId} {b : Bool} (h : aggT P t = some b) (w : World) : (isAgg t).run P w = .ok b w := by
 unfold aggT at h
 split at h
 ·rename_i hu; simp at h; subst h; simp [isAgg, run_underlying hu]
 ·rename_i hu; simp at h; subst h; simp [isAgg, run_underlying hu]
 ·rename_i d h1 h2 hu
  simp at h; subst h
  cases d <;> first | (exact (h1 _ rfl).elim) | (exact (h2 _ _ rfl).elim) | (simp [isAgg, run_underlying hu]; done)
 ·cases h
theorem sizeT_info {P : Program} {t : TypeId} {n : Nat} (h : sizeT P t = some n) : ∃ i, P.info? t = some i ∧ i.size = n := by
 unfold sizeT at h
 cases hi : P.info? t with
 | none => simp [hi] at h
 | some i => simp [hi] at h; exact ⟨i, rfl, h⟩
theorem run_sizeOf' {P : Program} {t : TypeId} {n : Nat} (h : sizeT P t = some n) (w : World) : (sizeOf t).run P w = .ok n w := by
 obtain ⟨i, hi, rfl⟩ := sizeT_info h
 simp [sizeOf, typeInfo, hi]
theorem ldT_parts {P : Program} {t : TypeId} {agg : Bool} {n : Nat} (h : ldT P t agg n = true) : aggT P t = some agg ∧ sizeT P t = some n ∧ (agg = false → n = 1) ∧ n ≠ 0 := by
 simp only [ldT, Bool.and_eq_true, decide_eq_true_eq] at h
 obtain ⟨⟨⟨h1, h2⟩, h3⟩, h4⟩ := h
 refine ⟨h1, h2, fun e => ?_, ?_⟩
 ·subst e; simpa using h3
 ·simpa using h4
theorem addr_add (b o n : Nat) : (⟨b, o, none⟩ : Addr).add n = ⟨b, o + n, none⟩ := by
 unfold Addr.add
 split
 ·subst_vars; rfl
 ·rfl
theorem run_loadVar_cells {P : Program} {w : World} {t : TypeId} {agg : Bool} {n : Nat} (h : ldT P t agg n = true) (b o : Nat) (l : List Value) (hl : l.length = n) (hc : ∀ j v, l[j]? = some v → w.cell? ⟨b, o + j, none⟩ = some v) :
  (loadVar t ⟨b, o, none⟩).run P w = .ok (if agg then .agg ⟨l⟩ else l.getD 0 undef) w := by
 obtain ⟨h1, h2, h3, h4⟩ := ldT_parts h
 cases agg with
 | true =>
  have := run_loadCells_list (P := P) w ⟨b, o, none⟩ l (fun j v hj => by rw [addr_add]; exact hc j v hj)
  rw [hl] at this
  simp [loadVar, run_isAgg h1, run_sizeOf' h2, this]
 | false =>
  have hn := h3 rfl
  subst hn
  match l, hl with
  | [v], _ =>
   have := hc 0 v rfl
   simp at this
   simp [loadVar, run_isAgg h1, this]
theorem run_part {P : Program} {w : World} {t : TypeId} {agg : Bool} {n : Nat} (h : ldT P t agg n = true) (l : List Value) (off : Nat) (hl : off + n ≤ l.length) :
  (part t ⟨l⟩ off).run P w = .ok (if agg then .agg ⟨(l.drop off).take n⟩ else l.getD off undef) w := by
 obtain ⟨h1, h2, h3, h4⟩ := ldT_parts h
 cases agg with
 | true =>
  simp [part, run_isAgg h1, run_sizeOf' h2, List.take_drop, Nat.add_comm]
 | false =>
  have hn := h3 rfl
  have hlt : off < l.length := by omega
  simp [part, run_isAgg h1, hlt]
theorem getD_drop (l : List Value) (o : Nat) : l.getD o undef = (l.drop o).getD 0 undef := by
 simp [List.getD]
theorem eqGuard_int {P : Program} {w : World} (op : BinOp) (t : TypeId) (x y : Operand) (k j : IntKind) (a b : Int) : (eqGuard op t x y (.int k a) (.int j b)).run P w = .ok () w := by
 unfold eqGuard; cases op <;> rfl
theorem eqGuard_str {P : Program} {w : World} (op : BinOp) (t : TypeId) (x y : Operand) (a b : ByteArray) : (eqGuard op t x y (.string a) (.string b)).run P w = .ok () w := by
 unfold eqGuard; cases op <;> rfl
theorem eqGuard_bool {P : Program} {w : World} (op : BinOp) (t : TypeId) (x y : Operand) (a b : Bool) : (eqGuard op t x y (.bool a) (.bool b)).run P w = .ok () w := by
 unfold eqGuard; cases op <;> rfl
theorem eqGuard_agg {P : Program} {w : World} (op : BinOp) (t : TypeId) (x y : Operand) (a b : Array Value) (h : P.eqGuardType P.depth t = false) : (eqGuard op t x y (.agg a) (.agg b)).run P w = .ok () w := by
 unfold eqGuard; cases op <;> simp [h]
theorem eqCell_i {l : IntKind} {a b : AV} {r : Bool} (h : eqCell (.i l) a b = some r) : ∃ n j, a = .int l n ∧ b = .int l j ∧ r = decide (n = j) := by
 cases a <;> cases b <;> simp [eqCell] at h
 obtain ⟨⟨rfl, rfl⟩, rfl⟩ := h
 exact ⟨_, _, rfl, rfl, rfl⟩
theorem eqCell_s {a b : AV} {r : Bool} (h : eqCell .s a b = some r) : ∃ n j, a = .str n ∧ b = .str j ∧ r = decide (n = j) := by
 cases a <;> cases b <;> simp [eqCell] at h
 subst h
 exact ⟨_, _, rfl, rfl, rfl⟩
theorem eqCell_b {a b : AV} {r : Bool} (h : eqCell .b a b = some r) : ∃ n j, a = .bool n ∧ b = .bool j ∧ r = (n == j) := by
 cases a <;> cases b <;> simp [eqCell] at h
 subst h
 exact ⟨_, _, rfl, rfl, rfl⟩
theorem eqCells_len : ∀ {ks : List LK} {cs ds : List AV} {r : Bool}, eqCells ks cs ds = some r → cs.length = ks.length ∧ ds.length = ks.length
 | [], [], [], _, _ => ⟨rfl, rfl⟩
 | k :: ks, a :: cs, b :: ds, r, h => by
  simp only [eqCells] at h
  split at h
  ·rename_i x y h1 h2
   obtain ⟨e1, e2⟩ := eqCells_len h2
   simp [e1, e2]
  ·cases h
 | [], [], _ :: _, _, h => by simp [eqCells] at h
 | [], _ :: _, _, _, h => by simp [eqCells] at h
 | _ :: _, [], _, _, h => by simp [eqCells] at h
 | _ :: _, _ :: _, [], _, h => by simp [eqCells] at h
theorem eqCells_split : ∀ {ks ks' : List LK} {cs ds : List AV} {r : Bool}, eqCells (ks ++ ks') cs ds = some r → ∃ r1 r2, eqCells ks (cs.take ks.length) (ds.take ks.length) = some r1 ∧ eqCells ks' (cs.drop ks.length) (ds.drop ks.length) = some r2 ∧ r = (r1 && r2)
 | [], ks', cs, ds, r, h => ⟨true, r, by simp [eqCells], by simpa using h, by simp⟩
 | _ :: _, _, [], _, _, h => by simp [eqCells] at h
 | _ :: _, _, _ :: _, [], _, h => by simp [eqCells] at h
 | k :: ks, ks', a :: cs, b :: ds, r, h => by
  simp only [List.cons_append, eqCells] at h
  split at h
  ·rename_i x y h1 h2
   obtain ⟨r1, r2, e1, e2, rfl⟩ := eqCells_split h2
   simp at h
   exact ⟨x && r1, r2, by simp [eqCells, h1, e1], by simpa using e2, by rw [← h, Bool.and_assoc]⟩
  ·cases h
def ofL (agg : Bool) (l : List Value) : Value := if agg then .agg ⟨l⟩ else l.getD 0 undef
theorem run_part' {P : Program} {w : World} {t : TypeId} {agg : Bool} {n : Nat} (h1 : aggT P t = some agg) (h2 : sizeT P t = some n) (h3 : agg = false → n = 1) (l : List Value) (off : Nat) (hl : off + n ≤ l.length) :
  (part t ⟨l⟩ off).run P w = .ok (ofL agg ((l.drop off).take n)) w := by
 cases agg with
 | true => simp [part, run_isAgg h1, run_sizeOf' h2, ofL, List.take_drop, Nat.add_comm]
 | false =>
  have hn := h3 rfl
  have hlt : off < l.length := by omega
  subst hn
  simp [part, run_isAgg h1, hlt, ofL, List.getD, List.getElem?_take]
theorem flatT_agg {P : Program} : ∀ {d : Nat} {t : TypeId} {ks : List LK}, flatT P d t = some ks → ∃ agg, aggT P t = some agg ∧ (agg = false → ks.length = 1)
 | 0, _, _, h => by simp [flatT] at h
 | d + 1, t, ks, h => by
  simp only [flatT] at h
  split at h <;> first
   | (cases h; done)
   | (rename_i hu; simp only [Option.some.injEq] at h; subst h; exact ⟨false, by simp [aggT, hu], fun _ => rfl⟩)
   | (rename_i hu; exact ⟨true, by simp [aggT, hu], fun e => by cases e⟩)
theorem decide_toList (s u : List UInt8) : ((⟨⟨s⟩⟩ : ByteArray).toList == (⟨⟨u⟩⟩ : ByteArray).toList) = decide (s = u) := by
 rw [bytes_toList, bytes_toList]
 rw [Bool.eq_iff_iff]
 simp
theorem equalIn_flat {P : Program} {w : World} {m : Mem} : ∀ (d : Nat) {t : TypeId} {ks : List LK} {agg : Bool} {cs ds : List AV} {xs ys : List Value} {r : Bool} (e : Nat), flatT P d t = some ks → aggT P t = some agg → RvL m cs xs → RvL m ds ys → eqCells ks cs ds = some r →
  (Op.equalIn (d + e) t (ofL agg xs) (ofL agg ys)).run P w = .ok r w
 | 0, _, _, _, _, _, _, _, _, _, h, _, _, _, _ => by simp [flatT] at h
 | d + 1, t, ks, agg, cs, ds, xs, ys, r, e, h, ha, hx, hy, hr => by
  rw [show d + 1 + e = (d + e) + 1 by omega]
  simp only [flatT] at h
  have one : ∀ k, ks = [k] → agg = false → ∃ a b x y, eqCell k a b = some r ∧ Rv m a x ∧ Rv m b y ∧ ofL agg xs = x ∧ ofL agg ys = y := by
   rintro k rfl rfl
   match cs, ds, hr with
   | [a], [b], hr =>
    simp only [RvL] at hx hy
    obtain ⟨x, _, rfl, hx, rfl⟩ := hx
    obtain ⟨y, _, rfl, hy, rfl⟩ := hy
    simp only [eqCells] at hr
    split at hr
    ·rename_i p q h1 h2
     simp at h2 hr
     subst h2
     simp at hr
     subst hr
     exact ⟨a, b, x, y, h1, hx, hy, rfl, rfl⟩
    ·cases hr
   | [], _, hr => simp [eqCells] at hr
   | _ :: _, [], hr => simp [eqCells] at hr
   | _ :: _ :: _, _ :: _, hr => simp [eqCells] at hr
   | [_], _ :: _ :: _, hr => simp [eqCells] at hr
  split at h
  ·rename_i hu
   simp at h
   have hagg : agg = false := by simp [aggT, hu] at ha; exact ha
   obtain ⟨a, b, x, y, h1, h2, h3, e1, e2⟩ := one _ h.symm hagg
   rw [e1, e2]
   obtain ⟨p, q, rfl, rfl, rfl⟩ := eqCell_b h1
   rw [rv_bool h2, rv_bool h3, run_equalIn_bool' _ _ _ _ _ hu]
  ·rename_i k hu
   simp at h
   have hagg : agg = false := by simp [aggT, hu] at ha; exact ha
   obtain ⟨a, b, x, y, h1, h2, h3, e1, e2⟩ := one _ h.symm hagg
   rw [e1, e2]
   obtain ⟨p, q, rfl, rfl, rfl⟩ := eqCell_i h1
   rw [rv_int h2, rv_int h3, run_equalIn_int _ _ _ _ _ _ _ hu]
   congr 1
  ·rename_i hu
   simp at h
   have hagg : agg = false := by simp [aggT, hu] at ha; exact ha
   obtain ⟨a, b, x, y, h1, h2, h3, e1, e2⟩ := one _ h.symm hagg
   rw [e1, e2]
   obtain ⟨p, q, rfl, rfl, rfl⟩ := eqCell_s h1
   rw [(rv_str h2).1, (rv_str h3).1, run_equalIn_string _ _ _ _ _ hu, decide_toList]
  ·rename_i fs hu
   split at h
   ·cases h
   ·rename_i hst
    have hagg : agg = true := by simp [aggT, hu] at ha; exact ha
    subst hagg
    have hf : P.fieldsOf t = fs := by simp [Program.fieldsOf, hu]
    show (Op.equalIn ((d + e) + 1) t (.agg ⟨xs⟩) (.agg ⟨ys⟩)).run P w = _
    rw [run_equalIn_struct w (d + e) t ⟨xs⟩ ⟨ys⟩ (by rw [hf]; exact hu) (by simpa using hst), hf]
    have key : ∀ (fs : List Field) (off : Nat) (ks : List LK) (r : Bool), flatFs P (flatT P d) off fs = some ks → eqCells ks (cs.drop off) (ds.drop off) = some r → (Op.eqFields (d + e) ⟨xs⟩ ⟨ys⟩ fs).run P w = .ok r w := by
     intro fs
     induction fs with
     | nil =>
      intro off ks r h1 h2
      simp [flatFs] at h1
      subst h1
      have := eqCells_len h2
      simp at this
      rw [show cs.drop off = [] by exact List.drop_eq_nil_of_le (by omega), show ds.drop off = [] by exact List.drop_eq_nil_of_le (by omega)] at h2
      simp [eqCells] at h2
      subst h2
      simp [Op.eqFields]
     | cons f fs ih =>
      intro off ks r h1 h2
      simp only [flatFs] at h1
      split at h1
      ·rename_i k1 hk1
       split at h1
       ·rename_i hc
        obtain ⟨hc1, hc2, hc3, hc4⟩ := hc
        cases hrest : flatFs P (flatT P d) (off + k1.length) fs with
        | none => simp [hrest] at h1
        | some k2 =>
         simp [hrest] at h1
         subst h1
         obtain ⟨r1, r2, g1, g2, rfl⟩ := eqCells_split h2
         rw [List.drop_drop, List.drop_drop] at g2
         obtain ⟨ag, ga, gs⟩ := flatT_agg hk1
         have hpos : 0 < k1.length := List.length_pos_iff.2 hc4
         have hle := eqCells_len h2
         simp only [List.length_drop, List.length_append] at hle
         have hl1 : off + k1.length ≤ xs.length := by have := RvL.length hx; omega
         have hl2 : off + k1.length ≤ ys.length := by have := RvL.length hy; omega
         have p1 := run_part' (w := w) ga hc3 gs xs off hl1
         have p2 := run_part' (w := w) ga hc3 gs ys off hl2
         have hq := equalIn_flat d e hk1 ga (RvL.take k1.length (RvL.drop off hx)) (RvL.take k1.length (RvL.drop off hy)) g1 (w := w)
         simp only [Op.eqFields, hc2, ne_eq, not_false_eq_true, if_true, Sem.run_bind, hc1, p1, p2, Result.andThen_ok, hq]
         cases r1 with
         | false => simp
         | true => simpa using ih _ _ _ hrest g2
       ·cases h1
      ·cases h1
    exact key fs.toList 0 ks r h (by simpa using hr)
  ·cases h
def Quiet (P : Program) (m : Mem) (a : Act) (o : Oper) (r : AV) : Prop :=
 ∃ v, (execOp a.eval o).run P m.w = .ok (.value v) m.w ∧ Rv m r v
section
variable {P : Program} {m : Mem} {env : Env} {a : Act} {o : Oper}
theorem q_mv {x y} (he : RvE m env a.tmps) (ho : o.op = .move x ∨ o.op = .assign x) (h : chkX x y = true) : Quiet P m a o (y.ev env) :=
 ⟨a.eval x, by rcases ho with ho | ho <;> simp [execOp, ho], chkX_rv he h⟩
theorem q_pick {c x y c' x' y' r} (he : RvE m env a.tmps) (ho : o.op = .pick c x y) (h1 : chkX c c' = true) (h2 : chkX x x' = true) (h3 : chkX y y' = true) (H : AHeap) (hp : peval (.pick c' x' y') env H = some r) : Quiet P m a o r := by
 simp only [peval] at hp
 have hc := chkX_rv he h1
 split at hp
 ·rename_i e; simp at hp; subst hp; rw [e] at hc
  exact ⟨a.eval x, by simp [execOp, ho, rv_bool hc, asBool], chkX_rv he h2⟩
 ·rename_i e; simp at hp; subst hp; rw [e] at hc
  exact ⟨a.eval y, by simp [execOp, ho, rv_bool hc, asBool], chkX_rv he h3⟩
 ·cases hp
theorem q_nilck {x y r} (he : RvE m env a.tmps) (ho : o.op = .nilCheck x) (h1 : chkX x y = true) (H : AHeap) (hp : peval (.nilck y) env H = some r) : Quiet P m a o r := by
 simp only [peval] at hp
 have hc := chkX_rv he h1
 split at hp
 ·rename_i e; simp at hp; subst hp; rw [e] at hc
  exact ⟨_, by simp [execOp, ho, rv_ptr hc]; rfl, by simp only [Rv]⟩
 ·rename_i e; simp at hp; subst hp; rw [e] at hc
  obtain ⟨b, p, e1, e2⟩ := rv_rp hc
  exact ⟨_, by simp [execOp, ho, e1]; rfl, by simp only [Rv]; exact ⟨b, p, rfl, e2⟩⟩
 ·rename_i e; simp at hp; subst hp; rw [e] at hc
  obtain ⟨l, e1, e2⟩ := rv_fn hc
  refine ⟨a.eval x, ?_, by simp only [Rv]; exact ⟨l, e1, e2⟩⟩
  unfold fnV at e1
  split at e1 <;> simp [execOp, ho, e1]
 ·cases hp
theorem q_faddr {t x f off y r} (he : RvE m env a.tmps) (ho : o.op = .fieldAddr t x f) (h : chkOp P o.op (.faddr off y) = true) (H : AHeap) (hp : peval (.faddr off y) env H = some r) : Quiet P m a o r := by
 rw [ho] at h
 simp only [chkOp, Bool.and_eq_true] at h
 obtain ⟨h1, h2⟩ := h
 have hc := chkX_rv he h1
 split at h2
 ·rename_i fs hu
  split at h2
  ·rename_i g hg
   simp only [Bool.and_eq_true, decide_eq_true_eq] at h2
   obtain ⟨h2, h3⟩ := h2
   split at h3
   ·rename_i n hn
    have hn0 : n ≠ 0 := by simpa using h3
    have hrun : ∀ b p, a.eval x = .pointer (some ⟨b, p, none⟩) → (execOp a.eval o).run P m.w = .ok (.value (.pointer (some ⟨b, p + off, none⟩))) m.w := by
     intro b p e
     simp [execOp, ho, Instr.fieldAt, run_underlying hu, hg, e, Instr.sureAddr, fieldPlace, run_sizeOf' hn, hn0, addr_add, h2]
    simp only [peval] at hp
    split at hp
    ·rename_i b p e; simp at hp; subst hp; rw [e] at hc
     exact ⟨_, hrun _ _ (rv_ptr hc), by simp only [Rv]⟩
    ·rename_i row p e; simp at hp; subst hp; rw [e] at hc
     obtain ⟨b, q, e1, e2⟩ := rv_rp hc
     exact ⟨_, hrun _ _ e1, by simp only [Rv]; exact ⟨b, q, by rw [Nat.add_assoc], e2⟩⟩
    ·cases hp
   ·cases h3
  ·cases h2
 ·cases h2
theorem peval_loadR {agg n x env H r} (hp : peval (.loadR agg n x) env H = some r) : peval (.load agg n x) env H = some r := by
 simp only [peval] at hp ⊢
 split at hp
 ·rename_i row o e
  rw [e]
  exact hp
 ·cases hp
theorem peval_loadD {me agg n x env H r} (hp : peval (.loadD me agg n x) env H = some r) : peval (.load agg n x) env H = some r ∧ ∃ b o, env.get me = .ptr b 0 ∧ x.ev env = .ptr b o := by
 simp only [peval] at hp ⊢
 split at hp
 ·rename_i b b' o e1 e2
  split at hp
  ·rename_i hb
   subst hb
   rw [e2]
   exact ⟨hp, _, _, e1, rfl⟩
  ·cases hp
 ·cases hp
theorem peval_loadD' {me agg n x env H r b o} (hp : peval (.load agg n x) env H = some r) (h1 : env.get me = .ptr b 0) (h2 : x.ev env = .ptr b o) : peval (.loadD me agg n x) env H = some r := by
 simp only [peval, h2] at hp
 simp only [peval, h1, h2, if_true]
 exact hp
theorem q_load {t x agg n y r} (he : RvE m env a.tmps) (rh : RH m) (ho : o.op = .load t x) (h1 : ldT P t agg n = true) (h2 : chkX x y = true) (hp : peval (.load agg n y) env m.H = some r) : Quiet P m a o r := by
 have hc := chkX_rv he h2
 simp only [peval] at hp
 have fin : ∀ b p (l : List Value) (cs : List AV), a.eval x = .pointer (some ⟨b, p, none⟩) → AV.ofCells agg cs = some r → RvL m cs l → l.length = n → (∀ j v, l[j]? = some v → m.w.cell? ⟨b, p + j, none⟩ = some v) → Quiet P m a o r := by
  intro b p l cs e1 e2 e3 e4 e5
  refine ⟨if agg then .agg ⟨l⟩ else l.getD 0 undef, by simp [execOp, ho, Instr.loadAt, e1, Instr.sureAddr, run_loadVar_cells h1 b p l e4 e5], ?_⟩
  rcases ofCells_rv e2 e3 with ⟨rfl, h⟩ | ⟨rfl, v, rfl, h⟩
  ·exact h
  ·exact h
 split at hp
 ·rename_i b p e
  rw [e] at hc
  split at hp
  ·rename_i T cs hb
   split at hp
   ·rename_i hle
    obtain ⟨l, g1, g2, g3⟩ := rh.blk b _ cs hb
    refine fin b p ((l.drop p).take n) _ (rv_ptr hc) hp (RvL.take n (RvL.drop p g2)) ?_ fun j v hj => ?_
    ·have := RvL.length g2
     simp; omega
    ·rw [cell_of_row m.w b _ _ _ _ g1]
     rw [List.getElem?_take] at hj
     split at hj
     ·rw [List.getElem?_drop] at hj
      simpa using hj
     ·cases hj
   ·cases hp
  ·cases hp
 ·rename_i row p e
  rw [e] at hc
  obtain ⟨b, q, e1, e2⟩ := rv_rp hc
  split at hp
  ·rename_i hle
   obtain ⟨l, g1, g2⟩ := RvC.vals e2
   refine fin b (q + p) ((l.drop p).take n) _ e1 hp (RvL.take n (RvL.drop p g1)) ?_ fun j v hj => ?_
   ·have := RvL.length g1
    simp; omega
   ·rw [List.getElem?_take] at hj
    split at hj
    ·rw [List.getElem?_drop] at hj
     rw [Nat.add_assoc]
     exact (g2 _ v hj).1
    ·cases hj
  ·cases hp
 ·cases hp
theorem q_field {t x f agg off n y r} (he : RvE m env a.tmps) (ho : o.op = .field t x f) (h : chkOp P o.op (.field agg off n y) = true) (H : AHeap) (hp : peval (.field agg off n y) env H = some r) : Quiet P m a o r := by
 rw [ho] at h
 simp only [chkOp, Bool.and_eq_true] at h
 obtain ⟨h1, h2⟩ := h
 have hc := chkX_rv he h1
 split at h2
 ·rename_i fs hu
  split at h2
  ·rename_i g hg
   simp only [Bool.and_eq_true, decide_eq_true_eq] at h2
   obtain ⟨h2, h3⟩ := h2
   simp only [peval] at hp
   split at hp
   ·rename_i cs e
    rw [e] at hc
    obtain ⟨l, e1, e2⟩ := rv_agg hc
    split at hp
    ·rename_i hle
     have hl := RvL.length e2
     refine ⟨if agg then .agg ⟨(l.drop off).take n⟩ else l.getD off undef, by simp [execOp, ho, Instr.field, run_underlying hu, hg, e1, asAgg, h2, run_part h3 l off (by omega)], ?_⟩
     rcases ofCells_rv hp (RvL.take n (RvL.drop off e2)) with ⟨rfl, h⟩ | ⟨rfl, v, hv, h⟩
     ·exact h
     ·have hn := (ldT_parts h3).2.2.1 rfl
      subst hn
      rw [getD_drop]
      have : (l.drop off).getD 0 undef = v := by
       cases hd : l.drop off with
       | nil => rw [hd] at hv; simp at hv
       | cons x xs => rw [hd] at hv; simp at hv; simp [hv]
      simp only [Bool.false_eq_true, if_false, this]
      exact h
    ·cases hp
   ·cases hp
  ·cases h2
 ·cases h2
theorem q_not {t x y r} (he : RvE m env a.tmps) (ho : o.op = .unOp .not t x) (h : chkX x y = true) (H : AHeap) (hp : peval (.not y) env H = some r) : Quiet P m a o r := by
 have hc := chkX_rv he h
 simp only [peval] at hp
 split at hp
 ·rename_i e; simp at hp; subst hp; rw [e] at hc
  exact ⟨_, by simp [execOp, ho, rv_bool hc, Op.unary]; rfl, by simp only [Rv]⟩
 ·cases hp
theorem q_pnil {op t x y u neg x' r} (he : RvE m env a.tmps) (ho : o.op = .binOp op t x y u) (h : chkOp P o.op (.pnil neg x') = true) (H : AHeap) (hp : peval (.pnil neg x') env H = some r) : Quiet P m a o r := by
 rw [ho] at h
 simp only [chkOp, Bool.and_eq_true, decide_eq_true_eq] at h
 obtain ⟨⟨⟨⟨h1, h2⟩, h3⟩, h4⟩, h5⟩ := h
 have hc := chkX_rv he h2
 split at h3
 ·split at h4
  ·rename_i e hu
   subst h1
   have run : ∀ ad, a.eval x = .pointer ad → (execOp a.eval o).run P m.w = .ok (.value (.bool (bif neg then !ad.isNone else ad.isNone))) m.w := by
    intro ad hv
    have hg : ∀ op, (eqGuard op t x (.const (.pointer none)) (.pointer ad) (.pointer none)).run P m.w = .ok () m.w := by
     intro op
     have h5' : P.eqGuardType P.depth t = false := by simpa using h5
     unfold eqGuard; cases op <;> simp [h5']
    have hq : (Op.equal t (.pointer ad) (.pointer none)).run P m.w = .ok ad.isNone m.w := by
     have gen : ∀ d, (Op.equalIn (d + 1) t (.pointer ad) (.pointer none)).run P m.w = .ok ad.isNone m.w := by
      intro d
      cases ad <;> simp [Op.equalIn, run_underlying hu]
     exact gen 9999
    have hy : a.eval (.const (.pointer none)) = .pointer none := rfl
    cases neg <;> simp [execOp, ho, hv, hq, hg, binOp, hy]
   simp only [peval] at hp
   split at hp
   ·rename_i b p e1; simp at hp; subst hp; rw [e1] at hc
    exact ⟨_, run _ (rv_ptr hc), by simp only [Rv]; cases neg <;> rfl⟩
   ·rename_i row p e1; simp at hp; subst hp; rw [e1] at hc
    obtain ⟨b, q, e2, _⟩ := rv_rp hc
    exact ⟨_, run _ e2, by simp only [Rv]; cases neg <;> rfl⟩
   ·rename_i e1; simp at hp; subst hp; rw [e1] at hc
    exact ⟨_, run _ (rv_raw hc), by simp only [Rv]; cases neg <;> rfl⟩
   ·cases hp
  ·cases h4
 ·cases h3
theorem q_neg {t x y r} (he : RvE m env a.tmps) (ho : o.op = .unOp .neg t x) (h : chkX x y = true) (H : AHeap) (hp : peval (.neg y) env H = some r) : Quiet P m a o r := by
 have hc := chkX_rv he h
 simp only [peval] at hp
 split at hp
 ·rename_i e; simp at hp; subst hp; rw [e] at hc
  exact ⟨_, by simp [execOp, ho, rv_int hc, Op.unary, Op.intArith]; rfl, by simp only [Rv, Int.zero_sub]⟩
 ·cases hp
theorem q_conv {s d x k y r} (he : RvE m env a.tmps) (ho : o.op = .convert s d x) (h : chkOp P o.op (.conv k y) = true) (H : AHeap) (hp : peval (.conv k y) env H = some r) : Quiet P m a o r := by
 rw [ho] at h
 simp only [chkOp, Bool.and_eq_true] at h
 obtain ⟨⟨h1, h2⟩, h3⟩ := h
 have hc := chkX_rv he h1
 split at h2
 ·rename_i ks hs
  split at h3
  ·rename_i j hd
   simp at h3
   subst h3
   simp only [peval] at hp
   split at hp
   ·rename_i e; simp at hp; subst hp; rw [e] at hc
    exact ⟨_, by simp [execOp, ho, rv_int hc, Go.convert, run_underlying hs, run_underlying hd, Conv.intToInt]; rfl, by simp only [Rv]⟩
   ·cases hp
  ·cases h3
 ·cases h2
theorem q_extract {x i y r} (he : RvE m env a.tmps) (ho : o.op = .extract x i) (h : chkX x y = true) (H : AHeap) (hp : peval (.extract i y) env H = some r) : Quiet P m a o r := by
 have hc := chkX_rv he h
 simp only [peval] at hp
 split at hp
 ·rename_i l e
  rw [e] at hc
  obtain ⟨vs, e1, e2⟩ := rv_tup hc
  obtain ⟨v, e3, e4⟩ := RvL.get e2 i r hp
  exact ⟨v, by simp [execOp, ho, e1, Instr.extract, e3], e4⟩
 ·cases hp
theorem q_mkfnB {f first caps ys} (he : RvE m env a.tmps) (ho : o.op = .makeFunc (.func f) first caps) (h0 : caps.isEmpty = true) (h : chkXs first.toList ys = true) : Quiet P m a o (.fn (f + bnd) (ys.map (EOpd.ev env))) := by
 have hf : caps = #[] := by simpa using h0
 subst hf
 refine ⟨_, by simp [execOp, ho, Instr.makeFunc]; rfl, ?_⟩
 simp only [Rv]
 exact ⟨first.toList.map a.eval, by rw [fnV_bnd]; simp [← Array.toList_map], chkXs_rv he h⟩
theorem byteRows_rv {m : Mem} : ∀ {rows : List (List AV)} {s : List UInt8} {l : List Value}, byteRows rows = some s → RvL m rows.flatten l → ∃ ns : List Int, l = ns.map (fun n => .int .u8 n) ∧ s = ns.map (fun n => UInt8.ofNat n.toNat)
 | [], s, l, h, k => by
  simp only [byteRows, Option.some.injEq] at h
  simp only [List.flatten_nil, RvL] at k
  subst h; subst k
  exact ⟨[], rfl, rfl⟩
 | r :: rs, s, l, h, k => by
  unfold byteRows at h
  split at h
  ·rename_i e; cases e
  ·rename_i n rs' e
   simp only [List.cons.injEq] at e
   obtain ⟨rfl, rfl⟩ := e
   split at h
   ·rename_i s' e'
    simp only [Option.some.injEq] at h
    subst h
    simp only [List.flatten_cons, List.cons_append, List.nil_append, RvL] at k
    obtain ⟨v, vs, rfl, h1, h2⟩ := k
    obtain ⟨ns, rfl, rfl⟩ := byteRows_rv e' h2
    exact ⟨n :: ns, by rw [rv_int h1]; rfl, rfl⟩
   ·cases h
  ·cases h
theorem byteRows_len : ∀ {rows : List (List AV)} {s : List UInt8}, byteRows rows = some s → s.length = rows.length
 | [], s, h => by simp only [byteRows, Option.some.injEq] at h; subst h; rfl
 | r :: rs, s, h => by
  unfold byteRows at h
  split at h
  ·rename_i e; cases e
  ·rename_i n rs' e
   simp only [List.cons.injEq] at e
   obtain ⟨rfl, rfl⟩ := e
   split at h
   ·rename_i s' e'
    simp only [Option.some.injEq] at h
    subst h
    simp [byteRows_len e']
   ·cases h
  ·cases h
theorem enc_len (n : Int) : (Utf8.encode n).data.toList.length ≤ maxLen := by
 unfold Utf8.encode
 simp only
 repeat' split
 all_goals (simp only [List.length_cons, List.length_nil, maxLen]; omega)
theorem push_bytes : ∀ (l : List Int) (r : ByteArray), l.foldl (fun r n => r.push (UInt8.ofNat n.toNat)) r = ⟨r.data ++ (l.map fun n => UInt8.ofNat n.toNat).toArray⟩
 | [], r => by simp
 | n :: l, r => by
  simp only [List.foldl_cons]
  rw [push_bytes l]
  simp [ByteArray.push]
theorem conv_bytes {w : World} {s d e : TypeId} (hs : P.underlying s = some (.slice e)) (he : P.underlying e = some (.int .u8)) (hd : P.underlying d = some .string) (ad : Addr) (ns : List Int) (cap : Nat) (hc : ∀ (j : Nat) (v : Value), (ns.map (Value.int .u8))[j]? = some v → w.cell? (ad.add j) = some v) :
  (convert s d (.slice (some ad) ns.length cap)).run P w = .ok (.string ⟨⟨ns.map fun n => UInt8.ofNat n.toNat⟩⟩) w := by
 have h1 := run_loadCells_list (P := P) w ad (ns.map (Value.int .u8)) hc
 rw [List.length_map] at h1
 rw [run_convert_bytes_string w s d e (some ad) ns.length cap hs he hd, run_bytesToString w ad ns.length cap ns (by simpa using h1), push_bytes]
 have he0 : ByteArray.empty.data = #[] := rfl
 rw [he0]
 simp
theorem q_convS {s d x b y r} (he : RvE m env a.tmps) (ho : o.op = .convert s d x) (h : chkOp P o.op (.convS b y) = true) (H : AHeap) (hp : peval (.convS b y) env H = some r) : Quiet P m a o r := by
 rw [ho] at h
 simp only [chkOp, Bool.and_eq_true] at h
 obtain ⟨⟨h1, h2⟩, h3⟩ := h
 have hc := chkX_rv he h1
 split at h2
 ·rename_i hd
  cases b with
  | true =>
   simp only [peval] at hp
   split at hp
   ·rename_i k n _ e
    simp only [Option.some.injEq] at hp
    subst hp
    rw [e] at hc
    refine ⟨.string (Utf8.encode n), ?_, by simp only [Rv]; exact ⟨trivial, enc_len n⟩⟩
    split at h3
    ·rename_i k' hu
     simp [execOp, ho, rv_int hc, Go.convert, run_underlying hu, run_underlying hd, Conv.intToString]
    ·rename_i e' hu
     split at h3 <;> simp at h3
    ·cases h3
   all_goals (first | (cases hp; done) | (rename_i e0 _; cases e0; done) | (rename_i e0; cases e0; done))
  | false =>
   split at h3
   ·cases h3
   ·rename_i e hu
    split at h3
    ·rename_i hu8
     have rows : ∀ {rows : List (List AV)} {s' : List UInt8}, byteRows rows = some s' → Rv m (.vs 1 rows) (a.eval x) → Quiet P m a o (.str s') := by
      intro rows s' hb hv
      obtain ⟨ad, cap, e1, ⟨g1, g2⟩, g3⟩ := rv_vs hv
      have hl := byteRows_len hb
      rcases g3 with g3 | ⟨b, p, rfl, g3⟩
      ·have : rows = [] := List.eq_nil_of_length_eq_zero g3
       subst this
       simp only [byteRows, Option.some.injEq] at hb
       subst hb
       refine ⟨.string ⟨⟨[]⟩⟩, ?_, by simp only [Rv]; exact ⟨trivial, Nat.zero_le _⟩⟩
       cases ad with
       | none => simp [execOp, ho, e1, run_convert_bytes_string m.w s d e _ _ _ hu hu8 hd, Conv.bytesToString]; rfl
       | some ad =>
        have := conv_bytes (P := P) (w := m.w) hu hu8 hd ad [] cap (by simp)
        simp only [List.length_nil, List.map_nil] at this
        simp [execOp, ho, e1, this]
      ·obtain ⟨l, f1, f2, f3⟩ := RvR.vals g3
       obtain ⟨ns, rfl, rfl⟩ := byteRows_rv hb f1
       have hn' : ns.length = rows.length := by simpa using f2
       refine ⟨.string ⟨⟨ns.map fun n => UInt8.ofNat n.toNat⟩⟩, ?_, by simp only [Rv]; exact ⟨trivial, by simp only [List.length_map]; omega⟩⟩
       have := conv_bytes (P := P) (w := m.w) hu hu8 hd ⟨b, p, none⟩ ns cap (fun j v hj => by rw [addr_add]; exact (f3 j v hj).1)
       rw [hn'] at this
       simp [execOp, ho, e1, this]
     simp only [peval] at hp
     split at hp
     ·rename_i e0 _; cases e0
     ·rename_i rs _ e
      rw [e] at hc
      cases hb : byteRows rs with
      | none => simp [hb] at hp
      | some s' =>
       simp only [hb, Option.map_some, Option.some.injEq] at hp
       subst hp
       exact rows hb hc
     ·rename_i t rs _ e
      rw [e] at hc
      cases hb : byteRows rs with
      | none => simp [hb] at hp
      | some s' =>
       simp only [hb, Option.map_some, Option.some.injEq] at hp
       subst hp
       exact rows hb (rv_own hc)
     ·rename_i len cap _ e1
      rw [e1] at hc
      simp only [Option.some.injEq] at hp
      subst hp
      refine ⟨.string ⟨⟨[]⟩⟩, ?_, by simp only [Rv]; exact ⟨trivial, Nat.zero_le _⟩⟩
      simp [execOp, ho, rv_raw hc, run_convert_bytes_string m.w s d e _ _ _ hu hu8 hd, Conv.bytesToString]; rfl
     ·cases hp
    ·cases h3
   ·cases h3
 ·cases h2
theorem optNat_run {x : Option Operand} {y : Option EOpd} {d n : Nat} (he : RvE m env a.tmps) (h : chkXo x y = true) (hn : optNat env d y = some n) : (x = none ∧ n = d) ∨ ∃ x0 k, x = some x0 ∧ a.eval x0 = .int k n := by
 unfold chkXo at h
 split at h
 ·simp [optNat] at hn; exact .inl ⟨rfl, hn.symm⟩
 ·rename_i x0 y0
  have hx := chkX_rv he h
  simp only [optNat] at hn
  split at hn
  ·rename_i k q e
   simp at hn
   subst hn
   rw [e] at hx
   exact .inr ⟨x0, k, rfl, rv_int hx⟩
  ·cases hn
 ·cases h
theorem run_sliceBounds {w : World} {b : Bool} {len cap : Nat} {lo hi : Option Operand} {lo' hi' : Option EOpd} {l h : Nat} (he : RvE m env a.tmps) (h1 : chkXo lo lo' = true) (h2 : chkXo hi hi' = true) (hl : optNat env 0 lo' = some l) (hh : optNat env len hi' = some h) (h3 : l ≤ h) (h4 : h ≤ len) (h5 : len ≤ cap) :
  (Instr.sliceBounds b len cap (lo.map a.eval) (hi.map a.eval) none).run P w = .ok (l, h, cap) w := by
 have bound : ∀ (v : Value) (k : IntKind) (n y : Nat) (c : BoundsCode), v = .int k n → n ≤ y → (Instr.sliceBound v y c).run P w = .ok n w := by
  intro v k n y c e hle
  subst e
  have : (0 : Int) ≤ n ∧ (n : Int) ≤ y := ⟨by omega, by omega⟩
  simp [Instr.sliceBound, asIntOf, this]
 rcases optNat_run he h1 hl with ⟨rfl, rfl⟩ | ⟨x0, k, rfl, e1⟩ <;> rcases optNat_run he h2 hh with ⟨rfl, rfl⟩ | ⟨x1, k1, rfl, e2⟩
 ·simp [Instr.sliceBounds]
 ·simp [Instr.sliceBounds, bound _ _ _ cap _ e2 (by omega)]
 ·simp [Instr.sliceBounds, bound _ _ _ _ _ e1 h3]
 ·simp [Instr.sliceBounds, bound _ _ _ cap _ e2 (by omega), bound _ _ _ _ _ e1 h3]
theorem q_mkfn {f first caps ys} (he : RvE m env a.tmps) (ho : o.op = .makeFunc (.func f) first caps) (h0 : first.isEmpty = true) (h : chkXs caps.toList ys = true) (hb : Nat.blt f bnd = true) : Quiet P m a o (.fn f (ys.map (EOpd.ev env))) := by
 have hb' : f < bnd := by simpa using hb
 have hf : first = #[] := by simpa using h0
 subst hf
 refine ⟨_, by simp [execOp, ho, Instr.makeFunc]; rfl, ?_⟩
 simp only [Rv]
 exact ⟨caps.toList.map a.eval, by rw [fnV_lt hb']; simp [← Array.toList_map], chkXs_rv he h⟩
theorem q_mkif {t x y} (he : RvE m env a.tmps) (ho : o.op = .makeInterface t x) (h : chkX x y = true) (h2 : (match P.underlying t with | some (.interface _) => false | some _ => true | none => false) = true) : Quiet P m a o (.ifc t (y.ev env)) := by
 refine ⟨.iface t (a.eval x), ?_, by simp only [Rv]; exact ⟨_, rfl, chkX_rv he h⟩⟩
 split at h2
 ·cases h2
 ·rename_i d hne hu
  cases d <;> first
   | exact (hne _ hu).elim
   | exact (hne _ rfl).elim
   | simp [execOp, ho, Instr.makeInterface, run_underlying hu]
 ·cases h2
end
section
variable {P : Program} {m : Mem} {env : Env} {a : Act} {o : Oper}
theorem binInt_run {w : World} {op : BinOp} {k : IntKind} {x y : Int} {r : AV} (t : TypeId) (h : binInt op k x y = some r) : ∃ v, (binOp op t (.int k x) (.int k y)).run P w = .ok v w ∧ Rv m r v := by
 cases op <;> simp only [binInt, Option.some.injEq] at h <;> first
  | (cases h; done)
  | (subst h; refine ⟨_, by simp [binOp, Op.intArith, Op.intCmp]; rfl, ?_⟩; simp only [Rv]; done)
  | (subst h; refine ⟨_, by simp [binOp, Op.intArith, Op.intCmp]; rfl, ?_⟩; simp only [Rv]; first | rfl | (congr 1; done))
  | (subst h; refine ⟨_, by simp [binOp, Op.intBits]; rfl, ?_⟩; simp only [Rv]; done)
  | (split at h <;> first
    | (cases h; done)
    | (rename_i hb; simp only [Option.some.injEq] at h; subst h; refine ⟨_, by simp [binOp, Op.shift, Int.not_lt.2 hb]; rfl, ?_⟩; simp only [Rv]; done))
theorem shInt_run {w : World} {op : BinOp} {k j : IntKind} {x y : Int} {r : AV} (t : TypeId) (h : shInt op k x y = some r) : ∃ v, (binOp op t (.int k x) (.int j y)).run P w = .ok v w ∧ Rv m r v := by
 cases op <;> simp only [shInt] at h <;> first
  | (cases h; done)
  | (split at h <;> first
    | (cases h; done)
    | (rename_i hb; simp only [Option.some.injEq] at h; subst h; refine ⟨_, by simp [binOp, Op.shift, Int.not_lt.2 hb]; rfl, ?_⟩; simp only [Rv]; done))
theorem binStr_run {w : World} {op : BinOp} {x y : List UInt8} {r : AV} (t : TypeId) (h : binStr op x y = some r) : ∃ v, (binOp op t (.string ⟨⟨x⟩⟩) (.string ⟨⟨y⟩⟩)).run P w = .ok v w ∧ Rv m r v := by
 have e := decide_toList x y
 rw [bytes_toList, bytes_toList] at e
 cases op <;> simp only [binStr, Option.some.injEq] at h <;> first
  | (cases h; done)
  | (subst h; refine ⟨_, by simp [binOp, Op.stringOp, bytes_toList, e]; rfl, ?_⟩; simp only [Rv]; done)
  | (subst h; refine ⟨_, by simp [binOp, Op.stringOp, bytes_toList, e]; rfl, ?_⟩; simp only [Rv]; first | rfl | simp)
theorem binBool_run {w : World} {op : BinOp} {x y : Bool} {r : AV} {t : TypeId} (ht : P.underlying t = some .bool) (h : binBool op x y = some r) : ∃ v, (binOp op t (.bool x) (.bool y)).run P w = .ok v w ∧ Rv m r v := by
 have e : ∀ w : World, (Op.equal t (.bool x) (.bool y)).run P w = .ok (x == y) w := fun w => run_equalIn_bool' w 9999 t x y ht
 cases op <;> simp only [binBool, Option.some.injEq] at h <;> first
  | (cases h; done)
  | (subst h; refine ⟨_, by simp [binOp, e]; rfl, ?_⟩; simp only [Rv])
theorem q_bin {op t x y u x' y' r} (he : RvE m env a.tmps) (ho : o.op = .binOp op t x y u) (h : chkOp P o.op (.bin op x' y') = true) (H : AHeap) (hp : peval (.bin op x' y') env H = some r) : Quiet P m a o r := by
 rw [ho] at h
 simp only [chkOp, Bool.and_eq_true] at h
 obtain ⟨⟨_, h1⟩, h2⟩ := h
 have hx := chkX_rv he h1
 have hy := chkX_rv he h2
 simp only [peval] at hp
 split at hp
 ·rename_i k p j q e1 e2
  rw [e1] at hx
  rw [e2] at hy
  split at hp
  ·rename_i ek
   subst ek
   obtain ⟨v, g1, g2⟩ := binInt_run (P := P) (w := m.w) (m := m) t hp
   exact ⟨v, by simp [execOp, ho, rv_int hx, rv_int hy, eqGuard_int, g1], g2⟩
  ·obtain ⟨v, g1, g2⟩ := shInt_run (P := P) (w := m.w) (m := m) (j := j) t hp
   exact ⟨v, by simp [execOp, ho, rv_int hx, rv_int hy, eqGuard_int, g1], g2⟩
 ·rename_i p q e1 e2
  rw [e1] at hx
  rw [e2] at hy
  obtain ⟨v, g1, g2⟩ := binStr_run (P := P) (w := m.w) (m := m) t hp
  exact ⟨v, by simp [execOp, ho, (rv_str hx).1, (rv_str hy).1, eqGuard_str, g1], g2⟩
 ·cases hp
theorem q_binB {op t x y u x' y' r} (he : RvE m env a.tmps) (ho : o.op = .binOp op t x y u) (h : chkOp P o.op (.binB op x' y') = true) (H : AHeap) (hp : peval (.binB op x' y') env H = some r) : Quiet P m a o r := by
 rw [ho] at h
 simp only [chkOp, Bool.and_eq_true] at h
 obtain ⟨⟨⟨_, h1⟩, h2⟩, h3⟩ := h
 have hx := chkX_rv he h1
 have hy := chkX_rv he h2
 simp only [peval] at hp
 split at h3
 ·rename_i hb
  split at hp
  ·rename_i p q e1 e2
   rw [e1] at hx
   rw [e2] at hy
   obtain ⟨v, g1, g2⟩ := binBool_run (P := P) (w := m.w) (m := m) hb hp
   exact ⟨v, by simp [execOp, ho, rv_bool hx, rv_bool hy, eqGuard_bool, g1], g2⟩
  ·cases hp
 ·cases h3
theorem q_eqA {op t x y u neg T ks x' y' r} (he : RvE m env a.tmps) (ho : o.op = .binOp op t x y u) (h : chkOp P o.op (.eqA neg T ks x' y') = true) (H : AHeap) (hp : peval (.eqA neg T ks x' y') env H = some r) : Quiet P m a o r := by
 rw [ho] at h
 simp only [chkOp, Bool.and_eq_true, decide_eq_true_eq, Bool.not_eq_true'] at h
 obtain ⟨⟨⟨⟨⟨⟨h1, rfl⟩, h2⟩, h3⟩, h4⟩, h5⟩, h6⟩ := h
 have hx := chkX_rv he h2
 have hy := chkX_rv he h3
 simp only [peval] at hp
 split at hp
 ·rename_i cs ds e1 e2
  rw [e1] at hx
  rw [e2] at hy
  obtain ⟨l, g1, g2⟩ := rv_agg hx
  obtain ⟨l', g3, g4⟩ := rv_agg hy
  cases hq : eqCells ks cs ds with
  | none => simp [hq] at hp
  | some b =>
   simp [hq] at hp
   subst hp
   split at h6
   ·rename_i fs hu
    have ha : aggT P t = some true := by simp [aggT, hu]
    have hrun := equalIn_flat (P := P) (w := m.w) 8 9992 h4 ha g2 g4 hq
    have he : (Op.equal t (.agg ⟨l⟩) (.agg ⟨l'⟩)).run P m.w = .ok b m.w := hrun
    refine ⟨.bool (bif neg then !b else b), ?_, by simp only [Rv]⟩
    rw [h1] at ho
    cases neg with
    | true => simp [execOp, ho, g1, g3, eqGuard_agg _ _ _ _ _ _ h5, binOp, he]
    | false => simp [execOp, ho, g1, g3, eqGuard_agg _ _ _ _ _ _ h5, binOp, he]
   ·cases h6
 ·cases hp
theorem arr1 {α : Type} {l : Array α} {x : α} (h : l.toList = [x]) : l = #[x] := by cases l; simp at h; rw [h]
theorem call_args {c : Call} {b : Builtin} {x : Operand} (ho : o.op = .call c) (hb : c.callee = .builtin b) (hx : c.args = #[x]) (P : Program) (w w' : World) (v : Value) (h : (builtin b c.argTypes o.type (c.args.map fun | .const _ => true | _ => false) #[a.eval x]).run P w = .ok (.value v) w') :
  (execOp a.eval o).run P w = .ok (.value v) w' := by
 simp [execOp, ho, resolve, hb, invoke, hx] at h ⊢
 exact h
theorem q_lenS {c y r} (he : RvE m env a.tmps) (ho : o.op = .call c) (h : chkOp P o.op (.lenS y) = true) (H : AHeap) (hp : peval (.lenS y) env H = some r) : Quiet P m a o r := by
 obtain ⟨callee, args, argTypes⟩ := c
 rw [ho] at h
 cases callee with
 | value f => simp [chkOp] at h
 | invoke _ _ => simp [chkOp] at h
 | builtin b =>
  cases b <;> simp only [chkOp] at h <;> first
   | (cases h; done)
   | skip
  simp only [Bool.and_eq_true] at h
  obtain ⟨h1, h2⟩ := h
  split at h1
  ·rename_i x hx
   split at h2
   ·rename_i t ht
    have hc := chkX_rv he h1
    obtain rfl := arr1 hx
    obtain rfl := arr1 ht
    simp only [peval] at hp
    split at h2
    ·rename_i hu
     split at hp
     ·rename_i s e
      rw [e] at hc
      simp at hp
      subst hp
      refine ⟨_, call_args ho rfl rfl P m.w m.w (.int .i64 s.length) ?_, by simp only [Rv]⟩
      simp [builtin, Builtin.len_, run_underlying hu, (rv_str hc).1, goInt]
      rfl
     ·cases hp
    ·cases h2
   ·cases h2
  ·cases h1
theorem q_len {c y r} (he : RvE m env a.tmps) (ho : o.op = .call c) (h : chkOp P o.op (.len y) = true) (H : AHeap) (hp : peval (.len y) env H = some r) : Quiet P m a o r := by
 obtain ⟨callee, args, argTypes⟩ := c
 rw [ho] at h
 cases callee with
 | value f => simp [chkOp] at h
 | invoke _ _ => simp [chkOp] at h
 | builtin b =>
  cases b <;> simp only [chkOp] at h <;> first
   | (cases h; done)
   | skip
  simp only [Bool.and_eq_true] at h
  obtain ⟨h1, h2⟩ := h
  split at h1
  ·rename_i x hx
   split at h2
   ·rename_i t ht
    have hc := chkX_rv he h1
    obtain rfl := arr1 hx
    obtain rfl := arr1 ht
    simp only [peval] at hp
    split at h2
    ·rename_i el hu
     have run : ∀ ad (n cap : Nat), a.eval x = .slice ad n cap → (execOp a.eval o).run P m.w = .ok (.value (.int .i64 n)) m.w := by
      intro ad n cap e
      refine call_args ho rfl rfl P m.w m.w (.int .i64 n) ?_
      simp [builtin, Builtin.len_, run_underlying hu, e, goInt]
     split at hp
     ·rename_i e
      rw [e] at hc
      simp at hp
      subst hp
      obtain ⟨ad, cap, e1, _⟩ := rv_vs hc
      exact ⟨_, run _ _ _ e1, by simp only [Rv]⟩
     ·rename_i e
      rw [e] at hc
      simp at hp
      subst hp
      obtain ⟨ad, cap, e1, _⟩ := rv_vs (rv_own hc)
      exact ⟨_, run _ _ _ e1, by simp only [Rv]⟩
     ·rename_i e
      rw [e] at hc
      simp at hp
      subst hp
      exact ⟨_, run _ _ _ (rv_raw hc), by simp only [Rv]⟩
     ·cases hp
    ·cases h2
   ·cases h2
  ·cases h1
theorem q_lenA {c n} (ho : o.op = .call c) (h : chkOp P o.op (.lenA n) = true) : Quiet P m a o (.int .i64 n) := by
 obtain ⟨callee, args, argTypes⟩ := c
 rw [ho] at h
 cases callee with
 | value f => simp [chkOp] at h
 | invoke _ _ => simp [chkOp] at h
 | builtin b =>
  cases b <;> simp only [chkOp] at h <;> first
   | (cases h; done)
   | skip
  simp only [Bool.and_eq_true] at h
  obtain ⟨h1, h2⟩ := h
  split at h1
  ·rename_i x hx
   split at h2
   ·rename_i t ht
    obtain rfl := arr1 hx
    obtain rfl := arr1 ht
    refine ⟨_, call_args ho rfl rfl P m.w m.w (.int .i64 n) ?_, by simp only [Rv]⟩
    split at h2
    ·rename_i hu
     simp at h2
     simp [builtin, Builtin.len_, run_underlying hu, goInt, h2]
    ·rename_i hu
     split at h2
     ·rename_i hu2
      simp at h2
      simp [builtin, Builtin.len_, run_underlying hu, run_underlying hu2, goInt, h2]
     ·cases h2
    ·cases h2
   ·cases h2
  ·cases h1
end
def setRangeV (l : List Value) (o : Nat) (new : List Value) : List Value := l.take o ++ new ++ l.drop (o + new.length)
theorem setRange_rv {m : Mem} {cs new : List AV} {l nl : List Value} (h : RvL m cs l) (k : RvL m new nl) (o : Nat) : RvL m (setRange cs o new) (setRangeV l o nl) := by
 unfold setRange setRangeV
 rw [RvL.length k]
 exact RvL.append (RvL.append (RvL.take _ h) k) (RvL.drop _ h)
theorem setRangeV_step (l new : List Value) (v : Value) (n : Nat) (h : n < l.length) : setRangeV (l.set n v) (n + 1) new = setRangeV l n (v :: new) := by
 unfold setRangeV
 have e1 : (l.set n v).take (n+1) = l.take n ++ [v] := by
  rw [List.take_succ_eq_append_getElem (by simpa using h)]
  simp only [List.take_set, List.getElem_set_self]
  rw [List.set_eq_of_length_le (by simp; omega)]
 have e2 : (l.set n v).drop (n + 1 + new.length) = l.drop (n + (new.length + 1)) := by
  rw [List.drop_set, if_pos (by omega)]
  congr 1; omega
 rw [e1, e2]; simp
theorem set_fold : ∀ (new : List Value) (l : List Value) (o j : Nat), o + j + new.length ≤ l.length →
  (new.zipIdx j).foldl (fun (cs : Array Value) (p : Value × Nat) => cs.setIfInBounds (o + p.2) p.1) ⟨l⟩ = ⟨setRangeV l (o + j) new⟩
 | [], l, o, j, h => by simp [setRangeV]
 | v :: new, l, o, j, h => by
  simp only [List.length_cons] at h
  simp only [List.zipIdx_cons, List.foldl_cons]
  rw [show (⟨l⟩ : Array Value).setIfInBounds (o + j) v = ⟨l.set (o + j) v⟩ by simp]
  rw [set_fold new (l.set (o + j) v) o (j + 1) (by simp; omega)]
  rw [show o + (j + 1) = (o + j) + 1 by omega]
  rw [setRangeV_step l new v (o + j) (by omega)]
def placed (place : Nat → Option (Nat × Nat)) : List (Nat × Operand) → List (Nat × Nat × EOpd) → Prop
 | [], qs => qs = []
 | p :: ps, qs => ∃ q qs', qs = q :: qs' ∧ place p.1 = some (q.1, q.2.1) ∧ chkX p.2 q.2.2 = true ∧ placed place ps qs'
theorem cells_okc {m : Mem} {a : AV} {v : Value} (h : Rv m a v) (ho : a.okc = true) : RvL m a.cells v.cells.toList := by
 cases ha : a with
 | agg cs =>
  subst ha
  obtain ⟨l, rfl, h2⟩ := rv_agg h
  exact h2
 | top => subst ha; exact absurd ho Bool.false_ne_true
 | tup cs => subst ha; exact absurd ho Bool.false_ne_true
 | _ =>
  subst ha
  rw [cells_of_one (one_rv h ho)]
  simp only [AV.cells, RvL]
  exact ⟨v, [], rfl, h, rfl⟩
theorem fill_rv {m : Mem} {a : Act} {env : Env} (he : RvE m env a.tmps) (place : Nat → Option (Nat × Nat)) : ∀ (ps : List (Nat × Operand)) (qs : List (Nat × Nat × EOpd)) (cs : List AV) (l : List Value) (r : List AV),
  placed place ps qs → RvL m cs l → buildParts env cs qs = some r →
  ∃ l', Instr.fill place ⟨l⟩ (ps.map fun (i, x) => (i, a.eval x)) = some ⟨l'⟩ ∧ RvL m r l'
 | [], qs, cs, l, r, hp, hl, hb => by
  simp only [placed] at hp
  subst hp
  simp only [buildParts, Option.some.injEq] at hb
  subst hb
  exact ⟨l, by simp [Instr.fill], hl⟩
 | (i, x) :: ps, qs, cs, l, r, hp, hl, hb => by
  simp only [placed] at hp
  obtain ⟨⟨off, size, y⟩, qs', rfl, h1, h2, h3⟩ := hp
  simp only [buildParts] at hb
  split at hb
  ·rename_i hc
   obtain ⟨c1, c2, c3⟩ := hc
   have c1' : (y.ev env).cells.length = size := c1
   have c2' : off + size ≤ cs.length := c2
   have hlen' : (a.eval x).cells.toList.length = size := (RvL.length (cells_okc (chkX_rv he h2) c3)).trans c1
   have hv := cells_okc (chkX_rv he h2) c3
   have hlen := RvL.length hv
   have hl0 := RvL.length hl
   obtain ⟨l', g1, g2⟩ := fill_rv he place ps qs' _ (setRangeV l off (a.eval x).cells.toList) r h3 (setRange_rv hl hv off) hb
   refine ⟨l', ?_, g2⟩
   simp only [List.map_cons, Instr.fill, h1]
   have hsz : (a.eval x).cells.size = size := by rw [← Array.length_toList, hlen]; exact c1
   have hns : ¬ ((decide ((a.eval x).cells.size ≠ size) || decide (off + (a.eval x).cells.size > (⟨l⟩ : Array Value).size)) = true) := by
    simp only [hsz, ne_eq, not_true_eq_false, decide_false, Bool.false_or, decide_eq_true_eq, List.size_toArray]
    omega
   rw [if_neg hns]
   have hz : (a.eval x).cells.zipIdx.foldl (fun (cs : Array Value) (p : Value × Nat) => cs.setIfInBounds (off + p.2) p.1) ⟨l⟩ = ⟨setRangeV l off (a.eval x).cells.toList⟩ := by
    rw [← Array.foldl_toList, Array.toList_zipIdx]
    have := set_fold (a.eval x).cells.toList l off 0 (by rw [hlen']; omega)
    simpa using this
   rw [hz]
   exact g1
  ·cases hb
theorem places_get {P : Program} : ∀ {fs : List Field} {places : List (Nat × Nat)}, fs.mapM (fun f => (P.info? f.type).map fun i => (f.offset, i.size)) = some places → ∀ (i : Nat) (f : Field), fs[i]? = some f → ∃ ti, P.info? f.type = some ti ∧ places[i]? = some (f.offset, ti.size)
 | [], _, _, _, _, h => by simp at h
 | g :: fs, places, hp, i, f, h => by
  simp only [List.mapM_cons, Option.bind_eq_bind, Option.pure_def] at hp
  cases hi : P.info? g.type with
  | none => simp [hi] at hp
  | some ti =>
   cases hr : fs.mapM (fun f => (P.info? f.type).map fun i => (f.offset, i.size)) with
   | none => simp [hi, hr] at hp
   | some rest =>
    simp [hi, hr] at hp
    subst hp
    cases i with
    | zero => simp at h; subst h; exact ⟨ti, hi, rfl⟩
    | succ i => simp at h; obtain ⟨t2, e1, e2⟩ := places_get hr i f h; exact ⟨t2, e1, by simpa using e2⟩
theorem chkParts_placed {P : Program} {fs : Array Field} {places : List (Nat × Nat)} (hp : fs.toList.mapM (fun f => (P.info? f.type).map fun i => (f.offset, i.size)) = some places) : ∀ {ps : List (Nat × Operand)} {qs : List (Nat × Nat × EOpd)}, chkParts P fs ps qs = true → placed (places.toArray[·]?) ps qs
 | [], [], _ => by simp only [placed]
 | [], _ :: _, h => by simp [chkParts] at h
 | _ :: _, [], h => by simp [chkParts] at h
 | (i, x) :: ps, (off, size, y) :: qs, h => by
  simp only [chkParts, Bool.and_eq_true] at h
  obtain ⟨⟨h1, h2⟩, h3⟩ := h
  simp only [placed]
  refine ⟨_, _, rfl, ?_, h2, chkParts_placed hp h3⟩
  split at h1
  ·rename_i f hf
   simp only [Bool.and_eq_true, decide_eq_true_eq] at h1
   obtain ⟨e1, e2⟩ := h1
   obtain ⟨ti, e3, e4⟩ := sizeT_info e2
   have hf' : fs.toList[i]? = some f := by simpa using hf
   obtain ⟨t2, g1, g2⟩ := places_get hp i f hf'
   rw [e3] at g1
   simp at g1
   subst g1
   simp [g2, e1, e4]
  ·cases h1
theorem chkPartsA_placed {size : Nat} : ∀ {ps : List (Nat × Operand)} {qs : List (Nat × Nat × EOpd)}, chkPartsA size ps qs = true → placed (fun i => some (i * size, size)) ps qs
 | [], [], _ => by simp only [placed]
 | [], _ :: _, h => by simp [chkPartsA] at h
 | _ :: _, [], h => by simp [chkPartsA] at h
 | (i, x) :: ps, (off, sz, y) :: qs, h => by
  simp only [chkPartsA, Bool.and_eq_true, decide_eq_true_eq] at h
  obtain ⟨⟨⟨rfl, rfl⟩, h2⟩, h3⟩ := h
  simp only [placed]
  exact ⟨_, _, rfl, rfl, h2, chkPartsA_placed h3⟩
section
variable {P : Program} {m : Mem} {env : Env} {a : Act} {o : Oper}
theorem zeroT_parts {t : TypeId} {zero : List AV} (h : zeroT P t zero = true) : ∃ i z, P.info? t = some i ∧ i.zero = some z ∧ cstA zero z = true := by
 unfold zeroT at h
 cases hi : P.info? t with
 | none => simp [hi] at h
 | some i =>
  cases hz : i.zero with
  | none => simp [hi, hz] at h
  | some z => simp [hi, hz] at h; exact ⟨i, z, rfl, hz, h⟩
theorem q_build {t parts zero ps r} (he : RvE m env a.tmps) (ho : o.op = .build t parts) (h : chkOp P o.op (.build zero ps) = true) (H : AHeap) (hp : peval (.build zero ps) env H = some r) : Quiet P m a o r := by
 rw [ho] at h
 simp only [chkOp, Bool.and_eq_true] at h
 obtain ⟨h1, h2⟩ := h
 obtain ⟨i, z, hi, hz, hc⟩ := zeroT_parts h1
 have hzr := (cstA_rv (m := m) hc).1
 simp only [peval] at hp
 cases hb : buildParts env zero ps with
 | none => simp [hb] at hp
 | some cs =>
  simp [hb] at hp
  subst hp
  have fin : ∀ l', P.built t ((parts.map fun (i, x) => (i, a.eval x)).toList) = some ⟨l'⟩ → RvL m cs l' → Quiet P m a o (.agg cs) := by
   intro l' g1 g2
   refine ⟨.agg ⟨l'⟩, ?_, by simp only [Rv]; exact ⟨l', rfl, g2⟩⟩
   have := run_build (P := P) m.w t (parts.map fun (i, x) => (i, a.eval x)) ⟨l'⟩ g1
   simp only [execOp, ho, Sem.run_bind, this, Result.andThen_ok, Sem.run_pure]
  have hz' : (⟨z.cells.toList⟩ : Array Value) = z.cells := rfl
  split at h2
  ·rename_i fs hu
   simp only [Bool.and_eq_true] at h2
   obtain ⟨h2, h3⟩ := h2
   obtain ⟨places, hpl⟩ := Option.isSome_iff_exists.1 h3
   obtain ⟨l', g1, g2⟩ := fill_rv he (places.toArray[·]?) parts.toList ps zero z.cells.toList cs (chkParts_placed hpl h2) hzr hb
   refine fin l' ?_ g2
   simp only [Program.built, hi, hu, hz, hpl, Array.toList_map]
   exact g1
  ·rename_i n e hu
   split at h2
   ·rename_i s hs
    obtain ⟨ti, e1, e2⟩ := sizeT_info hs
    obtain ⟨l', g1, g2⟩ := fill_rv he (fun i => some (i * s, s)) parts.toList ps zero z.cells.toList cs (chkPartsA_placed h2) hzr hb
    refine fin l' ?_ g2
    simp only [Program.built, hi, hu, hz, e1, Array.toList_map, e2]
    exact g1
   ·cases h2
  ·cases h2
theorem min_go {w : World} : ∀ (rest : List AV) (k : IntKind) (x : Int) (l : List Value) (r : AV), minmaxAV false (.int k x) rest = some r → RvL m rest l → ∃ v, (l.foldlM Builtin.min2 (.int k x)).run P w = .ok v w ∧ Rv m r v
 | [], k, x, l, r, h, hl => by
  simp only [RvL] at hl
  subst hl
  simp [minmaxAV] at h
  subst h
  exact ⟨_, by simp; rfl, by simp only [Rv]⟩
 | b :: rest, k, x, l, r, h, hl => by
  simp only [RvL] at hl
  obtain ⟨v, vs, rfl, h1, h2⟩ := hl
  have hint : ∃ j y, b = .int j y := by
   cases b <;> first
    | exact ⟨_, _, rfl⟩
    | (simp [minmaxAV] at h; done)
  obtain ⟨j, y, rfl⟩ := hint
  simp only [minmaxAV] at h
  split at h
  ·rename_i e
   subst e
   obtain ⟨v', g1, g2⟩ := min_go rest k _ vs r h h2
   refine ⟨v', ?_, g2⟩
   rw [rv_int h1]
   simp only [List.foldlM_cons, Sem.run_bind, Builtin.min2, Sem.run_pure, Result.andThen_ok]
   rw [show (if y < x then y else x) = min x y by simp only [Int.min_def]; split <;> split <;> omega]
   simpa using g1
  ·cases h
theorem max_go {w : World} : ∀ (rest : List AV) (k : IntKind) (x : Int) (l : List Value) (r : AV), minmaxAV true (.int k x) rest = some r → RvL m rest l → ∃ v, (l.foldlM Builtin.max2 (.int k x)).run P w = .ok v w ∧ Rv m r v
 | [], k, x, l, r, h, hl => by
  simp only [RvL] at hl
  subst hl
  simp [minmaxAV] at h
  subst h
  exact ⟨_, by simp; rfl, by simp only [Rv]⟩
 | b :: rest, k, x, l, r, h, hl => by
  simp only [RvL] at hl
  obtain ⟨v, vs, rfl, h1, h2⟩ := hl
  have hint : ∃ j y, b = .int j y := by
   cases b <;> first
    | exact ⟨_, _, rfl⟩
    | (simp [minmaxAV] at h; done)
  obtain ⟨j, y, rfl⟩ := hint
  simp only [minmaxAV] at h
  split at h
  ·rename_i e
   subst e
   obtain ⟨v', g1, g2⟩ := max_go rest k _ vs r h h2
   refine ⟨v', ?_, g2⟩
   rw [rv_int h1]
   simp only [List.foldlM_cons, Sem.run_bind, Builtin.max2, Sem.run_pure, Result.andThen_ok]
   rw [show (if y > x then y else x) = max x y by simp only [Int.max_def]; split <;> split <;> omega]
   simpa using g1
  ·cases h
theorem q_minmax {c isMax ys r} (he : RvE m env a.tmps) (ho : o.op = .call c) (h : chkOp P o.op (.minmax isMax ys) = true) (H : AHeap) (hp : peval (.minmax isMax ys) env H = some r) : Quiet P m a o r := by
 obtain ⟨callee, args, argTypes⟩ := c
 rw [ho] at h
 have key : chkXs args.toList ys = true → ∃ k x rest l, (args.map a.eval).toList = .int k x :: l ∧ RvL m rest l ∧ minmaxAV isMax (.int k x) rest = some r := by
  intro hx
  have hl := chkXs_rv he hx
  simp only [peval] at hp
  split at hp
  ·rename_i a0 rest e
   rw [e] at hl
   simp only [RvL] at hl
   obtain ⟨v, vs, g1, g2, g3⟩ := hl
   have hint : ∃ k x, a0 = .int k x := by
    cases a0 <;> cases rest <;> first
     | exact ⟨_, _, rfl⟩
     | (simp [minmaxAV] at hp; done)
   obtain ⟨k, x, rfl⟩ := hint
   exact ⟨k, x, rest, vs, by rw [rv_int g2] at g1; simpa using g1, g3, hp⟩
  ·cases hp
 cases callee with
 | value f => simp [chkOp] at h
 | invoke _ _ => simp [chkOp] at h
 | builtin b =>
  cases b <;> cases isMax <;> simp only [chkOp] at h <;> first
   | (cases h; done)
   | skip
  ·obtain ⟨k, x, rest, l, g1, g2, g3⟩ := key h
   obtain ⟨v, e1, e2⟩ := max_go (P := P) (w := m.w) rest k x l r g3 g2
   refine ⟨v, ?_, e2⟩
   simp [execOp, ho, resolve, invoke, builtin, Builtin.max_]
   simp at g1
   simp [g1, e1]
  ·obtain ⟨k, x, rest, l, g1, g2, g3⟩ := key h
   obtain ⟨v, e1, e2⟩ := min_go (P := P) (w := m.w) rest k x l r g3 g2
   refine ⟨v, ?_, e2⟩
   simp [execOp, ho, resolve, invoke, builtin, Builtin.min_]
   simp at g1
   simp [g1, e1]
set_option maxHeartbeats 1600000 in
theorem peval_run {e : EOp} {r : AV} (he : RvE m env a.tmps) (rh : RH m) (h : chkOp P o.op e = true) (hp : peval e env m.H = some r) : Quiet P m a o r := by
 cases e with
 | mv y =>
  simp only [peval, Option.some.injEq] at hp
  subst hp
  cases ho : o.op <;> simp [ho, chkOp] at h
  ·exact q_mv he (.inl ho) h
  ·exact q_mv he (.inr ho) h
 | pick c x y =>
  cases ho : o.op <;> simp [ho, chkOp] at h
  exact q_pick he ho h.1.1 h.1.2 h.2 m.H hp
 | nilck y =>
  cases ho : o.op <;> simp [ho, chkOp] at h
  exact q_nilck he ho h m.H hp
 | build zero ps =>
  cases ho : o.op <;> try (simp [ho, chkOp] at h; done)
  exact q_build he ho h m.H hp
 | load agg n y =>
  cases ho : o.op <;> simp [ho, chkOp] at h
  exact q_load he rh ho h.1 h.2 hp
 | loadD me agg n y =>
  cases ho : o.op <;> simp [ho, chkOp] at h
  exact q_load he rh ho h.1 h.2 (peval_loadD hp).1
 | loadR agg n y =>
  cases ho : o.op <;> simp [ho, chkOp] at h
  exact q_load he rh ho h.1 h.2 (peval_loadR hp)
 | faddr off y =>
  cases ho : o.op <;> try (simp [ho, chkOp] at h; done)
  exact q_faddr he ho h m.H hp
 | field agg off n y =>
  cases ho : o.op <;> try (simp [ho, chkOp] at h; done)
  exact q_field he ho h m.H hp
 | bin op x y =>
  cases ho : o.op <;> try (simp [ho, chkOp] at h; done)
  have hop := h
  rw [ho] at hop
  simp only [chkOp, Bool.and_eq_true, decide_eq_true_eq] at hop
  obtain ⟨⟨rfl, _⟩, _⟩ := hop
  exact q_bin he ho h m.H hp
 | binB op x y =>
  cases ho : o.op <;> try (simp [ho, chkOp] at h; done)
  have hop := h
  rw [ho] at hop
  simp only [chkOp, Bool.and_eq_true, decide_eq_true_eq] at hop
  obtain ⟨⟨⟨rfl, _⟩, _⟩, _⟩ := hop
  exact q_binB he ho h m.H hp
 | eqA neg T ks x y =>
  cases ho : o.op <;> try (simp [ho, chkOp] at h; done)
  exact q_eqA he ho h m.H hp
 | not y =>
  cases ho : o.op <;> try (simp [ho, chkOp] at h; done)
  rename_i u t x
  cases u <;> simp [ho, chkOp] at h
  exact q_not he ho h m.H hp
 | pnil neg y =>
  cases ho : o.op <;> try (simp [ho, chkOp] at h; done)
  exact q_pnil he ho h m.H hp
 | neg y =>
  cases ho : o.op <;> try (simp [ho, chkOp] at h; done)
  rename_i u t x
  cases u <;> simp [ho, chkOp] at h
  exact q_neg he ho h m.H hp
 | conv k y =>
  cases ho : o.op <;> try (simp [ho, chkOp] at h; done)
  exact q_conv he ho h m.H hp
 | lenS y =>
  cases ho : o.op <;> try (simp [ho, chkOp] at h; done)
  exact q_lenS he ho h m.H hp
 | len y =>
  cases ho : o.op <;> try (simp [ho, chkOp] at h; done)
  exact q_len he ho h m.H hp
 | lenA n =>
  simp only [peval, Option.some.injEq] at hp
  subst hp
  cases ho : o.op <;> try (simp [ho, chkOp] at h; done)
  exact q_lenA ho h
 | minmax isMax ys =>
  cases ho : o.op <;> try (simp [ho, chkOp] at h; done)
  exact q_minmax he ho h m.H hp
 | extract i y =>
  cases ho : o.op <;> simp [ho, chkOp] at h
  obtain ⟨h1, rfl⟩ := h
  exact q_extract he ho h1 m.H hp
 | mkfn f ys =>
  simp only [peval, Option.some.injEq] at hp
  subst hp
  cases ho : o.op <;> try (simp [ho, chkOp] at h; done)
  rename_i g first caps
  cases g <;> simp [ho, chkOp] at h
  obtain ⟨⟨⟨rfl, h2⟩, h3⟩, h4⟩ := h
  exact q_mkfn he ho (by simpa using h2) h3 (by simpa using h4)
 | mkfnB f ys =>
  simp only [peval, Option.some.injEq] at hp
  subst hp
  cases ho : o.op <;> try (simp [ho, chkOp] at h; done)
  rename_i g first caps
  cases g <;> simp [ho, chkOp] at h
  obtain ⟨⟨rfl, h2⟩, h3⟩ := h
  exact q_mkfnB he ho (by simpa using h2) h3
 | convS b y =>
  cases ho : o.op <;> try (simp [ho, chkOp] at h; done)
  exact q_convS he ho h m.H hp
 | mkif T y =>
  simp only [peval, Option.some.injEq] at hp
  subst hp
  cases ho : o.op <;> try (simp [ho, chkOp] at h; done)
  rename_i t x
  rw [ho] at h
  simp only [chkOp, Bool.and_eq_true, decide_eq_true_eq] at h
  obtain ⟨⟨rfl, h2⟩, h3⟩ := h
  exact q_mkif he ho h2 h3
 | _ => simp [peval] at hp
end
section
variable {P : Program} {m : Mem} {env : Env} {a : Act} {o : Oper}
theorem wp_of_run {K : Act → World → Prop} {Q : Exit → Act → World → Prop} {w w' : World} {v : Value} (h : (execOp a.eval o).run P w = .ok (.value v) w') (hk : K (a.put o.dst v) w') : o.wp P a w K Q := by
 simp only [Oper.wp, h, Oper.upon]
 exact hk
theorem d_quo {t x y u x' y' k p q} (he : RvE m env a.tmps) (ho : o.op = .binOp .quo t x y u) (h1 : chkX x x' = true) (h2 : chkX y y' = true) (e1 : x'.ev env = .int k p) (e2 : y'.ev env = .int k q) (hq : q ≠ 0) : Quiet P m a o (.int k (k.wrap (p.tdiv q))) := by
 have hx := chkX_rv he h1
 have hy := chkX_rv he h2
 rw [e1] at hx; rw [e2] at hy
 exact ⟨_, by simp [execOp, ho, rv_int hx, rv_int hy, eqGuard_int, binOp, Op.intDiv, hq]; rfl, by simp only [Rv]⟩
theorem d_rem {t x y u x' y' k p q} (he : RvE m env a.tmps) (ho : o.op = .binOp .rem t x y u) (h1 : chkX x x' = true) (h2 : chkX y y' = true) (e1 : x'.ev env = .int k p) (e2 : y'.ev env = .int k q) (hq : q ≠ 0) : Quiet P m a o (.int k (p.tmod q)) := by
 have hx := chkX_rv he h1
 have hy := chkX_rv he h2
 rw [e1] at hx; rw [e2] at hy
 exact ⟨_, by simp [execOp, ho, rv_int hx, rv_int hy, eqGuard_int, binOp, Op.intDiv, hq]; rfl, by simp only [Rv]⟩
theorem d_cat {t x y u x' y' p q} (he : RvE m env a.tmps) (ho : o.op = .binOp .add t x y u) (h1 : chkX x x' = true) (h2 : chkX y y' = true) (e1 : x'.ev env = .str p) (e2 : y'.ev env = .str q) (hq : p.length + q.length ≤ maxLen) : Quiet P m a o (.str (p ++ q)) := by
 have hx := chkX_rv he h1
 have hy := chkX_rv he h2
 rw [e1] at hx; rw [e2] at hy
 have hs : ¬ ((((⟨⟨p⟩⟩ : ByteArray).size + (⟨⟨q⟩⟩ : ByteArray).size : Nat) : Int) > IntKind.i64.max) := by
  have e1 : (⟨⟨p⟩⟩ : ByteArray).size = p.length := rfl
  have e2 : (⟨⟨q⟩⟩ : ByteArray).size = q.length := rfl
  rw [e1, e2]
  have : IntKind.i64.max = 9223372036854775807 := by decide
  rw [this]
  simp only [maxLen] at hq
  omega
 refine ⟨.string ⟨⟨p ++ q⟩⟩, ?_, by simp only [Rv]; exact ⟨trivial, by simpa using hq⟩⟩
 simp only [execOp, ho, (rv_str hx).1, (rv_str hy).1, Sem.run_bind, eqGuard_str, Result.andThen_ok, binOp, Op.stringOp]
 rw [if_neg hs]
 simp [bytes_append]
theorem maxLen_eq : maxLen = 9223372036854775807 := by decide
theorem d_idxRow {t x i size x' i' rows k n r} (he : RvE m env a.tmps) (ho : o.op = .indexAddr t x i) (h : chkOp P o.op (.iaddr size x' i') = true) (e1 : Rv m (.vs size rows) (a.eval x)) (e2 : i'.ev env = .int k n) (h0 : 0 ≤ n) (hr : rows[n.toNat]? = some r) : Quiet P m a o (.rp r 0) := by
 rw [ho] at h
 simp only [chkOp, Bool.and_eq_true] at h
 obtain ⟨⟨h1, h2⟩, h3⟩ := h
 have hi := chkX_rv he h2
 rw [e2] at hi
 obtain ⟨ad, cap, g1, ⟨g2, g2'⟩, g3⟩ := rv_vs e1
 have hlt : n.toNat < rows.length := (List.getElem?_eq_some_iff.1 hr).1
 rcases g3 with g3 | ⟨b, p, rfl, g3⟩
 ·omega
 ·obtain ⟨g4, g5⟩ := RvR.get g3 _ _ hr
  split at h3
  ·rename_i el hel
   have hsz : sizeT P el = some size := by simpa using h3
   have hu : P.underlying t = some (.slice el) := by
    unfold slT at hel
    split at hel
    ·rename_i e hu; simp at hel; subst hel; exact hu
    ·cases hel
   refine ⟨.pointer (some ⟨b, p + n.toNat * size, none⟩), ?_, by simp only [Rv]; exact ⟨b, _, rfl, g5⟩⟩
   have hn : 0 ≤ n ∧ n < (rows.length : Int) := ⟨h0, by omega⟩
   simp [execOp, ho, Instr.indexAt, g1, rv_int hi, asIntOf, run_underlying hu, hn, run_sizeOf' hsz, addr_add]
  ·cases h3
theorem d_idxM {t x i size x' i' b p len cap k} {n : Int} (he : RvE m env a.tmps) (ho : o.op = .indexAddr t x i) (h : chkOp P o.op (.iaddr size x' i') = true) (e1 : x'.ev env = .raw (.slice (some ⟨b, p, none⟩) len cap)) (e2 : i'.ev env = .int k n) (h0 : 0 ≤ n) (hr : n < (len : Int)) : Quiet P m a o (.ptr b (p + n.toNat * size)) := by
 rw [ho] at h
 simp only [chkOp, Bool.and_eq_true] at h
 obtain ⟨⟨h1, h2⟩, h3⟩ := h
 have hi := chkX_rv he h2
 have hx := chkX_rv he h1
 rw [e2] at hi
 rw [e1] at hx
 split at h3
 ·rename_i el hel
  have hsz : sizeT P el = some size := by simpa using h3
  have hu : P.underlying t = some (.slice el) := by
   unfold slT at hel
   split at hel
   ·rename_i e hu; simp at hel; subst hel; exact hu
   ·cases hel
  refine ⟨.pointer (some ⟨b, p + n.toNat * size, none⟩), ?_, by simp only [Rv]⟩
  simp [execOp, ho, Instr.indexAt, rv_raw hx, rv_int hi, asIntOf, run_underlying hu, h0, hr, run_sizeOf' hsz, addr_add]
 ·cases h3
theorem d_idxPtr {t x i size x' i' b p k} {len : Nat} {n : Int} (he : RvE m env a.tmps) (ho : o.op = .indexAddr t x i) (h : chkOp P o.op (.iaddrA len size x' i') = true) (e1 : a.eval x = .pointer (some ⟨b, p, none⟩)) (e2 : i'.ev env = .int k n) (h0 : 0 ≤ n) (hr : n < (len : Int)) :
  (execOp a.eval o).run P m.w = .ok (.value (.pointer (some ⟨b, p + n.toNat * size, none⟩))) m.w := by
 rw [ho] at h
 simp only [chkOp, Bool.and_eq_true] at h
 obtain ⟨⟨h1, h2⟩, h3⟩ := h
 have hi := chkX_rv he h2
 rw [e2] at hi
 split at h3
 ·rename_i ln el hu
  simp only [Bool.and_eq_true, decide_eq_true_eq] at h3
  obtain ⟨rfl, hsz⟩ := h3
  simp [execOp, ho, Instr.indexAt, e1, rv_int hi, asIntOf, run_underlying hu, Instr.sureAddr, h0, hr, run_sizeOf' hsz, addr_add]
 ·cases h3
theorem d_idxA {t x i agg size x' i' cs k v} {len : Nat} {n : Int} (he : RvE m env a.tmps) (ho : o.op = .index t x i) (h : chkOp P o.op (.idxA agg len size x' i') = true) (e1 : x'.ev env = .agg cs) (e2 : i'.ev env = .int k n) (h0 : 0 ≤ n) (hr : n < (len : Int)) (hl : n.toNat * size + size ≤ cs.length) (hv : AV.ofCells agg ((cs.drop (n.toNat * size)).take size) = some v) : Quiet P m a o v := by
 rw [ho] at h
 simp only [chkOp, Bool.and_eq_true] at h
 obtain ⟨⟨h1, h2⟩, h3⟩ := h
 have hi := chkX_rv he h2
 have hx := chkX_rv he h1
 rw [e2] at hi
 rw [e1] at hx
 obtain ⟨l, g1, g2⟩ := rv_agg hx
 have hll := RvL.length g2
 split at h3
 ·rename_i ln el hu
  simp only [Bool.and_eq_true, decide_eq_true_eq] at h3
  obtain ⟨rfl, h3⟩ := h3
  have hsz := (ldT_parts h3).2.1
  refine ⟨if agg then .agg ⟨(l.drop (n.toNat * size)).take size⟩ else l.getD (n.toNat * size) undef, ?_, ?_⟩
  ·simp [execOp, ho, Instr.index, g1, rv_int hi, asIntOf, run_underlying hu, h0, hr, run_sizeOf' hsz, run_part h3 l (n.toNat * size) (by omega)]
  ·rcases ofCells_rv hv (RvL.take size (RvL.drop (n.toNat * size) g2)) with ⟨rfl, h⟩ | ⟨rfl, u, hu', h⟩
   ·exact h
   ·have hn := (ldT_parts h3).2.2.1 rfl
    subst hn
    rw [getD_drop]
    have : (l.drop (n.toNat * 1)).getD 0 undef = u := by
     cases hd : l.drop (n.toNat * 1) with
     | nil => rw [hd] at hu'; simp at hu'
     | cons x xs => rw [hd] at hu'; simp at hu'; simp [hu']
    simp only [Bool.false_eq_true, if_false, this]
    exact h
 ·cases h3
theorem d_idxS {t x i x' i' s k n c} (he : RvE m env a.tmps) (ho : o.op = .index t x i) (h : chkOp P o.op (.idxS x' i') = true) (e1 : x'.ev env = .str s) (e2 : i'.ev env = .int k n) (h0 : 0 ≤ n) (hc : s[n.toNat]? = some c) : Quiet P m a o (.int .u8 c.toNat) := by
 rw [ho] at h
 simp only [chkOp, Bool.and_eq_true] at h
 obtain ⟨⟨h1, h2⟩, h3⟩ := h
 have hi := chkX_rv he h2
 have hx := chkX_rv he h1
 rw [e2] at hi
 rw [e1] at hx
 split at h3
 ·rename_i hu
  refine ⟨.int .u8 c.toNat, ?_, by simp only [Rv]⟩
  have hlt := (List.getElem?_eq_some_iff.1 hc)
  have hb : (⟨⟨s⟩⟩ : ByteArray)[n.toNat]? = some c := by
   obtain ⟨hl, hcc⟩ := hlt
   have := getElem?_pos (⟨⟨s⟩⟩ : ByteArray) n.toNat hl
   rw [this]
   exact congrArg some hcc
  simp [execOp, ho, Instr.index, (rv_str hx).1, rv_int hi, asIntOf, run_underlying hu, h0, hb]
 ·cases h3
theorem d_slS {t x lo hi mx y lo' hi' s l h} (he : RvE m env a.tmps) (ho : o.op = .slice t x lo hi mx) (hc : chkOp P o.op (.slS y lo' hi') = true) (e1 : y.ev env = .str s) (hl : optNat env 0 lo' = some l) (hh : optNat env s.length hi' = some h) (h1 : l ≤ h) (h2 : h ≤ s.length) : Quiet P m a o (.str ((s.take h).drop l)) := by
 rw [ho] at hc
 cases mx with
 | some _ => simp [chkOp] at hc
 | none =>
  simp only [chkOp, Bool.and_eq_true] at hc
  obtain ⟨⟨⟨c1, c2⟩, c3⟩, c4⟩ := hc
  have hx := chkX_rv he c1
  rw [e1] at hx
  obtain ⟨g1, g2⟩ := rv_str hx
  split at c4
  ·rename_i hu
   have hs : (⟨⟨s⟩⟩ : ByteArray).size = s.length := rfl
   have hb := run_sliceBounds (P := P) (w := m.w) (b := false) (cap := s.length) he c2 c3 hl hh h1 h2 (Nat.le_refl _)
   refine ⟨.string ⟨⟨(s.take h).drop l⟩⟩, ?_, by simp only [Rv]; exact ⟨trivial, by simp; omega⟩⟩
   simp [execOp, ho, Instr.sliceAt, Instr.slice, run_underlying hu, g1, hs, hb, bytes_extract]
  ·cases c4
theorem slRows_rv {m : Mem} {size : Nat} {a : AV} {rows : List (List AV)} {v : Value} (h : slRows size a = some rows) (hv : Rv m a v) : Rv m (.vs size rows) v := by
 unfold slRows at h
 split at h
 ·split at h
  ·rename_i e; subst e; simp only [Option.some.injEq] at h; subst h; exact hv
  ·cases h
 ·split at h
  ·rename_i e; subst e; simp only [Option.some.injEq] at h; subst h; exact rv_own hv
  ·cases h
 ·cases h
theorem d_slV {t x lo hi mx size y lo' hi' rows l h} (he : RvE m env a.tmps) (ho : o.op = .slice t x lo hi mx) (hc : chkOp P o.op (.slV size y lo' hi' none) = true) (e1 : slRows size (y.ev env) = some rows) (hl : optNat env 0 lo' = some l) (hh : optNat env rows.length hi' = some h) (h1 : l ≤ h) (h2 : h ≤ rows.length) : Quiet P m a o (.vs size ((rows.take h).drop l)) := by
 rw [ho] at hc
 simp only [chkOp, Bool.and_eq_true] at hc
 obtain ⟨⟨⟨⟨c1, c2⟩, c3⟩, c5⟩, c4⟩ := hc
 have hx := chkX_rv he c1
 replace hx := slRows_rv e1 hx
 have hmx : mx = none := by cases mx <;> simp [chkXo] at c5 ⊢
 subst hmx
 split at c4
 ·rename_i el hel
  have hsz : sizeT P el = some size := by simpa using c4
  have hu : P.underlying t = some (.slice el) := by
   unfold slT at hel
   split at hel
   ·rename_i e hu; simp at hel; subst hel; exact hu
   ·cases hel
  obtain ⟨ad, cap, g1, ⟨g2, g2'⟩, g3⟩ := rv_vs hx
  have hb := run_sliceBounds (P := P) (w := m.w) (b := true) (cap := cap) he c2 c3 hl hh h1 h2 g2
  refine ⟨.slice (if cap = l then ad else ad.map (·.add (l * size))) (h - l) (cap - l), ?_, ?_⟩
  ·simp [execOp, ho, Instr.sliceAt, Instr.slice, run_underlying hu, g1, hb, run_sizeOf' hsz]
  ·simp only [Rv]
   have hlen : ((rows.take h).drop l).length = h - l := by simp; omega
   refine ⟨_, _, _, rfl, hlen.symm, ⟨by omega, by omega⟩, ?_⟩
   by_cases hlt : l < h
   ·rcases g3 with g3 | ⟨b, p, rfl, g3⟩
    ·omega
    ·refine .inr ⟨b, p + l * size, by rw [if_neg (by omega)]; simp [addr_add], ?_⟩
     have := RvR.drop l g3
     have := RvR.take (h - l) this
     rwa [show (rows.take h).drop l = (rows.drop l).take (h - l) by rw [List.drop_take]]
   ·exact .inl (by omega)
 ·cases c4
end
section
variable {P : Program} {m : Mem} {env : Env} {a : Act} {o : Oper}
theorem d_box {T x y} (he : RvE m env a.tmps) (rh : RH m) (ho : o.op = .box T x) (h : chkX x y = true) (hy : ((y.ev env).cells).all AV.one = true) :
  ∃ l, (execOp a.eval o).run P m.w = .ok (.value (.pointer (some ⟨m.w.heap.size, 0, none⟩))) (m.nb T (y.ev env).cells l).w ∧ RH (m.nb T (y.ev env).cells l) := by
 obtain ⟨h1, h2⟩ := cells_rv (chkX_rv he h) hy
 exact ⟨(a.eval x).cells.toList, by simp [execOp, ho, Instr.box, newVar, newRow, Mem.nb], RH.nb rh h1 h2⟩
theorem rvl_str {m : Mem} (s : List UInt8) : RvL m (s.map fun c => [AV.int .u8 c.toNat]).flatten (s.map fun b => Value.int .u8 b.toNat) := by
 induction s with
 | nil => simp [RvL]
 | cons c s ih => simp only [List.map_cons, List.flatten_cons, List.singleton_append, RvL]; exact ⟨_, _, rfl, by simp only [Rv], ih⟩
theorem d_convBS {t t2 T x y s} (he : RvE m env a.tmps) (rh : RH m) (ho : o.op = .convert t t2 x) (h : chkOp P o.op (.convBS T y) = true) (hy : y.ev env = .str s) :
  ∃ w' v, (execOp a.eval o).run P m.w = .ok (.value v) w' ∧ RH { m with w := w' } ∧ Ev m { m with w := w' } ∧ Rv { m with w := w' } (.vs 1 (s.map fun c => [.int .u8 c.toNat])) v := by
 rw [ho] at h
 simp only [chkOp, Bool.and_eq_true, decide_eq_true_eq] at h
 obtain ⟨⟨⟨h1, h2⟩, h3⟩, h4⟩ := h
 have hx := chkX_rv he h1
 rw [hy] at hx
 obtain ⟨g1, g2⟩ := rv_str hx
 split at h2
 ·rename_i hu
  split at h4
  ·rename_i hu8
   have hd : P.underlying t2 = some (.slice T) := by
    unfold slT at h3
    split at h3
    ·rename_i e hu; simp at h3; subst h3; exact hu
    ·cases h3
   have hr := run_bytes_of_string (P := P) m.w t t2 T ⟨⟨s⟩⟩ hu hd hu8
   have hs : (⟨⟨s⟩⟩ : ByteArray).size = s.length := rfl
   rw [hs] at hr
   refine ⟨m.w.drew.alloc (.cells (bytesRow ⟨⟨s⟩⟩ (grownCap m.w s.length 0 T)) T ((bytesRow ⟨⟨s⟩⟩ (grownCap m.w s.length 0 T)).size, (bytesRow ⟨⟨s⟩⟩ (grownCap m.w s.length 0 T)).size + 1)), .slice (some ⟨m.w.heap.size, 0, none⟩) s.length (grownCap m.w s.length 0 T), by simp [execOp, ho, g1, hr], ?_, ?_, ?_⟩
   ·exact RH.alloc (RH.drew rh) _
   ·exact (Ev.drew m).trans (Ev.alloc { m with w := m.w.drew } _)
   ·have ev := (Ev.drew m).trans (Ev.alloc { m with w := m.w.drew } (.cells (bytesRow ⟨⟨s⟩⟩ (grownCap m.w s.length 0 T)) T ((bytesRow ⟨⟨s⟩⟩ (grownCap m.w s.length 0 T)).size, (bytesRow ⟨⟨s⟩⟩ (grownCap m.w s.length 0 T)).size + 1)))
    simp only [Rv]
    have hge := grownCap_ge m.w s.length 0 T
    have hle := grownCap_le_maxLen m.w s.length 0 T g2
    refine ⟨_, _, _, rfl, by simp, ⟨by simpa using hge, hle⟩, .inr ⟨m.w.heap.size, 0, rfl, RvR.of (fun r hr => by obtain ⟨c, _, rfl⟩ := List.mem_map.1 hr; rfl) (l := s.map fun b => .int .u8 b.toNat) ?_ fun j v hj => ⟨?_, ?_, ⟨by simp, blk_new rh, fun t i ht hb => ?_⟩⟩⟩⟩
    ·exact rvl_str s
    ·rw [Nat.zero_add]
     have hc := World.cell?_alloc_mark m.w.drew (bytesRow ⟨⟨s⟩⟩ (grownCap m.w s.length 0 T)) T ((bytesRow ⟨⟨s⟩⟩ (grownCap m.w s.length 0 T)).size, (bytesRow ⟨⟨s⟩⟩ (grownCap m.w s.length 0 T)).size + 1) j
     have hj' : j < s.length := by
      have := (List.getElem?_eq_some_iff.1 hj).1
      simpa using this
     refine hc.trans ?_
     rw [bytesRow_at _ _ _ (by simpa using hj')]
     simp [List.getElem?_eq_getElem hj'] at hj
     rw [← hj]
     rfl
    ·have := List.mem_of_getElem? hj
     obtain ⟨c, _, rfl⟩ := List.mem_map.1 this
     rfl
    ·have := tok_lt rh ht hb
     omega
  ·cases h4
 ·cases h2
theorem d_alloc {T zero} (rh : RH m) (ho : o.op = .alloc T) (h : zeroT P T zero = true) :
  ∃ l, (execOp a.eval o).run P m.w = .ok (.value (.pointer (some ⟨m.w.heap.size, 0, none⟩))) (m.nb T zero l).w ∧ RH (m.nb T zero l) := by
 obtain ⟨i, z, hi, hz, hc⟩ := zeroT_parts h
 obtain ⟨h1, h2⟩ := cstA_rv (m := m) hc
 exact ⟨z.cells.toList, by simp [execOp, ho, Instr.alloc, zeroValue, typeInfo, hi, hz, newVar, newRow, Mem.nb], RH.nb rh h1 h2⟩
theorem made_list (z : Array Value) (n : Nat) : (madeCells z (n * z.size)).toList = (List.replicate n z.toList).flatten := by
 simp only [madeCells, Array.toList_map, Array.toList_range]
 induction n with
 | zero => simp
 | succ n ih =>
  rw [Nat.succ_mul, Nat.add_comm, List.range_add, List.map_append, List.replicate_succ, List.flatten_cons, ← ih]
  congr 1
  ·apply List.ext_getElem
   ·simp
   ·intro j h1 h2
    simp at h1
    simp [Nat.mod_eq_of_lt h1, h1]
  ·rw [List.map_map]
   apply List.map_congr_left
   intro j _
   simp [Nat.add_mod_left]
theorem rvl_repl {az : List AV} {l : List Value} (h : RvL m az l) : ∀ n, RvL m (List.replicate n az).flatten (List.replicate n l).flatten
 | 0 => by simp [RvL]
 | n + 1 => by
  rw [List.replicate_succ, List.replicate_succ, List.flatten_cons, List.flatten_cons]
  exact RvL.append h (rvl_repl h n)
theorem setRange_app (a b c : List AV) (h : c.length = b.length) : ∀ rest, setRange (a ++ b ++ rest) a.length c = a ++ c ++ rest := by
 intro rest
 unfold setRange
 rw [show (a ++ b ++ rest).take a.length = a by rw [List.append_assoc]; exact List.take_left, h]
 rw [show (a ++ b ++ rest).drop (a.length + b.length) = rest by rw [← List.length_append]; exact List.drop_left]
theorem buildParts_flat {env : Env} {size : Nat} : ∀ (ps : List (Nat × EOpd)) (k : Nat) (done : List AV), inOrder k ps = true → done.length = k * size → (∀ p ∈ ps, (p.2.ev env).cells.length = size ∧ (p.2.ev env).okc = true) →
  buildParts env (done ++ List.replicate (ps.length * size) .top) (ps.map fun p => (p.1 * size, size, p.2)) = some (done ++ (bslRows env ps).flatten)
 | [], k, done, _, _, _ => by simp [buildParts, bslRows]
 | (i, x) :: ps, k, done, h1, h2, h3 => by
  simp only [inOrder, Bool.and_eq_true, decide_eq_true_eq] at h1
  obtain ⟨rfl, h1⟩ := h1
  obtain ⟨c1, c2⟩ := h3 (i, x) (by simp)
  simp only at c1 c2
  have hrep : List.replicate (((i, x) :: ps).length * size) AV.top = List.replicate size AV.top ++ List.replicate (ps.length * size) AV.top := by
   rw [List.replicate_append_replicate]
   congr 1
   simp only [List.length_cons, Nat.add_mul]
   omega
  simp only [List.map_cons, buildParts]
  rw [hrep, if_pos ⟨c1, by simp only [List.length_append, List.length_replicate]; omega, c2⟩]
  rw [← List.append_assoc, ← h2, setRange_app _ _ _ (by simpa using c1)]
  have := buildParts_flat ps (i + 1) (done ++ (x.ev env).cells) h1 (by simp [h2, c1, Nat.add_mul]) (fun p hp => h3 p (by simp [hp]))
  rw [this]
  simp [bslRows]
theorem placed_order {size : Nat} : ∀ {ps : List (Nat × Operand)} {qs : List (Nat × EOpd)}, chkPartsS ps qs = true → placed (fun i => some (i * size, size)) ps (qs.map fun p => (p.1 * size, size, p.2))
 | [], [], _ => by simp [placed]
 | [], _ :: _, h => by simp [chkPartsS] at h
 | _ :: _, [], h => by simp [chkPartsS] at h
 | (i, x) :: ps, (j, y) :: qs, h => by
  simp only [chkPartsS, Bool.and_eq_true, decide_eq_true_eq] at h
  obtain ⟨⟨rfl, h2⟩, h3⟩ := h
  simp only [List.map_cons, placed]
  exact ⟨_, _, rfl, rfl, h2, placed_order h3⟩
theorem RvL_top {m : Mem} : ∀ (l : List Value), RvL m (List.replicate l.length .top) l
 | [] => by simp [RvL]
 | v :: l => by simp only [List.length_cons, List.replicate_succ, RvL]; exact ⟨v, l, rfl, by simp only [Rv], RvL_top l⟩
theorem okc_of_one {x : AV} (h : x.cells.all AV.one = true) : x.okc = true := by
 cases x <;> simp only [AV.cells, List.all_cons, List.all_nil, Bool.and_true, AV.one, AV.okc] at h ⊢ <;> exact h
theorem d_bslice {t n parts T size n' zero ps rows} (he : RvE m env a.tmps) (rh : RH m) (ho : o.op = .buildSlice t n parts) (h : chkOp P o.op (.bslice T size n' zero ps) = true) (hr : bslRows env ps = rows) (hs : rows.all (fun r => r.length == size) = true) (h1 : rows.flatten.all AV.one = true) :
  ∃ l, (execOp a.eval o).run P m.w = .ok (.value (.slice (some ⟨m.w.heap.size, 0, none⟩) rows.length rows.length)) (m.w.alloc (.cells ⟨l⟩ T)) ∧ RvL m rows.flatten l ∧ (∀ v ∈ l, v.oneCell' = true) ∧ l.length = rows.length * size ∧ rows.length ≤ 65536 ∧ size ≠ 0 := by
 rw [ho] at h
 simp only [chkOp, Bool.and_eq_true, decide_eq_true_eq] at h
 obtain ⟨⟨⟨⟨⟨⟨⟨⟨⟨rfl, c2⟩, c3⟩, c4⟩, c5⟩, c6⟩, c7⟩, c8⟩, c9⟩, c10⟩ := h
 have c6' := Nat.le_of_ble_eq_true c6
 have hne : size ≠ 0 := by simpa using c10
 obtain ⟨i, z, hi, hz, hc⟩ := zeroT_parts c4
 have hrl : rows.length = n := by subst hr; simpa [bslRows] using c9
 have hu : P.underlying t = some (.slice T) := by
  unfold slT at c2
  split at c2
  ·rename_i e hu; simp at c2; subst c2; exact hu
  ·cases c2
 have hzs : z.cells.size = size := by
  have := RvL.length (cstA_rv (m := m) hc).1
  simp at this
  omega
 have hsz : (sizeOf T).run P m.w = .ok size m.w := run_sizeOf' c3 _
 have hlen0 : ((Array.range (n * size)).map (z.cells[· % z.cells.size]!)).size = n * size := by simp
 have hone : ∀ p ∈ ps, (p.2.ev env).cells.length = size ∧ (p.2.ev env).okc = true := by
  intro p hp
  have hm : (p.2.ev env).cells ∈ rows := by subst hr; exact List.mem_map.2 ⟨p, hp, rfl⟩
  refine ⟨by have := List.all_eq_true.1 hs _ hm; simpa using this, okc_of_one ?_⟩
  simp only [List.all_eq_true] at h1 ⊢
  intro x hx
  exact h1 x (List.mem_flatten.2 ⟨_, hm, hx⟩)
 have hb := buildParts_flat (env := env) (size := size) ps 0 [] c8 (by simp) hone
 simp only [List.nil_append, hr] at hb
 have htop := RvL_top (m := m) ((Array.range (n * size)).map (z.cells[· % z.cells.size]!)).toList
 rw [Array.length_toList, hlen0, show n * size = ps.length * size by rw [c9]] at htop
 obtain ⟨l, g1, g2⟩ := fill_rv he (fun i => some (i * size, size)) parts.toList _ _ _ _ (placed_order c7) htop hb
 have hll : l.length = rows.length * size := by
  rw [RvL.length g2]
  clear g1 g2 hb hr hrl h1
  induction rows with
  | nil => simp
  | cons r rows ih =>
   simp only [List.all_cons, Bool.and_eq_true] at hs
   have e : r.length = size := by simpa using hs.1
   simp only [List.flatten_cons, List.length_append, ih hs.2, List.length_cons, Nat.add_mul, e]
   omega
 refine ⟨l, ?_, g2, fun v hv => ?_, hll, ?_, hne⟩
 ·have hbig : ¬ (n * size > 2 ^ 24) := by omega
  by_cases h0 : n * size = 0
  ·have hn0 : n = 0 := by rcases Nat.mul_eq_zero.1 h0 with e | e <;> omega
   subst hn0
   simp at c9
   subst c9
   have hpt : parts = #[] := by
    have : parts.toList = [] := by cases hp : parts.toList with | nil => rfl | cons x y => rw [hp] at c7; simp [chkPartsS] at c7
    simpa using this
   subst hpt
   have hl0 : l = [] := List.eq_nil_of_length_eq_zero (by rw [hll, hrl]; simp)
   subst hl0
   simp [execOp, ho, Instr.buildSlice, run_underlying hu, hsz, Instr.fill, newRow, hrl]
   congr 2
   exact Array.eq_empty_of_size_eq_zero (by simp)
  ·have hz' : (zeroValue T).run P m.w = .ok z m.w := by simp [zeroValue, typeInfo, hi, hz]
   simp only [execOp, ho, Instr.buildSlice, Sem.run_bind, run_underlying hu, Result.andThen_ok, hsz, Sem.run_ite, if_neg hbig, h0, if_false, hz', Sem.run_pure]
   have g1' : Instr.fill (fun i => some (i * size, size)) ((Array.range (n * size)).map (z.cells[· % z.cells.size]!)) ((parts.map fun (i, x) => (i, a.eval x)).toList) = some ⟨l⟩ := by
    rw [Array.toList_map]
    rw [c9] at g1
    exact g1
   simp only [g1', Result.andThen_ok, Sem.run_bind, newRow, run_newObj, Sem.run_pure, hrl]
   rfl
 ·obtain ⟨j, hj⟩ := List.getElem?_of_mem hv
  have hj' := (List.getElem?_eq_some_iff.1 hj).1
  rw [RvL.length g2] at hj'
  obtain ⟨v', e1, e2⟩ := RvL.get g2 j rows.flatten[j] (List.getElem?_eq_getElem hj')
  rw [hj] at e1
  simp at e1
  subst e1
  exact one_rv e2 (List.all_eq_true.1 h1 _ (List.getElem_mem hj'))
 ·rw [hrl]
  have : n * 1 ≤ n * size := Nat.mul_le_mul_left _ (by omega)
  omega
end
section
variable {P : Program} {m : Mem} {env : Env} {a : Act} {o : Oper}
structure Src (P : Program) (m : Mem) (size : Nat) (y : Value) (new : List (List AV)) (news : List Value) : Prop where
 len : ∀ w, (Builtin.lenOf y).run P w = .ok new.length w
 cells : ∀ w : World, (∀ b o, St m b o → w.cell? ⟨b, o, none⟩ = m.w.cell? ⟨b, o, none⟩) → (Builtin.firstCells size new.length y).run P w = .ok ⟨news⟩ w
 rv : RvL m new.flatten news
 one : ∀ v ∈ news, v.oneCell' = true
 n : news.length = new.length * size
 sz : ∀ r ∈ new, r.length = size
theorem RvC.valsSt {m : Mem} : ∀ {az : List AV} {b o : Nat}, RvC m az b o → ∃ l, RvL m az l ∧ (∀ j v, l[j]? = some v → m.w.cell? ⟨b, o + j, none⟩ = some v ∧ v.oneCell' = true ∧ St m b (o + j))
 | [], _, _, _ => ⟨[], by simp [RvL], by simp⟩
 | a :: az, b, o, h => by
  simp only [RvC] at h
  obtain ⟨⟨v, h1, h1', h2, h3⟩, h4⟩ := h
  obtain ⟨l, e1, e2⟩ := RvC.valsSt h4
  refine ⟨v :: l, by simp only [RvL]; exact ⟨v, l, rfl, h3, e1⟩, fun j u hj => ?_⟩
  cases j with
  | zero => simp at hj; subst hj; exact ⟨h1, h1', h2⟩
  | succ j => simp at hj; have := e2 j u hj; rwa [show o + 1 + j = o + (j + 1) by omega] at this
theorem RvR.valsSt {m : Mem} {size : Nat} : ∀ {rs : List (List AV)} {b o : Nat}, RvR m size rs b o → ∃ l, RvL m rs.flatten l ∧ l.length = rs.length * size ∧ (∀ r ∈ rs, r.length = size) ∧ (∀ j v, l[j]? = some v → m.w.cell? ⟨b, o + j, none⟩ = some v ∧ v.oneCell' = true ∧ St m b (o + j))
 | [], _, _, _ => ⟨[], by simp [RvL], by simp, by simp, by simp⟩
 | r :: rs, b, o, h => by
  simp only [RvR] at h
  obtain ⟨h1, h2, h3⟩ := h
  obtain ⟨l, e1, e2⟩ := RvC.valsSt h2
  obtain ⟨l', f1, f2, f4, f3⟩ := RvR.valsSt h3
  have hl : l.length = size := (RvL.length e1).trans h1
  refine ⟨l ++ l', by simpa using RvL.append e1 f1, by rw [List.length_append, f2, hl, List.length_cons, Nat.add_mul]; omega, ?_, fun j u hj => ?_⟩
  ·intro x hx
   rcases List.mem_cons.1 hx with rfl | hx
   ·exact h1
   ·exact f4 x hx
  ·by_cases hj' : j < l.length
   ·rw [List.getElem?_append_left hj'] at hj
    exact e2 j u hj
   ·rw [List.getElem?_append_right (by omega)] at hj
    have := f3 _ u hj
    rwa [show o + size + (j - l.length) = o + j by omega] at this
theorem mem_get {l : List Value} {Q : Value → Prop} (h : ∀ (j : Nat) (v : Value), l[j]? = some v → Q v) : ∀ v ∈ l, Q v := fun v hv => by
 obtain ⟨j, hj⟩ := List.getElem?_of_mem hv
 exact h j v hj
theorem vs_vals {size : Nat} {rows : List (List AV)} {v : Value} (h : Rv m (.vs size rows) v) : ∃ ad cap l, v = .slice ad rows.length cap ∧ rows.length ≤ cap ∧ cap ≤ maxLen ∧ RvL m rows.flatten l ∧ l.length = rows.length * size ∧ (∀ r ∈ rows, r.length = size) ∧ (rows.length = 0 ∨ ∃ b p, ad = some ⟨b, p, none⟩ ∧ ∀ j u, l[j]? = some u → m.w.cell? ⟨b, p + j, none⟩ = some u ∧ u.oneCell' = true ∧ St m b (p + j)) := by
 obtain ⟨ad, cap, e, ⟨h1, h2⟩, h3⟩ := rv_vs h
 rcases h3 with h3 | ⟨b, p, rfl, h3⟩
 ·have : rows = [] := List.eq_nil_of_length_eq_zero h3
  subst this
  exact ⟨ad, cap, [], e, h1, h2, by simp [RvL], by simp, by simp, .inl rfl⟩
 ·obtain ⟨l, g1, g2, g3, g4⟩ := RvR.valsSt h3
  exact ⟨_, cap, l, e, h1, h2, g1, g2, g3, .inr ⟨b, p, rfl, g4⟩⟩
theorem src_vs {size : Nat} {rows : List (List AV)} {v : Value} (h : Rv m (.vs size rows) v) : ∃ news, Src P m size v rows news := by
 obtain ⟨ad, cap, l, rfl, h1, h2, g1, g2, g3, g4⟩ := vs_vals h
 refine ⟨l, ⟨fun w => by simp [Builtin.lenOf], fun w hw => ?_, g1, ?_, g2, g3⟩⟩
 ·rcases g4 with g4 | ⟨b, p, rfl, g4⟩
  ·have : l = [] := List.eq_nil_of_length_eq_zero (by rw [g2, g4]; simp)
   subst this
   rw [g4]
   cases ad with
   | none => simp [Builtin.firstCells]
   | some x => simp [Builtin.firstCells, loadCells, loadCellsFrom]
  ·have := run_loadCells_list (P := P) w ⟨b, p, none⟩ l (fun j u hj => by
    obtain ⟨k1, k2, k3⟩ := g4 j u hj
    rw [addr_add]
    exact (hw b _ k3).trans k1)
   rw [g2] at this
   simp [Builtin.firstCells, this]
 ·rcases g4 with g4 | ⟨b, p, rfl, g4⟩
  ·have : l = [] := List.eq_nil_of_length_eq_zero (by rw [g2, g4]; simp)
   subst this
   simp
  ·exact mem_get fun j v hj => (g4 j v hj).2.1
theorem src_nil {size : Nat} {ad : Option Addr} {cap : Nat} : Src P m size (.slice ad 0 cap) [] [] :=
 ⟨fun w => by simp [Builtin.lenOf], fun w _ => by cases ad <;> simp [Builtin.firstCells, loadCells, loadCellsFrom], by simp [RvL], by simp, by simp, by simp⟩
theorem strRows (s : List UInt8) : RvL m (s.map fun c => [AV.int .u8 c.toNat]).flatten (s.map fun b => Value.int .u8 b.toNat) := by
 induction s with
 | nil => simp [RvL]
 | cons c s ih => simp only [List.map_cons, List.flatten_cons, List.singleton_append, RvL]; exact ⟨_, _, rfl, by simp only [Rv], ih⟩
theorem src_str {s : List UInt8} : Src P m 1 (.string ⟨⟨s⟩⟩) (s.map fun c => [.int .u8 c.toNat]) (s.map fun b => .int .u8 b.toNat) := by
 refine ⟨fun w => ?_, fun w _ => ?_, strRows s, ?_, by simp, ?_⟩
 ·simp only [Builtin.lenOf, Sem.run_pure, List.length_map]; rfl
 ·simp only [Builtin.firstCells, Sem.run_pure]
  congr 1
  rw [bytes_extract]
  simp [List.map_take]
 ·intro v hv
  obtain ⟨b, _, rfl⟩ := List.mem_map.1 hv
  rfl
 ·intro r hr
  obtain ⟨b, _, rfl⟩ := List.mem_map.1 hr
  rfl
structure AppT (P : Program) (t u T : TypeId) (size bytes : Nat) where
 ht : P.underlying t = some (.slice T)
 hu : P.underlying u = some (.slice T) ∨ P.underlying u = some .string
 i : TypeInfo
 hi : P.info? T = some i
 hs : i.size = size
 hb : i.bytes = bytes
 z : Value
 hz : i.zero = some z
 hzs : z.cells.size = size
theorem app_fit {t u T ty : TypeId} {size bytes : Nat} (A : AppT P t u T size bytes) {base : Option Addr} {k cap : Nat} {y : Value} {new : List (List AV)} {news : List Value} (S : Src P m size y new news) (hfit : k + new.length ≤ cap) :
  (Builtin.append_ #[t, u] ty #[.slice base k cap, y]).run P m.w = (match base with
   | some ad => ((storeCells (ad.add (k * size)) news).run P m.w).andThen fun _ w' => .ok (.slice base (k + new.length) cap) w'
   | none => .ok (.slice base (k + new.length) cap) m.w) := by
 have e1 := S.cells m.w (fun _ _ _ => rfl)
 have hsz : ∀ w, (sizeOf T).run P w = .ok size w := fun w => by simp [sizeOf, typeInfo, A.hi, A.hs]
 unfold Builtin.append_
 rcases A.hu with hu | hu
 ·cases base with
  | none => simp [run_underlying A.ht, run_underlying hu, hsz, S.len, hfit, e1]
  | some ad => simp [run_underlying A.ht, run_underlying hu, hsz, S.len, hfit, e1]
 ·cases base with
  | none => simp [run_underlying A.ht, run_underlying hu, hsz, S.len, hfit, e1]
  | some ad => simp [run_underlying A.ht, run_underlying hu, hsz, S.len, hfit, e1]
theorem app_grow' {t u T ty : TypeId} {size bytes : Nat} (A : AppT P t u T size bytes) {base : Option Addr} {k cap : Nat} {y : Value} {new : List (List AV)} {news olds : List Value} (S : Src P m size y new news) (hfit : ¬ k + new.length ≤ cap)
  (e0 : (Builtin.firstCells size k (.slice base k cap)).run P m.w.drew = .ok ⟨olds⟩ m.w.drew) (hcap : cap ≤ maxLen) (hk : k ≤ cap)
  (hb : (k + new.length) * bytes ≤ 140737488355328) (h63 : k + new.length ≤ maxLen) :
  (Builtin.append_ #[t, u] ty #[.slice base k cap, y]).run P m.w = .ok (.slice (some ⟨m.w.heap.size, 0, none⟩) (k + new.length) (grownCap m.w (k + new.length) cap T))
   (m.w.drew.alloc (.cells (⟨olds ++ news⟩ ++ Builtin.zeroCells A.z.cells (grownCap m.w (k + new.length) cap T - (k + new.length))) T)) := by
 have e1 := S.cells m.w.drew (fun _ _ _ => rfl)
 have hsz : ∀ w, (sizeOf T).run P w = .ok size w := fun w => by simp [sizeOf, typeInfo, A.hi, A.hs]
 have hti : ∀ w, (typeInfo T).run P w = .ok A.i w := fun w => by simp [typeInfo, A.hi]
 have hzv : ∀ w, (zeroValue T).run P w = .ok A.z w := fun w => by simp [zeroValue, typeInfo, A.hi, A.hz]
 have h48 : ¬ (281474976710656 < Builtin.nextslicecap (k + new.length) cap * A.i.bytes) := by
  rw [A.hb]
  have := growslice_fits (need := k + new.length) (old := cap) (bytes := bytes) (by omega) hb
  omega
 have h63' : ¬ (9223372036854775807 < ((k : Int) + (new.length : Int))) := by rw [maxLen_eq] at h63; omega
 unfold Builtin.append_
 rcases A.hu with hu | hu
 ·simp [run_underlying A.ht, run_underlying hu, hsz, S.len, hfit, hti, h63', h48, Question.forced, e0, e1, hzv, newRow, grownCap]
  exact congrArg (fun x => m.w.drew.alloc (Obj.cells x T)) (by rw [← Array.append_assoc]; congr 1; simp)
 ·simp [run_underlying A.ht, run_underlying hu, hsz, S.len, hfit, hti, h63', h48, Question.forced, e0, e1, hzv, newRow, grownCap]
  exact congrArg (fun x => m.w.drew.alloc (Obj.cells x T)) (by rw [← Array.append_assoc]; congr 1; simp)
theorem app_grow {t u T ty : TypeId} {size bytes : Nat} (A : AppT P t u T size bytes) {base : Option Addr} {k cap : Nat} {y : Value} {new : List (List AV)} {news olds : List Value} (S : Src P m size y new news) (hfit : ¬ k + new.length ≤ cap)
  (ho : ∀ w : World, (∀ b o, St m b o → w.cell? ⟨b, o, none⟩ = m.w.cell? ⟨b, o, none⟩) → (Builtin.firstCells size k (.slice base k cap)).run P w = .ok ⟨olds⟩ w) (hcap : cap ≤ maxLen) (hk : k ≤ cap)
  (hb : (k + new.length) * bytes ≤ 140737488355328) (h63 : k + new.length ≤ maxLen) :
  (Builtin.append_ #[t, u] ty #[.slice base k cap, y]).run P m.w = .ok (.slice (some ⟨m.w.heap.size, 0, none⟩) (k + new.length) (grownCap m.w (k + new.length) cap T))
   (m.w.drew.alloc (.cells (⟨olds ++ news⟩ ++ Builtin.zeroCells A.z.cells (grownCap m.w (k + new.length) cap T - (k + new.length))) T)) :=
 app_grow' A S hfit (ho m.w.drew fun _ _ _ => rfl) hcap hk hb h63
end
section
variable {P : Program} {m : Mem} {env : Env} {a : Act} {o : Oper}
theorem own_rv {m' : Mem} (rh : RH m') {t size n cap b : Nat} {i : Own} {cur : Array Value} {T : TypeId} {rows : List (List AV)} {l : List Value} (ht : m'.H.tok t = some i) (hL : m'.L t = .slice (some ⟨b, 0, none⟩) n cap) (hn : i.n = rows.length) (hve : i.ver = rows.length) (hs : i.size = size) (hn' : n = rows.length) (hb : m'.w.heap[b]? = some (.cells cur T (0, 0)))
  (hl : RvL m' rows.flatten l) (h1 : ∀ v ∈ l, v.oneCell' = true) (hlen : l.length = rows.length * size) (hsz : ∀ r ∈ rows, r.length = size) (hc : ∀ (j : Nat) (v : Value), l[j]? = some v → cur[j]? = some v) (hcap : n ≤ cap) (hmax : cap ≤ maxLen) : Rv m' (.own t size rows) (m'.L t) := by
 obtain ⟨k1, k2, k3, k4⟩ := rh.tok t i ht
 obtain ⟨q1, q2⟩ := k4 b (by rw [hL]; rfl)
 have hlt : b < m'.w.heap.size := (Array.getElem?_eq_some_iff.1 hb).1
 simp only [Rv]
 refine ⟨⟨some ⟨b, 0, none⟩, n, cap, hL, hn', ⟨hcap, hmax⟩, .inr ⟨b, 0, rfl, RvR.of hsz hl fun j v hj => ⟨?_, h1 v (List.mem_of_getElem? hj), ⟨hlt, q1, fun t' i' ht' hb' => ?_⟩⟩⟩⟩, k1, fun i' hi' => ?_⟩
 ·rw [Nat.zero_add, cell_of_row m'.w b j cur T (0, 0) hb]
  exact hc j v hj
 ·have := q2 t' i' ht' hb'
  subst this
  rw [ht] at ht'
  simp at ht'
  subst ht'
  have := (List.getElem?_eq_some_iff.1 hj).1
  rw [hn, hs]
  omega
 ·rw [ht] at hi'
  simp at hi'
  subst hi'
  exact ⟨by omega, fun _ => ⟨trivial, hs⟩⟩
theorem own_rv_nil {m' : Mem} (rh : RH m') {t size : Nat} {i : Own} {v : Value} (ht : m'.H.tok t = some i) (hL : m'.L t = v) (hv : ∃ ad cap, v = .slice ad 0 cap ∧ cap ≤ maxLen) (hn : i.ver = 0) (hs : i.size = size) : Rv m' (.own t size []) v := by
 obtain ⟨k1, k2, k3, k4⟩ := rh.tok t i ht
 obtain ⟨ad, cap, rfl, hm⟩ := hv
 simp only [Rv]
 refine ⟨⟨ad, 0, cap, rfl, rfl, ⟨by omega, hm⟩, .inl rfl⟩, k1, fun i' hi' => ?_⟩
 rw [ht] at hi'
 simp at hi'
 subst hi'
 exact ⟨by simp, fun _ => ⟨hL, hs⟩⟩
theorem new_tok (rh : RH m) {w' : World} {T size cap : Nat} {cur : Array Value} {rows : List (List AV)} {l : List Value} (h1 : w'.os = m.w.os) (h2 : w'.tape = m.w.tape) (h3 : w'.output = m.w.output) (h4 : m.w.heap.size ≤ w'.heap.size) (h5 : ∀ b, b < m.w.heap.size → w'.heap[b]? = m.w.heap[b]?)
  (hb : w'.heap[m.w.heap.size]? = some (.cells cur T (0, 0))) (hl : RvL m rows.flatten l) (ho : ∀ v ∈ l, v.oneCell' = true) (hlen : l.length = rows.length * size) (hsz : ∀ r ∈ rows, r.length = size) (hc : ∀ (j : Nat) (v : Value), l[j]? = some v → cur[j]? = some v) (hcs : cur.size = cap * size) (hcap : rows.length ≤ cap) (hmax : cap ≤ maxLen) (h0 : size ≠ 0) :
  RH (m.nt w' (.slice (some ⟨m.w.heap.size, 0, none⟩) rows.length cap) (.frz T size (rows.length))) ∧ Ev m (m.nt w' (.slice (some ⟨m.w.heap.size, 0, none⟩) rows.length cap) (.frz T size (rows.length))) ∧
  Rv (m.nt w' (.slice (some ⟨m.w.heap.size, 0, none⟩) rows.length cap) (.frz T size (rows.length))) (.own m.T size rows) (.slice (some ⟨m.w.heap.size, 0, none⟩) rows.length cap) := by
 have hv : ∀ b, (Value.slice (some ⟨m.w.heap.size, 0, none⟩) rows.length cap).ownBlock = some b → m.w.heap.size ≤ b := fun b e => by simp [Value.ownBlock] at e; omega
 have hown : w'.ownsRow 0 T size (.slice (some ⟨m.w.heap.size, 0, none⟩) rows.length cap) rows.length (cur.toList.take (rows.length * size)) := by
  refine ⟨?_, .inr ⟨m.w.heap.size, cap, cur, rfl, Nat.zero_le _, hb, hcap, hmax, hcs, rfl⟩⟩
  have : rows.length * size ≤ cap * size := Nat.mul_le_mul_right _ hcap
  simp; omega
 have r := RH.nt rh (v := .slice (some ⟨m.w.heap.size, 0, none⟩) rows.length cap) (o := (.frz T size (rows.length))) h1 h2 h3 h4 h5 hv h0 ⟨_, hown, fun _ h => by cases h⟩
 have e := Ev.nt rh (v := .slice (some ⟨m.w.heap.size, 0, none⟩) rows.length cap) (o := (.frz T size (rows.length))) h1 h2 h3 h4 h5 hv
 refine ⟨r, e, ?_⟩
 have := own_rv r (t := m.T) (i := (.frz T size (rows.length))) (size := size) (rows := rows) (l := l) (n := rows.length) (cap := cap) (b := m.w.heap.size) (cur := cur) (T := T) (by simp [Mem.nt, AHeap.setT]) (by simp [Mem.nt]) rfl rfl rfl rfl hb (RvL.ev e _ _ hl) ho hlen hsz hc hcap hmax
 simpa [Mem.nt] using this
theorem new_tok_nil (rh : RH m) {T size : Nat} (h0 : size ≠ 0) : RH (m.nt m.w (.slice none 0 0) (.frz T size (0))) ∧ Ev m (m.nt m.w (.slice none 0 0) (.frz T size (0))) ∧ Rv (m.nt m.w (.slice none 0 0) (.frz T size (0))) (.own m.T size []) (.slice none 0 0) := by
 have hv : ∀ b, (Value.slice none 0 0).ownBlock = some b → m.w.heap.size ≤ b := fun b e => by simp [Value.ownBlock] at e
 have r := RH.nt rh (w' := m.w) (v := .slice none 0 0) (o := (.frz T size (0))) rfl rfl rfl (Nat.le_refl _) (fun _ _ => rfl) hv h0 ⟨[], World.ownsRow_nil _ _ _ _, fun _ h => by cases h⟩
 have e := Ev.nt rh (w' := m.w) (v := .slice none 0 0) (o := (.frz T size (0))) rfl rfl rfl (Nat.le_refl _) (fun _ _ => rfl) hv
 exact ⟨r, e, own_rv_nil r (i := (.frz T size (0))) (by simp [Mem.nt, AHeap.setT]) (by simp [Mem.nt]) ⟨none, 0, rfl, Nat.zero_le _⟩ rfl rfl⟩
theorem zeroCells_size (z : Array Value) (n : Nat) : (Builtin.zeroCells z n).size = n * z.size := by simp [Builtin.zeroCells]
theorem heap_drew_alloc (w : World) (ob : Obj) (b : Nat) (h : b < w.heap.size) : (w.drew.alloc ob).heap[b]? = w.heap[b]? := hpold w.drew ob b h
theorem heap_drew_new (w : World) (ob : Obj) : (w.drew.alloc ob).heap[w.heap.size]? = some ob := hpnew w.drew ob
theorem app_nil {t u T ty : TypeId} {size bytes : Nat} (A : AppT P t u T size bytes) (rh : RH m) {y : Value} {new : List (List AV)} {news : List Value} (S : Src P m size y new news) (hb : new.length * bytes ≤ 140737488355328) (hmax : new.length ≤ maxLen) (h0 : size ≠ 0) :
  ∃ m' v, (Builtin.append_ #[t, u] ty #[.slice none 0 0, y]).run P m.w = .ok v m'.w ∧ RH m' ∧ Ev m m' ∧ m'.H = m.H.setT m.T (.frz T size (new.length)) ∧ Rv m' (.own m.T size new) v := by
 by_cases hn : new.length = 0
 ·have : new = [] := List.eq_nil_of_length_eq_zero hn
  subst this
  have hr := app_fit (ty := ty) A (base := none) (k := 0) (cap := 0) S (by simp)
  obtain ⟨r, e, v⟩ := new_tok_nil rh (T := T) h0
  exact ⟨m.nt m.w (.slice none 0 0) (.frz T size (0)), _, hr, r, e, rfl, v⟩
 ·have hr := app_grow (ty := ty) A (base := none) (k := 0) (cap := 0) (olds := []) S (by omega) (fun w _ => by simp [Builtin.firstCells]) (Nat.zero_le _) (Nat.le_refl _) (by simpa using hb) (by simpa using hmax)
  simp only [Nat.zero_add, List.nil_append] at hr
  have hge := grownCap_ge m.w new.length 0 T
  have hle := grownCap_le_maxLen m.w new.length 0 T hmax
  obtain ⟨r, e, v⟩ := new_tok rh (T := T) (size := size) (cap := grownCap m.w new.length 0 T) (rows := new) (l := news) (w' := m.w.drew.alloc (.cells (⟨news⟩ ++ Builtin.zeroCells A.z.cells (grownCap m.w new.length 0 T - new.length)) T)) rfl rfl rfl (by simp) (heap_drew_alloc _ _) (heap_drew_new _ _) S.rv S.one S.n S.sz
   (fun j v hj => by
    rw [Array.getElem?_append]
    have := (List.getElem?_eq_some_iff.1 hj).1
    simp only [List.size_toArray]
    rw [if_pos this]
    simpa using hj)
   (by
    simp only [Array.size_append, List.size_toArray, zeroCells_size, A.hzs, S.n, ← Nat.add_mul]
    congr 1
    omega) hge hle h0
  exact ⟨_, _, hr, r, e, rfl, v⟩
theorem app_own {t u T ty : TypeId} {size bytes : Nat} (A : AppT P t u T size bytes) (rh : RH m) {τ : Nat} {rows : List (List AV)} {v0 : Value} (hv0 : Rv m (.own τ size rows) v0) (ht : m.H.tok τ = some (.frz T size (rows.length))) {y : Value} {new : List (List AV)} {news : List Value} (S : Src P m size y new news) (hb : (rows.length + new.length) * bytes ≤ 140737488355328) (hmax : rows.length + new.length ≤ maxLen) :
  ∃ m' v, (Builtin.append_ #[t, u] ty #[v0, y]).run P m.w = .ok v m'.w ∧ RH m' ∧ Ev m m' ∧ m'.H = m.H.setT τ (.frz T size (rows.length + new.length)) ∧ Rv m' (.own τ size (rows ++ new)) v := by
 obtain ⟨k1, k2, ⟨xs, k3, _⟩, k4⟩ := rh.tok τ _ ht
 have hL : m.L τ = v0 := by
  simp only [Rv] at hv0
  exact ((hv0.2.2 _ ht).2 rfl).1
 obtain ⟨ad, cap, l, rfl, hcap, hcm, g1, g2, g3, g4⟩ := vs_vals (rv_own hv0)
 have hflat : RvL m (rows ++ new).flatten (l ++ news) := by rw [List.flatten_append]; exact RvL.append g1 S.rv
 have hone : ∀ v ∈ l ++ news, v.oneCell' = true := fun v hv => by
  rcases List.mem_append.1 hv with hv | hv
  ·rcases g4 with g4 | ⟨b, p, rfl, g4⟩
   ·have : l = [] := List.eq_nil_of_length_eq_zero (by rw [g2, g4]; simp)
    subst this
    cases hv
   ·exact mem_get (Q := fun v => v.oneCell' = true) (fun j v hj => (g4 j v hj).2.1) v hv
  ·exact S.one v hv
 have hlen : (l ++ news).length = (rows ++ new).length * size := by rw [List.length_append, g2, S.n, List.length_append, Nat.add_mul]
 have hsz : ∀ r ∈ rows ++ new, r.length = size := fun r hr => by
  rcases List.mem_append.1 hr with hr | hr
  ·exact g3 r hr
  ·exact S.sz r hr
 -- where the row lies
 have hown := k3.2
 rw [hL] at hown
 simp only [Own.frz, Own.len] at hown
 have olds : ∀ w : World, (∀ b o, St m b o → w.cell? ⟨b, o, none⟩ = m.w.cell? ⟨b, o, none⟩) → (Builtin.firstCells size rows.length (.slice ad rows.length cap)).run P w = .ok ⟨l⟩ w := by
  intro w hw
  rcases g4 with g4 | ⟨b, p, rfl, g4⟩
  ·have : l = [] := List.eq_nil_of_length_eq_zero (by rw [g2, g4]; simp)
   subst this
   rw [g4]
   cases ad with
   | none => simp [Builtin.firstCells]
   | some x => simp [Builtin.firstCells, loadCells, loadCellsFrom]
  ·have := run_loadCells_list (P := P) w ⟨b, p, none⟩ l (fun j u hj => by
    obtain ⟨k1, k2, k3⟩ := g4 j u hj
    rw [addr_add]
    exact (hw b _ k3).trans k1)
   rw [g2] at this
   simp [Builtin.firstCells, this]
 by_cases hfit : rows.length + new.length ≤ cap
 ·have hr := app_fit (ty := ty) A (base := ad) (k := rows.length) (cap := cap) S hfit
  rcases hown with ⟨hn1, hn2⟩ | ⟨g, cap', cur, hn1, _, hg, hnc, hcm', hcs, htake⟩
  ·-- nil
   simp only [Value.slice.injEq] at hn1
   obtain ⟨rfl, hn3, rfl⟩ := hn1
   have hnew : new = [] := List.eq_nil_of_length_eq_zero (by omega)
   subst hnew
   have gr : Grows m m.w τ (.frz T size (rows.length)) (m.L τ) (.frz T size (rows.length + 0)) := ⟨⟨rfl, rfl, rfl, Nat.le_refl _, fun _ _ _ => rfl, fun _ _ _ _ => rfl, fun k hk => .inl hk, Nat.le_refl _, rfl, rfl, Nat.le_refl _, fun _ => rfl⟩, ⟨xs, k3, fun _ h => by cases h⟩⟩
   refine ⟨m.gt m.w τ (m.L τ) (.frz T size (rows.length + 0)), _, hr, RH.gt rh ht gr, Ev.gt rh ht gr.toGrows0, rfl, ?_⟩
   have := Rv.ev (Ev.gt rh ht gr.toGrows0) _ _ hv0
   simpa using this
  ·-- in its block
   simp only [Value.slice.injEq] at hn1
   obtain ⟨rfl, _, rfl⟩ := hn1
   have hgl : (m.L τ).ownBlock = some g := by rw [hL]; rfl
   have hst := run_storeCells_at P g (rows.length * size) T news 0 cur m.w hg (by
    rw [S.n, hcs, Nat.add_zero, ← Nat.add_mul]
    exact Nat.mul_le_mul_right _ hfit) S.one
   simp only [Nat.add_zero] at hst
   have hr' : (Builtin.append_ #[t, u] ty #[.slice (some ⟨g, 0, none⟩) rows.length cap, y]).run P m.w = .ok (.slice (some ⟨g, 0, none⟩) (rows.length + new.length) cap) (m.w.setRow g (cur.toList.take (rows.length * size) ++ news ++ cur.toList.drop (rows.length * size + news.length)).toArray) := by
    rw [hr]
    simp only [addr_add, Nat.zero_add, hst, Result.andThen_ok]
   generalize hcur' : (cur.toList.take (rows.length * size) ++ news ++ cur.toList.drop (rows.length * size + news.length)).toArray = cur' at hr'
   have hheap := setRow_heap m.w g cur cur' T (0, 0) hg
   have hle : rows.length * size ≤ cur.size := by rw [hcs]; exact Nat.mul_le_mul_right _ hcap
   have hle2 : rows.length * size + news.length ≤ cur.size := by
    rw [S.n, hcs, ← Nat.add_mul]
    exact Nat.mul_le_mul_right _ hfit
   have hsz' : cur'.size = cap * size := by
    rw [← hcur', ← hcs]
    simp
    omega
   have hpre : ∀ (j : Nat), j < rows.length * size → cur'[j]? = cur[j]? := by
    intro j hj
    rw [← hcur']
    simp only [List.getElem?_toArray, List.append_assoc]
    rw [List.getElem?_append_left (by simp; omega), List.getElem?_take, if_pos hj]
    simp
   have hpost : ∀ (j : Nat) (v : Value), (l ++ news)[j]? = some v → cur'[j]? = some v := by
    intro j v hj
    by_cases hjl : j < l.length
    ·rw [List.getElem?_append_left hjl] at hj
     rw [hpre j (by omega)]
     rcases g4 with g4 | ⟨b, p, hbp, g4⟩
     ·have : l.length = 0 := by rw [g2, g4]; simp
      omega
     ·simp at hbp
      obtain ⟨rfl, rfl⟩ := hbp
      have := (g4 j v hj).1
      rw [Nat.zero_add, cell_of_row m.w g j cur T (0, 0) hg] at this
      exact this
    ·rw [List.getElem?_append_right (by omega)] at hj
     rw [← hcur']
     simp only [List.getElem?_toArray, List.append_assoc]
     have htl : (cur.toList.take (rows.length * size)).length = rows.length * size := by simp; omega
     have hjn := (List.getElem?_eq_some_iff.1 hj).1
     rw [List.getElem?_append_right (by omega), htl, List.getElem?_append_left (by omega), ← g2]
     exact hj
   have gr : Grows m (m.w.setRow g cur') τ (.frz T size (rows.length)) (.slice (some ⟨g, 0, none⟩) (rows.length + new.length) cap) (.frz T size (rows.length + new.length)) := by
    refine ⟨⟨rfl, rfl, rfl, by simp, fun k hk hne => setRow_other m.w g k cur' (fun e => hne (by rw [hgl, e])), fun k c hk hc => ?_, fun k hk => .inl ?_, Nat.le_add_right _ _, rfl, rfl, Nat.le_add_right _ _, fun e => ?_⟩, ?_⟩
    ·rw [hgl] at hk
     simp at hk
     subst hk
     rw [cell_of_row _ g c cur' T (0, 0) hheap, cell_of_row m.w g c cur T (0, 0) hg]
     exact hpre c hc
    ·rw [hgl]
     simpa [Value.ownBlock] using hk
    ·rw [hL]
     have : new.length = 0 := by simpa [Own.frz] using e
     simp [this]
    ·refine ⟨cur'.toList.take ((rows.length + new.length) * size), ⟨?_, .inr ⟨g, cap, cur', rfl, Nat.zero_le _, hheap, hfit, hcm, hsz', rfl⟩⟩, fun _ h => by cases h⟩
     have : (rows.length + new.length) * size ≤ cap * size := Nat.mul_le_mul_right _ hfit
     simp [Own.frz, Own.len]
     omega
   refine ⟨m.gt (m.w.setRow g cur') τ (.slice (some ⟨g, 0, none⟩) (rows.length + new.length) cap) (.frz T size (rows.length + new.length)), _, hr', RH.gt rh ht gr, Ev.gt rh ht gr.toGrows0, rfl, ?_⟩
   have := own_rv (RH.gt rh ht gr) (t := τ) (i := (.frz T size (rows.length + new.length))) (size := size) (rows := rows ++ new) (l := l ++ news) (n := rows.length + new.length) (cap := cap) (b := g) (cur := cur') (T := T) (by simp [Mem.gt, AHeap.setT]) (by simp [Mem.gt]) (by simp [Own.frz]) (by simp [Own.frz]) rfl (by simp) hheap (RvL.ev (Ev.gt rh ht gr.toGrows0) _ _ hflat) hone hlen hsz hpost hfit hcm
   simpa [Mem.gt] using this
 ·-- into a new block
  have hr := app_grow (ty := ty) A (base := ad) (k := rows.length) (cap := cap) (olds := l) S hfit olds hcm hcap hb hmax
  have hge := grownCap_ge m.w (rows.length + new.length) cap T
  have hle := grownCap_le_maxLen m.w (rows.length + new.length) cap T hmax
  generalize hcur' : (⟨l ++ news⟩ ++ Builtin.zeroCells A.z.cells (grownCap m.w (rows.length + new.length) cap T - (rows.length + new.length)) : Array Value) = cur' at hr
  have hsz' : cur'.size = grownCap m.w (rows.length + new.length) cap T * size := by
   rw [← hcur']
   have : (l ++ news).length = (rows.length + new.length) * size := by rw [hlen, List.length_append]
   simp only [Array.size_append, List.size_toArray, zeroCells_size, A.hzs, this, ← Nat.add_mul]
   congr 1
   omega
  have hpost : ∀ (j : Nat) (v : Value), (l ++ news)[j]? = some v → cur'[j]? = some v := by
   intro j v hj
   rw [← hcur', Array.getElem?_append]
   have := (List.getElem?_eq_some_iff.1 hj).1
   simp only [List.size_toArray]
   rw [if_pos this]
   simpa using hj
  have gr : Grows m (m.w.drew.alloc (.cells cur' T)) τ (.frz T size (rows.length)) (.slice (some ⟨m.w.heap.size, 0, none⟩) (rows.length + new.length) (grownCap m.w (rows.length + new.length) cap T)) (.frz T size (rows.length + new.length)) := by
   refine ⟨⟨rfl, rfl, rfl, by simp, fun k hk _ => heap_drew_alloc _ _ _ hk, fun k c hk _ => World.cell?_of_block (a := ⟨k, c, none⟩) (heap_drew_alloc _ _ _ (tok_lt rh ht hk)), fun k hk => .inr ?_, Nat.le_add_right _ _, rfl, rfl, Nat.le_add_right _ _, fun e => ?_⟩, ?_⟩
   ·simp [Value.ownBlock] at hk
    omega
   ·have : new.length = 0 := by simpa [Own.frz] using e
    omega
   ·refine ⟨cur'.toList.take ((rows.length + new.length) * size), ⟨?_, .inr ⟨m.w.heap.size, _, cur', rfl, Nat.zero_le _, heap_drew_new _ _, hge, hle, hsz', rfl⟩⟩, fun _ h => by cases h⟩
    have : (rows.length + new.length) * size ≤ grownCap m.w (rows.length + new.length) cap T * size := Nat.mul_le_mul_right _ hge
    simp [Own.frz, Own.len]
    omega
  refine ⟨m.gt (m.w.drew.alloc (.cells cur' T)) τ (.slice (some ⟨m.w.heap.size, 0, none⟩) (rows.length + new.length) (grownCap m.w (rows.length + new.length) cap T)) (.frz T size (rows.length + new.length)), _, hr, RH.gt rh ht gr, Ev.gt rh ht gr.toGrows0, rfl, ?_⟩
  have := own_rv (RH.gt rh ht gr) (t := τ) (i := (.frz T size (rows.length + new.length))) (size := size) (rows := rows ++ new) (l := l ++ news) (n := rows.length + new.length) (cap := grownCap m.w (rows.length + new.length) cap T) (b := m.w.heap.size) (cur := cur') (T := T) (by simp [Mem.gt, AHeap.setT]) (by simp [Mem.gt]) (by simp [Own.frz]) (by simp [Own.frz]) rfl (by simp) (heap_drew_new _ _) (RvL.ev (Ev.gt rh ht gr.toGrows0) _ _ hflat) hone hlen hsz hpost hge hle
  simpa [Mem.gt] using this
end
section
variable {P : Program} {m : Mem} {env : Env} {a : Act} {o : Oper}
theorem ms_get (rh : RH m) {t ver T size : Nat} {rows : List (List AV)} {v : Value} (ht : m.H.tok t = some (.mu T size ver rows)) (hv : Rv m (.ms t ver) v) :
  m.L t = v ∧ size ≠ 0 ∧ (∀ r ∈ rows, r.length = size) ∧ ((v = .slice none 0 0 ∧ rows = []) ∨ ∃ g cap cur, v = .slice (some ⟨g, 0, none⟩) rows.length cap ∧ m.w.heap[g]? = some (.cells cur T (0, 0)) ∧ rows.length ≤ cap ∧ cap ≤ maxLen ∧ cur.size = cap * size ∧ RvL m rows.flatten (cur.toList.take (rows.length * size)) ∧ ∀ u ∈ cur.toList.take (rows.length * size), u.oneCell' = true) := by
 simp only [Rv] at hv
 have hL : m.L t = v := (hv.2.2 _ ht).2 rfl
 obtain ⟨k1, k2, ⟨xs, k3, k5⟩, k4⟩ := rh.tok t _ ht
 obtain ⟨k5, k6, k7⟩ := k5 rows rfl
 refine ⟨hL, k2, k6, ?_⟩
 rw [hL] at k3
 obtain ⟨k8, k3⟩ := k3
 simp only [Own.mu, Own.len] at k3 k8
 rcases k3 with ⟨e1, e2⟩ | ⟨g, cap, cur, e1, _, e2, e3, e4, e5, e6⟩
 ·exact .inl ⟨e1, List.eq_nil_of_length_eq_zero e2⟩
 ·subst e6
  exact .inr ⟨g, cap, cur, e1, e2, e3, e4, e5, k5, k7⟩
theorem ms_rv {m' : Mem} {t ver T size : Nat} {rows : List (List AV)} {v : Value} (rh : RH m') (ht : m'.H.tok t = some (.mu T size ver rows)) (hL : m'.L t = v) (hv : v.oneCell' = true) : Rv m' (.ms t ver) v := by
 simp only [Rv]
 refine ⟨hv, (rh.tok t _ ht).1, fun i hi => ?_⟩
 rw [ht] at hi
 simp at hi
 subst hi
 exact ⟨Nat.le_refl _, fun _ => hL⟩
theorem new_ms (rh : RH m) {w' : World} {T size cap : Nat} {cur : Array Value} {rows : List (List AV)} (h1 : w'.os = m.w.os) (h2 : w'.tape = m.w.tape) (h3 : w'.output = m.w.output) (h4 : m.w.heap.size ≤ w'.heap.size) (h5 : ∀ b, b < m.w.heap.size → w'.heap[b]? = m.w.heap[b]?)
  (hb : w'.heap[m.w.heap.size]? = some (.cells cur T (0, 0))) (hl : RvL m rows.flatten (cur.toList.take (rows.length * size))) (ho : ∀ v ∈ cur.toList.take (rows.length * size), v.oneCell' = true) (hsz : ∀ r ∈ rows, r.length = size) (hcs : cur.size = cap * size) (hcap : rows.length ≤ cap) (hmax : cap ≤ maxLen) (h0 : size ≠ 0) :
  RH (m.nt w' (.slice (some ⟨m.w.heap.size, 0, none⟩) rows.length cap) (.mu T size 0 rows)) ∧ Ev m (m.nt w' (.slice (some ⟨m.w.heap.size, 0, none⟩) rows.length cap) (.mu T size 0 rows)) ∧
  Rv (m.nt w' (.slice (some ⟨m.w.heap.size, 0, none⟩) rows.length cap) (.mu T size 0 rows)) (.ms m.T 0) (.slice (some ⟨m.w.heap.size, 0, none⟩) rows.length cap) := by
 have hv : ∀ b, (Value.slice (some ⟨m.w.heap.size, 0, none⟩) rows.length cap).ownBlock = some b → m.w.heap.size ≤ b := fun b e => by simp [Value.ownBlock] at e; omega
 have e := Ev.nt rh (v := .slice (some ⟨m.w.heap.size, 0, none⟩) rows.length cap) (o := .mu T size 0 rows) h1 h2 h3 h4 h5 hv
 have hown : w'.ownsRow 0 T size (.slice (some ⟨m.w.heap.size, 0, none⟩) rows.length cap) rows.length (cur.toList.take (rows.length * size)) := by
  refine ⟨?_, .inr ⟨m.w.heap.size, cap, cur, rfl, Nat.zero_le _, hb, hcap, hmax, hcs, rfl⟩⟩
  have : rows.length * size ≤ cap * size := Nat.mul_le_mul_right _ hcap
  simp; omega
 have r := RH.nt rh (v := .slice (some ⟨m.w.heap.size, 0, none⟩) rows.length cap) (o := .mu T size 0 rows) h1 h2 h3 h4 h5 hv h0 ⟨_, hown, fun rows' h => by cases h; exact ⟨RvL.ev e _ _ hl, hsz, ho⟩⟩
 exact ⟨r, e, ms_rv r (T := T) (size := size) (rows := rows) (by simp [Mem.nt, AHeap.setT]) (by simp [Mem.nt]) rfl⟩
theorem new_ms_nil (rh : RH m) {T size : Nat} (h0 : size ≠ 0) : RH (m.nt m.w (.slice none 0 0) (.mu T size 0 [])) ∧ Ev m (m.nt m.w (.slice none 0 0) (.mu T size 0 [])) ∧ Rv (m.nt m.w (.slice none 0 0) (.mu T size 0 [])) (.ms m.T 0) (.slice none 0 0) := by
 have hv : ∀ b, (Value.slice none 0 0).ownBlock = some b → m.w.heap.size ≤ b := fun b e => by simp [Value.ownBlock] at e
 have e := Ev.nt rh (w' := m.w) (v := .slice none 0 0) (o := .mu T size 0 []) rfl rfl rfl (Nat.le_refl _) (fun _ _ => rfl) hv
 have r := RH.nt rh (w' := m.w) (v := .slice none 0 0) (o := .mu T size 0 []) rfl rfl rfl (Nat.le_refl _) (fun _ _ => rfl) hv h0 ⟨[], World.ownsRow_nil _ _ _ _, fun rows' h => by cases h; exact ⟨by simp [RvL], by simp, by simp⟩⟩
 exact ⟨r, e, ms_rv r (T := T) (size := size) (rows := []) (by simp [Mem.nt, AHeap.setT]) (by simp [Mem.nt]) rfl⟩
theorem app_ms0 {t u T ty : TypeId} {size bytes : Nat} (A : AppT P t u T size bytes) (rh : RH m) {y : Value} {new : List (List AV)} {news : List Value} (S : Src P m size y new news) (hb : new.length * bytes ≤ 140737488355328) (hmax : new.length ≤ maxLen) (h0 : size ≠ 0) :
  ∃ m' v, (Builtin.append_ #[t, u] ty #[.slice none 0 0, y]).run P m.w = .ok v m'.w ∧ RH m' ∧ Ev m m' ∧ m'.H = m.H.setT m.T (.mu T size 0 new) ∧ Rv m' (.ms m.T 0) v := by
 by_cases hn : new.length = 0
 ·have : new = [] := List.eq_nil_of_length_eq_zero hn
  subst this
  have hr := app_fit (ty := ty) A (base := none) (k := 0) (cap := 0) S (by simp)
  obtain ⟨r, e, v⟩ := new_ms_nil rh (T := T) h0
  exact ⟨m.nt m.w (.slice none 0 0) (.mu T size 0 []), _, hr, r, e, rfl, v⟩
 ·have hr := app_grow (ty := ty) A (base := none) (k := 0) (cap := 0) (olds := []) S (by omega) (fun w _ => by simp [Builtin.firstCells]) (Nat.zero_le _) (Nat.le_refl _) (by simpa using hb) (by simpa using hmax)
  simp only [Nat.zero_add, List.nil_append] at hr
  have hge := grownCap_ge m.w new.length 0 T
  have hle := grownCap_le_maxLen m.w new.length 0 T hmax
  have htk : (⟨news⟩ ++ Builtin.zeroCells A.z.cells (grownCap m.w new.length 0 T - new.length) : Array Value).toList.take (new.length * size) = news := by
   simp only [Array.toList_append]
   rw [← S.n, List.take_left]
  obtain ⟨r, e, v⟩ := new_ms rh (T := T) (size := size) (cap := grownCap m.w new.length 0 T) (rows := new) (cur := ⟨news⟩ ++ Builtin.zeroCells A.z.cells (grownCap m.w new.length 0 T - new.length)) (w' := m.w.drew.alloc (.cells (⟨news⟩ ++ Builtin.zeroCells A.z.cells (grownCap m.w new.length 0 T - new.length)) T)) rfl rfl rfl (by simp) (heap_drew_alloc _ _) (heap_drew_new _ _) (by rw [htk]; exact S.rv) (by rw [htk]; exact S.one) S.sz
   (by
    simp only [Array.size_append, List.size_toArray, zeroCells_size, A.hzs, S.n, ← Nat.add_mul]
    congr 1
    omega) hge hle h0
  exact ⟨_, _, hr, r, e, rfl, v⟩
theorem app_ms {t u T ty : TypeId} {size bytes : Nat} (A : AppT P t u T size bytes) (rh : RH m) {τ ver : Nat} {rows : List (List AV)} {v0 : Value} (hv0 : Rv m (.ms τ ver) v0) (ht : m.H.tok τ = some (.mu T size ver rows)) {y : Value} {new : List (List AV)} {news : List Value} (S : Src P m size y new news) (hb : (rows.length + new.length) * bytes ≤ 140737488355328) (hmax : rows.length + new.length ≤ maxLen) :
  ∃ m' v, (Builtin.append_ #[t, u] ty #[v0, y]).run P m.w = .ok v m'.w ∧ RH m' ∧ Ev m m' ∧ m'.H = m.H.setT τ (.mu T size (ver + 1) (rows ++ new)) ∧ Rv m' (.ms τ (ver + 1)) v := by
 obtain ⟨hL, h0, hs, hcase⟩ := ms_get rh ht hv0
 have hsz : ∀ r ∈ rows ++ new, r.length = size := fun r hr => by
  rcases List.mem_append.1 hr with hr | hr
  ·exact hs r hr
  ·exact S.sz r hr
 rcases hcase with ⟨rfl, rfl⟩ | ⟨g, cap, cur, rfl, hg, hcap, hcm, hcs, hrv, hone⟩
 ·-- nil
  simp only [List.length_nil, Nat.zero_add] at hb hmax
  by_cases hn : new.length = 0
  ·have : new = [] := List.eq_nil_of_length_eq_zero hn
   subst this
   have hr := app_fit (ty := ty) A (base := none) (k := 0) (cap := 0) S (by simp)
   have g0 : Grows0 m m.w τ (.mu T size ver []) (.slice none 0 0) (.mu T size (ver + 1) []) := ⟨rfl, rfl, rfl, Nat.le_refl _, fun _ _ _ => rfl, fun _ _ _ _ => rfl, fun k hk => by simp [Value.ownBlock] at hk, Nat.le_refl _, rfl, rfl, Nat.le_succ _, fun e => by simp [Own.mu] at e⟩
   have gr : Grows m m.w τ (.mu T size ver []) (.slice none 0 0) (.mu T size (ver + 1) []) := ⟨g0, [], World.ownsRow_nil _ _ _ _, fun rows' h => by cases h; exact ⟨by simp [RvL], by simp, by simp⟩⟩
   have r := RH.gt rh ht gr
   exact ⟨m.gt m.w τ (.slice none 0 0) (.mu T size (ver + 1) []), _, hr, r, Ev.gt rh ht g0, rfl, ms_rv r (T := T) (size := size) (rows := []) (by simp [Mem.gt, AHeap.setT]) (by simp [Mem.gt]) rfl⟩
  ·have hr := app_grow (ty := ty) A (base := none) (k := 0) (cap := 0) (olds := []) S (by omega) (fun w _ => by simp [Builtin.firstCells]) (Nat.zero_le _) (Nat.le_refl _) (by simpa using hb) (by simpa using hmax)
   simp only [Nat.zero_add, List.nil_append] at hr
   have hge := grownCap_ge m.w new.length 0 T
   have hle := grownCap_le_maxLen m.w new.length 0 T hmax
   generalize hcur' : (⟨news⟩ ++ Builtin.zeroCells A.z.cells (grownCap m.w new.length 0 T - new.length) : Array Value) = cur' at hr
   have htk : cur'.toList.take (new.length * size) = news := by
    rw [← hcur']
    simp only [Array.toList_append]
    rw [← S.n, List.take_left]
   have hsz' : cur'.size = grownCap m.w new.length 0 T * size := by
    rw [← hcur']
    simp only [Array.size_append, List.size_toArray, zeroCells_size, A.hzs, S.n, ← Nat.add_mul]
    congr 1
    omega
   have g0 : Grows0 m (m.w.drew.alloc (.cells cur' T)) τ (.mu T size ver []) (.slice (some ⟨m.w.heap.size, 0, none⟩) new.length (grownCap m.w new.length 0 T)) (.mu T size (ver + 1) new) :=
    ⟨rfl, rfl, rfl, by simp, fun k hk _ => heap_drew_alloc _ _ _ hk, fun k c hk _ => World.cell?_of_block (a := ⟨k, c, none⟩) (heap_drew_alloc _ _ _ (tok_lt rh ht hk)), fun k hk => .inr (by simp [Value.ownBlock] at hk; omega), Nat.le_refl _, rfl, rfl, Nat.le_succ _, fun e => by simp [Own.mu] at e⟩
   have ev := Ev.gt rh ht g0
   have gr : Grows m (m.w.drew.alloc (.cells cur' T)) τ (.mu T size ver []) (.slice (some ⟨m.w.heap.size, 0, none⟩) new.length (grownCap m.w new.length 0 T)) (.mu T size (ver + 1) new) :=
    ⟨g0, news, ⟨S.n, .inr ⟨m.w.heap.size, _, cur', rfl, Nat.zero_le _, heap_drew_new _ _, hge, hle, hsz', htk⟩⟩, fun rows' h => by cases h; exact ⟨RvL.ev ev _ _ S.rv, S.sz, S.one⟩⟩
   have r := RH.gt rh ht gr
   exact ⟨m.gt (m.w.drew.alloc (.cells cur' T)) τ (.slice (some ⟨m.w.heap.size, 0, none⟩) new.length (grownCap m.w new.length 0 T)) (.mu T size (ver + 1) new), _, hr, r, ev, by simp [Mem.gt], ms_rv r (T := T) (size := size) (rows := new) (by simp [Mem.gt, AHeap.setT]) (by simp [Mem.gt]) rfl⟩
 ·have hle0 : rows.length * size ≤ cur.size := by rw [hcs]; exact Nat.mul_le_mul_right _ hcap
  generalize hl : cur.toList.take (rows.length * size) = l at hrv hone
  have hll : l.length = rows.length * size := by rw [← hl]; simp; omega
  have hlc : ∀ (j : Nat) (u : Value), l[j]? = some u → m.w.cell? ⟨g, j, none⟩ = some u := by
   intro j u hj
   rw [cell_of_row m.w g j cur T (0, 0) hg]
   rw [← hl, List.getElem?_take] at hj
   split at hj
   ·simpa using hj
   ·cases hj
  have hflat : RvL m (rows ++ new).flatten (l ++ news) := by rw [List.flatten_append]; exact RvL.append hrv S.rv
  have hone' : ∀ v ∈ l ++ news, v.oneCell' = true := fun v hv => by
   rcases List.mem_append.1 hv with hv | hv
   ·exact hone v hv
   ·exact S.one v hv
  have hlen : (l ++ news).length = (rows ++ new).length * size := by rw [List.length_append, hll, S.n, List.length_append, Nat.add_mul]
  have hgl : (m.L τ).ownBlock = some g := by rw [hL]; rfl
  by_cases hfit : rows.length + new.length ≤ cap
  ·have hr := app_fit (ty := ty) A (base := some ⟨g, 0, none⟩) (k := rows.length) (cap := cap) S hfit
   have hst := run_storeCells_at P g (rows.length * size) T news 0 cur m.w hg (by
    rw [S.n, hcs, Nat.add_zero, ← Nat.add_mul]
    exact Nat.mul_le_mul_right _ hfit) S.one
   simp only [Nat.add_zero] at hst
   have hr' : (Builtin.append_ #[t, u] ty #[.slice (some ⟨g, 0, none⟩) rows.length cap, y]).run P m.w = .ok (.slice (some ⟨g, 0, none⟩) (rows.length + new.length) cap) (m.w.setRow g (cur.toList.take (rows.length * size) ++ news ++ cur.toList.drop (rows.length * size + news.length)).toArray) := by
    rw [hr]
    simp only [addr_add, Nat.zero_add, hst, Result.andThen_ok]
   rw [hl] at hr'
   generalize hcur' : (l ++ news ++ cur.toList.drop (rows.length * size + news.length)).toArray = cur' at hr'
   have hheap := setRow_heap m.w g cur cur' T (0, 0) hg
   have hle2 : rows.length * size + news.length ≤ cur.size := by
    rw [S.n, hcs, ← Nat.add_mul]
    exact Nat.mul_le_mul_right _ hfit
   have hsz' : cur'.size = cap * size := by
    rw [← hcur', ← hcs]
    simp
    omega
   have htk : cur'.toList.take ((rows ++ new).length * size) = l ++ news := by
    rw [← hcur', ← hlen]
    simp only [List.toList_toArray]
    rw [List.take_left]
   have g0 : Grows0 m (m.w.setRow g cur') τ (.mu T size ver rows) (.slice (some ⟨g, 0, none⟩) (rows.length + new.length) cap) (.mu T size (ver + 1) (rows ++ new)) :=
    ⟨rfl, rfl, rfl, by simp, fun k hk hne => setRow_other m.w g k cur' (fun e => hne (by rw [hgl, e])), fun k c hk hc => by simp [Own.mu] at hc, fun k hk => .inl (by rw [hgl]; simpa [Value.ownBlock] using hk), Nat.le_refl _, rfl, rfl, Nat.le_succ _, fun e => by simp [Own.mu] at e⟩
   have ev := Ev.gt rh ht g0
   have gr : Grows m (m.w.setRow g cur') τ (.mu T size ver rows) (.slice (some ⟨g, 0, none⟩) (rows.length + new.length) cap) (.mu T size (ver + 1) (rows ++ new)) :=
    ⟨g0, l ++ news, ⟨hlen, .inr ⟨g, cap, cur', by simp [Own.mu, Own.len], Nat.zero_le _, hheap, by simpa [Own.mu, Own.len] using hfit, hcm, hsz', htk⟩⟩, fun rows' h => by cases h; exact ⟨RvL.ev ev _ _ hflat, hsz, hone'⟩⟩
   have r := RH.gt rh ht gr
   exact ⟨m.gt (m.w.setRow g cur') τ (.slice (some ⟨g, 0, none⟩) (rows.length + new.length) cap) (.mu T size (ver + 1) (rows ++ new)), _, hr', r, ev, rfl, ms_rv r (T := T) (size := size) (rows := rows ++ new) (by simp [Mem.gt, AHeap.setT]) (by simp [Mem.gt]) rfl⟩
  ·have olds : (Builtin.firstCells size rows.length (.slice (some ⟨g, 0, none⟩) rows.length cap)).run P m.w.drew = .ok ⟨l⟩ m.w.drew := by
    have := run_loadCells_list (P := P) m.w.drew ⟨g, 0, none⟩ l (fun j u hj => by
     rw [addr_add, Nat.zero_add]
     exact hlc j u hj)
    rw [hll] at this
    simp [Builtin.firstCells, this]
   have hr := app_grow' (ty := ty) A (base := some ⟨g, 0, none⟩) (k := rows.length) (cap := cap) (olds := l) S hfit olds hcm hcap hb hmax
   have hge := grownCap_ge m.w (rows.length + new.length) cap T
   have hle := grownCap_le_maxLen m.w (rows.length + new.length) cap T hmax
   generalize hcur' : (⟨l ++ news⟩ ++ Builtin.zeroCells A.z.cells (grownCap m.w (rows.length + new.length) cap T - (rows.length + new.length)) : Array Value) = cur' at hr
   have htk : cur'.toList.take ((rows ++ new).length * size) = l ++ news := by
    rw [← hcur', ← hlen]
    simp only [Array.toList_append]
    rw [List.take_left]
   have hsz' : cur'.size = grownCap m.w (rows.length + new.length) cap T * size := by
    rw [← hcur']
    have : (l ++ news).length = (rows.length + new.length) * size := by rw [hlen, List.length_append]
    simp only [Array.size_append, List.size_toArray, zeroCells_size, A.hzs, this, ← Nat.add_mul]
    congr 1
    omega
   have g0 : Grows0 m (m.w.drew.alloc (.cells cur' T)) τ (.mu T size ver rows) (.slice (some ⟨m.w.heap.size, 0, none⟩) (rows.length + new.length) (grownCap m.w (rows.length + new.length) cap T)) (.mu T size (ver + 1) (rows ++ new)) :=
    ⟨rfl, rfl, rfl, by simp, fun k hk _ => heap_drew_alloc _ _ _ hk, fun k c hk hc => by simp [Own.mu] at hc, fun k hk => .inr (by simp [Value.ownBlock] at hk; omega), Nat.le_refl _, rfl, rfl, Nat.le_succ _, fun e => by simp [Own.mu] at e⟩
   have ev := Ev.gt rh ht g0
   have gr : Grows m (m.w.drew.alloc (.cells cur' T)) τ (.mu T size ver rows) (.slice (some ⟨m.w.heap.size, 0, none⟩) (rows.length + new.length) (grownCap m.w (rows.length + new.length) cap T)) (.mu T size (ver + 1) (rows ++ new)) :=
    ⟨g0, l ++ news, ⟨hlen, .inr ⟨m.w.heap.size, _, cur', by simp [Own.mu, Own.len], Nat.zero_le _, heap_drew_new _ _, by simpa [Own.mu, Own.len] using hge, hle, hsz', htk⟩⟩, fun rows' h => by cases h; exact ⟨RvL.ev ev _ _ hflat, hsz, hone'⟩⟩
   have r := RH.gt rh ht gr
   exact ⟨m.gt (m.w.drew.alloc (.cells cur' T)) τ (.slice (some ⟨m.w.heap.size, 0, none⟩) (rows.length + new.length) (grownCap m.w (rows.length + new.length) cap T)) (.mu T size (ver + 1) (rows ++ new)), _, hr, r, ev, rfl, ms_rv r (T := T) (size := size) (rows := rows ++ new) (by simp [Mem.gt, AHeap.setT]) (by simp [Mem.gt]) rfl⟩
theorem setRangeV_take (l new : List Value) (k n : Nat) (h : k + new.length ≤ n) (hn : n ≤ l.length) : (setRangeV l k new).take n = setRangeV (l.take n) k new := by
 unfold setRangeV
 have e1 : (l.take k ++ new).length = k + new.length := by simp; omega
 rw [List.take_append, e1, List.take_of_length_le (by omega), List.take_take, Nat.min_eq_left (by omega), List.drop_take]
theorem rows_flatten {size : Nat} : ∀ {rows : List (List AV)}, (∀ r ∈ rows, r.length = size) → rows.flatten.length = rows.length * size
 | [], _ => by simp
 | r :: rows, h => by
  rw [List.flatten_cons, List.length_append, rows_flatten (fun x hx => h x (by simp [hx])), h r (by simp), List.length_cons, Nat.add_mul]
  omega
theorem mp_get (rh : RH m) {τ ver k T size : Nat} {rows : List (List AV)} {pv : Value} (hp : Rv m (.mp τ ver k) pv) (ht : m.H.tok τ = some (.mu T size ver rows)) :
  ∃ g cap cur, pv = .pointer (some ⟨g, k, none⟩) ∧ m.L τ = .slice (some ⟨g, 0, none⟩) rows.length cap ∧ size ≠ 0 ∧ (∀ r ∈ rows, r.length = size) ∧ m.w.heap[g]? = some (.cells cur T (0, 0)) ∧ rows.length ≤ cap ∧ cap ≤ maxLen ∧ cur.size = cap * size ∧ RvL m rows.flatten (cur.toList.take (rows.length * size)) ∧ ∀ u ∈ cur.toList.take (rows.length * size), u.oneCell' = true := by
 simp only [Rv] at hp
 obtain ⟨b, len, cap, e1, e2⟩ := (hp.2.2 _ ht).2 rfl
 have hv : Rv m (.ms τ ver) (m.L τ) := ms_rv rh ht rfl (by rw [e1]; rfl)
 obtain ⟨_, h0, hs, hc⟩ := ms_get rh ht hv
 rw [e1] at hc
 rcases hc with ⟨e, _⟩ | ⟨g, cap', cur, e, r⟩
 ·simp at e
 ·simp only [Value.slice.injEq, Option.some.injEq, Addr.mk.injEq] at e
  obtain ⟨⟨rfl, _⟩, rfl, rfl⟩ := e
  exact ⟨b, cap, cur, e2, e1, h0, hs, r⟩
theorem st_ms (rh : RH m) {τ ver k T size : Nat} {rows rows' : List (List AV)} {pv : Value} {cs : List AV} {l : List Value} (hp : Rv m (.mp τ ver k) pv) (ht : m.H.tok τ = some (.mu T size ver rows)) (hl : k + cs.length ≤ rows.flatten.length) (hcs : RvL m cs l) (ho : ∀ u ∈ l, u.oneCell' = true)
  (hf : rows'.flatten = setRange rows.flatten k cs) (hr : ∀ r ∈ rows', r.length = size) (hlen : rows'.length = rows.length) :
  ∃ g m', pv = .pointer (some ⟨g, k, none⟩) ∧ (storeCells ⟨g, k, none⟩ l 0).run P m.w = .ok () m'.w ∧ RH m' ∧ Ev m m' ∧ m'.H = m.H.setT τ (.mu T size ver rows') := by
 obtain ⟨g, cap, cur, e1, e2, h0, hs, hg, hcap, hcm, hcz, hrv, hone⟩ := mp_get rh hp ht
 have hn := RvL.length hcs
 have hrf := rows_flatten hs
 have hle0 : rows.length * size ≤ cur.size := by rw [hcz]; exact Nat.mul_le_mul_right _ hcap
 have hst := run_storeCells_at P g k T l 0 cur m.w hg (by omega) ho
 have hcur : (cur.toList.take (k + 0) ++ l ++ cur.toList.drop (k + 0 + l.length)).toArray = ⟨setRangeV cur.toList k l⟩ := by simp [setRangeV]
 rw [hcur] at hst
 have htk : (setRangeV cur.toList k l).take (rows.length * size) = setRangeV (cur.toList.take (rows.length * size)) k l := setRangeV_take _ _ _ _ (by omega) (by simpa using hle0)
 have hheap := setRow_heap m.w g cur ⟨setRangeV cur.toList k l⟩ T (0, 0) hg
 have hgl : (m.L τ).ownBlock = some g := by rw [e2]; rfl
 have hsz' : (⟨setRangeV cur.toList k l⟩ : Array Value).size = cap * size := by
  rw [← hcz]
  simp [setRangeV]
  omega
 have g0 : Grows0 m (m.w.setRow g ⟨setRangeV cur.toList k l⟩) τ (.mu T size ver rows) (m.L τ) (.mu T size ver rows') :=
  ⟨rfl, rfl, rfl, by simp, fun x hk hne => setRow_other m.w g x _ (fun e => hne (by rw [hgl, e])), fun x c hk hc => by simp [Own.mu] at hc, fun x hk => .inl hk, Nat.le_refl _, rfl, rfl, Nat.le_refl _, fun _ => rfl⟩
 have ev := Ev.gt rh ht g0
 have gr : Grows m (m.w.setRow g ⟨setRangeV cur.toList k l⟩) τ (.mu T size ver rows) (m.L τ) (.mu T size ver rows') := by
  refine ⟨g0, setRangeV (cur.toList.take (rows.length * size)) k l, ⟨?_, .inr ⟨g, cap, ⟨setRangeV cur.toList k l⟩, ?_, Nat.zero_le _, hheap, ?_, hcm, hsz', ?_⟩⟩, fun rows2 hh => ?_⟩
  ·simp [Own.mu, Own.len, setRangeV]
   rw [hlen]
   omega
  ·rw [e2]; simp [Own.mu, Own.len, hlen]
  ·simp [Own.mu, Own.len, hlen]; exact hcap
  ·simp only [Own.mu, Own.len, hlen]; exact htk
  ·cases hh
   refine ⟨RvL.ev ev _ _ ?_, hr, fun v hv => ?_⟩
   ·rw [hf]
    exact setRange_rv hrv hcs k
   ·simp only [setRangeV, List.mem_append] at hv
    rcases hv with (hv | hv) | hv
    ·exact hone v (List.mem_of_mem_take hv)
    ·exact ho v hv
    ·exact hone v (List.mem_of_mem_drop hv)
 have r := RH.gt rh ht gr
 exact ⟨g, m.gt (m.w.setRow g ⟨setRangeV cur.toList k l⟩) τ (m.L τ) (.mu T size ver rows'), e1, hst, r, ev, rfl⟩
theorem sl_ms (rh : RH m) {τ ver T size h : Nat} {rows : List (List AV)} {ad : Option Addr} {cap : Nat} (hv0 : Rv m (.ms τ ver) (.slice ad rows.length cap)) (ht : m.H.tok τ = some (.mu T size ver rows)) (h1 : h ≤ rows.length) :
  ∃ m', m'.w = m.w ∧ RH m' ∧ Ev m m' ∧ m'.H = m.H.setT τ (.mu T size (ver + 1) (rows.take h)) ∧ Rv m' (.ms τ (ver + 1)) (.slice ad h cap) := by
 obtain ⟨hL, h0, hs, hcase⟩ := ms_get rh ht hv0
 have hlen : (rows.take h).length = h := by simp; omega
 rcases hcase with ⟨e, rfl⟩ | ⟨g, cap, cur, e, hg, hcap, hcm, hcs, hrv, hone⟩
 ·simp only [List.length_nil, Nat.le_zero_eq] at h1
  subst h1
  simp only [Value.slice.injEq] at e
  obtain ⟨rfl, _, rfl⟩ := e
  have g0 : Grows0 m m.w τ (.mu T size ver []) (.slice none 0 0) (.mu T size (ver + 1) []) := ⟨rfl, rfl, rfl, Nat.le_refl _, fun _ _ _ => rfl, fun _ _ _ _ => rfl, fun k hk => by simp [Value.ownBlock] at hk, Nat.le_refl _, rfl, rfl, Nat.le_succ _, fun e => by simp [Own.mu] at e⟩
  have gr : Grows m m.w τ (.mu T size ver []) (.slice none 0 0) (.mu T size (ver + 1) []) := ⟨g0, [], World.ownsRow_nil _ _ _ _, fun rows' h => by cases h; exact ⟨by simp [RvL], by simp, by simp⟩⟩
  have r := RH.gt rh ht gr
  exact ⟨m.gt m.w τ (.slice none 0 0) (.mu T size (ver + 1) []), rfl, r, Ev.gt rh ht g0, rfl, ms_rv r (T := T) (size := size) (rows := []) (by simp [Mem.gt, AHeap.setT]) (by simp [Mem.gt]) rfl⟩
 ·simp only [Value.slice.injEq] at e
  obtain ⟨rfl, _, rfl⟩ := e
  have hgl : (m.L τ).ownBlock = some g := by rw [hL]; rfl
  have hle0 : rows.length * size ≤ cur.size := by rw [hcs]; exact Nat.mul_le_mul_right _ hcap
  have hle1 : h * size ≤ rows.length * size := Nat.mul_le_mul_right _ h1
  have hfl : (rows.take h).flatten = rows.flatten.take (h * size) := by
   have : ∀ (rows : List (List AV)) (h : Nat), (∀ r ∈ rows, r.length = size) → h ≤ rows.length → (rows.take h).flatten = rows.flatten.take (h * size) := by
    intro rows
    induction rows with
    | nil => intro h _ hh; simp
    | cons r rows ih =>
     intro h hs hh
     cases h with
     | zero => simp
     | succ h =>
      have hr := hs r (by simp)
      rw [List.take_succ_cons, List.flatten_cons, List.flatten_cons, ih h (fun x hx => hs x (by simp [hx])) (by simpa using hh), Nat.add_mul, Nat.one_mul, Nat.add_comm, ← hr, List.take_length_add_append]
   exact this rows h hs h1
  have htt : cur.toList.take (h * size) = (cur.toList.take (rows.length * size)).take (h * size) := by rw [List.take_take, Nat.min_eq_left hle1]
  have g0 : Grows0 m m.w τ (.mu T size ver rows) (.slice (some ⟨g, 0, none⟩) h cap) (.mu T size (ver + 1) (rows.take h)) := ⟨rfl, rfl, rfl, Nat.le_refl _, fun _ _ _ => rfl, fun _ _ _ _ => rfl, fun k hk => .inl (by rw [hgl]; simpa [Value.ownBlock] using hk), Nat.le_refl _, rfl, rfl, Nat.le_succ _, fun e => by simp [Own.mu] at e⟩
  have ev := Ev.gt rh ht g0
  have gr : Grows m m.w τ (.mu T size ver rows) (.slice (some ⟨g, 0, none⟩) h cap) (.mu T size (ver + 1) (rows.take h)) := ⟨g0, cur.toList.take (h * size), ⟨by simp only [Own.mu, Own.len, hlen]; simp; omega, .inr ⟨g, cap, cur, by simp [Own.mu, Own.len]; omega, Nat.zero_le _, hg, by simp [Own.mu, Own.len]; omega, hcm, hcs, by simp only [Own.mu, Own.len, hlen]⟩⟩, fun rows' hh => by
   cases hh
   refine ⟨RvL.ev ev _ _ ?_, fun r hr => hs r (List.mem_of_mem_take hr), fun u hu => hone u ?_⟩
   ·rw [hfl, htt]
    exact RvL.take _ hrv
   ·rw [htt] at hu
    exact List.mem_of_mem_take hu⟩
  have r := RH.gt rh ht gr
  exact ⟨m.gt m.w τ (.slice (some ⟨g, 0, none⟩) h cap) (.mu T size (ver + 1) (rows.take h)), rfl, r, ev, rfl, ms_rv r (T := T) (size := size) (rows := rows.take h) (by simp [Mem.gt, AHeap.setT]) (by simp [Mem.gt]) rfl⟩
end
section
variable {P : Program} {m : Mem} {env : Env} {a : Act} {o : Oper}
theorem ms_len (rh : RH m) {t ver T size : Nat} {rows : List (List AV)} {v : Value} (ht : m.H.tok t = some (.mu T size ver rows)) (hv : Rv m (.ms t ver) v) : ∃ ad cap, v = .slice ad rows.length cap ∧ rows.length ≤ cap := by
 obtain ⟨_, _, _, hc⟩ := ms_get rh ht hv
 rcases hc with ⟨rfl, rfl⟩ | ⟨g, cap, cur, rfl, _, h, _⟩
 ·exact ⟨none, 0, rfl, Nat.le_refl _⟩
 ·exact ⟨_, cap, rfl, h⟩
theorem d_lenM {c y t ver T size} {rows : List (List AV)} (he : RvE m env a.tmps) (rh : RH m) (ho : o.op = .call c) (h : chkOp P o.op (.lenM y) = true) (e1 : y.ev env = .ms t ver) (ht : m.H.tok t = some (.mu T size ver rows)) : Quiet P m a o (.int .i64 rows.length) := by
 obtain ⟨callee, args, argTypes⟩ := c
 rw [ho] at h
 cases callee with
 | value f => simp [chkOp] at h
 | invoke _ _ => simp [chkOp] at h
 | builtin b =>
  cases b <;> simp only [chkOp] at h <;> first
   | (cases h; done)
   | skip
  simp only [Bool.and_eq_true] at h
  obtain ⟨h1, h2⟩ := h
  split at h1
  ·rename_i x hx
   split at h2
   ·rename_i t' ht'
    have hc := chkX_rv he h1
    obtain rfl := arr1 hx
    obtain rfl := arr1 ht'
    split at h2
    ·rename_i el hu
     rw [e1] at hc
     obtain ⟨ad, cap, e2, _⟩ := ms_len rh ht hc
     refine ⟨.int .i64 rows.length, ?_, by simp only [Rv]⟩
     refine call_args ho rfl rfl P m.w m.w (.int .i64 rows.length) ?_
     simp [builtin, Builtin.len_, run_underlying hu, e2, goInt]
    ·cases h2
   ·cases h2
  ·cases h1
theorem slT_under {t el : TypeId} (hel : slT P t = some el) : P.underlying t = some (.slice el) := by
 unfold slT at hel
 split at hel
 ·rename_i e hu; simp at hel; subst hel; exact hu
 ·cases hel
theorem d_iaddrM {ty x i size x' i' t ver T k} {rows : List (List AV)} {n : Int} (he : RvE m env a.tmps) (rh : RH m) (ho : o.op = .indexAddr ty x i) (h : chkOp P o.op (.iaddrM size x' i') = true) (e1 : x'.ev env = .ms t ver) (ht : m.H.tok t = some (.mu T size ver rows)) (e2 : i'.ev env = .int k n) (h0 : 0 ≤ n) (hr : n < (rows.length : Int)) : Quiet P m a o (.mp t ver (n.toNat * size)) := by
 rw [ho] at h
 simp only [chkOp, Bool.and_eq_true] at h
 obtain ⟨⟨h1, h2⟩, h3⟩ := h
 have hi := chkX_rv he h2
 have hx := chkX_rv he h1
 rw [e2] at hi
 rw [e1] at hx
 split at h3
 ·rename_i el hel
  have hsz : sizeT P el = some size := by simpa using h3
  have hu := slT_under hel
  obtain ⟨hL, hne, hs, hc⟩ := ms_get rh ht hx
  rcases hc with ⟨_, rfl⟩ | ⟨g, cap, cur, e, _⟩
  ·simp at hr; omega
  ·refine ⟨.pointer (some ⟨g, n.toNat * size, none⟩), ?_, ?_⟩
   ·simp [execOp, ho, Instr.indexAt, e, rv_int hi, asIntOf, run_underlying hu, h0, hr, run_sizeOf' hsz, addr_add]
   ·simp only [Rv]
    refine ⟨rfl, (rh.tok t _ ht).1, fun j hj => ?_⟩
    rw [ht] at hj
    simp at hj
    subst hj
    exact ⟨Nat.le_refl _, fun _ => ⟨g, _, _, hL.trans e, rfl⟩⟩
 ·cases h3
theorem d_loadM {ty x agg n y t ver k T size r} {rows : List (List AV)} (he : RvE m env a.tmps) (rh : RH m) (ho : o.op = .load ty x) (h : chkOp P o.op (.loadM agg n y) = true) (e1 : y.ev env = .mp t ver k) (ht : m.H.tok t = some (.mu T size ver rows)) (hl : k + n ≤ rows.flatten.length) (hr : AV.ofCells agg ((rows.flatten.drop k).take n) = some r) : Quiet P m a o r := by
 rw [ho] at h
 simp only [chkOp, Bool.and_eq_true] at h
 obtain ⟨h1, h2⟩ := h
 have hx := chkX_rv he h2
 rw [e1] at hx
 obtain ⟨g, cap, cur, e, _, hne, hs, hg, hcap, hcm, hcz, hrv, hone⟩ := mp_get rh hx ht
 have hrf := rows_flatten hs
 have hll := RvL.length hrv
 generalize hq : cur.toList.take (rows.length * size) = l at hrv hone hll
 refine ⟨if agg then .agg ⟨(l.drop k).take n⟩ else ((l.drop k).take n).getD 0 undef, ?_, ?_⟩
 ·have := run_loadVar_cells (w := m.w) h1 g k ((l.drop k).take n) (by simp; omega) (fun j v hj => by
   rw [cell_of_row m.w g _ cur T (0, 0) hg]
   rw [List.getElem?_take] at hj
   split at hj
   ·rw [List.getElem?_drop, ← hq, List.getElem?_take] at hj
    split at hj
    ·simpa using hj
    ·cases hj
   ·cases hj)
  simp [execOp, ho, Instr.loadAt, e, Instr.sureAddr, this]
 ·rcases ofCells_rv hr (RvL.take n (RvL.drop k hrv)) with ⟨rfl, h⟩ | ⟨rfl, v, e, h⟩
  ·exact h
  ·simp only [Bool.false_eq_true, if_false, e]
   exact h
theorem d_faddrM {t x f off y τ ver k T size} {rows : List (List AV)} (he : RvE m env a.tmps) (rh : RH m) (ho : o.op = .fieldAddr t x f) (h : chkOp P o.op (.faddrM off y) = true) (e1 : y.ev env = .mp τ ver k) (ht : m.H.tok τ = some (.mu T size ver rows)) : Quiet P m a o (.mp τ ver (k + off)) := by
 rw [ho] at h
 simp only [chkOp, Bool.and_eq_true] at h
 obtain ⟨h1, h2⟩ := h
 have hc := chkX_rv he h1
 rw [e1] at hc
 obtain ⟨g, cap, cur, r1, r2, _⟩ := mp_get rh hc ht
 split at h2
 ·rename_i fs hu
  split at h2
  ·rename_i q hg
   simp only [Bool.and_eq_true, decide_eq_true_eq] at h2
   obtain ⟨h2, h3⟩ := h2
   split at h3
   ·rename_i n hn
    have hn0 : n ≠ 0 := by simpa using h3
    refine ⟨.pointer (some ⟨g, k + off, none⟩), ?_, ?_⟩
    ·simp [execOp, ho, Instr.fieldAt, run_underlying hu, hg, r1, Instr.sureAddr, fieldPlace, run_sizeOf' hn, hn0, addr_add, h2]
    ·simp only [Rv] at hc ⊢
     refine ⟨rfl, hc.2.1, fun i hi => ?_⟩
     rw [ht] at hi
     cases hi
     exact ⟨Nat.le_refl _, fun _ => ⟨g, _, cap, r2, rfl⟩⟩
   ·cases h3
  ·cases h2
 ·cases h2
theorem vs_some {size : Nat} {rows : List (List AV)} {v : Value} (h : Rv m (.vs size rows) v) (hr : rows ≠ []) : ∃ x len cap, v = .slice (some x) len cap := by
 simp only [Rv] at h
 obtain ⟨ad, len, cap, rfl, _, _, h4⟩ := h
 rcases h4 with h4 | ⟨b, p, rfl, _⟩
 ·exact absurd (List.eq_nil_of_length_eq_zero h4) hr
 ·exact ⟨_, _, _, rfl⟩
theorem run_isnil {op t x y u neg x'} (ho : o.op = .binOp op t x y u) (h : chkOp P o.op (.isnil neg x') = true) {ad : Option Addr} {len cap : Nat} (hv : a.eval x = .slice ad len cap) : (execOp a.eval o).run P m.w = .ok (.value (.bool (bif neg then !ad.isNone else ad.isNone))) m.w := by
 rw [ho] at h
 simp only [chkOp, Bool.and_eq_true, decide_eq_true_eq] at h
 obtain ⟨⟨⟨⟨h1, h2⟩, h3⟩, h4⟩, h5⟩ := h
 split at h3
 ·split at h4
  ·rename_i e he
   have hu := slT_under he
   subst h1
   have hg : ∀ op, (eqGuard op t x (.const (.slice none 0 0)) (.slice ad len cap) (.slice none 0 0)).run P m.w = .ok () m.w := by
    intro op
    have h5' : P.eqGuardType P.depth t = false := by simpa using h5
    unfold eqGuard; cases op <;> simp [h5']
   have hq : (Op.equal t (.slice ad len cap) (.slice none 0 0)).run P m.w = .ok ad.isNone m.w := by
    have gen : ∀ d, (Op.equalIn (d + 1) t (.slice ad len cap) (.slice none 0 0)).run P m.w = .ok ad.isNone m.w := by
     intro d
     cases ad <;> simp [Op.equalIn, run_underlying hu]
    exact gen 9999
   have hy : a.eval (.const (.slice none 0 0)) = .slice none 0 0 := rfl
   cases neg <;> simp [execOp, ho, hv, hq, hg, binOp, hy]
  ·cases h4
 ·cases h3
theorem d_isnil {op t x y u neg x' b} (he : RvE m env a.tmps) (ho : o.op = .binOp op t x y u) (h : chkOp P o.op (.isnil neg x') = true) (hv : ∀ v, Rv m (x'.ev env) v → (v = .slice none 0 0 ∧ b = !neg) ∨ (∃ q len cap, v = .slice (some q) len cap) ∧ b = neg) : Quiet P m a o (.bool b) := by
 have h2 : chkX x x' = true := by
  rw [ho] at h
  simp only [chkOp, Bool.and_eq_true, decide_eq_true_eq] at h
  exact h.1.1.1.2
 rcases hv _ (chkX_rv he h2) with ⟨e, rfl⟩ | ⟨⟨q, len, cap, e⟩, rfl⟩
 ·exact ⟨_, run_isnil ho h e, by simp only [Rv]; cases neg <;> rfl⟩
 ·exact ⟨_, run_isnil ho h e, by simp only [Rv]; cases b <;> rfl⟩
theorem d_isnilU {op t x y u neg x' size rows} (he : RvE m env a.tmps) (ho : o.op = .binOp op t x y u) (h : chkOp P o.op (.isnil neg x') = true) (hx : x'.ev env = .vs size rows) : ∃ b v, (execOp a.eval o).run P m.w = .ok (.value v) m.w ∧ Rv m (.bool b) v := by
 have h2 : chkX x x' = true := by
  rw [ho] at h
  simp only [chkOp, Bool.and_eq_true, decide_eq_true_eq] at h
  exact h.1.1.1.2
 have hv := chkX_rv he h2
 rw [hx] at hv
 simp only [Rv] at hv
 obtain ⟨ad, len, cap, e, _⟩ := hv
 exact ⟨(bif neg then !ad.isNone else ad.isNone), _, run_isnil ho h e, by simp only [Rv]⟩
theorem d_slM {ty x lo hi size y lo' hi' t ver T h} {rows : List (List AV)} (he : RvE m env a.tmps) (rh : RH m) (ho : o.op = .slice ty x lo hi none) (hc : chkOp P o.op (.slM size y lo' hi') = true) (e1 : y.ev env = .ms t ver) (ht : m.H.tok t = some (.mu T size ver rows)) (hl : optNat env 0 lo' = some 0) (hh : optNat env rows.length hi' = some h) (h2 : h ≤ rows.length) :
  ∃ m' v, (execOp a.eval o).run P m.w = .ok (.value v) m'.w ∧ RH m' ∧ Ev m m' ∧ m'.H = m.H.setT t (.mu T size (ver + 1) (rows.take h)) ∧ Rv m' (.ms t (ver + 1)) v := by
 rw [ho] at hc
 simp only [chkOp, Bool.and_eq_true] at hc
 obtain ⟨⟨⟨c1, c2⟩, c3⟩, c4⟩ := hc
 have hx := chkX_rv he c1
 rw [e1] at hx
 split at c4
 ·rename_i el hel
  have hsz : sizeT P el = some size := by simpa using c4
  have hu := slT_under hel
  obtain ⟨ad, cap, e, hcap⟩ := ms_len rh ht hx
  have hb := run_sliceBounds (P := P) (w := m.w) (b := true) (cap := cap) he c2 c3 hl hh (Nat.zero_le _) h2 hcap
  rw [e] at hx
  obtain ⟨m', r0, r1, r2, r3, r4⟩ := sl_ms rh hx ht h2
  have had : (if cap = 0 then ad else ad.map (·.add (0 * size))) = ad := by
   cases ad with
   | none => simp
   | some q =>
    obtain ⟨qb, qo, qs⟩ := q
    have : (⟨qb, qo, qs⟩ : Addr).add (0 * size) = ⟨qb, qo, qs⟩ := by
     rw [Nat.zero_mul]
     unfold Addr.add
     simp
    simp only [Option.map_some, this, ite_self]
  refine ⟨m', .slice ad h cap, ?_, r1, r2, r3, r4⟩
  have : (execOp a.eval o).run P m.w = .ok (.value (.slice (if cap = 0 then ad else ad.map (·.add (0 * size))) (h - 0) (cap - 0))) m.w := by
   simp [execOp, ho, Instr.sliceAt, Instr.slice, run_underlying hu, e, hb, run_sizeOf' hsz]
  rw [this, had, r0]
  simp
 ·cases c4
end
section
variable {P : Program} {m : Mem} {env : Env} {a : Act} {o : Oper}
theorem quiet_wp {r : AV} {K : Act → World → Prop} {Q : Exit → Act → World → Prop} (q : Quiet P m a o r) (h : ∀ v, Rv m r v → K (a.put o.dst v) m.w) : o.wp P a m.w K Q := by
 obtain ⟨v, h1, h2⟩ := q
 exact wp_of_run h1 (h v h2)
theorem avles_rv {m : Mem} : ∀ {az bs : List AV} {l : List Value}, AVLes az bs → RvL m az l → RvL m bs l
 | [], bs, l, h, k => by simp only [AVLes] at h; subst h; exact k
 | a :: az, bs, l, h, k => by
  simp only [AVLes] at h
  obtain ⟨b, bs, rfl, h1, h2⟩ := h
  simp only [RvL] at k ⊢
  obtain ⟨v, vs, rfl, k1, k2⟩ := k
  exact ⟨v, vs, rfl, h1 _ _ k1, avles_rv h2 k2⟩
theorem call_bnd {P : Program} {f : FuncId} (h : callable P f = true) : f < bnd := by
 unfold callable at h
 split at h
 ·simp only [Bool.and_eq_true] at h
  simpa using h.2
 ·cases h
theorem run_call {P : Program} {w : World} {f : FuncId} {args : Array Value} (h : callable P f = true) : (callFunc f args).run P w = .ok (.enter f args) w := by
 unfold callable at h
 split at h
 ·rename_i fn hf
  simp only [Bool.and_eq_true, Bool.not_eq_true'] at h
  obtain ⟨⟨h1, h2⟩, _⟩ := h
  obtain ⟨c, hc⟩ := Option.isSome_iff_exists.1 h1
  have h2' : ¬ fn.name = "runtime.NumGoroutine" := by simpa using h2
  simp [callFunc, hf, h2', hc]
 ·cases h
theorem run_op_call {c : Call} {f : FuncId} {g : Operand} (ho : o.op = .call c) (hc : c.callee = .value g) (hg : a.eval g = .func (.func f) #[] ⟨[]⟩ ) (hf : callable P f = true) (w : World) : (execOp a.eval o).run P w = .ok (.enter f (c.args.map a.eval)) w := by
 have hg' : a.eval g = .func (.func f) #[] #[] := hg
 simp [execOp, ho, resolve, hc, hg', Deferred.ofValue, invoke, run_call hf]
theorem run_op_callv {c : Call} {f : FuncId} {g : Operand} {l : List Value} (ho : o.op = .call c) (hc : c.callee = .value g) (hg' : a.eval g = fnV f l) (hf : callable P f = true) (w : World) : (execOp a.eval o).run P w = .ok (.enter f (c.args.map a.eval ++ ⟨l⟩)) w := by
 have hg : a.eval g = .func (.func f) #[] ⟨l⟩ := hg'.trans (fnV_lt (call_bnd hf) l)
 simp [execOp, ho, resolve, hc, hg, Deferred.ofValue, invoke, run_call hf]
theorem run_op_callvB {c : Call} {f : FuncId} {g : Operand} {l : List Value} (ho : o.op = .call c) (hc : c.callee = .value g) (hg' : a.eval g = fnV (f + bnd) l) (hf : callable P f = true) (w : World) : (execOp a.eval o).run P w = .ok (.enter f (⟨l⟩ ++ c.args.map a.eval)) w := by
 have hg : a.eval g = .func (.func f) ⟨l⟩ #[] := hg'.trans (fnV_bnd f l)
 simp [execOp, ho, resolve, hc, hg, Deferred.ofValue, invoke, run_call hf]
def outQ (P : Program) (o : Oper) (a : Act) (K : Act → World → Prop) (Q : Exit → Act → World → Prop) : Ending → World → Prop
 | .returned v, w => K (a.put o.dst v) w
 | .panicked chain, w => Q (.panic chain) a w
 | .outgrown, _ => LetsOut Q
theorem wp_of_enter {K : Act → World → Prop} {Q : Exit → Act → World → Prop} {w w' : World} {f : FuncId} {args : Array Value} (h : (execOp a.eval o).run P w = .ok (.enter f args) w') (hk : Calls P f args w' (outQ P o a K Q)) : o.wp P a w K Q := by
 simp only [Oper.wp, h, Oper.upon_enter]
 refine hk.mono fun e w'' he => ?_
 cases e <;> exact he
theorem acalls_wp {f : FuncId} {az : List AV} {vs : List Value} {R : Out → AHeap → Prop} {K : Act → World → Prop} {Q : Exit → Act → World → Prop} (rh : RH m) (hv : RvL m az vs) (hc : ACalls P f az m.H R)
  (h1 : ∀ r m' v, R (.ret r) m'.H → RH m' → Ev m m' → Rv m' r v → K (a.put o.dst v) m'.w)
  (h2 : ∀ r m' v, R (.pan r) m'.H → RH m' → Ev m m' → Rv m' r v → Q (.panic [{ v, recovered := false }]) a m'.w) : Calls P f ⟨vs⟩ m.w (outQ P o a K Q) := by
 refine (hc m vs rfl rh hv).mono fun e w' he => ?_
 obtain ⟨ou, H', L', T', r1, r2, r3, r4⟩ := he
 cases ou with
 | ret r =>
  simp only [RvOut] at r3
  obtain ⟨v, rfl, r3⟩ := r3
  exact h1 r ⟨w', H', L', T'⟩ v r4 r1 r2 r3
 | pan r =>
  simp only [RvOut] at r3
  obtain ⟨v, rfl, r3⟩ := r3
  exact h2 r ⟨w', H', L', T'⟩ v r4 r1 r2 r3
theorem appT_of {t u T : TypeId} {size bytes : Nat} (h : (decide (slT P t = some T) && (decide (slT P u = some T) || (match P.underlying u, P.underlying T with | some .string, some (.int .u8) => true | _, _ => false)) && (match P.info? T with | some i => decide (i.size = size) && decide (i.bytes = bytes) && (match i.zero with | some z => decide (z.cells.size = size) | none => false) | none => false)) = true) : Nonempty (AppT P t u T size bytes) := by
 simp only [Bool.and_eq_true, Bool.or_eq_true, decide_eq_true_eq] at h
 obtain ⟨⟨h1, h2⟩, h3⟩ := h
 have sl : ∀ {t T}, slT P t = some T → P.underlying t = some (.slice T) := by
  intro t T h
  unfold slT at h
  split at h
  ·rename_i e hu; simp at h; subst h; exact hu
  ·cases h
 split at h3
 ·rename_i i hi
  simp only [Bool.and_eq_true, decide_eq_true_eq] at h3
  obtain ⟨⟨e1, e2⟩, e3⟩ := h3
  split at e3
  ·rename_i z hz
   refine ⟨⟨sl h1, ?_, i, hi, e1, e2, z, hz, by simpa using e3⟩⟩
   rcases h2 with h2 | h2
   ·exact .inl (sl h2)
   ·split at h2
    ·rename_i hu _; exact .inr hu
    ·cases h2
  ·cases e3
 ·cases h3
theorem src_of {size : Nat} {y : AV} {v : Value} {rows : List (List AV)} (h : Rv m y v) (hy : rowsOf size y = some rows) : ∃ news, Src P m size v rows news := by
 unfold rowsOf at hy
 split at hy
 ·split at hy
  ·rename_i e; subst e; simp at hy; subst hy; exact src_vs h
  ·cases hy
 ·split at hy
  ·rename_i e; subst e; simp at hy; subst hy; exact src_vs (rv_own h)
  ·cases hy
 ·simp at hy
  subst hy
  rw [rv_raw h]
  exact ⟨[], src_nil⟩
 ·split at hy
  ·rename_i e; subst e; simp at hy; subst hy
   rw [(rv_str h).1]
   exact ⟨_, src_str⟩
  ·cases hy
 ·cases hy
theorem arr2 {α : Type} {l : Array α} {x y : α} (h : l.toList = [x, y]) : l = #[x, y] := by cases l; simp at h; rw [h]
set_option maxHeartbeats 4000000 in
theorem desc_wp {e : EOp} {d : D} {K : Act → World → Prop} {Q : Exit → Act → World → Prop} (hd : Desc P e env m.H d) (hc : chkOp P o.op e = true) (rh : RH m) (he : RvE m env a.tmps)
  (h : ∀ x m' v, d.fresh x m.H → m'.H = d.heap m.H x → RH m' → Ev m m' → Rv m' (d.val x) v → K (a.put o.dst v) m'.w) : o.wp P a m.w K Q := by
 have hq : ∀ r, d = .det r → Quiet P m a o r → o.wp P a m.w K Q := by
  intro r e q
  subst e
  exact quiet_wp q fun v hv => h 0 m v trivial rfl rh (Ev.refl m) hv
 cases hd with
 | pure hp => exact hq _ rfl (peval_run he rh hc hp)
 | quo hx hy hb =>
  cases ho : o.op <;> try (simp [ho, chkOp] at hc; done)
  rw [ho] at hc
  simp only [chkOp, Bool.and_eq_true, decide_eq_true_eq] at hc
  obtain ⟨⟨rfl, c1⟩, c2⟩ := hc
  exact hq _ rfl (d_quo he ho c1 c2 hx hy hb)
 | rem hx hy hb =>
  cases ho : o.op <;> try (simp [ho, chkOp] at hc; done)
  rw [ho] at hc
  simp only [chkOp, Bool.and_eq_true, decide_eq_true_eq] at hc
  obtain ⟨⟨rfl, c1⟩, c2⟩ := hc
  exact hq _ rfl (d_rem he ho c1 c2 hx hy hb)
 | cat hx hy hb =>
  cases ho : o.op <;> try (simp [ho, chkOp] at hc; done)
  rw [ho] at hc
  simp only [chkOp, Bool.and_eq_true, decide_eq_true_eq] at hc
  obtain ⟨⟨rfl, c1⟩, c2⟩ := hc
  exact hq _ rfl (d_cat he ho c1 c2 hx hy hb)
 | idxV hx hi h0 hr =>
  cases ho : o.op <;> try (simp [ho, chkOp] at hc; done)
  have hc' := hc
  rw [ho] at hc'
  simp only [chkOp, Bool.and_eq_true] at hc'
  have hxv := chkX_rv he hc'.1.1
  rw [hx] at hxv
  exact hq _ rfl (d_idxRow he ho hc hxv hi h0 hr)
 | idxO hx hi h0 hr =>
  cases ho : o.op <;> try (simp [ho, chkOp] at hc; done)
  have hc' := hc
  rw [ho] at hc'
  simp only [chkOp, Bool.and_eq_true] at hc'
  have hxv := chkX_rv he hc'.1.1
  rw [hx] at hxv
  exact hq _ rfl (d_idxRow he ho hc (rv_own hxv) hi h0 hr)
 | idxM hx hi h0 h1 =>
  cases ho : o.op <;> try (simp [ho, chkOp] at hc; done)
  exact hq _ rfl (d_idxM he ho hc hx hi h0 h1)
 | idxP hx hi h0 h1 =>
  cases ho : o.op <;> try (simp [ho, chkOp] at hc; done)
  have hc' := hc
  rw [ho] at hc'
  simp only [chkOp, Bool.and_eq_true] at hc'
  have hxv := chkX_rv he hc'.1.1
  rw [hx] at hxv
  exact hq _ rfl ⟨_, d_idxPtr he ho hc (rv_ptr hxv) hi h0 h1, by simp only [Rv]⟩
 | idxR hx hi h0 h1 =>
  cases ho : o.op <;> try (simp [ho, chkOp] at hc; done)
  have hc' := hc
  rw [ho] at hc'
  simp only [chkOp, Bool.and_eq_true] at hc'
  have hxv := chkX_rv he hc'.1.1
  rw [hx] at hxv
  obtain ⟨b, p, e1, e2⟩ := rv_rp hxv
  exact hq _ rfl ⟨_, d_idxPtr he ho hc e1 hi h0 h1, by simp only [Rv]; exact ⟨b, p, by rw [Nat.add_assoc], e2⟩⟩
 | idxA hx hi h0 h1 hl hv =>
  cases ho : o.op <;> try (simp [ho, chkOp] at hc; done)
  exact hq _ rfl (d_idxA he ho hc hx hi h0 h1 hl hv)
 | idxS hx hi h0 hcc =>
  cases ho : o.op <;> try (simp [ho, chkOp] at hc; done)
  exact hq _ rfl (d_idxS he ho hc hx hi h0 hcc)
 | slS hx hl hh h1 h2 =>
  cases ho : o.op <;> try (simp [ho, chkOp] at hc; done)
  exact hq _ rfl (d_slS he ho hc hx hl hh h1 h2)
 | slV hx hl hh h1 h2 =>
  cases ho : o.op <;> try (simp [ho, chkOp] at hc; done)
  exact hq _ rfl (d_slV he ho hc hx hl hh h1 h2)
 | convBS hx =>
  cases ho : o.op <;> try (simp [ho, chkOp] at hc; done)
  obtain ⟨w', v, r1, r2, r3, r4⟩ := d_convBS he rh ho hc hx
  exact wp_of_run r1 (h 0 { m with w := w' } v trivial rfl r2 r3 r4)
 | box hx =>
  cases ho : o.op <;> try (simp [ho, chkOp] at hc; done)
  rw [ho] at hc
  simp only [chkOp, Bool.and_eq_true, decide_eq_true_eq] at hc
  obtain ⟨rfl, c1⟩ := hc
  obtain ⟨l, r1, r2⟩ := d_box he rh ho c1 hx
  exact wp_of_run r1 (h m.w.heap.size _ _ (blk_new rh) rfl r2 (Ev.nb _ _ _ _) (by simp only [D.val, Rv]))
 | alloc hz =>
  cases ho : o.op <;> try (simp [ho, chkOp] at hc; done)
  rw [ho] at hc
  simp only [chkOp, Bool.and_eq_true, decide_eq_true_eq] at hc
  obtain ⟨rfl, c1⟩ := hc
  obtain ⟨l, r1, r2⟩ := d_alloc (a := a) rh ho c1
  exact wp_of_run r1 (h m.w.heap.size _ _ (blk_new rh) rfl r2 (Ev.nb _ _ _ _) (by simp only [D.val, Rv]))
 | bsliceV hr hs h1 =>
  cases ho : o.op <;> try (simp [ho, chkOp] at hc; done)
  obtain ⟨l, r1, r2, r3, r4, r5, r6⟩ := d_bslice he rh ho hc hr hs h1
  rename_i T size n zero parts rows t n' parts'
  have ev := Ev.alloc m (.cells ⟨l⟩ T)
  refine wp_of_run r1 (h 0 { m with w := m.w.alloc (.cells ⟨l⟩ T) } _ trivial rfl (RH.alloc rh _) ev ?_)
  simp only [D.val, Rv]
  refine ⟨_, _, _, rfl, rfl, ⟨Nat.le_refl _, by rw [maxLen_eq]; omega⟩, .inr ⟨m.w.heap.size, 0, rfl, RvR.of (fun r hr => by have := List.all_eq_true.1 hs r hr; simpa using this) (RvL.ev ev _ _ r2) fun j v hj => ⟨?_, r3 v (List.mem_of_getElem? hj), ⟨by simp, blk_new rh, fun t i ht hb => ?_⟩⟩⟩⟩
  ·rw [Nat.zero_add, cell_of_row _ m.w.heap.size j ⟨l⟩ T (0, 0) (hpnew m.w _)]
   simpa using hj
  ·have := tok_lt rh ht hb
   omega
 | bsliceO hr hs h1 h0 =>
  cases ho : o.op <;> try (simp [ho, chkOp] at hc; done)
  rename_i T size n zero parts rows t n' parts'
  have hc' : chkOp P o.op (.bslice T size n zero parts) = true := by rw [ho] at hc ⊢; exact hc
  obtain ⟨l, r1, r2, r3, r4, r5, r6⟩ := d_bslice he rh ho hc' hr hs h1
  obtain ⟨q1, q2, q3⟩ := new_tok rh (w' := m.w.alloc (.cells ⟨l⟩ T)) (T := T) (size := size) (cap := rows.length) (rows := rows) (l := l) (cur := ⟨l⟩) rfl rfl rfl (by simp) (fun b hb => hpold m.w _ b hb) (hpnew m.w _) r2 r3 r4 (fun r hr => by have := List.all_eq_true.1 hs r hr; simpa using this) (fun j v hj => by simpa using hj) (by simpa using r4) (Nat.le_refl _) (by rw [maxLen_eq]; omega) r6
  exact wp_of_run r1 (h m.T _ _ (tok_new rh) rfl q1 q2 q3)
 | app0 hx hy hb hm h0 =>
  cases ho : o.op <;> try (simp [ho, chkOp] at hc; done)
  rename_i T size bytes x y rows c
  obtain ⟨callee, args, argTypes⟩ := c
  rw [ho] at hc
  cases callee with
  | value f => simp [chkOp] at hc
  | invoke _ _ => simp [chkOp] at hc
  | builtin b =>
   cases b <;> simp only [chkOp] at hc <;> first
    | (cases hc; done)
    | skip
   simp only [Bool.and_eq_true] at hc
   obtain ⟨c1, c2⟩ := hc
   split at c2
   ·rename_i t u ht
    obtain ⟨A⟩ := appT_of c2
    obtain rfl := arr2 ht
    have hargs : ∃ p q, args = #[p, q] ∧ chkX p x = true ∧ chkX q y = true := by
     match hl : args.toList with
     | [p, q] => rw [hl] at c1; simp only [chkXs, Bool.and_eq_true] at c1; exact ⟨p, q, arr2 hl, c1.1, c1.2.1⟩
     | [] => rw [hl] at c1; simp [chkXs] at c1
     | [_] => rw [hl] at c1; simp [chkXs] at c1
     | _ :: _ :: _ :: _ => rw [hl] at c1; simp [chkXs] at c1
    obtain ⟨p, q, rfl, e1, e2⟩ := hargs
    have hp := chkX_rv he e1
    rw [hx] at hp
    have hp' := rv_raw hp
    obtain ⟨news, S⟩ := src_of (P := P) (chkX_rv he e2) hy
    obtain ⟨m', v, r1, r2, r3, r4, r5⟩ := app_nil (ty := o.type) A rh S hb hm h0
    refine wp_of_run (v := v) (w' := m'.w) ?_ (h m.T m' v (tok_new rh) r4 r2 r3 r5)
    simp [execOp, ho, resolve, invoke, builtin, hp', r1]
   ·cases c2
 | pcall ha hp =>
  cases ho : o.op <;> try (simp [ho, chkOp] at hc; done)
  rename_i f args az r c
  obtain ⟨callee, cargs, argTypes⟩ := c
  rw [ho] at hc
  cases callee with
  | builtin b => cases b <;> simp [chkOp] at hc
  | invoke _ _ => simp [chkOp] at hc
  | value g =>
   simp only [chkOp, Bool.and_eq_true] at hc
   obtain ⟨⟨c1, c2⟩, c3⟩ := hc
   split at c1
   ·rename_i f'
    have : f' = f := by simpa using c1
    subst this
    refine wp_of_enter (run_op_call ho rfl rfl c3 m.w) ?_
    have hl := avles_rv ha (chkXs_rv he c2)
    have hA : (cargs.map a.eval) = ⟨cargs.toList.map a.eval⟩ := Array.ext' (by simp)
    rw [show ({ callee := Callee.value (Operand.func f'), args := cargs, argTypes := argTypes } : Call).args.map a.eval = ⟨cargs.toList.map a.eval⟩ from hA]
    exact acalls_wp rh hl (hp m.H) (fun r' m' v hr r1 r2 r3 => by obtain ⟨e1, e2⟩ := hr; simp at e1; subst e1; exact h 0 m' v trivial e2 r1 r2 r3) (fun r' m' v hr => by simp at hr)
   ·cases c1
 | pcallv hx hf ha hp =>
  cases ho : o.op <;> try (simp [ho, chkOp] at hc; done)
  rename_i x args f cap az r c
  obtain ⟨callee, cargs, argTypes⟩ := c
  rw [ho] at hc
  cases callee with
  | builtin b => cases b <;> simp [chkOp] at hc
  | invoke _ _ => simp [chkOp] at hc
  | value g =>
   simp only [chkOp, Bool.and_eq_true] at hc
   obtain ⟨c1, c2⟩ := hc
   have hg := chkX_rv he c1
   rw [hx] at hg
   obtain ⟨l, g1, g2⟩ := rv_fn hg
   refine wp_of_enter (run_op_callv ho rfl g1 hf m.w) ?_
   have hl := avles_rv ha (RvL.append (chkXs_rv he c2) g2)
   have hA : (cargs.map a.eval) ++ ⟨l⟩ = ⟨cargs.toList.map a.eval ++ l⟩ := by
    apply Array.ext'
    simp
   rw [show ({ callee := Callee.value g, args := cargs, argTypes := argTypes } : Call).args.map a.eval ++ ⟨l⟩ = ⟨cargs.toList.map a.eval ++ l⟩ from hA]
   exact acalls_wp rh hl (hp m.H) (fun r' m' v hr r1 r2 r3 => by obtain ⟨e1, e2⟩ := hr; simp at e1; subst e1; exact h 0 m' v trivial e2 r1 r2 r3) (fun r' m' v hr => by simp at hr)
 | pcall' ha hp =>
  cases ho : o.op <;> try (simp [ho, chkOp] at hc; done)
  rename_i f args az r c
  obtain ⟨callee, cargs, argTypes⟩ := c
  rw [ho] at hc
  cases callee with
  | builtin b => cases b <;> simp [chkOp] at hc
  | invoke _ _ => simp [chkOp] at hc
  | value g =>
   simp only [chkOp, Bool.and_eq_true] at hc
   obtain ⟨⟨c1, c2⟩, c3⟩ := hc
   split at c1
   ·rename_i f'
    have : f' = f := by simpa using c1
    subst this
    refine wp_of_enter (run_op_call ho rfl rfl c3 m.w) ?_
    have hl := avles_rv ha (chkXs_rv he c2)
    have hA : (cargs.map a.eval) = ⟨cargs.toList.map a.eval⟩ := Array.ext' (by simp)
    rw [show ({ callee := Callee.value (Operand.func f'), args := cargs, argTypes := argTypes } : Call).args.map a.eval = ⟨cargs.toList.map a.eval⟩ from hA]
    exact acalls_wp rh hl (hp m.H) (fun r' m' v hr r1 r2 r3 => by obtain ⟨e1, e2⟩ := hr; simp at e1; subst e1; exact h 0 m' v trivial e2 r1 r2 r3) (fun r' m' v hr => by simp at hr)
   ·cases c1
 | pcallv' hx hf ha hp =>
  cases ho : o.op <;> try (simp [ho, chkOp] at hc; done)
  rename_i x args f cap az r c
  obtain ⟨callee, cargs, argTypes⟩ := c
  rw [ho] at hc
  cases callee with
  | builtin b => cases b <;> simp [chkOp] at hc
  | invoke _ _ => simp [chkOp] at hc
  | value g =>
   simp only [chkOp, Bool.and_eq_true] at hc
   obtain ⟨c1, c2⟩ := hc
   have hg := chkX_rv he c1
   rw [hx] at hg
   obtain ⟨l, g1, g2⟩ := rv_fn hg
   refine wp_of_enter (run_op_callv ho rfl g1 hf m.w) ?_
   have hl := avles_rv ha (RvL.append (chkXs_rv he c2) g2)
   have hA : (cargs.map a.eval) ++ ⟨l⟩ = ⟨cargs.toList.map a.eval ++ l⟩ := by
    apply Array.ext'
    simp
   rw [show ({ callee := Callee.value g, args := cargs, argTypes := argTypes } : Call).args.map a.eval ++ ⟨l⟩ = ⟨cargs.toList.map a.eval ++ l⟩ from hA]
   exact acalls_wp rh hl (hp m.H) (fun r' m' v hr r1 r2 r3 => by obtain ⟨e1, e2⟩ := hr; simp at e1; subst e1; exact h 0 m' v trivial e2 r1 r2 r3) (fun r' m' v hr => by simp at hr)
 | appM0 hx hy hb hm h0 =>
  cases ho : o.op <;> try (simp [ho, chkOp] at hc; done)
  rename_i T size bytes x y rows c
  obtain ⟨callee, args, argTypes⟩ := c
  rw [ho] at hc
  cases callee with
  | value f => simp [chkOp] at hc
  | invoke _ _ => simp [chkOp] at hc
  | builtin b =>
   cases b <;> simp only [chkOp] at hc <;> first
    | (cases hc; done)
    | skip
   simp only [Bool.and_eq_true] at hc
   obtain ⟨c1, c2⟩ := hc
   split at c2
   ·rename_i t u ht
    obtain ⟨A⟩ := appT_of c2
    obtain rfl := arr2 ht
    have hargs : ∃ p q, args = #[p, q] ∧ chkX p x = true ∧ chkX q y = true := by
     match hl : args.toList with
     | [p, q] => rw [hl] at c1; simp only [chkXs, Bool.and_eq_true] at c1; exact ⟨p, q, arr2 hl, c1.1, c1.2.1⟩
     | [] => rw [hl] at c1; simp [chkXs] at c1
     | [_] => rw [hl] at c1; simp [chkXs] at c1
     | _ :: _ :: _ :: _ => rw [hl] at c1; simp [chkXs] at c1
    obtain ⟨p, q, rfl, e1, e2⟩ := hargs
    have hp := chkX_rv he e1
    rw [hx] at hp
    have hp' := rv_raw hp
    obtain ⟨news, S⟩ := src_of (P := P) (chkX_rv he e2) hy
    obtain ⟨m', v, r1, r2, r3, r4, r5⟩ := app_ms0 (ty := o.type) A rh S hb hm h0
    refine wp_of_run (v := v) (w' := m'.w) ?_ (h m.T m' v (tok_new rh) r4 r2 r3 r5)
    simp [execOp, ho, resolve, invoke, builtin, hp', r1]
   ·cases c2
 | pcallM' ha hp =>
  cases ho : o.op <;> try (simp [ho, chkOp] at hc; done)
  rename_i f args az T size rows c
  obtain ⟨callee, cargs, argTypes⟩ := c
  rw [ho] at hc
  cases callee with
  | builtin b => cases b <;> simp [chkOp] at hc
  | invoke _ _ => simp [chkOp] at hc
  | value g =>
   simp only [chkOp, Bool.and_eq_true] at hc
   obtain ⟨⟨c1, c2⟩, c3⟩ := hc
   split at c1
   ·rename_i f'
    have : f' = f := by simpa using c1
    subst this
    refine wp_of_enter (run_op_call ho rfl rfl c3 m.w) ?_
    have hl := avles_rv ha (chkXs_rv he c2)
    have hA : (cargs.map a.eval) = ⟨cargs.toList.map a.eval⟩ := Array.ext' (by simp)
    rw [show ({ callee := Callee.value (Operand.func f'), args := cargs, argTypes := argTypes } : Call).args.map a.eval = ⟨cargs.toList.map a.eval⟩ from hA]
    exact acalls_wp rh hl (hp m.H) (fun r' m' v hr r1 r2 r3 => by obtain ⟨t, e0, e1, e2⟩ := hr; simp at e1; subst e1; exact h t m' v e0 e2 r1 r2 r3) (fun r' m' v hr => by obtain ⟨t, e0, e1, e2⟩ := hr; simp at e1)
   ·cases c1
 | lenM hx ht =>
  cases ho : o.op <;> try (simp [ho, chkOp] at hc; done)
  exact hq _ rfl (d_lenM he rh ho hc hx ht)
 | isnilT hx =>
  cases ho : o.op <;> try (simp [ho, chkOp] at hc; done)
  exact hq _ rfl (d_isnil he ho hc fun v hv => .inl ⟨by rw [hx] at hv; simpa only [Rv] using hv, rfl⟩)
 | isnilF hx hr =>
  cases ho : o.op <;> try (simp [ho, chkOp] at hc; done)
  exact hq _ rfl (d_isnil he ho hc fun v hv => .inr ⟨by rw [hx] at hv; exact vs_some hv hr, rfl⟩)
 | faddrM hx ht =>
  cases ho : o.op <;> try (simp [ho, chkOp] at hc; done)
  exact hq _ rfl (d_faddrM he rh ho hc hx ht)
 | iaddrM hx ht hi h0 h1 =>
  cases ho : o.op <;> try (simp [ho, chkOp] at hc; done)
  exact hq _ rfl (d_iaddrM he rh ho hc hx ht hi h0 h1)
 | loadM hx ht hl hv =>
  cases ho : o.op <;> try (simp [ho, chkOp] at hc; done)
  exact hq _ rfl (d_loadM he rh ho hc hx ht hl hv)
 | bsliceM hr hs h1 h0 =>
  cases ho : o.op <;> try (simp [ho, chkOp] at hc; done)
  rename_i T size n zero parts rows t n' parts'
  have hc' : chkOp P o.op (.bslice T size n zero parts) = true := by rw [ho] at hc ⊢; exact hc
  obtain ⟨l, r1, r2, r3, r4, r5, r6⟩ := d_bslice he rh ho hc' hr hs h1
  have htk : (⟨l⟩ : Array Value).toList.take (rows.length * size) = l := by rw [← r4]; simp
  obtain ⟨q1, q2, q3⟩ := new_ms rh (w' := m.w.alloc (.cells ⟨l⟩ T)) (T := T) (size := size) (cap := rows.length) (rows := rows) (cur := ⟨l⟩) rfl rfl rfl (by simp) (fun b hb => hpold m.w _ b hb) (hpnew m.w _) (by rw [htk]; exact r2) (by rw [htk]; exact r3) (fun r hr => by have := List.all_eq_true.1 hs r hr; simpa using this) r4 (Nat.le_refl _) (by rw [maxLen_eq]; omega) h0
  exact wp_of_run r1 (h m.T _ _ (tok_new rh) rfl q1 q2 q3)
 | mkM hx hb hm hz1 hz h0 =>
  cases ho : o.op <;> try (simp [ho, chkOp] at hc; done)
  rename_i T size bytes zero x k n t' l' c'
  rw [ho] at hc
  simp only [chkOp, Bool.and_eq_true, decide_eq_true_eq] at hc
  obtain ⟨⟨⟨⟨⟨c1, c2⟩, c3⟩, c4⟩, c5⟩, c6⟩ := hc
  obtain ⟨i, z, hi, hzi, hcz⟩ := zeroT_parts c5
  obtain ⟨g1, g2⟩ := cstA_rv (m := m) hcz
  have e1 := chkX_rv he c1
  have e2 := chkX_rv he c2
  rw [hx] at e1 e2
  have e1 := rv_int e1
  have e2 := rv_int e2
  rw [hi] at c6
  simp only [decide_eq_true_eq] at c6
  have hsz : i.size = size := by
   obtain ⟨i2, q1, q2⟩ := sizeT_info c4
   rw [hi] at q1
   cases q1
   exact q2
  have hzs : z.cells.size = size := by
   have := RvL.length g1
   rw [← hz, ← this]
   simp
  have hb' : (i.bytes : Int) * (n : Int) ≤ 281474976710656 := by
   rw [c6]
   have h : ((bytes * n : Nat) : Int) ≤ 281474976710656 := by omega
   rwa [Int.natCast_mul] at h
  have hn63 : (n : Int) ≤ 9223372036854775807 := by have := hm; unfold maxLen at this; omega
  have hrun := run_make (P := P) m.w t' T i z (slT_under c3) hi hzi k k (n : Int) (n : Int) (by omega) (by omega) hb' hn63
  simp only [Int.toNat_natCast] at hrun
  rw [hsz] at hrun
  have r1 : (execOp a.eval o).run P m.w = .ok (.value (.slice (some ⟨m.w.heap.size, 0, none⟩) n n)) (m.w.alloc (.cells (madeCells z.cells (n * size)) T)) := by
   simp [execOp, ho, e1, e2, hrun]
  have hml : (madeCells z.cells (n * size)).toList = (List.replicate n z.cells.toList).flatten := by rw [← hzs]; exact made_list _ _
  have hlen : (List.replicate n zero).length = n := by simp
  have hcs := size_madeCells z.cells (n * size)
  generalize madeCells z.cells (n * size) = cur at *
  have htk : cur.toList.take ((List.replicate n zero).length * size) = (List.replicate n z.cells.toList).flatten := by
   rw [hlen, List.take_of_length_le (by rw [Array.length_toList, hcs]; exact Nat.le_refl _), hml]
  obtain ⟨q1, q2, q3⟩ := new_ms rh (w' := m.w.alloc (.cells cur T)) (T := T) (size := size) (cap := n) (rows := List.replicate n zero) (cur := cur) rfl rfl rfl (by simp) (fun b hb => hpold m.w _ b hb) (hpnew m.w _) (by rw [htk]; exact rvl_repl g1 n) (by rw [htk]; intro v hv; obtain ⟨l, h1, h2⟩ := List.mem_flatten.1 hv; obtain ⟨_, rfl⟩ := List.mem_replicate.1 h1; exact g2 v h2) (fun r hr => by obtain ⟨_, rfl⟩ := List.mem_replicate.1 hr; exact hz) hcs (by rw [hlen]; exact Nat.le_refl _) hm h0
  rw [hlen] at q1 q2 q3
  exact wp_of_run r1 (h m.T _ _ (tok_new rh) rfl q1 q2 q3)
end
end Go.Aw
