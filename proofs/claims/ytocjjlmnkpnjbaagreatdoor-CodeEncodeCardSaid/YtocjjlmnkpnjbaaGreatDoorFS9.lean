/- Part of a proof; own work. -/
import Derived.Below
import Derived.Deep.Slices
import Derived.Deep.Fields
import Derived.ChangeSame
import Derived.WideShapes
import Derived.Test.YtocjjlmnkpnjbaaGreatDoorRows
import Derived.ProofKit
import Derived.LaidMore
import Derived.OpenShut
import Derived.Stop.Joined
import Derived.LaidLaws
import Derived.Lib.ItoaNum
import Derived.Lib.LaidTab
import Derived.Stop.LaidErr
import Derived.MakeChecks
import Derived.HandedShaped
import Derived.Test.YtocjjlmnkpnjbaaGreatDoorFS8
namespace Go.Aw
open Go Go.ChangeShapes Go.WideShapes Go.Deep Go.RowKit
set_option linter.unusedVariables false
theorem calls_at {P : Program} {f : FuncId} {args : List AV} {r : AV} (h : Pure P f args r) (w : World) (vs : List Value) (hg : GlobW w) (ha : ∀ m : Mem, m.w = w → m.H = AHeap.none → RvL m args vs) :
  Calls P f ⟨vs⟩ w fun e w' => (∃ v, e = .returned v ∧ ∃ m : Mem, Rv m r v) ∧ Below w.heap.size w w' := by
 have := h AHeap.none ⟨w, AHeap.none, fun _ => .nilFunc, 0⟩ vs rfl ⟨fun b T cs hb => by simp [AHeap.none] at hb, fun t i hi => by simp [AHeap.none] at hi, hg, fun p hp => ⟨rfl, fun t i hi => by simp [AHeap.none] at hi⟩⟩ (ha _ rfl rfl)
 refine this.mono fun e w' ⟨o, H', L', T', g1, g2, g3, g4, g5⟩ => ?_
 subst g4
 simp only [RvOut] at g3
 obtain ⟨v, e1, e2⟩ := g3
 exact ⟨⟨v, e1, _, e2⟩, ⟨g2.os, g2.tape, g2.output, g2.size, fun b hb => (g2.block b hb rfl (fun t i hi => by simp [AHeap.none] at hi)).1⟩⟩
def LKs : List LK → List AV → Prop
 | [], l => l = []
 | .b :: ks, l => False
 | .i k :: ks, l => ∃ n l', l = .int k n :: l' ∧ (Lit.int k n).wf = true ∧ LKs ks l'
 | .s :: ks, l => ∃ s l', l = .str s :: l' ∧ LKs ks l'
theorem LKs_app : ∀ {a b : List LK} {x y : List AV}, LKs a x → LKs b y → LKs (a ++ b) (x ++ y)
 | [], _, _, _, h, k => by simp only [LKs] at h; subst h; exact k
 | .b :: _, _, _, _, h, _ => by simp only [LKs] at h
 | .i _ :: az, _, _, _, h, k => by
  simp only [LKs] at h
  obtain ⟨n, l, rfl, hw, h⟩ := h
  exact ⟨n, _, rfl, hw, LKs_app h k⟩
 | .s :: az, _, _, _, h, k => by
  simp only [LKs] at h
  obtain ⟨n, l, rfl, h⟩ := h
  exact ⟨n, _, rfl, LKs_app h k⟩
theorem LKs_len : ∀ {a : List LK} {x : List AV}, LKs a x → x.length = a.length
 | [], _, h => by simp only [LKs] at h; subst h; rfl
 | .b :: _, _, h => by simp only [LKs] at h
 | .i _ :: az, _, h => by
  simp only [LKs] at h
  obtain ⟨n, l, rfl, hw, h⟩ := h
  simp [LKs_len h]
 | .s :: az, _, h => by
  simp only [LKs] at h
  obtain ⟨n, l, rfl, h⟩ := h
  simp [LKs_len h]
theorem rvL_app {m : Mem} : ∀ {x y : List AV} {u v : List Value}, RvL m x u → RvL m y v → RvL m (x ++ y) (u ++ v)
 | [], _, _, _, h, k => by simp only [RvL] at h; subst h; exact k
 | a :: az, _, _, _, h, k => by
  simp only [RvL] at h
  obtain ⟨v, vs, rfl, h1, h2⟩ := h
  simp only [List.cons_append, RvL]
  exact ⟨v, _, rfl, h1, rvL_app h2 k⟩
def flatWs (P : Program) (g : TypeId → Option (List LK)) : Nat → List Field → Option (List LK)
 | _, [] => some []
 | off, f :: fs => match g f.type with
  | some ks => if f.offset = off ∧ P.cellsOf f.type = ks.length then (flatWs P g (off + ks.length) fs).map (ks ++ ·) else none
  | none => none
def flatW (P : Program) : Nat → TypeId → Option (List LK)
 | 0, _ => none
 | d + 1, t => match P.underlying t with
  | some (.int k) => some [.i k]
  | some .string => some [.s]
  | some (.struct fs) => match flatWs P (flatW P d) 0 fs.toList with
   | some ks => if P.cellsOf t = ks.length then some ks else none
   | none => none
  | _ => none
section
variable {H : Type} {enc : TypeId × Value → H} {P : Program} {w : World} {base : Nat} {spare : Nat → Bool} {held : Bool}
theorem rv_string {m : Mem} {s : ByteArray} (h : s.size ≤ maxLen) : Rv m (.str s.data.toList) (.string s) := by
 simp only [Rv]
 exact ⟨trivial, by simpa using h⟩
theorem flat_open : ∀ {d : Nat} {t : TypeId} {ks : List LK} {fuel : Nat} {cs : List Value} {x : DataW H × List MemPlace}, flatW P d t = some ks → DataW.trod enc P w base spare held fuel t cs = some x → ∃ avs, LKs ks avs ∧ cs.length = ks.length ∧ ∀ m : Mem, RvL m avs cs
 | 0, _, _, _, _, _, h, _ => by simp [flatW] at h
 | d + 1, t, ks, fuel, cs, x, h, ht => by
  simp only [flatW] at h
  split at h
  ·rename_i k hu
   simp at h
   subst h
   obtain ⟨n, rfl, _, hw⟩ := DataW.trod_int hu ht
   exact ⟨[.int k n], ⟨n, [], rfl, hw, rfl⟩, rfl, fun m => by simp only [RvL, Rv]; exact ⟨_, _, rfl, rfl, rfl⟩⟩
  ·rename_i hu
   simp at h
   subst h
   obtain ⟨s, rfl, _, hl⟩ := DataW.trod_string hu ht
   exact ⟨[.str s.data.toList], ⟨_, [], rfl, rfl⟩, rfl, fun m => by simp only [RvL]; exact ⟨_, _, rfl, rv_string hl, rfl⟩⟩
  ·rename_i fs hu
   obtain ⟨xs, n, _, _, hlen, hxs, hf⟩ := DataW.trod_struct hu ht
   split at h
   ·rename_i ks' hk
    split at h
    ·rename_i hc
     simp at h
     subst h
     have key : ∀ (l : List Field) (off i : Nat) (ks : List LK), flatWs P (flatW P d) off l = some ks → (∀ j, l[j]? = fs.toList[i + j]?) → ∃ avs, LKs ks avs ∧ ((cs.drop off).take ks.length).length = ks.length ∧ ∀ m : Mem, RvL m avs ((cs.drop off).take ks.length) := by
      intro l
      induction l with
      | nil =>
       intro off i ks h _
       simp [flatWs] at h
       subst h
       exact ⟨[], rfl, by simp, fun m => by simp [RvL]⟩
      | cons f l ih =>
       intro off i ks h hj
       simp only [flatWs] at h
       split at h
       ·rename_i k1 h1
        split at h
        ·rename_i h2
         obtain ⟨h2, h3⟩ := h2
         simp only [Option.map_eq_some_iff] at h
         obtain ⟨k2, h4, rfl⟩ := h
         obtain ⟨a2, b2, b2l, c2⟩ := ih (off + k1.length) (i + 1) k2 h4 (fun j => by have := hj (j + 1); simpa [Nat.add_assoc, Nat.add_comm 1 j] using this)
         have hfi : fs[i]? = some f := by have := hj 0; simpa using this.symm
         have hi : i < fs.size := (Array.getElem?_eq_some_iff.1 hfi).1
         have e1 := hf i f hfi
         rw [List.getElem?_eq_getElem (by omega : i < xs.length), h2, h3] at e1
         obtain ⟨a1, b1, b1l, c1⟩ := flat_open h1 e1
         have es : (cs.drop off).take (k1 ++ k2).length = (cs.drop off).take k1.length ++ (cs.drop (off + k1.length)).take k2.length := by
          rw [List.length_append, List.take_add, List.drop_drop]
         refine ⟨a1 ++ a2, LKs_app b1 b2, ?_, fun m => ?_⟩
         ·rw [es, List.length_append, b1l, b2l, List.length_append]
         ·rw [es]; exact rvL_app (c1 m) (c2 m)
        ·cases h
       ·cases h
     obtain ⟨avs, a1, a2, a3⟩ := key fs.toList 0 0 ks' hk (fun j => by simp)
     have e : (cs.drop 0).take ks'.length = cs := by rw [List.drop_zero]; exact List.take_of_length_le (by omega)
     rw [e] at a2 a3
     exact ⟨avs, a1, a2, a3⟩
    ·cases h
   ·cases h
  ·cases h
theorem st_none {m : Mem} {b o : Nat} {v : Value} (hH : m.H = AHeap.none) (hc : m.w.cell? ⟨b, o, none⟩ = some v) : St m b o where
 lt := World.block_lt_of_cell? m.w _ (by rw [hc])
 blk := by rw [hH]; rfl
 tok := fun t i hi => by rw [hH] at hi; simp [AHeap.none] at hi
theorem rvC_flat {m : Mem} (hH : m.H = AHeap.none) : ∀ {ks : List LK} {avs : List AV} {cs : List Value} {b o : Nat}, LKs ks avs → RvL m avs cs → (∀ j v, cs[j]? = some v → m.w.cell? ⟨b, o + j, none⟩ = some v) → RvC m avs b o
 | [], _, _, _, _, h, _, _ => by simp only [LKs] at h; subst h; simp only [RvC]
 | .b :: _, _, _, _, _, h, _, _ => by simp only [LKs] at h
 | .i k :: ks, avs, cs, b, o, h, hv, hc => by
  simp only [LKs] at h
  obtain ⟨n, l, rfl, hw, h⟩ := h
  simp only [RvL] at hv
  obtain ⟨v, vs, rfl, h1, h2⟩ := hv
  simp only [RvC]
  have h0 := hc 0 v rfl
  refine ⟨⟨v, h0, ?_, st_none hH h0, h1⟩, rvC_flat hH h h2 fun j u hu => ?_⟩
  ·simp only [Rv] at h1; subst h1; rfl
  ·have := hc (j + 1) u (by simpa using hu)
   rw [show o + 1 + j = o + (j + 1) by omega]
   exact this
 | .s :: ks, avs, cs, b, o, h, hv, hc => by
  simp only [LKs] at h
  obtain ⟨n, l, rfl, h⟩ := h
  simp only [RvL] at hv
  obtain ⟨v, vs, rfl, h1, h2⟩ := hv
  simp only [RvC]
  have h0 := hc 0 v rfl
  refine ⟨⟨v, h0, ?_, st_none hH h0, h1⟩, rvC_flat hH h h2 fun j u hu => ?_⟩
  ·simp only [Rv] at h1; obtain ⟨h1, _⟩ := h1; subst h1; rfl
  ·have := hc (j + 1) u (by simpa using hu)
   rw [show o + 1 + j = o + (j + 1) by omega]
   exact this
theorem rvR_of {m : Mem} {size b o : Nat} {R : Nat → List AV} : ∀ (n i : Nat), (∀ j, i ≤ j → j < i + n → (R j).length = size ∧ RvC m (R j) b (o + j * size)) → RvR m size ((List.range' i n).map R) b (o + i * size)
 | 0, _, _ => by simp [RvR]
 | n + 1, i, h => by
  obtain ⟨h1, h2⟩ := h i (Nat.le_refl _) (by omega)
  simp only [List.range'_succ, List.map_cons, RvR]
  refine ⟨h1, h2, ?_⟩
  have := rvR_of n (i + 1) fun j h1 h2 => h j (by omega) (by omega)
  rw [show o + i * size + size = o + (i + 1) * size by rw [Nat.add_mul]; omega]
  exact this
theorem slice_open {t e : TypeId} {ks : List LK} {fuel : Nat} {v : Value} {x : DataW H × List MemPlace} (ht : P.underlying t = some (.slice e)) (hk : flatW P 8 e = some ks) (hc : P.cellsOf e = ks.length) (h0 : 0 < ks.length)
  (h : DataW.trod enc P w base spare held fuel t [v] = some x) : ∃ rows, (∀ r ∈ rows, LKs ks r) ∧ ∀ m : Mem, m.w = w → m.H = AHeap.none → Rv m (.vs ks.length rows) v := by
 rcases open_slice ht h with ⟨h1, _⟩ | ⟨a, len, cap, mm, n, D, Pl, hcs, hb, hl, hm, hmm, _, hi⟩
 ·simp at h1
  subst h1
  refine ⟨[], fun r hr => by simp at hr, fun m _ _ => ?_⟩
  simp only [Rv]
  exact ⟨none, 0, 0, rfl, rfl, ⟨Nat.le_refl _, Nat.zero_le _⟩, .inl rfl⟩
 ·simp at hcs
  subst hcs
  have hlm : len ≤ mm := by rw [hmm]; split <;> omega
  have key : ∀ i, ∃ r cs, i < len → LKs ks r ∧ (∀ m : Mem, RvL m r cs) ∧ cs.length = ks.length ∧ ∀ j, j < ks.length → w.cell? ((a.add (i * ks.length)).add j) = cs[j]? := by
   intro i
   by_cases hil : i < len
   ·obtain ⟨cs', h1, h2⟩ := hi i (by omega)
    rw [hc] at h1
    obtain ⟨_, h3, h4⟩ := World.cells?_some h1
    obtain ⟨avs, g1, g2, g3⟩ := flat_open hk h2
    exact ⟨avs, cs', fun _ => ⟨g1, g3, h3, h4⟩⟩
   ·exact ⟨[], [], fun h => absurd h hil⟩
  obtain ⟨R, hR⟩ := Classical.skolem.1 key
  refine ⟨(List.range' 0 len).map R, fun r hr => ?_, fun m hw hH => ?_⟩
  ·obtain ⟨i, h1, rfl⟩ := List.mem_map.1 hr
   obtain ⟨cs, h2⟩ := hR i
   exact (h2 (by have := List.mem_range'_1.1 h1; omega)).1
  ·simp only [Rv]
   refine ⟨_, _, _, rfl, by simp, ⟨hl, hm⟩, ?_⟩
   by_cases hz : len = 0
   ·left; simp [hz]
   ·right
    have hspot : ∃ b o, a = ⟨b, o, none⟩ := by
     obtain ⟨cs, h2⟩ := hR 0
     obtain ⟨_, _, h3, h4⟩ := h2 (by omega)
     have h5 := h4 0 h0
     rw [List.getElem?_eq_getElem (by omega)] at h5
     simp only [Nat.zero_mul, Addr.add, if_true] at h5
     obtain ⟨ab, ao, az⟩ := a
     cases az with
     | none => exact ⟨_, _, rfl⟩
     | some _ =>
      exfalso
      unfold World.cell? at h5
      split at h5
      ·simp at h5
      ·cases h5
    obtain ⟨b, o, rfl⟩ := hspot
    refine ⟨b, o, rfl, ?_⟩
    have := rvR_of (m := m) (size := ks.length) (b := b) (o := o) (R := R) len 0 fun j _ hj => ?_
    ·simpa using this
    ·obtain ⟨cs, h2⟩ := hR j
     obtain ⟨g1, g2, g3, g4⟩ := h2 (by omega)
     refine ⟨LKs_len g1, rvC_flat hH g1 (g2 m) fun i v hv => ?_⟩
     have hi' : i < ks.length := by rw [← g3]; exact (List.getElem?_eq_some_iff.1 hv).1
     have h6 := g4 i hi'
     rw [hv] at h6
     rw [hw, ← h6]
     congr 1
     unfold Addr.add
     by_cases e1 : j * ks.length = 0
     ·by_cases e2 : i = 0
      ·simp [e1, e2]
      ·simp [e1, e2]
     ·by_cases e2 : i = 0
      ·simp [e1, e2]
      ·simp [e1, e2]
inductive FK where
 | lk (k : LK)
 | sl (ks : List LK)
 deriving DecidableEq
def FKs : List FK → List AV → Prop
 | [], l => l = []
 | .lk .b :: ks, l => False
 | .lk (.i k) :: ks, l => ∃ n l', l = .int k n :: l' ∧ (Lit.int k n).wf = true ∧ FKs ks l'
 | .lk .s :: ks, l => ∃ s l', l = .str s :: l' ∧ FKs ks l'
 | .sl k :: ks, l => ∃ rows l', l = .vs k.length rows :: l' ∧ (∀ r ∈ rows, LKs k r) ∧ FKs ks l'
def fieldW (P : Program) (t : TypeId) : Option FK := match P.underlying t with
 | some (.int k) => some (.lk (.i k))
 | some .string => some (.lk .s)
 | some (.slice e) => match flatW P 8 e with
  | some ks => if P.cellsOf e = ks.length ∧ 0 < ks.length then some (.sl ks) else none
  | none => none
 | _ => none
def fieldsW (P : Program) : List Field → Option (List FK)
 | [] => some []
 | f :: fs => match fieldW P f.type with
  | some k => (fieldsW P fs).map (k :: ·)
  | none => none
def structW (P : Program) (t : TypeId) : Option (List FK) := match P.underlying t with
 | some (.struct fs) => if oneCellFields P fs = true ∧ P.cellsOf t = fs.size then fieldsW P fs.toList else none
 | _ => none
theorem field_open {t : TypeId} {k : FK} {fuel : Nat} {v : Value} {x : DataW H × List MemPlace} (hk : fieldW P t = some k) (h : DataW.trod enc P w base spare held fuel t [v] = some x) :
  ∃ a, (∀ ks az, FKs ks az → FKs (k :: ks) (a :: az)) ∧ ∀ m : Mem, m.w = w → m.H = AHeap.none → Rv m a v := by
 simp only [fieldW] at hk
 split at hk
 ·rename_i hu
  simp at hk
  subst hk
  obtain ⟨n, h1, _, hw⟩ := DataW.trod_int hu h
  simp at h1
  subst h1
  exact ⟨.int _ n, fun ks az h => ⟨n, az, rfl, hw, h⟩, fun m _ _ => by simp only [Rv]⟩
 ·rename_i hu
  simp at hk
  subst hk
  obtain ⟨s, h1, _, hl⟩ := DataW.trod_string hu h
  simp at h1
  subst h1
  exact ⟨.str s.data.toList, fun ks az h => ⟨_, az, rfl, h⟩, fun m _ _ => rv_string hl⟩
 ·rename_i e hu
  split at hk
  ·rename_i ks h1
   split at hk
   ·rename_i h2
    simp at hk
    subst hk
    obtain ⟨rows, h3, h4⟩ := slice_open hu h1 h2.1 h2.2 h
    exact ⟨.vs ks.length rows, fun ks' az h => ⟨rows, az, rfl, h3, h⟩, h4⟩
   ·cases hk
  ·cases hk
 ·cases hk
theorem struct_open {r : Reach} {b0 : Nat} {t : TypeId} {ks : List FK} {v : Value} {d : DataW H} {p : List MemPlace} (hk : structW P t = some ks) (hv : Value.okWide P w r b0 t v) (h : DataW.Trod enc P w base spare held t v d p) :
  ∃ avs, FKs ks avs ∧ ∀ m : Mem, m.w = w → m.H = AHeap.none → Rv m (.agg avs) v := by
 simp only [structW] at hk
 split at hk
 ·rename_i fs hu
  split at hk
  ·rename_i hc
   obtain ⟨hone, hC⟩ := hc
   obtain ⟨cs, rfl, hsz⟩ := okWide_struct hu hv
   obtain ⟨l⟩ := cs
   obtain ⟨fuel, hf⟩ := h
   obtain ⟨xs, n, _, _, hlen, hxs, hg⟩ := DataW.trod_struct hu hf
   simp only [Value.cells] at hlen hg
   have hll : l.length = fs.size := by rw [← hC]; simpa using hsz
   have key : ∀ (fl : List Field) (i : Nat) (ks : List FK), fieldsW P fl = some ks → (∀ j, fl[j]? = fs.toList[i + j]?) → fl.length = fs.size - i → i ≤ fs.size → ∃ avs, FKs ks avs ∧ ∀ m : Mem, m.w = w → m.H = AHeap.none → RvL m avs (l.drop i) := by
    intro fl
    induction fl with
    | nil =>
     intro i ks h1 _ h2 h3
     simp [fieldsW] at h1
     subst h1
     refine ⟨[], rfl, fun m _ _ => ?_⟩
     simp at h2
     rw [List.drop_eq_nil_of_le (by omega)]
     simp only [RvL]
    | cons f fl ih =>
     intro i ks h1 hj h2 h3
     simp only [fieldsW] at h1
     split at h1
     ·rename_i k e1
      simp only [Option.map_eq_some_iff] at h1
      obtain ⟨k2, h4, rfl⟩ := h1
      simp at h2
      have hfi : fs[i]? = some f := by have := hj 0; simpa using this.symm
      have hi : i < fs.size := (Array.getElem?_eq_some_iff.1 hfi).1
      obtain ⟨a2, b2, c2⟩ := ih (i + 1) k2 h4 (fun j => by have := hj (j + 1); simpa [Nat.add_assoc, Nat.add_comm 1 j] using this) (by omega) (by omega)
      obtain ⟨ho, h1c⟩ := hone_of hone i f hfi
      have e2 := hg i f hfi
      rw [List.getElem?_eq_getElem (by omega : i < xs.length), ho, h1c] at e2
      have hd : l.drop i = l[i]'(by omega) :: l.drop (i + 1) := List.drop_eq_getElem_cons (by omega)
      have et : (l.drop i).take 1 = [l[i]'(by omega)] := by rw [hd]; rfl
      rw [et] at e2
      obtain ⟨a1, b1, c1⟩ := field_open e1 e2
      refine ⟨a1 :: a2, b1 _ _ b2, fun m hw hH => ?_⟩
      rw [hd]
      simp only [RvL]
      exact ⟨_, _, rfl, c1 m hw hH, c2 m hw hH⟩
     ·cases h1
   obtain ⟨avs, a1, a2⟩ := key fs.toList 0 ks hk (fun j => by simp) (by simp) (Nat.zero_le _)
   refine ⟨avs, a1, fun m hw hH => ?_⟩
   simp only [Rv]
   exact ⟨l, rfl, by simpa using a2 m hw hH⟩
  ·cases hk
 ·cases hk
end
theorem rows_map {α : Type} {f : α → List AV} : ∀ {rows : List (List AV)}, (∀ r ∈ rows, ∃ v, r = f v) → ∃ xs : List α, rows = xs.map f
 | [], _ => ⟨[], rfl⟩
 | r :: rs, h => by
  obtain ⟨v, hv⟩ := h r (by simp)
  obtain ⟨xs, hx⟩ := rows_map (rows := rs) fun r hr => h r (by simp [hr])
  exact ⟨v :: xs, by rw [hv, hx]; rfl⟩
end Go.Aw
namespace Go.Aw.T
open Go Go.Aw Go.Proofs Go.RowKit
set_option maxRecDepth 100000
attribute [local irreducible] Go.Aw.DM Go.Aw.AHeap.setB Go.Aw.AHeap.setT
attribute [local go_sem] peval EOpd.ev Env.get binInt binStr binBool buildParts AV.cells AV.okc setRange minmaxAV AV.one AV.ofCells eqCells eqCell bslRows cond_true cond_false beq_self_eq_true Bool.not_true Bool.not_false beq_true beq_false eq_self if_true Option.some.injEq List.length_cons List.length_nil List.take_succ_cons List.take_zero List.drop_succ_cons List.drop_zero List.set_cons_succ List.set_cons_zero List.nil_append List.cons_append List.append_nil and_self Option.map_some List.map_cons List.map_nil Bool.false_eq_true if_false Nat.zero_add Nat.add_zero true_and and_true Bool.and_true Bool.true_and List.getElem?_cons_zero List.getElem?_cons_succ Nat.zero_le Nat.le_refl
set_option linter.unusedSimpArgs false
set_option linter.unusedVariables false
open Go.Aw
theorem sw27 : structW Tryz.prog 27 = some [.lk .s, .lk (.i .i64), .sl [.s, .i .i64, .i .i64, .i .i64, .i .i64, .i .i64, .s], .sl [.i .i64, .i .i64, .i .i64], .sl [.i .i64, .i .i64, .i .i64, .i .i64], .sl [.i .i64, .i .i64, .s]] := by kernel_rfl
theorem rows_ins {rows : List (List AV)} (h : ∀ r ∈ rows, LKs [.i .i64, .i .i64, .s] r) : ∃ xs : List Ins_, rows = xs.map Ins_.row :=
 rows_map fun r hr => by
  have := h r hr
  simp only [LKs] at this
  obtain ⟨a, _, rfl, _, b, _, rfl, _, c, _, rfl, rfl⟩ := this
  exact ⟨⟨a, b, c⟩, rfl⟩
theorem rows_hd {rows : List (List AV)} (h : ∀ r ∈ rows, LKs [.i .i64, .i .i64, .i .i64] r) : ∃ xs : List Hd, rows = xs.map Hd.row :=
 rows_map fun r hr => by
  have := h r hr
  simp only [LKs] at this
  obtain ⟨a, _, rfl, _, b, _, rfl, _, c, _, rfl, _, rfl⟩ := this
  exact ⟨⟨a, b, c⟩, rfl⟩
theorem rows_of {rows : List (List AV)} (h : ∀ r ∈ rows, LKs [.i .i64, .i .i64, .i .i64, .i .i64] r) : ∃ xs : List Of_, rows = xs.map Of_.row :=
 rows_map fun r hr => by
  have := h r hr
  simp only [LKs] at this
  obtain ⟨a, _, rfl, _, b, _, rfl, _, c, _, rfl, _, d, _, rfl, _, rfl⟩ := this
  exact ⟨⟨a, b, c, d⟩, rfl⟩
theorem rows_var {rows : List (List AV)} (h : ∀ r ∈ rows, LKs [.s, .i .i64, .i .i64, .i .i64, .i .i64, .i .i64, .s] r) : ∃ xs : List Var_, rows = xs.map Var_.row :=
 rows_map fun r hr => by
  have := h r hr
  simp only [LKs] at this
  obtain ⟨a, _, rfl, b, _, rfl, _, c, _, rfl, _, d, _, rfl, _, e, _, rfl, _, f, _, rfl, _, g, _, rfl, rfl⟩ := this
  exact ⟨⟨a, ⟨b, c, d⟩, ⟨e, f, g⟩⟩, rfl⟩
section
variable {H : Type} {enc : TypeId × Value → H} {w : World} {base : Nat} {spare : Nat → Bool} {held : Bool} {r : Reach} {b0 : Nat} {v : Value} {d : DataW H} {p : List MemPlace}
theorem open27 (hv : Value.okWide Tryz.prog w r b0 27 v) (h : DataW.Trod enc Tryz.prog w base spare held 27 v d p) : ∃ q : Prog, ∀ m : Mem, m.w = w → m.H = AHeap.none → Rv m q.av v := by
 obtain ⟨avs, h1, h2⟩ := struct_open sw27 hv h
 simp only [FKs] at h1
 obtain ⟨nm, _, rfl, rl, _, rfl, _, r1, _, rfl, k1, r2, _, rfl, k2, r3, _, rfl, k3, r4, _, rfl, k4, rfl⟩ := h1
 obtain ⟨vs, rfl⟩ := rows_var k1
 obtain ⟨hs, rfl⟩ := rows_hd k2
 obtain ⟨os, rfl⟩ := rows_of k3
 obtain ⟨cs, rfl⟩ := rows_ins k4
 exact ⟨⟨nm, rl, vs, hs, os, cs⟩, h2⟩
end
end Go.Aw.T
namespace Go.Aw.T
open Go Go.Aw Go.Proofs Go.RowKit
set_option maxRecDepth 100000
attribute [local irreducible] Go.Aw.DM Go.Aw.AHeap.setB Go.Aw.AHeap.setT
attribute [local go_sem] peval EOpd.ev Env.get binInt binStr binBool buildParts AV.cells AV.okc setRange minmaxAV AV.one AV.ofCells eqCells eqCell bslRows cond_true cond_false beq_self_eq_true Bool.not_true Bool.not_false beq_true beq_false eq_self if_true Option.some.injEq List.length_cons List.length_nil List.take_succ_cons List.take_zero List.drop_succ_cons List.drop_zero List.set_cons_succ List.set_cons_zero List.nil_append List.cons_append List.append_nil and_self Option.map_some List.map_cons List.map_nil Bool.false_eq_true if_false Nat.zero_add Nat.add_zero true_and and_true Bool.and_true Bool.true_and List.getElem?_cons_zero List.getElem?_cons_succ Nat.zero_le Nat.le_refl
set_option linter.unusedSimpArgs false
set_option linter.unusedVariables false
open Go.Aw Go.WideShapes
section
variable {H : Type} {enc : TypeId × Value → H} {w : World} {base : Nat} {spare : Nat → Bool} {held : Bool} {r : Reach} {b0 : Nat} {v : Value} {d : DataW H} {p : List MemPlace}
theorem open49 (hv : Value.okWide Tryz.prog w r b0 49 v) (h : DataW.Trod enc Tryz.prog w base spare held 49 v d p) : ∃ q : List UInt8, ∀ m : Mem, m.w = w → m.H = AHeap.none → Rv m (.vs 1 (bytesR q)) v := by
 obtain ⟨a, len, cap, rfl⟩ := okWide_slice Tryz.underlying49 hv
 obtain ⟨fuel, hf⟩ := h
 obtain ⟨rows, h3, h4⟩ := slice_open (ks := [.i .u8]) Tryz.underlying49 (by kernel_rfl) (by kernel_rfl) (by decide) hf
 obtain ⟨xs, rfl⟩ := rows_map (f := fun c : UInt8 => [AV.int .u8 c.toNat]) fun r hr => by
  have := h3 r hr
  simp only [LKs] at this
  obtain ⟨n, _, rfl, hw, rfl⟩ := this
  have h1 : IntKind.u8.min = 0 := by decide
  have h2 : IntKind.u8.max = 255 := by decide
  simp only [Lit.wf, h1, h2, Bool.and_eq_true, decide_eq_true_eq] at hw
  refine ⟨UInt8.ofNat n.toNat, ?_⟩
  have : (UInt8.ofNat n.toNat).toNat = n.toNat := by simp; omega
  rw [this]
  congr 2
  omega
 exact ⟨xs, h4⟩
end
end Go.Aw.T
namespace Go.Proofs.YtocjjlmnkpnjbaaGreatDoor
open Go.ChangeShapes Go.WideShapes Go.ChangeAt Go.RowKit
def laidL := Rows.codeValidRow.laid
theorem door_met (os : Os) (args : Array Value) : laidMetH Tryz.prog laidL ((World.doorLaid Tryz.prog 4000 os).forCall (fun _ _ => 0) ⟨#[], args, []⟩).memory :=
 laidMetH_of_parts3 (fuel := 8) (laidMet_of_run' 8 (by kernel_rfl) (by kernel_rfl)) (by kernel_rfl) (by kernel_rfl)
section
variable {H : Type} {enc : TypeId × Value → H}
theorem returns_laid_shaped {a : Assume} {C : Checked} {os : Os} {f : FuncId} {fn : Func} {s : ChangeSpec} {conds : List PathCond} {apart fresh handsOn again : Bool} {X : World → Array Value → Prop}
  (hX : ∀ (w w' : World) (args : Array Value), w.heap = w'.heap → X w args → X w' args)
  (own : ownKnob C.prog.godebug = none) (started : os.Started) (noInit : C.prog.inits.idxOf? f = none) (hfn : C.prog.funcs[f]? = some fn)
  (witness : ∃ (w : World) (tape : Tape) (i : Input), w.os = os ∧ (w.forCall tape i).Shaped C.prog ∧ i.vars = [] ∧ Input.okWide C.prog (w.forCall tape i) .any w.heap.size f i ∧
   ((s.pre enc C.prog fn conds apart (w.forCall tape i).memory i.args ∧ X (w.forCall tape i).memory i.args) ∧ sizedMet enc C.prog fn (OpenSpec.ofChange s) apart (w.forCall tape i).memory i.args) ∧ a.holds C.prog (lone (Frame.enter C.prog f i.args .normal) [] (w.forCall tape i)))
  (contract : ∀ (W : World) (base : Nat) (args : Array Value) (ds gs : List (DataW H)) (before : List MemPlace),
   (∀ (j : Nat) t v, fn.params[j]? = some t → args[j]? = some v → Value.okWide C.prog W .any base t v) →
   DataW.Whole enc C.prog fn.params.toList s.vars apart W args.toList ds gs before →
   X W args → W.ShapedOpen C.prog →
   Calls C.prog f args W fun e W' => ∃ v, e = .returned v ∧ s.post enc C.prog fn apart fresh handsOn again W args v W') :
  ReturnsInHanded a C os f .any (fun w args => (s.pre enc C.prog fn conds apart w args ∧ X w args) ∧ sizedMet enc C.prog fn (OpenSpec.ofChange s) apart w args) (s.post enc C.prog fn apart fresh handsOn again) := by
 refine returnsInHanded_of_calls own started noInit witness ?_
 intro w tape i _ hsh _ hok hpre _
 obtain ⟨_, _, _, fn', hfn', _, _, _, _, hval⟩ := hok
 obtain rfl : fn' = fn := Option.some.inj (hfn'.symm.trans hfn)
 obtain ⟨⟨⟨ds, gs, before, hw, _⟩, hx⟩, _⟩ := hpre
 have hw' := DataW.Whole.of_heap (w' := w.forCall tape i) (by rfl) hw
 refine (contract (w.forCall tape i) w.heap.size i.args ds gs before hval hw' (hX _ _ _ (by rfl) hx) hsh).mono fun e W' ⟨v, he, hp⟩ => ?_
 subst he
 exact ChangeSpec.post_blind hp
end
theorem gTab : Tryz.prog.globalNamed "internal/strconv.uint64pow10" = some 3 := by kernel_rfl
theorem gRan : Tryz.prog.globalNamed "strconv.ErrRange" = some 2 := by kernel_rfl
theorem gSyn : Tryz.prog.globalNamed "strconv.ErrSyntax" = some 1 := by kernel_rfl
theorem gTabT : (Tryz.prog.globals[3]?).map (·.type) = some 183 := by kernel_rfl
theorem gRanT : (Tryz.prog.globals[2]?).map (·.type) = some 97 := by kernel_rfl
theorem gSynT : (Tryz.prog.globals[1]?).map (·.type) = some 97 := by kernel_rfl
theorem cells183 : Tryz.prog.cellsOf 183 = 20 := by kernel_rfl
theorem cells144 : Tryz.prog.cellsOf 144 = 1 := by kernel_rfl
theorem cells192 : Tryz.prog.cellsOf 192 = 1 := by kernel_rfl
theorem cells9' : Tryz.prog.cellsOf 9 = 1 := by kernel_rfl
theorem starE : "*" ++ "errors.errorString" = "*errors.errorString" := by decide
theorem row190 (u : TypeId) (h : Tryz.prog.typeName? 3 u = some "*errors.errorString") : u = 190 :=
 typeName_ptr_named (nm := "errors.errorString") (by rw [starE]; kernel_rfl) (by kernel_rfl) (by decide) u (by rw [starE]; exact h)
theorem row1 : (((begin Tryz.prog (fun _ _ => 0) default).world.heap[1]?).bind Obj.row?).map (·.2) = some 97 := by kernel_rfl
theorem row2 : (((begin Tryz.prog (fun _ _ => 0) default).world.heap[2]?).bind Obj.row?).map (·.2) = some 97 := by kernel_rfl
theorem row3 : (((begin Tryz.prog (fun _ _ => 0) default).world.heap[3]?).bind Obj.row?).map (·.2) = some 183 := by kernel_rfl
theorem gsz : 3 < Tryz.prog.globals.size := of_decide_eq_true (by kernel_rfl)
theorem block_of {W : World} {g t : Nat} (hs : W.ShapedOpen Tryz.prog) (hg : g < Tryz.prog.globals.size) (h : (((begin Tryz.prog (fun _ _ => 0) default).world.heap[g]?).bind Obj.row?).map (·.2) = some t) {name : String} (hn : Tryz.prog.globalNamed name = some g) {cs : Array Value} (hv : W.var? Tryz.prog name = some cs) : W.heap[g]? = some (.cells cs t) := by
 obtain ⟨⟨zero, t'⟩, h1, h2⟩ := Option.map_eq_some_iff.1 h
 simp only at h2
 subst h2
 obtain ⟨cs', h3, _⟩ := hs.1 g zero t' hg h1
 unfold World.var? at hv
 rw [hn] at hv
 simp only [Option.bind_some, h3, Option.some.injEq] at hv
 rw [h3, hv]
theorem globW_of {W : World} (hs : W.ShapedOpen Tryz.prog) (h : laidMetH Tryz.prog laidL W) : Go.Aw.GlobW W := by
 rw [MakeChecks.laidMetH_plain _ _ _ (by kernel_rfl)] at h
 have h2 : laidMet Tryz.prog (("internal/strconv.uint64pow10", Lib.tabData .u64 Lib.pow10Tab) :: [("strconv.ErrRange", Rows.laid_strconv_ErrRange), ("strconv.ErrSyntax", Rows.laid_strconv_ErrSyntax)]) W := h.tail.tail
 have v3 : Lib.TabIs Tryz.prog W "internal/strconv.uint64pow10" .u64 Lib.pow10Tab := Lib.tabIs_of_head gTab gTabT Tryz.underlying183 Tryz.underlying144 cells144 cells183 h2
 have h3 : laidMet Tryz.prog (("strconv.ErrRange", .iface "*errors.errorString" (.ptr (.agg [.lit (.string [118, 97, 108, 117, 101, 32, 111, 117, 116, 32, 111, 102, 32, 114, 97, 110, 103, 101])]))) :: [("strconv.ErrSyntax", Rows.laid_strconv_ErrSyntax)]) W := h2.tail
 obtain ⟨a2, s2, v2, _⟩ := laid_sentinel h3 gRan gRanT Tryz.underlying97 row190 Tryz.underlying190 Tryz.underlying192 rfl rfl Tryz.underlying9 cells192 cells9'
 have h4 : laidMet Tryz.prog (("strconv.ErrSyntax", .iface "*errors.errorString" (.ptr (.agg [.lit (.string [105, 110, 118, 97, 108, 105, 100, 32, 115, 121, 110, 116, 97, 120])]))) :: []) W := h3.tail
 obtain ⟨a1, s1, v1, _⟩ := laid_sentinel h4 gSyn gSynT Tryz.underlying97 row190 Tryz.underlying190 Tryz.underlying192 rfl rfl Tryz.underlying9 cells192 cells9'
 have b3 := block_of hs gsz row3 gTab v3
 have b2 := block_of hs (Nat.lt_trans (by decide) gsz) row2 gRan v2
 have b1 := block_of hs (Nat.lt_trans (by decide) gsz) row1 gSyn v1
 intro p hp
 simp only [Go.Aw.globs, List.mem_cons, List.not_mem_nil, or_false] at hp
 rcases hp with rfl | rfl | rfl
 ·exact ⟨_, b3, 183, _, rfl⟩
 ·exact ⟨_, b2, _, _, 97, _, rfl⟩
 ·exact ⟨_, b1, _, _, 97, _, rfl⟩
end Go.Proofs.YtocjjlmnkpnjbaaGreatDoor
