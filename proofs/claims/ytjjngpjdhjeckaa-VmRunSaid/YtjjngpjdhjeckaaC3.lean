/- Part of a proof; own work. -/
import Derived.Test.YtjjngpjdhjeckaaC2
/- append (own work). -/
namespace Go.Aw
open Go
set_option linter.unusedVariables false
set_option linter.unusedSimpArgs false
section
variable {P : Program} {m : Mem} {env : Env} {a : Act} {o : Oper}

/-- What an appended operand brings. -/
structure Src (P : Program) (m : Mem) (size : Nat) (y : Value) (new : List (List AV)) (news : List Value) : Prop where
  len : ∀ w, (Builtin.lenOf y).run P w = .ok new.length w
  cells : ∀ w : World, (∀ b o, St m b o → w.cell? ⟨b, o, none⟩ = m.w.cell? ⟨b, o, none⟩) → (Builtin.firstCells size new.length y).run P w = .ok ⟨news⟩ w
  rv : RvL m new.flatten news
  one : ∀ v ∈ news, v.oneCell' = true
  n : news.length = new.length * size
  sz : ∀ r ∈ new, r.length = size

theorem RvC.valsSt {m : Mem} : ∀ {as : List AV} {b o : Nat}, RvC m as b o → ∃ l, RvL m as l ∧ (∀ j v, l[j]? = some v → m.w.cell? ⟨b, o + j, none⟩ = some v ∧ v.oneCell' = true ∧ St m b (o + j))
  | [], _, _, _ => ⟨[], by simp [RvL], by simp⟩
  | a :: as, b, o, h => by
    simp only [RvC] at h
    obtain ⟨⟨v, h1, h1', h2, h3⟩, h4⟩ := h
    obtain ⟨l, e1, e2⟩ := RvC.valsSt h4
    refine ⟨v :: l, by simp only [RvL]; exact ⟨v, l, rfl, h3, e1⟩, fun j u hj => ?_⟩
    cases j with
    | zero => simp at hj; subst hj; exact ⟨h1, h1', h2⟩
    | succ j => simp at hj; have := e2 j u hj; rwa [show o + 1 + j = o + (j + 1) by omega] at this
theorem RvR.valsSt {m : Mem} {size : Nat} : ∀ {rs : List (List AV)} {b o : Nat}, RvR m size rs b o → ∃ l, RvL m rs.flatten l ∧ l.length = rs.length * size ∧ (∀ r ∈ rs, r.length = size) ∧ (∀ j v, l[j]? = some v → m.w.cell? ⟨b, o + j, none⟩ = some v ∧ v.oneCell' = true ∧ St m b (o + j))
  | [], _, _, _ => ⟨[], by simp [RvL], by simp, by simp, by simp⟩
  | r :: rs, b, o, h => by
    simp only [RvR] at h
    obtain ⟨h1, h2, h3⟩ := h
    obtain ⟨l, e1, e2⟩ := RvC.valsSt h2
    obtain ⟨l', f1, f2, f4, f3⟩ := RvR.valsSt h3
    have hl : l.length = size := (RvL.length e1).trans h1
    refine ⟨l ++ l', by simpa using RvL.append e1 f1, by rw [List.length_append, f2, hl, List.length_cons, Nat.add_mul]; omega, ?_, fun j u hj => ?_⟩
    · intro x hx
      rcases List.mem_cons.1 hx with rfl | hx
      · exact h1
      · exact f4 x hx
    · by_cases hj' : j < l.length
      · rw [List.getElem?_append_left hj'] at hj
        exact e2 j u hj
      · rw [List.getElem?_append_right (by omega)] at hj
        have := f3 _ u hj
        rwa [show o + size + (j - l.length) = o + j by omega] at this
theorem mem_get {l : List Value} {Q : Value → Prop} (h : ∀ (j : Nat) (v : Value), l[j]? = some v → Q v) : ∀ v ∈ l, Q v := fun v hv => by
  obtain ⟨j, hj⟩ := List.getElem?_of_mem hv
  exact h j v hj
/-- The values of a slice that is only read. -/
theorem vs_vals {size : Nat} {rows : List (List AV)} {v : Value} (h : Rv m (.vs size rows) v) : ∃ ad cap l, v = .slice ad rows.length cap ∧ rows.length ≤ cap ∧ cap ≤ maxLen ∧ RvL m rows.flatten l ∧ l.length = rows.length * size ∧ (∀ r ∈ rows, r.length = size) ∧ (rows.length = 0 ∨ ∃ b p, ad = some ⟨b, p, none⟩ ∧ ∀ j u, l[j]? = some u → m.w.cell? ⟨b, p + j, none⟩ = some u ∧ u.oneCell' = true ∧ St m b (p + j)) := by
  obtain ⟨ad, cap, e, ⟨h1, h2⟩, h3⟩ := rv_vs h
  rcases h3 with h3 | ⟨b, p, rfl, h3⟩
  · have : rows = [] := List.eq_nil_of_length_eq_zero h3
    subst this
    exact ⟨ad, cap, [], e, h1, h2, by simp [RvL], by simp, by simp, .inl rfl⟩
  · obtain ⟨l, g1, g2, g3, g4⟩ := RvR.valsSt h3
    exact ⟨_, cap, l, e, h1, h2, g1, g2, g3, .inr ⟨b, p, rfl, g4⟩⟩
theorem src_vs {size : Nat} {rows : List (List AV)} {v : Value} (h : Rv m (.vs size rows) v) : ∃ news, Src P m size v rows news := by
  obtain ⟨ad, cap, l, rfl, h1, h2, g1, g2, g3, g4⟩ := vs_vals h
  refine ⟨l, ⟨fun w => by simp [Builtin.lenOf], fun w hw => ?_, g1, ?_, g2, g3⟩⟩
  · rcases g4 with g4 | ⟨b, p, rfl, g4⟩
    · have : l = [] := List.eq_nil_of_length_eq_zero (by rw [g2, g4]; simp)
      subst this
      rw [g4]
      cases ad with
      | none => simp [Builtin.firstCells]
      | some x => simp [Builtin.firstCells, loadCells, loadCellsFrom]
    · have := run_loadCells_list (P := P) w ⟨b, p, none⟩ l (fun j u hj => by
        obtain ⟨k1, k2, k3⟩ := g4 j u hj
        rw [addr_add]
        exact (hw b _ k3).trans k1)
      rw [g2] at this
      simp [Builtin.firstCells, this]
  · rcases g4 with g4 | ⟨b, p, rfl, g4⟩
    · have : l = [] := List.eq_nil_of_length_eq_zero (by rw [g2, g4]; simp)
      subst this
      simp
    · exact mem_get fun j v hj => (g4 j v hj).2.1
theorem src_nil {size : Nat} {ad : Option Addr} {cap : Nat} : Src P m size (.slice ad 0 cap) [] [] :=
  ⟨fun w => by simp [Builtin.lenOf], fun w _ => by cases ad <;> simp [Builtin.firstCells, loadCells, loadCellsFrom], by simp [RvL], by simp, by simp, by simp⟩
theorem strRows (s : List UInt8) : RvL m (s.map fun c => [AV.int .u8 c.toNat]).flatten (s.map fun b => Value.int .u8 b.toNat) := by
  induction s with
  | nil => simp [RvL]
  | cons c s ih => simp only [List.map_cons, List.flatten_cons, List.singleton_append, RvL]; exact ⟨_, _, rfl, by simp only [Rv], ih⟩
theorem src_str {s : List UInt8} : Src P m 1 (.string ⟨⟨s⟩⟩) (s.map fun c => [.int .u8 c.toNat]) (s.map fun b => .int .u8 b.toNat) := by
  refine ⟨fun w => ?_, fun w _ => ?_, strRows s, ?_, by simp, ?_⟩
  · simp only [Builtin.lenOf, Sem.run_pure, List.length_map]; rfl
  · simp only [Builtin.firstCells, Sem.run_pure]
    congr 1
    rw [bytes_extract]
    simp [List.map_take]
  · intro v hv
    obtain ⟨b, _, rfl⟩ := List.mem_map.1 hv
    rfl
  · intro r hr
    obtain ⟨b, _, rfl⟩ := List.mem_map.1 hr
    rfl

/-- The type facts of an append. -/
structure AppT (P : Program) (t u T : TypeId) (size bytes : Nat) where
  ht : P.underlying t = some (.slice T)
  hu : P.underlying u = some (.slice T) ∨ P.underlying u = some .string
  i : TypeInfo
  hi : P.info? T = some i
  hs : i.size = size
  hb : i.bytes = bytes
  z : Value
  hz : i.zero = some z
  hzs : z.cells.size = size
theorem app_fit {t u T ty : TypeId} {size bytes : Nat} (A : AppT P t u T size bytes) {base : Option Addr} {k cap : Nat} {y : Value} {new : List (List AV)} {news : List Value} (S : Src P m size y new news) (hfit : k + new.length ≤ cap) :
    (Builtin.append_ #[t, u] ty #[.slice base k cap, y]).run P m.w = (match base with
      | some ad => ((storeCells (ad.add (k * size)) news).run P m.w).andThen fun _ w' => .ok (.slice base (k + new.length) cap) w'
      | none => .ok (.slice base (k + new.length) cap) m.w) := by
  have e1 := S.cells m.w (fun _ _ _ => rfl)
  have hsz : ∀ w, (sizeOf T).run P w = .ok size w := fun w => by simp [sizeOf, typeInfo, A.hi, A.hs]
  unfold Builtin.append_
  rcases A.hu with hu | hu
  · cases base with
    | none => simp [run_underlying A.ht, run_underlying hu, hsz, S.len, hfit, e1]
    | some ad => simp [run_underlying A.ht, run_underlying hu, hsz, S.len, hfit, e1]
  · cases base with
    | none => simp [run_underlying A.ht, run_underlying hu, hsz, S.len, hfit, e1]
    | some ad => simp [run_underlying A.ht, run_underlying hu, hsz, S.len, hfit, e1]
theorem app_grow' {t u T ty : TypeId} {size bytes : Nat} (A : AppT P t u T size bytes) {base : Option Addr} {k cap : Nat} {y : Value} {new : List (List AV)} {news olds : List Value} (S : Src P m size y new news) (hfit : ¬ k + new.length ≤ cap)
    (e0 : (Builtin.firstCells size k (.slice base k cap)).run P m.w.drew = .ok ⟨olds⟩ m.w.drew) (hcap : cap ≤ maxLen) (hk : k ≤ cap)
    (hb : (k + new.length) * bytes ≤ 140737488355328) (h63 : k + new.length ≤ maxLen) :
    (Builtin.append_ #[t, u] ty #[.slice base k cap, y]).run P m.w = .ok (.slice (some ⟨m.w.heap.size, 0, none⟩) (k + new.length) (grownCap m.w (k + new.length) cap T))
      (m.w.drew.alloc (.cells (⟨olds ++ news⟩ ++ Builtin.zeroCells A.z.cells (grownCap m.w (k + new.length) cap T - (k + new.length))) T)) := by
  have e1 := S.cells m.w.drew (fun _ _ _ => rfl)
  have hsz : ∀ w, (sizeOf T).run P w = .ok size w := fun w => by simp [sizeOf, typeInfo, A.hi, A.hs]
  have hti : ∀ w, (typeInfo T).run P w = .ok A.i w := fun w => by simp [typeInfo, A.hi]
  have hzv : ∀ w, (zeroValue T).run P w = .ok A.z w := fun w => by simp [zeroValue, typeInfo, A.hi, A.hz]
  have h48 : ¬ (281474976710656 < Builtin.nextslicecap (k + new.length) cap * A.i.bytes) := by
    rw [A.hb]
    have := growslice_fits (need := k + new.length) (old := cap) (bytes := bytes) (by omega) hb
    omega
  have h63' : ¬ (9223372036854775807 < ((k : Int) + (new.length : Int))) := by rw [maxLen_eq] at h63; omega
  unfold Builtin.append_
  rcases A.hu with hu | hu
  · simp [run_underlying A.ht, run_underlying hu, hsz, S.len, hfit, hti, h63', h48, Question.forced, e0, e1, hzv, newRow, grownCap]
    exact congrArg (fun x => m.w.drew.alloc (Obj.cells x T)) (by rw [← Array.append_assoc]; congr 1; simp)
  · simp [run_underlying A.ht, run_underlying hu, hsz, S.len, hfit, hti, h63', h48, Question.forced, e0, e1, hzv, newRow, grownCap]
    exact congrArg (fun x => m.w.drew.alloc (Obj.cells x T)) (by rw [← Array.append_assoc]; congr 1; simp)
theorem app_grow {t u T ty : TypeId} {size bytes : Nat} (A : AppT P t u T size bytes) {base : Option Addr} {k cap : Nat} {y : Value} {new : List (List AV)} {news olds : List Value} (S : Src P m size y new news) (hfit : ¬ k + new.length ≤ cap)
    (ho : ∀ w : World, (∀ b o, St m b o → w.cell? ⟨b, o, none⟩ = m.w.cell? ⟨b, o, none⟩) → (Builtin.firstCells size k (.slice base k cap)).run P w = .ok ⟨olds⟩ w) (hcap : cap ≤ maxLen) (hk : k ≤ cap)
    (hb : (k + new.length) * bytes ≤ 140737488355328) (h63 : k + new.length ≤ maxLen) :
    (Builtin.append_ #[t, u] ty #[.slice base k cap, y]).run P m.w = .ok (.slice (some ⟨m.w.heap.size, 0, none⟩) (k + new.length) (grownCap m.w (k + new.length) cap T))
      (m.w.drew.alloc (.cells (⟨olds ++ news⟩ ++ Builtin.zeroCells A.z.cells (grownCap m.w (k + new.length) cap T - (k + new.length))) T)) :=
  app_grow' A S hfit (ho m.w.drew fun _ _ _ => rfl) hcap hk hb h63
end
end Go.Aw

/- append: tokens (own work). -/
namespace Go.Aw
open Go
set_option linter.unusedVariables false
set_option linter.unusedSimpArgs false
section
variable {P : Program} {m : Mem} {env : Env} {a : Act} {o : Oper}

theorem own_rv {m' : Mem} (rh : RH m') {t size n cap b : Nat} {i : Own} {cur : Array Value} {T : TypeId} {rows : List (List AV)} {l : List Value} (ht : m'.H.tok t = some i) (hL : m'.L t = .slice (some ⟨b, 0, none⟩) n cap) (hn : i.n = rows.length) (hve : i.ver = rows.length) (hs : i.size = size) (hn' : n = rows.length) (hb : m'.w.heap[b]? = some (.cells cur T (0, 0)))
    (hl : RvL m' rows.flatten l) (h1 : ∀ v ∈ l, v.oneCell' = true) (hlen : l.length = rows.length * size) (hsz : ∀ r ∈ rows, r.length = size) (hc : ∀ (j : Nat) (v : Value), l[j]? = some v → cur[j]? = some v) (hcap : n ≤ cap) (hmax : cap ≤ maxLen) : Rv m' (.own t size rows) (m'.L t) := by
  obtain ⟨k1, k2, k3, k4⟩ := rh.tok t i ht
  obtain ⟨q1, q2⟩ := k4 b (by rw [hL]; rfl)
  have hlt : b < m'.w.heap.size := (Array.getElem?_eq_some_iff.1 hb).1
  simp only [Rv]
  refine ⟨⟨some ⟨b, 0, none⟩, n, cap, hL, hn', ⟨hcap, hmax⟩, .inr ⟨b, 0, rfl, RvR.of hsz hl fun j v hj => ⟨?_, h1 v (List.mem_of_getElem? hj), ⟨hlt, q1, fun t' i' ht' hb' => ?_⟩⟩⟩⟩, k1, fun i' hi' => ?_⟩
  · rw [Nat.zero_add, cell_of_row m'.w b j cur T (0, 0) hb]
    exact hc j v hj
  · have := q2 t' i' ht' hb'
    subst this
    rw [ht] at ht'
    simp at ht'
    subst ht'
    have := (List.getElem?_eq_some_iff.1 hj).1
    rw [hn, hs]
    omega
  · rw [ht] at hi'
    simp at hi'
    subst hi'
    exact ⟨by omega, fun _ => ⟨trivial, hs⟩⟩
theorem own_rv_nil {m' : Mem} (rh : RH m') {t size : Nat} {i : Own} {v : Value} (ht : m'.H.tok t = some i) (hL : m'.L t = v) (hv : ∃ ad cap, v = .slice ad 0 cap ∧ cap ≤ maxLen) (hn : i.ver = 0) (hs : i.size = size) : Rv m' (.own t size []) v := by
  obtain ⟨k1, k2, k3, k4⟩ := rh.tok t i ht
  obtain ⟨ad, cap, rfl, hm⟩ := hv
  simp only [Rv]
  refine ⟨⟨ad, 0, cap, rfl, rfl, ⟨by omega, hm⟩, .inl rfl⟩, k1, fun i' hi' => ?_⟩
  rw [ht] at hi'
  simp at hi'
  subst hi'
  exact ⟨by simp, fun _ => ⟨hL, hs⟩⟩
/-- A new token over a literal's block, or over what append has made of nil. -/
theorem new_tok (rh : RH m) {w' : World} {T size cap : Nat} {cur : Array Value} {rows : List (List AV)} {l : List Value} (h1 : w'.os = m.w.os) (h2 : w'.tape = m.w.tape) (h3 : w'.output = m.w.output) (h4 : m.w.heap.size ≤ w'.heap.size) (h5 : ∀ b, b < m.w.heap.size → w'.heap[b]? = m.w.heap[b]?)
    (hb : w'.heap[m.w.heap.size]? = some (.cells cur T (0, 0))) (hl : RvL m rows.flatten l) (ho : ∀ v ∈ l, v.oneCell' = true) (hlen : l.length = rows.length * size) (hsz : ∀ r ∈ rows, r.length = size) (hc : ∀ (j : Nat) (v : Value), l[j]? = some v → cur[j]? = some v) (hcs : cur.size = cap * size) (hcap : rows.length ≤ cap) (hmax : cap ≤ maxLen) (h0 : size ≠ 0) :
    RH (m.nt w' (.slice (some ⟨m.w.heap.size, 0, none⟩) rows.length cap) (.frz T size (rows.length))) ∧ Ev m (m.nt w' (.slice (some ⟨m.w.heap.size, 0, none⟩) rows.length cap) (.frz T size (rows.length))) ∧
    Rv (m.nt w' (.slice (some ⟨m.w.heap.size, 0, none⟩) rows.length cap) (.frz T size (rows.length))) (.own m.T size rows) (.slice (some ⟨m.w.heap.size, 0, none⟩) rows.length cap) := by
  have hv : ∀ b, (Value.slice (some ⟨m.w.heap.size, 0, none⟩) rows.length cap).ownBlock = some b → m.w.heap.size ≤ b := fun b e => by simp [Value.ownBlock] at e; omega
  have hown : w'.ownsRow 0 T size (.slice (some ⟨m.w.heap.size, 0, none⟩) rows.length cap) rows.length (cur.toList.take (rows.length * size)) := by
    refine ⟨?_, .inr ⟨m.w.heap.size, cap, cur, rfl, Nat.zero_le _, hb, hcap, hmax, hcs, rfl⟩⟩
    have : rows.length * size ≤ cap * size := Nat.mul_le_mul_right _ hcap
    simp; omega
  have r := RH.nt rh (v := .slice (some ⟨m.w.heap.size, 0, none⟩) rows.length cap) (o := (.frz T size (rows.length))) h1 h2 h3 h4 h5 hv h0 ⟨_, hown, fun _ h => by cases h⟩
  have e := Ev.nt rh (v := .slice (some ⟨m.w.heap.size, 0, none⟩) rows.length cap) (o := (.frz T size (rows.length))) h1 h2 h3 h4 h5 hv
  refine ⟨r, e, ?_⟩
  have := own_rv r (t := m.T) (i := (.frz T size (rows.length))) (size := size) (rows := rows) (l := l) (n := rows.length) (cap := cap) (b := m.w.heap.size) (cur := cur) (T := T) (by simp [Mem.nt, AHeap.setT]) (by simp [Mem.nt]) rfl rfl rfl rfl hb (RvL.ev e _ _ hl) ho hlen hsz hc hcap hmax
  simpa [Mem.nt] using this
theorem new_tok_nil (rh : RH m) {T size : Nat} (h0 : size ≠ 0) : RH (m.nt m.w (.slice none 0 0) (.frz T size (0))) ∧ Ev m (m.nt m.w (.slice none 0 0) (.frz T size (0))) ∧ Rv (m.nt m.w (.slice none 0 0) (.frz T size (0))) (.own m.T size []) (.slice none 0 0) := by
  have hv : ∀ b, (Value.slice none 0 0).ownBlock = some b → m.w.heap.size ≤ b := fun b e => by simp [Value.ownBlock] at e
  have r := RH.nt rh (w' := m.w) (v := .slice none 0 0) (o := (.frz T size (0))) rfl rfl rfl (Nat.le_refl _) (fun _ _ => rfl) hv h0 ⟨[], World.ownsRow_nil _ _ _ _, fun _ h => by cases h⟩
  have e := Ev.nt rh (w' := m.w) (v := .slice none 0 0) (o := (.frz T size (0))) rfl rfl rfl (Nat.le_refl _) (fun _ _ => rfl) hv
  exact ⟨r, e, own_rv_nil r (i := (.frz T size (0))) (by simp [Mem.nt, AHeap.setT]) (by simp [Mem.nt]) ⟨none, 0, rfl, Nat.zero_le _⟩ rfl rfl⟩

theorem zeroCells_size (z : Array Value) (n : Nat) : (Builtin.zeroCells z n).size = n * z.size := by simp [Builtin.zeroCells]
theorem heap_drew_alloc (w : World) (ob : Obj) (b : Nat) (h : b < w.heap.size) : (w.drew.alloc ob).heap[b]? = w.heap[b]? := hpold w.drew ob b h
theorem heap_drew_new (w : World) (ob : Obj) : (w.drew.alloc ob).heap[w.heap.size]? = some ob := hpnew w.drew ob

/-- append to nil. -/
theorem app_nil {t u T ty : TypeId} {size bytes : Nat} (A : AppT P t u T size bytes) (rh : RH m) {y : Value} {new : List (List AV)} {news : List Value} (S : Src P m size y new news) (hb : new.length * bytes ≤ 140737488355328) (hmax : new.length ≤ maxLen) (h0 : size ≠ 0) :
    ∃ m' v, (Builtin.append_ #[t, u] ty #[.slice none 0 0, y]).run P m.w = .ok v m'.w ∧ RH m' ∧ Ev m m' ∧ m'.H = m.H.setT m.T (.frz T size (new.length)) ∧ Rv m' (.own m.T size new) v := by
  by_cases hn : new.length = 0
  · have : new = [] := List.eq_nil_of_length_eq_zero hn
    subst this
    have hr := app_fit (ty := ty) A (base := none) (k := 0) (cap := 0) S (by simp)
    obtain ⟨r, e, v⟩ := new_tok_nil rh (T := T) h0
    exact ⟨m.nt m.w (.slice none 0 0) (.frz T size (0)), _, hr, r, e, rfl, v⟩
  · have hr := app_grow (ty := ty) A (base := none) (k := 0) (cap := 0) (olds := []) S (by omega) (fun w _ => by simp [Builtin.firstCells]) (Nat.zero_le _) (Nat.le_refl _) (by simpa using hb) (by simpa using hmax)
    simp only [Nat.zero_add, List.nil_append] at hr
    have hge := grownCap_ge m.w new.length 0 T
    have hle := grownCap_le_maxLen m.w new.length 0 T hmax
    obtain ⟨r, e, v⟩ := new_tok rh (T := T) (size := size) (cap := grownCap m.w new.length 0 T) (rows := new) (l := news) (w' := m.w.drew.alloc (.cells (⟨news⟩ ++ Builtin.zeroCells A.z.cells (grownCap m.w new.length 0 T - new.length)) T)) rfl rfl rfl (by simp) (heap_drew_alloc _ _) (heap_drew_new _ _) S.rv S.one S.n S.sz
      (fun j v hj => by
        rw [Array.getElem?_append]
        have := (List.getElem?_eq_some_iff.1 hj).1
        simp only [List.size_toArray]
        rw [if_pos this]
        simpa using hj)
      (by
        simp only [Array.size_append, List.size_toArray, zeroCells_size, A.hzs, S.n, ← Nat.add_mul]
        congr 1
        omega) hge hle h0
    exact ⟨_, _, hr, r, e, rfl, v⟩

/-- append to a slice with a token. -/
theorem app_own {t u T ty : TypeId} {size bytes : Nat} (A : AppT P t u T size bytes) (rh : RH m) {τ : Nat} {rows : List (List AV)} {v0 : Value} (hv0 : Rv m (.own τ size rows) v0) (ht : m.H.tok τ = some (.frz T size (rows.length))) {y : Value} {new : List (List AV)} {news : List Value} (S : Src P m size y new news) (hb : (rows.length + new.length) * bytes ≤ 140737488355328) (hmax : rows.length + new.length ≤ maxLen) :
    ∃ m' v, (Builtin.append_ #[t, u] ty #[v0, y]).run P m.w = .ok v m'.w ∧ RH m' ∧ Ev m m' ∧ m'.H = m.H.setT τ (.frz T size (rows.length + new.length)) ∧ Rv m' (.own τ size (rows ++ new)) v := by
  obtain ⟨k1, k2, ⟨xs, k3, _⟩, k4⟩ := rh.tok τ _ ht
  have hL : m.L τ = v0 := by
    simp only [Rv] at hv0
    exact ((hv0.2.2 _ ht).2 rfl).1
  obtain ⟨ad, cap, l, rfl, hcap, hcm, g1, g2, g3, g4⟩ := vs_vals (rv_own hv0)
  have hflat : RvL m (rows ++ new).flatten (l ++ news) := by rw [List.flatten_append]; exact RvL.append g1 S.rv
  have hone : ∀ v ∈ l ++ news, v.oneCell' = true := fun v hv => by
    rcases List.mem_append.1 hv with hv | hv
    · rcases g4 with g4 | ⟨b, p, rfl, g4⟩
      · have : l = [] := List.eq_nil_of_length_eq_zero (by rw [g2, g4]; simp)
        subst this
        cases hv
      · exact mem_get (Q := fun v => v.oneCell' = true) (fun j v hj => (g4 j v hj).2.1) v hv
    · exact S.one v hv
  have hlen : (l ++ news).length = (rows ++ new).length * size := by rw [List.length_append, g2, S.n, List.length_append, Nat.add_mul]
  have hsz : ∀ r ∈ rows ++ new, r.length = size := fun r hr => by
    rcases List.mem_append.1 hr with hr | hr
    · exact g3 r hr
    · exact S.sz r hr
  -- where the row lies
  have hown := k3.2
  rw [hL] at hown
  simp only [Own.frz, Own.len] at hown
  have olds : ∀ w : World, (∀ b o, St m b o → w.cell? ⟨b, o, none⟩ = m.w.cell? ⟨b, o, none⟩) → (Builtin.firstCells size rows.length (.slice ad rows.length cap)).run P w = .ok ⟨l⟩ w := by
    intro w hw
    rcases g4 with g4 | ⟨b, p, rfl, g4⟩
    · have : l = [] := List.eq_nil_of_length_eq_zero (by rw [g2, g4]; simp)
      subst this
      rw [g4]
      cases ad with
      | none => simp [Builtin.firstCells]
      | some x => simp [Builtin.firstCells, loadCells, loadCellsFrom]
    · have := run_loadCells_list (P := P) w ⟨b, p, none⟩ l (fun j u hj => by
        obtain ⟨k1, k2, k3⟩ := g4 j u hj
        rw [addr_add]
        exact (hw b _ k3).trans k1)
      rw [g2] at this
      simp [Builtin.firstCells, this]
  by_cases hfit : rows.length + new.length ≤ cap
  · have hr := app_fit (ty := ty) A (base := ad) (k := rows.length) (cap := cap) S hfit
    rcases hown with ⟨hn1, hn2⟩ | ⟨g, cap', cur, hn1, _, hg, hnc, hcm', hcs, htake⟩
    · -- nil
      simp only [Value.slice.injEq] at hn1
      obtain ⟨rfl, hn3, rfl⟩ := hn1
      have hnew : new = [] := List.eq_nil_of_length_eq_zero (by omega)
      subst hnew
      have gr : Grows m m.w τ (.frz T size (rows.length)) (m.L τ) (.frz T size (rows.length + 0)) := ⟨⟨rfl, rfl, rfl, Nat.le_refl _, fun _ _ _ => rfl, fun _ _ _ _ => rfl, fun k hk => .inl hk, Nat.le_refl _, rfl, rfl, Nat.le_refl _, fun _ => rfl⟩, ⟨xs, k3, fun _ h => by cases h⟩⟩
      refine ⟨m.gt m.w τ (m.L τ) (.frz T size (rows.length + 0)), _, hr, RH.gt rh ht gr, Ev.gt rh ht gr.toGrows0, rfl, ?_⟩
      have := Rv.ev (Ev.gt rh ht gr.toGrows0) _ _ hv0
      simpa using this
    · -- in its block
      simp only [Value.slice.injEq] at hn1
      obtain ⟨rfl, _, rfl⟩ := hn1
      have hgl : (m.L τ).ownBlock = some g := by rw [hL]; rfl
      have hst := run_storeCells_at P g (rows.length * size) T news 0 cur m.w hg (by
        rw [S.n, hcs, Nat.add_zero, ← Nat.add_mul]
        exact Nat.mul_le_mul_right _ hfit) S.one
      simp only [Nat.add_zero] at hst
      have hr' : (Builtin.append_ #[t, u] ty #[.slice (some ⟨g, 0, none⟩) rows.length cap, y]).run P m.w = .ok (.slice (some ⟨g, 0, none⟩) (rows.length + new.length) cap) (m.w.setRow g (cur.toList.take (rows.length * size) ++ news ++ cur.toList.drop (rows.length * size + news.length)).toArray) := by
        rw [hr]
        simp only [addr_add, Nat.zero_add, hst, Result.andThen_ok]
      generalize hcur' : (cur.toList.take (rows.length * size) ++ news ++ cur.toList.drop (rows.length * size + news.length)).toArray = cur' at hr'
      have hheap := setRow_heap m.w g cur cur' T (0, 0) hg
      have hle : rows.length * size ≤ cur.size := by rw [hcs]; exact Nat.mul_le_mul_right _ hcap
      have hle2 : rows.length * size + news.length ≤ cur.size := by
        rw [S.n, hcs, ← Nat.add_mul]
        exact Nat.mul_le_mul_right _ hfit
      have hsz' : cur'.size = cap * size := by
        rw [← hcur', ← hcs]
        simp
        omega
      have hpre : ∀ (j : Nat), j < rows.length * size → cur'[j]? = cur[j]? := by
        intro j hj
        rw [← hcur']
        simp only [List.getElem?_toArray, List.append_assoc]
        rw [List.getElem?_append_left (by simp; omega), List.getElem?_take, if_pos hj]
        simp
      have hpost : ∀ (j : Nat) (v : Value), (l ++ news)[j]? = some v → cur'[j]? = some v := by
        intro j v hj
        by_cases hjl : j < l.length
        · rw [List.getElem?_append_left hjl] at hj
          rw [hpre j (by omega)]
          rcases g4 with g4 | ⟨b, p, hbp, g4⟩
          · have : l.length = 0 := by rw [g2, g4]; simp
            omega
          · simp at hbp
            obtain ⟨rfl, rfl⟩ := hbp
            have := (g4 j v hj).1
            rw [Nat.zero_add, cell_of_row m.w g j cur T (0, 0) hg] at this
            exact this
        · rw [List.getElem?_append_right (by omega)] at hj
          rw [← hcur']
          simp only [List.getElem?_toArray, List.append_assoc]
          have htl : (cur.toList.take (rows.length * size)).length = rows.length * size := by simp; omega
          have hjn := (List.getElem?_eq_some_iff.1 hj).1
          rw [List.getElem?_append_right (by omega), htl, List.getElem?_append_left (by omega), ← g2]
          exact hj
      have gr : Grows m (m.w.setRow g cur') τ (.frz T size (rows.length)) (.slice (some ⟨g, 0, none⟩) (rows.length + new.length) cap) (.frz T size (rows.length + new.length)) := by
        refine ⟨⟨rfl, rfl, rfl, by simp, fun k hk hne => setRow_other m.w g k cur' (fun e => hne (by rw [hgl, e])), fun k c hk hc => ?_, fun k hk => .inl ?_, Nat.le_add_right _ _, rfl, rfl, Nat.le_add_right _ _, fun e => ?_⟩, ?_⟩
        · rw [hgl] at hk
          simp at hk
          subst hk
          rw [cell_of_row _ g c cur' T (0, 0) hheap, cell_of_row m.w g c cur T (0, 0) hg]
          exact hpre c hc
        · rw [hgl]
          simpa [Value.ownBlock] using hk
        · rw [hL]
          have : new.length = 0 := by simpa [Own.frz] using e
          simp [this]
        · refine ⟨cur'.toList.take ((rows.length + new.length) * size), ⟨?_, .inr ⟨g, cap, cur', rfl, Nat.zero_le _, hheap, hfit, hcm, hsz', rfl⟩⟩, fun _ h => by cases h⟩
          have : (rows.length + new.length) * size ≤ cap * size := Nat.mul_le_mul_right _ hfit
          simp [Own.frz, Own.len]
          omega
      refine ⟨m.gt (m.w.setRow g cur') τ (.slice (some ⟨g, 0, none⟩) (rows.length + new.length) cap) (.frz T size (rows.length + new.length)), _, hr', RH.gt rh ht gr, Ev.gt rh ht gr.toGrows0, rfl, ?_⟩
      have := own_rv (RH.gt rh ht gr) (t := τ) (i := (.frz T size (rows.length + new.length))) (size := size) (rows := rows ++ new) (l := l ++ news) (n := rows.length + new.length) (cap := cap) (b := g) (cur := cur') (T := T) (by simp [Mem.gt, AHeap.setT]) (by simp [Mem.gt]) (by simp [Own.frz]) (by simp [Own.frz]) rfl (by simp) hheap (RvL.ev (Ev.gt rh ht gr.toGrows0) _ _ hflat) hone hlen hsz hpost hfit hcm
      simpa [Mem.gt] using this
  · -- into a new block
    have hr := app_grow (ty := ty) A (base := ad) (k := rows.length) (cap := cap) (olds := l) S hfit olds hcm hcap hb hmax
    have hge := grownCap_ge m.w (rows.length + new.length) cap T
    have hle := grownCap_le_maxLen m.w (rows.length + new.length) cap T hmax
    generalize hcur' : (⟨l ++ news⟩ ++ Builtin.zeroCells A.z.cells (grownCap m.w (rows.length + new.length) cap T - (rows.length + new.length)) : Array Value) = cur' at hr
    have hsz' : cur'.size = grownCap m.w (rows.length + new.length) cap T * size := by
      rw [← hcur']
      have : (l ++ news).length = (rows.length + new.length) * size := by rw [hlen, List.length_append]
      simp only [Array.size_append, List.size_toArray, zeroCells_size, A.hzs, this, ← Nat.add_mul]
      congr 1
      omega
    have hpost : ∀ (j : Nat) (v : Value), (l ++ news)[j]? = some v → cur'[j]? = some v := by
      intro j v hj
      rw [← hcur', Array.getElem?_append]
      have := (List.getElem?_eq_some_iff.1 hj).1
      simp only [List.size_toArray]
      rw [if_pos this]
      simpa using hj
    have gr : Grows m (m.w.drew.alloc (.cells cur' T)) τ (.frz T size (rows.length)) (.slice (some ⟨m.w.heap.size, 0, none⟩) (rows.length + new.length) (grownCap m.w (rows.length + new.length) cap T)) (.frz T size (rows.length + new.length)) := by
      refine ⟨⟨rfl, rfl, rfl, by simp, fun k hk _ => heap_drew_alloc _ _ _ hk, fun k c hk _ => World.cell?_of_block (a := ⟨k, c, none⟩) (heap_drew_alloc _ _ _ (tok_lt rh ht hk)), fun k hk => .inr ?_, Nat.le_add_right _ _, rfl, rfl, Nat.le_add_right _ _, fun e => ?_⟩, ?_⟩
      · simp [Value.ownBlock] at hk
        omega
      · have : new.length = 0 := by simpa [Own.frz] using e
        omega
      · refine ⟨cur'.toList.take ((rows.length + new.length) * size), ⟨?_, .inr ⟨m.w.heap.size, _, cur', rfl, Nat.zero_le _, heap_drew_new _ _, hge, hle, hsz', rfl⟩⟩, fun _ h => by cases h⟩
        have : (rows.length + new.length) * size ≤ grownCap m.w (rows.length + new.length) cap T * size := Nat.mul_le_mul_right _ hge
        simp [Own.frz, Own.len]
        omega
    refine ⟨m.gt (m.w.drew.alloc (.cells cur' T)) τ (.slice (some ⟨m.w.heap.size, 0, none⟩) (rows.length + new.length) (grownCap m.w (rows.length + new.length) cap T)) (.frz T size (rows.length + new.length)), _, hr, RH.gt rh ht gr, Ev.gt rh ht gr.toGrows0, rfl, ?_⟩
    have := own_rv (RH.gt rh ht gr) (t := τ) (i := (.frz T size (rows.length + new.length))) (size := size) (rows := rows ++ new) (l := l ++ news) (n := rows.length + new.length) (cap := grownCap m.w (rows.length + new.length) cap T) (b := m.w.heap.size) (cur := cur') (T := T) (by simp [Mem.gt, AHeap.setT]) (by simp [Mem.gt]) (by simp [Own.frz]) (by simp [Own.frz]) rfl (by simp) (heap_drew_new _ _) (RvL.ev (Ev.gt rh ht gr.toGrows0) _ _ hflat) hone hlen hsz hpost hge hle
    simpa [Mem.gt] using this
end
end Go.Aw

/- Slices that are written: mutable tokens (own work). -/
namespace Go.Aw
open Go
set_option linter.unusedVariables false
set_option linter.unusedSimpArgs false
section
variable {P : Program} {m : Mem} {env : Env} {a : Act} {o : Oper}

/-- What a mutable token's slice is. -/
theorem ms_get (rh : RH m) {t ver T size : Nat} {rows : List (List AV)} {v : Value} (ht : m.H.tok t = some (.mu T size ver rows)) (hv : Rv m (.ms t ver) v) :
    m.L t = v ∧ size ≠ 0 ∧ (∀ r ∈ rows, r.length = size) ∧ ((v = .slice none 0 0 ∧ rows = []) ∨ ∃ g cap cur, v = .slice (some ⟨g, 0, none⟩) rows.length cap ∧ m.w.heap[g]? = some (.cells cur T (0, 0)) ∧ rows.length ≤ cap ∧ cap ≤ maxLen ∧ cur.size = cap * size ∧ RvL m rows.flatten (cur.toList.take (rows.length * size)) ∧ ∀ u ∈ cur.toList.take (rows.length * size), u.oneCell' = true) := by
  simp only [Rv] at hv
  have hL : m.L t = v := (hv.2.2 _ ht).2 rfl
  obtain ⟨k1, k2, ⟨xs, k3, k5⟩, k4⟩ := rh.tok t _ ht
  obtain ⟨k5, k6, k7⟩ := k5 rows rfl
  refine ⟨hL, k2, k6, ?_⟩
  rw [hL] at k3
  obtain ⟨k8, k3⟩ := k3
  simp only [Own.mu, Own.len] at k3 k8
  rcases k3 with ⟨e1, e2⟩ | ⟨g, cap, cur, e1, _, e2, e3, e4, e5, e6⟩
  · exact .inl ⟨e1, List.eq_nil_of_length_eq_zero e2⟩
  · subst e6
    exact .inr ⟨g, cap, cur, e1, e2, e3, e4, e5, k5, k7⟩
theorem ms_rv {m' : Mem} {t ver T size : Nat} {rows : List (List AV)} {v : Value} (rh : RH m') (ht : m'.H.tok t = some (.mu T size ver rows)) (hL : m'.L t = v) (hv : v.oneCell' = true) : Rv m' (.ms t ver) v := by
  simp only [Rv]
  refine ⟨hv, (rh.tok t _ ht).1, fun i hi => ?_⟩
  rw [ht] at hi
  simp at hi
  subst hi
  exact ⟨Nat.le_refl _, fun _ => hL⟩
/-- A new one over a block. -/
theorem new_ms (rh : RH m) {w' : World} {T size cap : Nat} {cur : Array Value} {rows : List (List AV)} (h1 : w'.os = m.w.os) (h2 : w'.tape = m.w.tape) (h3 : w'.output = m.w.output) (h4 : m.w.heap.size ≤ w'.heap.size) (h5 : ∀ b, b < m.w.heap.size → w'.heap[b]? = m.w.heap[b]?)
    (hb : w'.heap[m.w.heap.size]? = some (.cells cur T (0, 0))) (hl : RvL m rows.flatten (cur.toList.take (rows.length * size))) (ho : ∀ v ∈ cur.toList.take (rows.length * size), v.oneCell' = true) (hsz : ∀ r ∈ rows, r.length = size) (hcs : cur.size = cap * size) (hcap : rows.length ≤ cap) (hmax : cap ≤ maxLen) (h0 : size ≠ 0) :
    RH (m.nt w' (.slice (some ⟨m.w.heap.size, 0, none⟩) rows.length cap) (.mu T size 0 rows)) ∧ Ev m (m.nt w' (.slice (some ⟨m.w.heap.size, 0, none⟩) rows.length cap) (.mu T size 0 rows)) ∧
    Rv (m.nt w' (.slice (some ⟨m.w.heap.size, 0, none⟩) rows.length cap) (.mu T size 0 rows)) (.ms m.T 0) (.slice (some ⟨m.w.heap.size, 0, none⟩) rows.length cap) := by
  have hv : ∀ b, (Value.slice (some ⟨m.w.heap.size, 0, none⟩) rows.length cap).ownBlock = some b → m.w.heap.size ≤ b := fun b e => by simp [Value.ownBlock] at e; omega
  have e := Ev.nt rh (v := .slice (some ⟨m.w.heap.size, 0, none⟩) rows.length cap) (o := .mu T size 0 rows) h1 h2 h3 h4 h5 hv
  have hown : w'.ownsRow 0 T size (.slice (some ⟨m.w.heap.size, 0, none⟩) rows.length cap) rows.length (cur.toList.take (rows.length * size)) := by
    refine ⟨?_, .inr ⟨m.w.heap.size, cap, cur, rfl, Nat.zero_le _, hb, hcap, hmax, hcs, rfl⟩⟩
    have : rows.length * size ≤ cap * size := Nat.mul_le_mul_right _ hcap
    simp; omega
  have r := RH.nt rh (v := .slice (some ⟨m.w.heap.size, 0, none⟩) rows.length cap) (o := .mu T size 0 rows) h1 h2 h3 h4 h5 hv h0 ⟨_, hown, fun rows' h => by cases h; exact ⟨RvL.ev e _ _ hl, hsz, ho⟩⟩
  exact ⟨r, e, ms_rv r (T := T) (size := size) (rows := rows) (by simp [Mem.nt, AHeap.setT]) (by simp [Mem.nt]) rfl⟩
theorem new_ms_nil (rh : RH m) {T size : Nat} (h0 : size ≠ 0) : RH (m.nt m.w (.slice none 0 0) (.mu T size 0 [])) ∧ Ev m (m.nt m.w (.slice none 0 0) (.mu T size 0 [])) ∧ Rv (m.nt m.w (.slice none 0 0) (.mu T size 0 [])) (.ms m.T 0) (.slice none 0 0) := by
  have hv : ∀ b, (Value.slice none 0 0).ownBlock = some b → m.w.heap.size ≤ b := fun b e => by simp [Value.ownBlock] at e
  have e := Ev.nt rh (w' := m.w) (v := .slice none 0 0) (o := .mu T size 0 []) rfl rfl rfl (Nat.le_refl _) (fun _ _ => rfl) hv
  have r := RH.nt rh (w' := m.w) (v := .slice none 0 0) (o := .mu T size 0 []) rfl rfl rfl (Nat.le_refl _) (fun _ _ => rfl) hv h0 ⟨[], World.ownsRow_nil _ _ _ _, fun rows' h => by cases h; exact ⟨by simp [RvL], by simp, by simp⟩⟩
  exact ⟨r, e, ms_rv r (T := T) (size := size) (rows := []) (by simp [Mem.nt, AHeap.setT]) (by simp [Mem.nt]) rfl⟩

/-- append to nil: a new one. -/
theorem app_ms0 {t u T ty : TypeId} {size bytes : Nat} (A : AppT P t u T size bytes) (rh : RH m) {y : Value} {new : List (List AV)} {news : List Value} (S : Src P m size y new news) (hb : new.length * bytes ≤ 140737488355328) (hmax : new.length ≤ maxLen) (h0 : size ≠ 0) :
    ∃ m' v, (Builtin.append_ #[t, u] ty #[.slice none 0 0, y]).run P m.w = .ok v m'.w ∧ RH m' ∧ Ev m m' ∧ m'.H = m.H.setT m.T (.mu T size 0 new) ∧ Rv m' (.ms m.T 0) v := by
  by_cases hn : new.length = 0
  · have : new = [] := List.eq_nil_of_length_eq_zero hn
    subst this
    have hr := app_fit (ty := ty) A (base := none) (k := 0) (cap := 0) S (by simp)
    obtain ⟨r, e, v⟩ := new_ms_nil rh (T := T) h0
    exact ⟨m.nt m.w (.slice none 0 0) (.mu T size 0 []), _, hr, r, e, rfl, v⟩
  · have hr := app_grow (ty := ty) A (base := none) (k := 0) (cap := 0) (olds := []) S (by omega) (fun w _ => by simp [Builtin.firstCells]) (Nat.zero_le _) (Nat.le_refl _) (by simpa using hb) (by simpa using hmax)
    simp only [Nat.zero_add, List.nil_append] at hr
    have hge := grownCap_ge m.w new.length 0 T
    have hle := grownCap_le_maxLen m.w new.length 0 T hmax
    have htk : (⟨news⟩ ++ Builtin.zeroCells A.z.cells (grownCap m.w new.length 0 T - new.length) : Array Value).toList.take (new.length * size) = news := by
      simp only [Array.toList_append]
      rw [← S.n, List.take_left]
    obtain ⟨r, e, v⟩ := new_ms rh (T := T) (size := size) (cap := grownCap m.w new.length 0 T) (rows := new) (cur := ⟨news⟩ ++ Builtin.zeroCells A.z.cells (grownCap m.w new.length 0 T - new.length)) (w' := m.w.drew.alloc (.cells (⟨news⟩ ++ Builtin.zeroCells A.z.cells (grownCap m.w new.length 0 T - new.length)) T)) rfl rfl rfl (by simp) (heap_drew_alloc _ _) (heap_drew_new _ _) (by rw [htk]; exact S.rv) (by rw [htk]; exact S.one) S.sz
      (by
        simp only [Array.size_append, List.size_toArray, zeroCells_size, A.hzs, S.n, ← Nat.add_mul]
        congr 1
        omega) hge hle h0
    exact ⟨_, _, hr, r, e, rfl, v⟩

/-- append. -/
theorem app_ms {t u T ty : TypeId} {size bytes : Nat} (A : AppT P t u T size bytes) (rh : RH m) {τ ver : Nat} {rows : List (List AV)} {v0 : Value} (hv0 : Rv m (.ms τ ver) v0) (ht : m.H.tok τ = some (.mu T size ver rows)) {y : Value} {new : List (List AV)} {news : List Value} (S : Src P m size y new news) (hb : (rows.length + new.length) * bytes ≤ 140737488355328) (hmax : rows.length + new.length ≤ maxLen) :
    ∃ m' v, (Builtin.append_ #[t, u] ty #[v0, y]).run P m.w = .ok v m'.w ∧ RH m' ∧ Ev m m' ∧ m'.H = m.H.setT τ (.mu T size (ver + 1) (rows ++ new)) ∧ Rv m' (.ms τ (ver + 1)) v := by
  obtain ⟨hL, h0, hs, hcase⟩ := ms_get rh ht hv0
  have hsz : ∀ r ∈ rows ++ new, r.length = size := fun r hr => by
    rcases List.mem_append.1 hr with hr | hr
    · exact hs r hr
    · exact S.sz r hr
  rcases hcase with ⟨rfl, rfl⟩ | ⟨g, cap, cur, rfl, hg, hcap, hcm, hcs, hrv, hone⟩
  · -- nil
    simp only [List.length_nil, Nat.zero_add] at hb hmax
    by_cases hn : new.length = 0
    · have : new = [] := List.eq_nil_of_length_eq_zero hn
      subst this
      have hr := app_fit (ty := ty) A (base := none) (k := 0) (cap := 0) S (by simp)
      have g0 : Grows0 m m.w τ (.mu T size ver []) (.slice none 0 0) (.mu T size (ver + 1) []) := ⟨rfl, rfl, rfl, Nat.le_refl _, fun _ _ _ => rfl, fun _ _ _ _ => rfl, fun k hk => by simp [Value.ownBlock] at hk, Nat.le_refl _, rfl, rfl, Nat.le_succ _, fun e => by simp [Own.mu] at e⟩
      have gr : Grows m m.w τ (.mu T size ver []) (.slice none 0 0) (.mu T size (ver + 1) []) := ⟨g0, [], World.ownsRow_nil _ _ _ _, fun rows' h => by cases h; exact ⟨by simp [RvL], by simp, by simp⟩⟩
      have r := RH.gt rh ht gr
      exact ⟨m.gt m.w τ (.slice none 0 0) (.mu T size (ver + 1) []), _, hr, r, Ev.gt rh ht g0, rfl, ms_rv r (T := T) (size := size) (rows := []) (by simp [Mem.gt, AHeap.setT]) (by simp [Mem.gt]) rfl⟩
    · have hr := app_grow (ty := ty) A (base := none) (k := 0) (cap := 0) (olds := []) S (by omega) (fun w _ => by simp [Builtin.firstCells]) (Nat.zero_le _) (Nat.le_refl _) (by simpa using hb) (by simpa using hmax)
      simp only [Nat.zero_add, List.nil_append] at hr
      have hge := grownCap_ge m.w new.length 0 T
      have hle := grownCap_le_maxLen m.w new.length 0 T hmax
      generalize hcur' : (⟨news⟩ ++ Builtin.zeroCells A.z.cells (grownCap m.w new.length 0 T - new.length) : Array Value) = cur' at hr
      have htk : cur'.toList.take (new.length * size) = news := by
        rw [← hcur']
        simp only [Array.toList_append]
        rw [← S.n, List.take_left]
      have hsz' : cur'.size = grownCap m.w new.length 0 T * size := by
        rw [← hcur']
        simp only [Array.size_append, List.size_toArray, zeroCells_size, A.hzs, S.n, ← Nat.add_mul]
        congr 1
        omega
      have g0 : Grows0 m (m.w.drew.alloc (.cells cur' T)) τ (.mu T size ver []) (.slice (some ⟨m.w.heap.size, 0, none⟩) new.length (grownCap m.w new.length 0 T)) (.mu T size (ver + 1) new) :=
        ⟨rfl, rfl, rfl, by simp, fun k hk _ => heap_drew_alloc _ _ _ hk, fun k c hk _ => World.cell?_of_block (a := ⟨k, c, none⟩) (heap_drew_alloc _ _ _ (tok_lt rh ht hk)), fun k hk => .inr (by simp [Value.ownBlock] at hk; omega), Nat.le_refl _, rfl, rfl, Nat.le_succ _, fun e => by simp [Own.mu] at e⟩
      have ev := Ev.gt rh ht g0
      have gr : Grows m (m.w.drew.alloc (.cells cur' T)) τ (.mu T size ver []) (.slice (some ⟨m.w.heap.size, 0, none⟩) new.length (grownCap m.w new.length 0 T)) (.mu T size (ver + 1) new) :=
        ⟨g0, news, ⟨S.n, .inr ⟨m.w.heap.size, _, cur', rfl, Nat.zero_le _, heap_drew_new _ _, hge, hle, hsz', htk⟩⟩, fun rows' h => by cases h; exact ⟨RvL.ev ev _ _ S.rv, S.sz, S.one⟩⟩
      have r := RH.gt rh ht gr
      exact ⟨m.gt (m.w.drew.alloc (.cells cur' T)) τ (.slice (some ⟨m.w.heap.size, 0, none⟩) new.length (grownCap m.w new.length 0 T)) (.mu T size (ver + 1) new), _, hr, r, ev, by simp [Mem.gt], ms_rv r (T := T) (size := size) (rows := new) (by simp [Mem.gt, AHeap.setT]) (by simp [Mem.gt]) rfl⟩
  · have hle0 : rows.length * size ≤ cur.size := by rw [hcs]; exact Nat.mul_le_mul_right _ hcap
    generalize hl : cur.toList.take (rows.length * size) = l at hrv hone
    have hll : l.length = rows.length * size := by rw [← hl]; simp; omega
    have hlc : ∀ (j : Nat) (u : Value), l[j]? = some u → m.w.cell? ⟨g, j, none⟩ = some u := by
      intro j u hj
      rw [cell_of_row m.w g j cur T (0, 0) hg]
      rw [← hl, List.getElem?_take] at hj
      split at hj
      · simpa using hj
      · cases hj
    have hflat : RvL m (rows ++ new).flatten (l ++ news) := by rw [List.flatten_append]; exact RvL.append hrv S.rv
    have hone' : ∀ v ∈ l ++ news, v.oneCell' = true := fun v hv => by
      rcases List.mem_append.1 hv with hv | hv
      · exact hone v hv
      · exact S.one v hv
    have hlen : (l ++ news).length = (rows ++ new).length * size := by rw [List.length_append, hll, S.n, List.length_append, Nat.add_mul]
    have hgl : (m.L τ).ownBlock = some g := by rw [hL]; rfl
    by_cases hfit : rows.length + new.length ≤ cap
    · have hr := app_fit (ty := ty) A (base := some ⟨g, 0, none⟩) (k := rows.length) (cap := cap) S hfit
      have hst := run_storeCells_at P g (rows.length * size) T news 0 cur m.w hg (by
        rw [S.n, hcs, Nat.add_zero, ← Nat.add_mul]
        exact Nat.mul_le_mul_right _ hfit) S.one
      simp only [Nat.add_zero] at hst
      have hr' : (Builtin.append_ #[t, u] ty #[.slice (some ⟨g, 0, none⟩) rows.length cap, y]).run P m.w = .ok (.slice (some ⟨g, 0, none⟩) (rows.length + new.length) cap) (m.w.setRow g (cur.toList.take (rows.length * size) ++ news ++ cur.toList.drop (rows.length * size + news.length)).toArray) := by
        rw [hr]
        simp only [addr_add, Nat.zero_add, hst, Result.andThen_ok]
      rw [hl] at hr'
      generalize hcur' : (l ++ news ++ cur.toList.drop (rows.length * size + news.length)).toArray = cur' at hr'
      have hheap := setRow_heap m.w g cur cur' T (0, 0) hg
      have hle2 : rows.length * size + news.length ≤ cur.size := by
        rw [S.n, hcs, ← Nat.add_mul]
        exact Nat.mul_le_mul_right _ hfit
      have hsz' : cur'.size = cap * size := by
        rw [← hcur', ← hcs]
        simp
        omega
      have htk : cur'.toList.take ((rows ++ new).length * size) = l ++ news := by
        rw [← hcur', ← hlen]
        simp only [List.toList_toArray]
        rw [List.take_left]
      have g0 : Grows0 m (m.w.setRow g cur') τ (.mu T size ver rows) (.slice (some ⟨g, 0, none⟩) (rows.length + new.length) cap) (.mu T size (ver + 1) (rows ++ new)) :=
        ⟨rfl, rfl, rfl, by simp, fun k hk hne => setRow_other m.w g k cur' (fun e => hne (by rw [hgl, e])), fun k c hk hc => by simp [Own.mu] at hc, fun k hk => .inl (by rw [hgl]; simpa [Value.ownBlock] using hk), Nat.le_refl _, rfl, rfl, Nat.le_succ _, fun e => by simp [Own.mu] at e⟩
      have ev := Ev.gt rh ht g0
      have gr : Grows m (m.w.setRow g cur') τ (.mu T size ver rows) (.slice (some ⟨g, 0, none⟩) (rows.length + new.length) cap) (.mu T size (ver + 1) (rows ++ new)) :=
        ⟨g0, l ++ news, ⟨hlen, .inr ⟨g, cap, cur', by simp [Own.mu, Own.len], Nat.zero_le _, hheap, by simpa [Own.mu, Own.len] using hfit, hcm, hsz', htk⟩⟩, fun rows' h => by cases h; exact ⟨RvL.ev ev _ _ hflat, hsz, hone'⟩⟩
      have r := RH.gt rh ht gr
      exact ⟨m.gt (m.w.setRow g cur') τ (.slice (some ⟨g, 0, none⟩) (rows.length + new.length) cap) (.mu T size (ver + 1) (rows ++ new)), _, hr', r, ev, rfl, ms_rv r (T := T) (size := size) (rows := rows ++ new) (by simp [Mem.gt, AHeap.setT]) (by simp [Mem.gt]) rfl⟩
    · have olds : (Builtin.firstCells size rows.length (.slice (some ⟨g, 0, none⟩) rows.length cap)).run P m.w.drew = .ok ⟨l⟩ m.w.drew := by
        have := run_loadCells_list (P := P) m.w.drew ⟨g, 0, none⟩ l (fun j u hj => by
          rw [addr_add, Nat.zero_add]
          exact hlc j u hj)
        rw [hll] at this
        simp [Builtin.firstCells, this]
      have hr := app_grow' (ty := ty) A (base := some ⟨g, 0, none⟩) (k := rows.length) (cap := cap) (olds := l) S hfit olds hcm hcap hb hmax
      have hge := grownCap_ge m.w (rows.length + new.length) cap T
      have hle := grownCap_le_maxLen m.w (rows.length + new.length) cap T hmax
      generalize hcur' : (⟨l ++ news⟩ ++ Builtin.zeroCells A.z.cells (grownCap m.w (rows.length + new.length) cap T - (rows.length + new.length)) : Array Value) = cur' at hr
      have htk : cur'.toList.take ((rows ++ new).length * size) = l ++ news := by
        rw [← hcur', ← hlen]
        simp only [Array.toList_append]
        rw [List.take_left]
      have hsz' : cur'.size = grownCap m.w (rows.length + new.length) cap T * size := by
        rw [← hcur']
        have : (l ++ news).length = (rows.length + new.length) * size := by rw [hlen, List.length_append]
        simp only [Array.size_append, List.size_toArray, zeroCells_size, A.hzs, this, ← Nat.add_mul]
        congr 1
        omega
      have g0 : Grows0 m (m.w.drew.alloc (.cells cur' T)) τ (.mu T size ver rows) (.slice (some ⟨m.w.heap.size, 0, none⟩) (rows.length + new.length) (grownCap m.w (rows.length + new.length) cap T)) (.mu T size (ver + 1) (rows ++ new)) :=
        ⟨rfl, rfl, rfl, by simp, fun k hk _ => heap_drew_alloc _ _ _ hk, fun k c hk hc => by simp [Own.mu] at hc, fun k hk => .inr (by simp [Value.ownBlock] at hk; omega), Nat.le_refl _, rfl, rfl, Nat.le_succ _, fun e => by simp [Own.mu] at e⟩
      have ev := Ev.gt rh ht g0
      have gr : Grows m (m.w.drew.alloc (.cells cur' T)) τ (.mu T size ver rows) (.slice (some ⟨m.w.heap.size, 0, none⟩) (rows.length + new.length) (grownCap m.w (rows.length + new.length) cap T)) (.mu T size (ver + 1) (rows ++ new)) :=
        ⟨g0, l ++ news, ⟨hlen, .inr ⟨m.w.heap.size, _, cur', by simp [Own.mu, Own.len], Nat.zero_le _, heap_drew_new _ _, by simpa [Own.mu, Own.len] using hge, hle, hsz', htk⟩⟩, fun rows' h => by cases h; exact ⟨RvL.ev ev _ _ hflat, hsz, hone'⟩⟩
      have r := RH.gt rh ht gr
      exact ⟨m.gt (m.w.drew.alloc (.cells cur' T)) τ (.slice (some ⟨m.w.heap.size, 0, none⟩) (rows.length + new.length) (grownCap m.w (rows.length + new.length) cap T)) (.mu T size (ver + 1) (rows ++ new)), _, hr, r, ev, rfl, ms_rv r (T := T) (size := size) (rows := rows ++ new) (by simp [Mem.gt, AHeap.setT]) (by simp [Mem.gt]) rfl⟩

theorem setRangeV_take (l new : List Value) (k n : Nat) (h : k + new.length ≤ n) (hn : n ≤ l.length) : (setRangeV l k new).take n = setRangeV (l.take n) k new := by
  unfold setRangeV
  have e1 : (l.take k ++ new).length = k + new.length := by simp; omega
  rw [List.take_append, e1, List.take_of_length_le (by omega), List.take_take, Nat.min_eq_left (by omega), List.drop_take]
theorem rows_flatten {size : Nat} : ∀ {rows : List (List AV)}, (∀ r ∈ rows, r.length = size) → rows.flatten.length = rows.length * size
  | [], _ => by simp
  | r :: rows, h => by
    rw [List.flatten_cons, List.length_append, rows_flatten (fun x hx => h x (by simp [hx])), h r (by simp), List.length_cons, Nat.add_mul]
    omega
/-- Where a pointer into one leads. -/
theorem mp_get (rh : RH m) {τ ver k T size : Nat} {rows : List (List AV)} {pv : Value} (hp : Rv m (.mp τ ver k) pv) (ht : m.H.tok τ = some (.mu T size ver rows)) :
    ∃ g cap cur, pv = .pointer (some ⟨g, k, none⟩) ∧ m.L τ = .slice (some ⟨g, 0, none⟩) rows.length cap ∧ size ≠ 0 ∧ (∀ r ∈ rows, r.length = size) ∧ m.w.heap[g]? = some (.cells cur T (0, 0)) ∧ rows.length ≤ cap ∧ cap ≤ maxLen ∧ cur.size = cap * size ∧ RvL m rows.flatten (cur.toList.take (rows.length * size)) ∧ ∀ u ∈ cur.toList.take (rows.length * size), u.oneCell' = true := by
  simp only [Rv] at hp
  obtain ⟨b, len, cap, e1, e2⟩ := (hp.2.2 _ ht).2 rfl
  have hv : Rv m (.ms τ ver) (m.L τ) := ms_rv rh ht rfl (by rw [e1]; rfl)
  obtain ⟨_, h0, hs, hc⟩ := ms_get rh ht hv
  rw [e1] at hc
  rcases hc with ⟨e, _⟩ | ⟨g, cap', cur, e, r⟩
  · simp at e
  · simp only [Value.slice.injEq, Option.some.injEq, Addr.mk.injEq] at e
    obtain ⟨⟨rfl, _⟩, rfl, rfl⟩ := e
    exact ⟨b, cap, cur, e2, e1, h0, hs, r⟩
/-- A store into one. -/
theorem st_ms (rh : RH m) {τ ver k T size : Nat} {rows rows' : List (List AV)} {pv : Value} {cs : List AV} {l : List Value} (hp : Rv m (.mp τ ver k) pv) (ht : m.H.tok τ = some (.mu T size ver rows)) (hl : k + cs.length ≤ rows.flatten.length) (hcs : RvL m cs l) (ho : ∀ u ∈ l, u.oneCell' = true)
    (hf : rows'.flatten = setRange rows.flatten k cs) (hr : ∀ r ∈ rows', r.length = size) (hlen : rows'.length = rows.length) :
    ∃ g m', pv = .pointer (some ⟨g, k, none⟩) ∧ (storeCells ⟨g, k, none⟩ l 0).run P m.w = .ok () m'.w ∧ RH m' ∧ Ev m m' ∧ m'.H = m.H.setT τ (.mu T size ver rows') := by
  obtain ⟨g, cap, cur, e1, e2, h0, hs, hg, hcap, hcm, hcz, hrv, hone⟩ := mp_get rh hp ht
  have hn := RvL.length hcs
  have hrf := rows_flatten hs
  have hle0 : rows.length * size ≤ cur.size := by rw [hcz]; exact Nat.mul_le_mul_right _ hcap
  have hst := run_storeCells_at P g k T l 0 cur m.w hg (by omega) ho
  have hcur : (cur.toList.take (k + 0) ++ l ++ cur.toList.drop (k + 0 + l.length)).toArray = ⟨setRangeV cur.toList k l⟩ := by simp [setRangeV]
  rw [hcur] at hst
  have htk : (setRangeV cur.toList k l).take (rows.length * size) = setRangeV (cur.toList.take (rows.length * size)) k l := setRangeV_take _ _ _ _ (by omega) (by simpa using hle0)
  have hheap := setRow_heap m.w g cur ⟨setRangeV cur.toList k l⟩ T (0, 0) hg
  have hgl : (m.L τ).ownBlock = some g := by rw [e2]; rfl
  have hsz' : (⟨setRangeV cur.toList k l⟩ : Array Value).size = cap * size := by
    rw [← hcz]
    simp [setRangeV]
    omega
  have g0 : Grows0 m (m.w.setRow g ⟨setRangeV cur.toList k l⟩) τ (.mu T size ver rows) (m.L τ) (.mu T size ver rows') :=
    ⟨rfl, rfl, rfl, by simp, fun x hk hne => setRow_other m.w g x _ (fun e => hne (by rw [hgl, e])), fun x c hk hc => by simp [Own.mu] at hc, fun x hk => .inl hk, Nat.le_refl _, rfl, rfl, Nat.le_refl _, fun _ => rfl⟩
  have ev := Ev.gt rh ht g0
  have gr : Grows m (m.w.setRow g ⟨setRangeV cur.toList k l⟩) τ (.mu T size ver rows) (m.L τ) (.mu T size ver rows') := by
    refine ⟨g0, setRangeV (cur.toList.take (rows.length * size)) k l, ⟨?_, .inr ⟨g, cap, ⟨setRangeV cur.toList k l⟩, ?_, Nat.zero_le _, hheap, ?_, hcm, hsz', ?_⟩⟩, fun rows2 hh => ?_⟩
    · simp [Own.mu, Own.len, setRangeV]
      rw [hlen]
      omega
    · rw [e2]; simp [Own.mu, Own.len, hlen]
    · simp [Own.mu, Own.len, hlen]; exact hcap
    · simp only [Own.mu, Own.len, hlen]; exact htk
    · cases hh
      refine ⟨RvL.ev ev _ _ ?_, hr, fun v hv => ?_⟩
      · rw [hf]
        exact setRange_rv hrv hcs k
      · simp only [setRangeV, List.mem_append] at hv
        rcases hv with (hv | hv) | hv
        · exact hone v (List.mem_of_mem_take hv)
        · exact ho v hv
        · exact hone v (List.mem_of_mem_drop hv)
  have r := RH.gt rh ht gr
  exact ⟨g, m.gt (m.w.setRow g ⟨setRangeV cur.toList k l⟩) τ (m.L τ) (.mu T size ver rows'), e1, hst, r, ev, rfl⟩
/-- A shorter one. -/
theorem sl_ms (rh : RH m) {τ ver T size h : Nat} {rows : List (List AV)} {ad : Option Addr} {cap : Nat} (hv0 : Rv m (.ms τ ver) (.slice ad rows.length cap)) (ht : m.H.tok τ = some (.mu T size ver rows)) (h1 : h ≤ rows.length) :
    ∃ m', m'.w = m.w ∧ RH m' ∧ Ev m m' ∧ m'.H = m.H.setT τ (.mu T size (ver + 1) (rows.take h)) ∧ Rv m' (.ms τ (ver + 1)) (.slice ad h cap) := by
  obtain ⟨hL, h0, hs, hcase⟩ := ms_get rh ht hv0
  have hlen : (rows.take h).length = h := by simp; omega
  rcases hcase with ⟨e, rfl⟩ | ⟨g, cap, cur, e, hg, hcap, hcm, hcs, hrv, hone⟩
  · simp only [List.length_nil, Nat.le_zero_eq] at h1
    subst h1
    simp only [Value.slice.injEq] at e
    obtain ⟨rfl, _, rfl⟩ := e
    have g0 : Grows0 m m.w τ (.mu T size ver []) (.slice none 0 0) (.mu T size (ver + 1) []) := ⟨rfl, rfl, rfl, Nat.le_refl _, fun _ _ _ => rfl, fun _ _ _ _ => rfl, fun k hk => by simp [Value.ownBlock] at hk, Nat.le_refl _, rfl, rfl, Nat.le_succ _, fun e => by simp [Own.mu] at e⟩
    have gr : Grows m m.w τ (.mu T size ver []) (.slice none 0 0) (.mu T size (ver + 1) []) := ⟨g0, [], World.ownsRow_nil _ _ _ _, fun rows' h => by cases h; exact ⟨by simp [RvL], by simp, by simp⟩⟩
    have r := RH.gt rh ht gr
    exact ⟨m.gt m.w τ (.slice none 0 0) (.mu T size (ver + 1) []), rfl, r, Ev.gt rh ht g0, rfl, ms_rv r (T := T) (size := size) (rows := []) (by simp [Mem.gt, AHeap.setT]) (by simp [Mem.gt]) rfl⟩
  · simp only [Value.slice.injEq] at e
    obtain ⟨rfl, _, rfl⟩ := e
    have hgl : (m.L τ).ownBlock = some g := by rw [hL]; rfl
    have hle0 : rows.length * size ≤ cur.size := by rw [hcs]; exact Nat.mul_le_mul_right _ hcap
    have hle1 : h * size ≤ rows.length * size := Nat.mul_le_mul_right _ h1
    have hfl : (rows.take h).flatten = rows.flatten.take (h * size) := by
      have : ∀ (rows : List (List AV)) (h : Nat), (∀ r ∈ rows, r.length = size) → h ≤ rows.length → (rows.take h).flatten = rows.flatten.take (h * size) := by
        intro rows
        induction rows with
        | nil => intro h _ hh; simp
        | cons r rows ih =>
          intro h hs hh
          cases h with
          | zero => simp
          | succ h =>
            have hr := hs r (by simp)
            rw [List.take_succ_cons, List.flatten_cons, List.flatten_cons, ih h (fun x hx => hs x (by simp [hx])) (by simpa using hh), Nat.add_mul, Nat.one_mul, Nat.add_comm, ← hr, List.take_length_add_append]
      exact this rows h hs h1
    have htt : cur.toList.take (h * size) = (cur.toList.take (rows.length * size)).take (h * size) := by rw [List.take_take, Nat.min_eq_left hle1]
    have g0 : Grows0 m m.w τ (.mu T size ver rows) (.slice (some ⟨g, 0, none⟩) h cap) (.mu T size (ver + 1) (rows.take h)) := ⟨rfl, rfl, rfl, Nat.le_refl _, fun _ _ _ => rfl, fun _ _ _ _ => rfl, fun k hk => .inl (by rw [hgl]; simpa [Value.ownBlock] using hk), Nat.le_refl _, rfl, rfl, Nat.le_succ _, fun e => by simp [Own.mu] at e⟩
    have ev := Ev.gt rh ht g0
    have gr : Grows m m.w τ (.mu T size ver rows) (.slice (some ⟨g, 0, none⟩) h cap) (.mu T size (ver + 1) (rows.take h)) := ⟨g0, cur.toList.take (h * size), ⟨by simp only [Own.mu, Own.len, hlen]; simp; omega, .inr ⟨g, cap, cur, by simp [Own.mu, Own.len]; omega, Nat.zero_le _, hg, by simp [Own.mu, Own.len]; omega, hcm, hcs, by simp only [Own.mu, Own.len, hlen]⟩⟩, fun rows' hh => by
      cases hh
      refine ⟨RvL.ev ev _ _ ?_, fun r hr => hs r (List.mem_of_mem_take hr), fun u hu => hone u ?_⟩
      · rw [hfl, htt]
        exact RvL.take _ hrv
      · rw [htt] at hu
        exact List.mem_of_mem_take hu⟩
    have r := RH.gt rh ht gr
    exact ⟨m.gt m.w τ (.slice (some ⟨g, 0, none⟩) h cap) (.mu T size (ver + 1) (rows.take h)), rfl, r, ev, rfl, ms_rv r (T := T) (size := size) (rows := rows.take h) (by simp [Mem.gt, AHeap.setT]) (by simp [Mem.gt]) rfl⟩
end
end Go.Aw

/- The steps at mutable slices (own work). -/
namespace Go.Aw
open Go
set_option linter.unusedVariables false
set_option linter.unusedSimpArgs false
section
variable {P : Program} {m : Mem} {env : Env} {a : Act} {o : Oper}

/-- The value of one, with its length. -/
theorem ms_len (rh : RH m) {t ver T size : Nat} {rows : List (List AV)} {v : Value} (ht : m.H.tok t = some (.mu T size ver rows)) (hv : Rv m (.ms t ver) v) : ∃ ad cap, v = .slice ad rows.length cap ∧ rows.length ≤ cap := by
  obtain ⟨_, _, _, hc⟩ := ms_get rh ht hv
  rcases hc with ⟨rfl, rfl⟩ | ⟨g, cap, cur, rfl, _, h, _⟩
  · exact ⟨none, 0, rfl, Nat.le_refl _⟩
  · exact ⟨_, cap, rfl, h⟩
theorem d_lenM {c y t ver T size} {rows : List (List AV)} (he : RvE m env a.tmps) (rh : RH m) (ho : o.op = .call c) (h : chkOp P o.op (.lenM y) = true) (e1 : y.ev env = .ms t ver) (ht : m.H.tok t = some (.mu T size ver rows)) : Quiet P m a o (.int .i64 rows.length) := by
  obtain ⟨callee, args, argTypes⟩ := c
  rw [ho] at h
  cases callee with
  | value f => simp [chkOp] at h
  | invoke _ _ => simp [chkOp] at h
  | builtin b =>
    cases b <;> simp only [chkOp] at h <;> first
      | (cases h; done)
      | skip
    simp only [Bool.and_eq_true] at h
    obtain ⟨h1, h2⟩ := h
    split at h1
    · rename_i x hx
      split at h2
      · rename_i t' ht'
        have hc := chkX_rv he h1
        obtain rfl := arr1 hx
        obtain rfl := arr1 ht'
        split at h2
        · rename_i el hu
          rw [e1] at hc
          obtain ⟨ad, cap, e2, _⟩ := ms_len rh ht hc
          refine ⟨.int .i64 rows.length, ?_, by simp only [Rv]⟩
          refine call_args ho rfl rfl P m.w m.w (.int .i64 rows.length) ?_
          simp [builtin, Builtin.len_, run_underlying hu, e2, goInt]
        · cases h2
      · cases h2
    · cases h1
theorem slT_under {t el : TypeId} (hel : slT P t = some el) : P.underlying t = some (.slice el) := by
  unfold slT at hel
  split at hel
  · rename_i e hu; simp at hel; subst hel; exact hu
  · cases hel
theorem d_iaddrM {ty x i size x' i' t ver T k} {rows : List (List AV)} {n : Int} (he : RvE m env a.tmps) (rh : RH m) (ho : o.op = .indexAddr ty x i) (h : chkOp P o.op (.iaddrM size x' i') = true) (e1 : x'.ev env = .ms t ver) (ht : m.H.tok t = some (.mu T size ver rows)) (e2 : i'.ev env = .int k n) (h0 : 0 ≤ n) (hr : n < (rows.length : Int)) : Quiet P m a o (.mp t ver (n.toNat * size)) := by
  rw [ho] at h
  simp only [chkOp, Bool.and_eq_true] at h
  obtain ⟨⟨h1, h2⟩, h3⟩ := h
  have hi := chkX_rv he h2
  have hx := chkX_rv he h1
  rw [e2] at hi
  rw [e1] at hx
  split at h3
  · rename_i el hel
    have hsz : sizeT P el = some size := by simpa using h3
    have hu := slT_under hel
    obtain ⟨hL, hne, hs, hc⟩ := ms_get rh ht hx
    rcases hc with ⟨_, rfl⟩ | ⟨g, cap, cur, e, _⟩
    · simp at hr; omega
    · refine ⟨.pointer (some ⟨g, n.toNat * size, none⟩), ?_, ?_⟩
      · simp [execOp, ho, Instr.indexAt, e, rv_int hi, asIntOf, run_underlying hu, h0, hr, run_sizeOf' hsz, addr_add]
      · simp only [Rv]
        refine ⟨rfl, (rh.tok t _ ht).1, fun j hj => ?_⟩
        rw [ht] at hj
        simp at hj
        subst hj
        exact ⟨Nat.le_refl _, fun _ => ⟨g, _, _, hL.trans e, rfl⟩⟩
  · cases h3
theorem d_loadM {ty x agg n y t ver k T size r} {rows : List (List AV)} (he : RvE m env a.tmps) (rh : RH m) (ho : o.op = .load ty x) (h : chkOp P o.op (.loadM agg n y) = true) (e1 : y.ev env = .mp t ver k) (ht : m.H.tok t = some (.mu T size ver rows)) (hl : k + n ≤ rows.flatten.length) (hr : AV.ofCells agg ((rows.flatten.drop k).take n) = some r) : Quiet P m a o r := by
  rw [ho] at h
  simp only [chkOp, Bool.and_eq_true] at h
  obtain ⟨h1, h2⟩ := h
  have hx := chkX_rv he h2
  rw [e1] at hx
  obtain ⟨g, cap, cur, e, _, hne, hs, hg, hcap, hcm, hcz, hrv, hone⟩ := mp_get rh hx ht
  have hrf := rows_flatten hs
  have hll := RvL.length hrv
  generalize hq : cur.toList.take (rows.length * size) = l at hrv hone hll
  refine ⟨if agg then .agg ⟨(l.drop k).take n⟩ else ((l.drop k).take n).getD 0 undef, ?_, ?_⟩
  · have := run_loadVar_cells (w := m.w) h1 g k ((l.drop k).take n) (by simp; omega) (fun j v hj => by
      rw [cell_of_row m.w g _ cur T (0, 0) hg]
      rw [List.getElem?_take] at hj
      split at hj
      · rw [List.getElem?_drop, ← hq, List.getElem?_take] at hj
        split at hj
        · simpa using hj
        · cases hj
      · cases hj)
    simp [execOp, ho, Instr.loadAt, e, Instr.sureAddr, this]
  · rcases ofCells_rv hr (RvL.take n (RvL.drop k hrv)) with ⟨rfl, h⟩ | ⟨rfl, v, e, h⟩
    · exact h
    · simp only [Bool.false_eq_true, if_false, e]
      exact h
theorem d_faddrM {t x f off y τ ver k T size} {rows : List (List AV)} (he : RvE m env a.tmps) (rh : RH m) (ho : o.op = .fieldAddr t x f) (h : chkOp P o.op (.faddrM off y) = true) (e1 : y.ev env = .mp τ ver k) (ht : m.H.tok τ = some (.mu T size ver rows)) : Quiet P m a o (.mp τ ver (k + off)) := by
  rw [ho] at h
  simp only [chkOp, Bool.and_eq_true] at h
  obtain ⟨h1, h2⟩ := h
  have hc := chkX_rv he h1
  rw [e1] at hc
  obtain ⟨g, cap, cur, r1, r2, _⟩ := mp_get rh hc ht
  split at h2
  · rename_i fs hu
    split at h2
    · rename_i q hg
      simp only [Bool.and_eq_true, decide_eq_true_eq] at h2
      obtain ⟨h2, h3⟩ := h2
      split at h3
      · rename_i n hn
        have hn0 : n ≠ 0 := by simpa using h3
        refine ⟨.pointer (some ⟨g, k + off, none⟩), ?_, ?_⟩
        · simp [execOp, ho, Instr.fieldAt, run_underlying hu, hg, r1, Instr.sureAddr, fieldPlace, run_sizeOf' hn, hn0, addr_add, h2]
        · simp only [Rv] at hc ⊢
          refine ⟨rfl, hc.2.1, fun i hi => ?_⟩
          rw [ht] at hi
          cases hi
          exact ⟨Nat.le_refl _, fun _ => ⟨g, _, cap, r2, rfl⟩⟩
      · cases h3
    · cases h2
  · cases h2
theorem vs_some {size : Nat} {rows : List (List AV)} {v : Value} (h : Rv m (.vs size rows) v) (hr : rows ≠ []) : ∃ x len cap, v = .slice (some x) len cap := by
  simp only [Rv] at h
  obtain ⟨ad, len, cap, rfl, _, _, h4⟩ := h
  rcases h4 with h4 | ⟨b, p, rfl, _⟩
  · exact absurd (List.eq_nil_of_length_eq_zero h4) hr
  · exact ⟨_, _, _, rfl⟩
theorem run_isnil {op t x y u neg x'} (ho : o.op = .binOp op t x y u) (h : chkOp P o.op (.isnil neg x') = true) {ad : Option Addr} {len cap : Nat} (hv : a.eval x = .slice ad len cap) : (execOp a.eval o).run P m.w = .ok (.value (.bool (bif neg then !ad.isNone else ad.isNone))) m.w := by
  rw [ho] at h
  simp only [chkOp, Bool.and_eq_true, decide_eq_true_eq] at h
  obtain ⟨⟨⟨⟨h1, h2⟩, h3⟩, h4⟩, h5⟩ := h
  split at h3
  · split at h4
    · rename_i e he
      have hu := slT_under he
      subst h1
      have hg : ∀ op, (eqGuard op t x (.const (.slice none 0 0)) (.slice ad len cap) (.slice none 0 0)).run P m.w = .ok () m.w := by
        intro op
        have h5' : P.eqGuardType P.depth t = false := by simpa using h5
        unfold eqGuard; cases op <;> simp [h5']
      have hq : (Op.equal t (.slice ad len cap) (.slice none 0 0)).run P m.w = .ok ad.isNone m.w := by
        have gen : ∀ d, (Op.equalIn (d + 1) t (.slice ad len cap) (.slice none 0 0)).run P m.w = .ok ad.isNone m.w := by
          intro d
          cases ad <;> simp [Op.equalIn, run_underlying hu]
        exact gen 9999
      have hy : a.eval (.const (.slice none 0 0)) = .slice none 0 0 := rfl
      cases neg <;> simp [execOp, ho, hv, hq, hg, binOp, hy]
    · cases h4
  · cases h3
theorem d_isnil {op t x y u neg x' b} (he : RvE m env a.tmps) (ho : o.op = .binOp op t x y u) (h : chkOp P o.op (.isnil neg x') = true) (hv : ∀ v, Rv m (x'.ev env) v → (v = .slice none 0 0 ∧ b = !neg) ∨ (∃ q len cap, v = .slice (some q) len cap) ∧ b = neg) : Quiet P m a o (.bool b) := by
  have h2 : chkX x x' = true := by
    rw [ho] at h
    simp only [chkOp, Bool.and_eq_true, decide_eq_true_eq] at h
    exact h.1.1.1.2
  rcases hv _ (chkX_rv he h2) with ⟨e, rfl⟩ | ⟨⟨q, len, cap, e⟩, rfl⟩
  · exact ⟨_, run_isnil ho h e, by simp only [Rv]; cases neg <;> rfl⟩
  · exact ⟨_, run_isnil ho h e, by simp only [Rv]; cases b <;> rfl⟩
theorem d_isnilU {op t x y u neg x' size rows} (he : RvE m env a.tmps) (ho : o.op = .binOp op t x y u) (h : chkOp P o.op (.isnil neg x') = true) (hx : x'.ev env = .vs size rows) : ∃ b v, (execOp a.eval o).run P m.w = .ok (.value v) m.w ∧ Rv m (.bool b) v := by
  have h2 : chkX x x' = true := by
    rw [ho] at h
    simp only [chkOp, Bool.and_eq_true, decide_eq_true_eq] at h
    exact h.1.1.1.2
  have hv := chkX_rv he h2
  rw [hx] at hv
  simp only [Rv] at hv
  obtain ⟨ad, len, cap, e, _⟩ := hv
  exact ⟨(bif neg then !ad.isNone else ad.isNone), _, run_isnil ho h e, by simp only [Rv]⟩
theorem d_slM {ty x lo hi size y lo' hi' t ver T h} {rows : List (List AV)} (he : RvE m env a.tmps) (rh : RH m) (ho : o.op = .slice ty x lo hi none) (hc : chkOp P o.op (.slM size y lo' hi') = true) (e1 : y.ev env = .ms t ver) (ht : m.H.tok t = some (.mu T size ver rows)) (hl : optNat env 0 lo' = some 0) (hh : optNat env rows.length hi' = some h) (h2 : h ≤ rows.length) :
    ∃ m' v, (execOp a.eval o).run P m.w = .ok (.value v) m'.w ∧ RH m' ∧ Ev m m' ∧ m'.H = m.H.setT t (.mu T size (ver + 1) (rows.take h)) ∧ Rv m' (.ms t (ver + 1)) v := by
  rw [ho] at hc
  simp only [chkOp, Bool.and_eq_true] at hc
  obtain ⟨⟨⟨c1, c2⟩, c3⟩, c4⟩ := hc
  have hx := chkX_rv he c1
  rw [e1] at hx
  split at c4
  · rename_i el hel
    have hsz : sizeT P el = some size := by simpa using c4
    have hu := slT_under hel
    obtain ⟨ad, cap, e, hcap⟩ := ms_len rh ht hx
    have hb := run_sliceBounds (P := P) (w := m.w) (b := true) (cap := cap) he c2 c3 hl hh (Nat.zero_le _) h2 hcap
    rw [e] at hx
    obtain ⟨m', r0, r1, r2, r3, r4⟩ := sl_ms rh hx ht h2
    have had : (if cap = 0 then ad else ad.map (·.add (0 * size))) = ad := by
      cases ad with
      | none => simp
      | some q =>
        obtain ⟨qb, qo, qs⟩ := q
        have : (⟨qb, qo, qs⟩ : Addr).add (0 * size) = ⟨qb, qo, qs⟩ := by
          rw [Nat.zero_mul]
          unfold Addr.add
          simp
        simp only [Option.map_some, this, ite_self]
    refine ⟨m', .slice ad h cap, ?_, r1, r2, r3, r4⟩
    have : (execOp a.eval o).run P m.w = .ok (.value (.slice (if cap = 0 then ad else ad.map (·.add (0 * size))) (h - 0) (cap - 0))) m.w := by
      simp [execOp, ho, Instr.sliceAt, Instr.slice, run_underlying hu, e, hb, run_sizeOf' hsz]
    rw [this, had, r0]
    simp
  · cases c4
end
end Go.Aw
