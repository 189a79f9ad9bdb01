/- Part of a proof; own work. -/
import Derived.Test.YtjjngpjdhjeckaaC1
/- peval is what the model's run gives (own work). -/
namespace Go.Aw
open Go
set_option linter.unusedVariables false
set_option linter.unusedSimpArgs false

/-- What a run of one operation gives, where the world stays. -/
def Quiet (P : Program) (m : Mem) (a : Act) (o : Oper) (r : AV) : Prop :=
  ∃ v, (execOp a.eval o).run P m.w = .ok (.value v) m.w ∧ Rv m r v

section
variable {P : Program} {m : Mem} {env : Env} {a : Act} {o : Oper}

theorem q_mv {x y} (he : RvE m env a.tmps) (ho : o.op = .move x ∨ o.op = .assign x) (h : chkX x y = true) : Quiet P m a o (y.ev env) :=
  ⟨a.eval x, by rcases ho with ho | ho <;> simp [execOp, ho], chkX_rv he h⟩
theorem q_pick {c x y c' x' y' r} (he : RvE m env a.tmps) (ho : o.op = .pick c x y) (h1 : chkX c c' = true) (h2 : chkX x x' = true) (h3 : chkX y y' = true) (H : AHeap) (hp : peval (.pick c' x' y') env H = some r) : Quiet P m a o r := by
  simp only [peval] at hp
  have hc := chkX_rv he h1
  split at hp
  · rename_i e; simp at hp; subst hp; rw [e] at hc
    exact ⟨a.eval x, by simp [execOp, ho, rv_bool hc, asBool], chkX_rv he h2⟩
  · rename_i e; simp at hp; subst hp; rw [e] at hc
    exact ⟨a.eval y, by simp [execOp, ho, rv_bool hc, asBool], chkX_rv he h3⟩
  · cases hp
theorem q_nilck {x y r} (he : RvE m env a.tmps) (ho : o.op = .nilCheck x) (h1 : chkX x y = true) (H : AHeap) (hp : peval (.nilck y) env H = some r) : Quiet P m a o r := by
  simp only [peval] at hp
  have hc := chkX_rv he h1
  split at hp
  · rename_i e; simp at hp; subst hp; rw [e] at hc
    exact ⟨_, by simp [execOp, ho, rv_ptr hc]; rfl, by simp only [Rv]⟩
  · rename_i e; simp at hp; subst hp; rw [e] at hc
    obtain ⟨b, p, e1, e2⟩ := rv_rp hc
    exact ⟨_, by simp [execOp, ho, e1]; rfl, by simp only [Rv]; exact ⟨b, p, rfl, e2⟩⟩
  · rename_i e; simp at hp; subst hp; rw [e] at hc
    obtain ⟨l, e1, e2⟩ := rv_fn hc
    exact ⟨_, by simp [execOp, ho, e1]; rfl, by simp only [Rv]; exact ⟨l, rfl, e2⟩⟩
  · cases hp
theorem q_faddr {t x f off y r} (he : RvE m env a.tmps) (ho : o.op = .fieldAddr t x f) (h : chkOp P o.op (.faddr off y) = true) (H : AHeap) (hp : peval (.faddr off y) env H = some r) : Quiet P m a o r := by
  rw [ho] at h
  simp only [chkOp, Bool.and_eq_true] at h
  obtain ⟨h1, h2⟩ := h
  have hc := chkX_rv he h1
  split at h2
  · rename_i fs hu
    split at h2
    · rename_i g hg
      simp only [Bool.and_eq_true, decide_eq_true_eq] at h2
      obtain ⟨h2, h3⟩ := h2
      split at h3
      · rename_i n hn
        have hn0 : n ≠ 0 := by simpa using h3
        have hrun : ∀ b p, a.eval x = .pointer (some ⟨b, p, none⟩) → (execOp a.eval o).run P m.w = .ok (.value (.pointer (some ⟨b, p + off, none⟩))) m.w := by
          intro b p e
          simp [execOp, ho, Instr.fieldAt, run_underlying hu, hg, e, Instr.sureAddr, fieldPlace, run_sizeOf' hn, hn0, addr_add, h2]
        simp only [peval] at hp
        split at hp
        · rename_i b p e; simp at hp; subst hp; rw [e] at hc
          exact ⟨_, hrun _ _ (rv_ptr hc), by simp only [Rv]⟩
        · rename_i row p e; simp at hp; subst hp; rw [e] at hc
          obtain ⟨b, q, e1, e2⟩ := rv_rp hc
          exact ⟨_, hrun _ _ e1, by simp only [Rv]; exact ⟨b, q, by rw [Nat.add_assoc], e2⟩⟩
        · cases hp
      · cases h3
    · cases h2
  · cases h2
theorem take_drop_len {cs : List AV} {o n : Nat} (h : o + n ≤ cs.length) : ((cs.drop o).take n).length = n := by simp; omega
theorem peval_loadD {me agg n x env H r} (hp : peval (.loadD me agg n x) env H = some r) : peval (.load agg n x) env H = some r ∧ ∃ b o, env.get me = .ptr b 0 ∧ x.ev env = .ptr b o := by
  simp only [peval] at hp ⊢
  split at hp
  · rename_i b b' o e1 e2
    split at hp
    · rename_i hb
      subst hb
      rw [e2]
      exact ⟨hp, _, _, e1, rfl⟩
    · cases hp
  · cases hp
theorem peval_loadD' {me agg n x env H r b o} (hp : peval (.load agg n x) env H = some r) (h1 : env.get me = .ptr b 0) (h2 : x.ev env = .ptr b o) : peval (.loadD me agg n x) env H = some r := by
  simp only [peval, h2] at hp
  simp only [peval, h1, h2, if_true]
  exact hp
theorem q_load {t x agg n y r} (he : RvE m env a.tmps) (rh : RH m) (ho : o.op = .load t x) (h1 : ldT P t agg n = true) (h2 : chkX x y = true) (hp : peval (.load agg n y) env m.H = some r) : Quiet P m a o r := by
  have hc := chkX_rv he h2
  simp only [peval] at hp
  have fin : ∀ b p (l : List Value) (cs : List AV), a.eval x = .pointer (some ⟨b, p, none⟩) → AV.ofCells agg cs = some r → RvL m cs l → l.length = n → (∀ j v, l[j]? = some v → m.w.cell? ⟨b, p + j, none⟩ = some v) → Quiet P m a o r := by
    intro b p l cs e1 e2 e3 e4 e5
    refine ⟨if agg then .agg ⟨l⟩ else l.getD 0 undef, by simp [execOp, ho, Instr.loadAt, e1, Instr.sureAddr, run_loadVar_cells h1 b p l e4 e5], ?_⟩
    rcases ofCells_rv e2 e3 with ⟨rfl, h⟩ | ⟨rfl, v, rfl, h⟩
    · exact h
    · exact h
  split at hp
  · rename_i b p e
    rw [e] at hc
    split at hp
    · rename_i T cs hb
      split at hp
      · rename_i hle
        obtain ⟨l, g1, g2, g3⟩ := rh.blk b _ cs hb
        refine fin b p ((l.drop p).take n) _ (rv_ptr hc) hp (RvL.take n (RvL.drop p g2)) ?_ fun j v hj => ?_
        · have := RvL.length g2
          simp; omega
        · rw [cell_of_row m.w b _ _ _ _ g1]
          rw [List.getElem?_take] at hj
          split at hj
          · rw [List.getElem?_drop] at hj
            simpa using hj
          · cases hj
      · cases hp
    · cases hp
  · rename_i row p e
    rw [e] at hc
    obtain ⟨b, q, e1, e2⟩ := rv_rp hc
    split at hp
    · rename_i hle
      obtain ⟨l, g1, g2⟩ := RvC.vals e2
      refine fin b (q + p) ((l.drop p).take n) _ e1 hp (RvL.take n (RvL.drop p g1)) ?_ fun j v hj => ?_
      · have := RvL.length g1
        simp; omega
      · rw [List.getElem?_take] at hj
        split at hj
        · rw [List.getElem?_drop] at hj
          rw [Nat.add_assoc]
          exact (g2 _ v hj).1
        · cases hj
    · cases hp
  · cases hp
theorem q_field {t x f agg off n y r} (he : RvE m env a.tmps) (ho : o.op = .field t x f) (h : chkOp P o.op (.field agg off n y) = true) (H : AHeap) (hp : peval (.field agg off n y) env H = some r) : Quiet P m a o r := by
  rw [ho] at h
  simp only [chkOp, Bool.and_eq_true] at h
  obtain ⟨h1, h2⟩ := h
  have hc := chkX_rv he h1
  split at h2
  · rename_i fs hu
    split at h2
    · rename_i g hg
      simp only [Bool.and_eq_true, decide_eq_true_eq] at h2
      obtain ⟨h2, h3⟩ := h2
      simp only [peval] at hp
      split at hp
      · rename_i cs e
        rw [e] at hc
        obtain ⟨l, e1, e2⟩ := rv_agg hc
        split at hp
        · rename_i hle
          have hl := RvL.length e2
          refine ⟨if agg then .agg ⟨(l.drop off).take n⟩ else l.getD off undef, by simp [execOp, ho, Instr.field, run_underlying hu, hg, e1, asAgg, h2, run_part h3 l off (by omega)], ?_⟩
          rcases ofCells_rv hp (RvL.take n (RvL.drop off e2)) with ⟨rfl, h⟩ | ⟨rfl, v, hv, h⟩
          · exact h
          · have hn := (ldT_parts h3).2.2.1 rfl
            subst hn
            rw [getD_drop]
            have : (l.drop off).getD 0 undef = v := by
              cases hd : l.drop off with
              | nil => rw [hd] at hv; simp at hv
              | cons x xs => rw [hd] at hv; simp at hv; simp [hv]
            simp only [Bool.false_eq_true, if_false, this]
            exact h
        · cases hp
      · cases hp
    · cases h2
  · cases h2
theorem q_not {t x y r} (he : RvE m env a.tmps) (ho : o.op = .unOp .not t x) (h : chkX x y = true) (H : AHeap) (hp : peval (.not y) env H = some r) : Quiet P m a o r := by
  have hc := chkX_rv he h
  simp only [peval] at hp
  split at hp
  · rename_i e; simp at hp; subst hp; rw [e] at hc
    exact ⟨_, by simp [execOp, ho, rv_bool hc, Op.unary]; rfl, by simp only [Rv]⟩
  · cases hp
theorem q_neg {t x y r} (he : RvE m env a.tmps) (ho : o.op = .unOp .neg t x) (h : chkX x y = true) (H : AHeap) (hp : peval (.neg y) env H = some r) : Quiet P m a o r := by
  have hc := chkX_rv he h
  simp only [peval] at hp
  split at hp
  · rename_i e; simp at hp; subst hp; rw [e] at hc
    exact ⟨_, by simp [execOp, ho, rv_int hc, Op.unary, Op.intArith]; rfl, by simp only [Rv, Int.zero_sub]⟩
  · cases hp
theorem q_conv {s d x k y r} (he : RvE m env a.tmps) (ho : o.op = .convert s d x) (h : chkOp P o.op (.conv k y) = true) (H : AHeap) (hp : peval (.conv k y) env H = some r) : Quiet P m a o r := by
  rw [ho] at h
  simp only [chkOp, Bool.and_eq_true] at h
  obtain ⟨⟨h1, h2⟩, h3⟩ := h
  have hc := chkX_rv he h1
  split at h2
  · rename_i ks hs
    split at h3
    · rename_i j hd
      simp at h3
      subst h3
      simp only [peval] at hp
      split at hp
      · rename_i e; simp at hp; subst hp; rw [e] at hc
        exact ⟨_, by simp [execOp, ho, rv_int hc, Go.convert, run_underlying hs, run_underlying hd, Conv.intToInt]; rfl, by simp only [Rv]⟩
      · cases hp
    · cases h3
  · cases h2
theorem q_extract {x i y r} (he : RvE m env a.tmps) (ho : o.op = .extract x i) (h : chkX x y = true) (H : AHeap) (hp : peval (.extract i y) env H = some r) : Quiet P m a o r := by
  have hc := chkX_rv he h
  simp only [peval] at hp
  split at hp
  · rename_i l e
    rw [e] at hc
    obtain ⟨vs, e1, e2⟩ := rv_tup hc
    obtain ⟨v, e3, e4⟩ := RvL.get e2 i r hp
    exact ⟨v, by simp [execOp, ho, e1, Instr.extract, e3], e4⟩
  · cases hp
theorem q_mkfn {f first caps ys} (he : RvE m env a.tmps) (ho : o.op = .makeFunc (.func f) first caps) (h0 : first.isEmpty = true) (h : chkXs caps.toList ys = true) : Quiet P m a o (.fn f (ys.map (EOpd.ev env))) := by
  have hf : first = #[] := by simpa using h0
  subst hf
  refine ⟨_, by simp [execOp, ho, Instr.makeFunc]; rfl, ?_⟩
  simp only [Rv]
  exact ⟨caps.toList.map a.eval, by simp [← Array.toList_map], chkXs_rv he h⟩
theorem q_mkif {t x y} (he : RvE m env a.tmps) (ho : o.op = .makeInterface t x) (h : chkX x y = true) (h2 : (match P.underlying t with | some (.interface _) => false | some _ => true | none => false) = true) : Quiet P m a o (.ifc t (y.ev env)) := by
  refine ⟨.iface t (a.eval x), ?_, by simp only [Rv]; exact ⟨_, rfl, chkX_rv he h⟩⟩
  split at h2
  · cases h2
  · rename_i d hne hu
    cases d <;> first
      | exact (hne _ hu).elim
      | exact (hne _ rfl).elim
      | simp [execOp, ho, Instr.makeInterface, run_underlying hu]
  · cases h2
end
end Go.Aw

/- peval is what the model's run gives: sums, comparisons, lengths, literals (own work). -/
namespace Go.Aw
open Go
set_option linter.unusedVariables false
set_option linter.unusedSimpArgs false
section
variable {P : Program} {m : Mem} {env : Env} {a : Act} {o : Oper}

theorem beq_dec (x y : Int) : (x == y) = decide (x = y) := rfl
theorem binInt_run {w : World} {op : BinOp} {k : IntKind} {x y : Int} {r : AV} (t : TypeId) (h : binInt op k x y = some r) : ∃ v, (binOp op t (.int k x) (.int k y)).run P w = .ok v w ∧ Rv m r v := by
  cases op <;> simp only [binInt, Option.some.injEq] at h <;> first
    | (cases h; done)
    | (subst h; refine ⟨_, by simp [binOp, Op.intArith, Op.intCmp]; rfl, ?_⟩; simp only [Rv]; done)
    | (subst h; refine ⟨_, by simp [binOp, Op.intArith, Op.intCmp]; rfl, ?_⟩; simp only [Rv]; first | rfl | (congr 1; done))
theorem binStr_run {w : World} {op : BinOp} {x y : List UInt8} {r : AV} (t : TypeId) (h : binStr op x y = some r) : ∃ v, (binOp op t (.string ⟨⟨x⟩⟩) (.string ⟨⟨y⟩⟩)).run P w = .ok v w ∧ Rv m r v := by
  have e := decide_toList x y
  rw [bytes_toList, bytes_toList] at e
  cases op <;> simp only [binStr, Option.some.injEq] at h <;> first
    | (cases h; done)
    | (subst h; refine ⟨_, by simp [binOp, Op.stringOp, bytes_toList, e]; rfl, ?_⟩; simp only [Rv]; done)
    | (subst h; refine ⟨_, by simp [binOp, Op.stringOp, bytes_toList, e]; rfl, ?_⟩; simp only [Rv]; first | rfl | simp)
theorem binBool_run {w : World} {op : BinOp} {x y : Bool} {r : AV} {t : TypeId} (ht : P.underlying t = some .bool) (h : binBool op x y = some r) : ∃ v, (binOp op t (.bool x) (.bool y)).run P w = .ok v w ∧ Rv m r v := by
  have e : ∀ w : World, (Op.equal t (.bool x) (.bool y)).run P w = .ok (x == y) w := fun w => run_equalIn_bool' w 9999 t x y ht
  cases op <;> simp only [binBool, Option.some.injEq] at h <;> first
    | (cases h; done)
    | (subst h; refine ⟨_, by simp [binOp, e]; rfl, ?_⟩; simp only [Rv])
theorem q_bin {op t x y u x' y' r} (he : RvE m env a.tmps) (ho : o.op = .binOp op t x y u) (h : chkOp P o.op (.bin op x' y') = true) (H : AHeap) (hp : peval (.bin op x' y') env H = some r) : Quiet P m a o r := by
  rw [ho] at h
  simp only [chkOp, Bool.and_eq_true] at h
  obtain ⟨⟨_, h1⟩, h2⟩ := h
  have hx := chkX_rv he h1
  have hy := chkX_rv he h2
  simp only [peval] at hp
  split at hp
  · rename_i k p j q e1 e2
    rw [e1] at hx
    rw [e2] at hy
    split at hp
    · rename_i ek
      subst ek
      obtain ⟨v, g1, g2⟩ := binInt_run (P := P) (w := m.w) (m := m) t hp
      exact ⟨v, by simp [execOp, ho, rv_int hx, rv_int hy, eqGuard_int, g1], g2⟩
    · cases hp
  · rename_i p q e1 e2
    rw [e1] at hx
    rw [e2] at hy
    obtain ⟨v, g1, g2⟩ := binStr_run (P := P) (w := m.w) (m := m) t hp
    exact ⟨v, by simp [execOp, ho, (rv_str hx).1, (rv_str hy).1, eqGuard_str, g1], g2⟩
  · cases hp
theorem q_binB {op t x y u x' y' r} (he : RvE m env a.tmps) (ho : o.op = .binOp op t x y u) (h : chkOp P o.op (.binB op x' y') = true) (H : AHeap) (hp : peval (.binB op x' y') env H = some r) : Quiet P m a o r := by
  rw [ho] at h
  simp only [chkOp, Bool.and_eq_true] at h
  obtain ⟨⟨⟨_, h1⟩, h2⟩, h3⟩ := h
  have hx := chkX_rv he h1
  have hy := chkX_rv he h2
  simp only [peval] at hp
  split at h3
  · rename_i hb
    split at hp
    · rename_i p q e1 e2
      rw [e1] at hx
      rw [e2] at hy
      obtain ⟨v, g1, g2⟩ := binBool_run (P := P) (w := m.w) (m := m) hb hp
      exact ⟨v, by simp [execOp, ho, rv_bool hx, rv_bool hy, eqGuard_bool, g1], g2⟩
    · cases hp
  · cases h3
theorem q_eqA {op t x y u neg T ks x' y' r} (he : RvE m env a.tmps) (ho : o.op = .binOp op t x y u) (h : chkOp P o.op (.eqA neg T ks x' y') = true) (H : AHeap) (hp : peval (.eqA neg T ks x' y') env H = some r) : Quiet P m a o r := by
  rw [ho] at h
  simp only [chkOp, Bool.and_eq_true, decide_eq_true_eq, Bool.not_eq_true'] at h
  obtain ⟨⟨⟨⟨⟨⟨h1, rfl⟩, h2⟩, h3⟩, h4⟩, h5⟩, h6⟩ := h
  have hx := chkX_rv he h2
  have hy := chkX_rv he h3
  simp only [peval] at hp
  split at hp
  · rename_i cs ds e1 e2
    rw [e1] at hx
    rw [e2] at hy
    obtain ⟨l, g1, g2⟩ := rv_agg hx
    obtain ⟨l', g3, g4⟩ := rv_agg hy
    cases hq : eqCells ks cs ds with
    | none => simp [hq] at hp
    | some b =>
      simp [hq] at hp
      subst hp
      split at h6
      · rename_i fs hu
        have ha : aggT P t = some true := by simp [aggT, hu]
        have hrun := equalIn_flat (P := P) (w := m.w) 8 9992 h4 ha g2 g4 hq
        have he : (Op.equal t (.agg ⟨l⟩) (.agg ⟨l'⟩)).run P m.w = .ok b m.w := hrun
        refine ⟨.bool (bif neg then !b else b), ?_, by simp only [Rv]⟩
        rw [h1] at ho
        cases neg with
        | true => simp [execOp, ho, g1, g3, eqGuard_agg _ _ _ _ _ _ h5, binOp, he]
        | false => simp [execOp, ho, g1, g3, eqGuard_agg _ _ _ _ _ _ h5, binOp, he]
      · cases h6
  · cases hp
theorem arr1 {α : Type} {l : Array α} {x : α} (h : l.toList = [x]) : l = #[x] := by cases l; simp at h; rw [h]
theorem call_args {c : Call} {b : Builtin} {x : Operand} (ho : o.op = .call c) (hb : c.callee = .builtin b) (hx : c.args = #[x]) (P : Program) (w w' : World) (v : Value) (h : (builtin b c.argTypes o.type (c.args.map fun | .const _ => true | _ => false) #[a.eval x]).run P w = .ok (.value v) w') :
    (execOp a.eval o).run P w = .ok (.value v) w' := by
  simp [execOp, ho, resolve, hb, invoke, hx] at h ⊢
  exact h
theorem q_lenS {c y r} (he : RvE m env a.tmps) (ho : o.op = .call c) (h : chkOp P o.op (.lenS y) = true) (H : AHeap) (hp : peval (.lenS y) env H = some r) : Quiet P m a o r := by
  obtain ⟨callee, args, argTypes⟩ := c
  rw [ho] at h
  cases callee with
  | value f => simp [chkOp] at h
  | invoke _ _ => simp [chkOp] at h
  | builtin b =>
    cases b <;> simp only [chkOp] at h <;> first
      | (cases h; done)
      | skip
    simp only [Bool.and_eq_true] at h
    obtain ⟨h1, h2⟩ := h
    split at h1
    · rename_i x hx
      split at h2
      · rename_i t ht
        have hc := chkX_rv he h1
        obtain rfl := arr1 hx
        obtain rfl := arr1 ht
        simp only [peval] at hp
        split at h2
        · rename_i hu
          split at hp
          · rename_i s e
            rw [e] at hc
            simp at hp
            subst hp
            refine ⟨_, call_args ho rfl rfl P m.w m.w (.int .i64 s.length) ?_, by simp only [Rv]⟩
            simp [builtin, Builtin.len_, run_underlying hu, (rv_str hc).1, goInt]
            rfl
          · cases hp
        · cases h2
      · cases h2
    · cases h1
theorem q_len {c y r} (he : RvE m env a.tmps) (ho : o.op = .call c) (h : chkOp P o.op (.len y) = true) (H : AHeap) (hp : peval (.len y) env H = some r) : Quiet P m a o r := by
  obtain ⟨callee, args, argTypes⟩ := c
  rw [ho] at h
  cases callee with
  | value f => simp [chkOp] at h
  | invoke _ _ => simp [chkOp] at h
  | builtin b =>
    cases b <;> simp only [chkOp] at h <;> first
      | (cases h; done)
      | skip
    simp only [Bool.and_eq_true] at h
    obtain ⟨h1, h2⟩ := h
    split at h1
    · rename_i x hx
      split at h2
      · rename_i t ht
        have hc := chkX_rv he h1
        obtain rfl := arr1 hx
        obtain rfl := arr1 ht
        simp only [peval] at hp
        split at h2
        · rename_i el hu
          have run : ∀ ad (n cap : Nat), a.eval x = .slice ad n cap → (execOp a.eval o).run P m.w = .ok (.value (.int .i64 n)) m.w := by
            intro ad n cap e
            refine call_args ho rfl rfl P m.w m.w (.int .i64 n) ?_
            simp [builtin, Builtin.len_, run_underlying hu, e, goInt]
          split at hp
          · rename_i e
            rw [e] at hc
            simp at hp
            subst hp
            obtain ⟨ad, cap, e1, _⟩ := rv_vs hc
            exact ⟨_, run _ _ _ e1, by simp only [Rv]⟩
          · rename_i e
            rw [e] at hc
            simp at hp
            subst hp
            obtain ⟨ad, cap, e1, _⟩ := rv_vs (rv_own hc)
            exact ⟨_, run _ _ _ e1, by simp only [Rv]⟩
          · rename_i e
            rw [e] at hc
            simp at hp
            subst hp
            exact ⟨_, run _ _ _ (rv_raw hc), by simp only [Rv]⟩
          · cases hp
        · cases h2
      · cases h2
    · cases h1
theorem q_lenA {c n} (ho : o.op = .call c) (h : chkOp P o.op (.lenA n) = true) : Quiet P m a o (.int .i64 n) := by
  obtain ⟨callee, args, argTypes⟩ := c
  rw [ho] at h
  cases callee with
  | value f => simp [chkOp] at h
  | invoke _ _ => simp [chkOp] at h
  | builtin b =>
    cases b <;> simp only [chkOp] at h <;> first
      | (cases h; done)
      | skip
    simp only [Bool.and_eq_true] at h
    obtain ⟨h1, h2⟩ := h
    split at h1
    · rename_i x hx
      split at h2
      · rename_i t ht
        obtain rfl := arr1 hx
        obtain rfl := arr1 ht
        refine ⟨_, call_args ho rfl rfl P m.w m.w (.int .i64 n) ?_, by simp only [Rv]⟩
        split at h2
        · rename_i hu
          simp at h2
          simp [builtin, Builtin.len_, run_underlying hu, goInt, h2]
        · rename_i hu
          split at h2
          · rename_i hu2
            simp at h2
            simp [builtin, Builtin.len_, run_underlying hu, run_underlying hu2, goInt, h2]
          · cases h2
        · cases h2
      · cases h2
    · cases h1
end
end Go.Aw

/- peval is what the model's run gives: literals of structs and arrays; min, max; all together (own work). -/
namespace Go.Aw
open Go
set_option linter.unusedVariables false
set_option linter.unusedSimpArgs false

def setRangeV (l : List Value) (o : Nat) (new : List Value) : List Value := l.take o ++ new ++ l.drop (o + new.length)
theorem setRange_rv {m : Mem} {cs new : List AV} {l nl : List Value} (h : RvL m cs l) (k : RvL m new nl) (o : Nat) : RvL m (setRange cs o new) (setRangeV l o nl) := by
  unfold setRange setRangeV
  rw [RvL.length k]
  exact RvL.append (RvL.append (RvL.take _ h) k) (RvL.drop _ h)
theorem setRangeV_len {l new : List Value} {o : Nat} (h : o + new.length ≤ l.length) : (setRangeV l o new).length = l.length := by
  simp [setRangeV]; omega
theorem setRangeV_step (l new : List Value) (v : Value) (n : Nat) (h : n < l.length) : setRangeV (l.set n v) (n + 1) new = setRangeV l n (v :: new) := by
  unfold setRangeV
  have e1 : (l.set n v).take (n+1) = l.take n ++ [v] := by
    rw [List.take_succ_eq_append_getElem (by simpa using h)]
    simp only [List.take_set, List.getElem_set_self]
    rw [List.set_eq_of_length_le (by simp; omega)]
  have e2 : (l.set n v).drop (n + 1 + new.length) = l.drop (n + (new.length + 1)) := by
    rw [List.drop_set, if_pos (by omega)]
    congr 1; omega
  rw [e1, e2]; simp
theorem set_fold : ∀ (new : List Value) (l : List Value) (o j : Nat), o + j + new.length ≤ l.length →
    (new.zipIdx j).foldl (fun (cs : Array Value) (p : Value × Nat) => cs.setIfInBounds (o + p.2) p.1) ⟨l⟩ = ⟨setRangeV l (o + j) new⟩
  | [], l, o, j, h => by simp [setRangeV]
  | v :: new, l, o, j, h => by
    simp only [List.length_cons] at h
    simp only [List.zipIdx_cons, List.foldl_cons]
    rw [show (⟨l⟩ : Array Value).setIfInBounds (o + j) v = ⟨l.set (o + j) v⟩ by simp]
    rw [set_fold new (l.set (o + j) v) o (j + 1) (by simp; omega)]
    rw [show o + (j + 1) = (o + j) + 1 by omega]
    rw [setRangeV_step l new v (o + j) (by omega)]
/-- The parts of a literal, and where they lie. -/
def placed (place : Nat → Option (Nat × Nat)) : List (Nat × Operand) → List (Nat × Nat × EOpd) → Prop
  | [], qs => qs = []
  | p :: ps, qs => ∃ q qs', qs = q :: qs' ∧ place p.1 = some (q.1, q.2.1) ∧ chkX p.2 q.2.2 = true ∧ placed place ps qs'
theorem cells_okc {m : Mem} {a : AV} {v : Value} (h : Rv m a v) (ho : a.okc = true) : RvL m a.cells v.cells.toList := by
  cases ha : a with
  | agg cs =>
    subst ha
    obtain ⟨l, rfl, h2⟩ := rv_agg h
    exact h2
  | top => subst ha; exact absurd ho Bool.false_ne_true
  | tup cs => subst ha; exact absurd ho Bool.false_ne_true
  | _ =>
    subst ha
    rw [cells_of_one (one_rv h ho)]
    simp only [AV.cells, RvL]
    exact ⟨v, [], rfl, h, rfl⟩
theorem fill_rv {m : Mem} {a : Act} {env : Env} (he : RvE m env a.tmps) (place : Nat → Option (Nat × Nat)) : ∀ (ps : List (Nat × Operand)) (qs : List (Nat × Nat × EOpd)) (cs : List AV) (l : List Value) (r : List AV),
    placed place ps qs → RvL m cs l → buildParts env cs qs = some r →
    ∃ l', Instr.fill place ⟨l⟩ (ps.map fun (i, x) => (i, a.eval x)) = some ⟨l'⟩ ∧ RvL m r l'
  | [], qs, cs, l, r, hp, hl, hb => by
    simp only [placed] at hp
    subst hp
    simp only [buildParts, Option.some.injEq] at hb
    subst hb
    exact ⟨l, by simp [Instr.fill], hl⟩
  | (i, x) :: ps, qs, cs, l, r, hp, hl, hb => by
    simp only [placed] at hp
    obtain ⟨⟨off, size, y⟩, qs', rfl, h1, h2, h3⟩ := hp
    simp only [buildParts] at hb
    split at hb
    · rename_i hc
      obtain ⟨c1, c2, c3⟩ := hc
      have c1' : (y.ev env).cells.length = size := c1
      have c2' : off + size ≤ cs.length := c2
      have hlen' : (a.eval x).cells.toList.length = size := (RvL.length (cells_okc (chkX_rv he h2) c3)).trans c1
      have hv := cells_okc (chkX_rv he h2) c3
      have hlen := RvL.length hv
      have hl0 := RvL.length hl
      obtain ⟨l', g1, g2⟩ := fill_rv he place ps qs' _ (setRangeV l off (a.eval x).cells.toList) r h3 (setRange_rv hl hv off) hb
      refine ⟨l', ?_, g2⟩
      simp only [List.map_cons, Instr.fill, h1]
      have hsz : (a.eval x).cells.size = size := by rw [← Array.length_toList, hlen]; exact c1
      have hns : ¬ ((decide ((a.eval x).cells.size ≠ size) || decide (off + (a.eval x).cells.size > (⟨l⟩ : Array Value).size)) = true) := by
        simp only [hsz, ne_eq, not_true_eq_false, decide_false, Bool.false_or, decide_eq_true_eq, List.size_toArray]
        omega
      rw [if_neg hns]
      have hz : (a.eval x).cells.zipIdx.foldl (fun (cs : Array Value) (p : Value × Nat) => cs.setIfInBounds (off + p.2) p.1) ⟨l⟩ = ⟨setRangeV l off (a.eval x).cells.toList⟩ := by
        rw [← Array.foldl_toList, Array.toList_zipIdx]
        have := set_fold (a.eval x).cells.toList l off 0 (by rw [hlen']; omega)
        simpa using this
      rw [hz]
      exact g1
    · cases hb
theorem places_get {P : Program} : ∀ {fs : List Field} {places : List (Nat × Nat)}, fs.mapM (fun f => (P.info? f.type).map fun i => (f.offset, i.size)) = some places → ∀ (i : Nat) (f : Field), fs[i]? = some f → ∃ ti, P.info? f.type = some ti ∧ places[i]? = some (f.offset, ti.size)
  | [], _, _, _, _, h => by simp at h
  | g :: fs, places, hp, i, f, h => by
    simp only [List.mapM_cons, Option.bind_eq_bind, Option.pure_def] at hp
    cases hi : P.info? g.type with
    | none => simp [hi] at hp
    | some ti =>
      cases hr : fs.mapM (fun f => (P.info? f.type).map fun i => (f.offset, i.size)) with
      | none => simp [hi, hr] at hp
      | some rest =>
        simp [hi, hr] at hp
        subst hp
        cases i with
        | zero => simp at h; subst h; exact ⟨ti, hi, rfl⟩
        | succ i => simp at h; obtain ⟨t2, e1, e2⟩ := places_get hr i f h; exact ⟨t2, e1, by simpa using e2⟩
theorem chkParts_placed {P : Program} {fs : Array Field} {places : List (Nat × Nat)} (hp : fs.toList.mapM (fun f => (P.info? f.type).map fun i => (f.offset, i.size)) = some places) : ∀ {ps : List (Nat × Operand)} {qs : List (Nat × Nat × EOpd)}, chkParts P fs ps qs = true → placed (places.toArray[·]?) ps qs
  | [], [], _ => by simp only [placed]
  | [], _ :: _, h => by simp [chkParts] at h
  | _ :: _, [], h => by simp [chkParts] at h
  | (i, x) :: ps, (off, size, y) :: qs, h => by
    simp only [chkParts, Bool.and_eq_true] at h
    obtain ⟨⟨h1, h2⟩, h3⟩ := h
    simp only [placed]
    refine ⟨_, _, rfl, ?_, h2, chkParts_placed hp h3⟩
    split at h1
    · rename_i f hf
      simp only [Bool.and_eq_true, decide_eq_true_eq] at h1
      obtain ⟨e1, e2⟩ := h1
      obtain ⟨ti, e3, e4⟩ := sizeT_info e2
      have hf' : fs.toList[i]? = some f := by simpa using hf
      obtain ⟨t2, g1, g2⟩ := places_get hp i f hf'
      rw [e3] at g1
      simp at g1
      subst g1
      simp [g2, e1, e4]
    · cases h1
theorem chkPartsA_placed {size : Nat} : ∀ {ps : List (Nat × Operand)} {qs : List (Nat × Nat × EOpd)}, chkPartsA size ps qs = true → placed (fun i => some (i * size, size)) ps qs
  | [], [], _ => by simp only [placed]
  | [], _ :: _, h => by simp [chkPartsA] at h
  | _ :: _, [], h => by simp [chkPartsA] at h
  | (i, x) :: ps, (off, sz, y) :: qs, h => by
    simp only [chkPartsA, Bool.and_eq_true, decide_eq_true_eq] at h
    obtain ⟨⟨⟨rfl, rfl⟩, h2⟩, h3⟩ := h
    simp only [placed]
    exact ⟨_, _, rfl, rfl, h2, chkPartsA_placed h3⟩
end Go.Aw

/- peval is what the model's run gives: all together (own work). -/
namespace Go.Aw
open Go
set_option linter.unusedVariables false
set_option linter.unusedSimpArgs false
section
variable {P : Program} {m : Mem} {env : Env} {a : Act} {o : Oper}

theorem zeroT_parts {t : TypeId} {zero : List AV} (h : zeroT P t zero = true) : ∃ i z, P.info? t = some i ∧ i.zero = some z ∧ cstA zero z = true := by
  unfold zeroT at h
  cases hi : P.info? t with
  | none => simp [hi] at h
  | some i =>
    cases hz : i.zero with
    | none => simp [hi, hz] at h
    | some z => simp [hi, hz] at h; exact ⟨i, z, rfl, hz, h⟩
theorem q_build {t parts zero ps r} (he : RvE m env a.tmps) (ho : o.op = .build t parts) (h : chkOp P o.op (.build zero ps) = true) (H : AHeap) (hp : peval (.build zero ps) env H = some r) : Quiet P m a o r := by
  rw [ho] at h
  simp only [chkOp, Bool.and_eq_true] at h
  obtain ⟨h1, h2⟩ := h
  obtain ⟨i, z, hi, hz, hc⟩ := zeroT_parts h1
  have hzr := (cstA_rv (m := m) hc).1
  simp only [peval] at hp
  cases hb : buildParts env zero ps with
  | none => simp [hb] at hp
  | some cs =>
    simp [hb] at hp
    subst hp
    have fin : ∀ l', P.built t ((parts.map fun (i, x) => (i, a.eval x)).toList) = some ⟨l'⟩ → RvL m cs l' → Quiet P m a o (.agg cs) := by
      intro l' g1 g2
      refine ⟨.agg ⟨l'⟩, ?_, by simp only [Rv]; exact ⟨l', rfl, g2⟩⟩
      have := run_build (P := P) m.w t (parts.map fun (i, x) => (i, a.eval x)) ⟨l'⟩ g1
      simp only [execOp, ho, Sem.run_bind, this, Result.andThen_ok, Sem.run_pure]
    have hz' : (⟨z.cells.toList⟩ : Array Value) = z.cells := rfl
    split at h2
    · rename_i fs hu
      simp only [Bool.and_eq_true] at h2
      obtain ⟨h2, h3⟩ := h2
      obtain ⟨places, hpl⟩ := Option.isSome_iff_exists.1 h3
      obtain ⟨l', g1, g2⟩ := fill_rv he (places.toArray[·]?) parts.toList ps zero z.cells.toList cs (chkParts_placed hpl h2) hzr hb
      refine fin l' ?_ g2
      simp only [Program.built, hi, hu, hz, hpl, Array.toList_map]
      exact g1
    · rename_i n e hu
      split at h2
      · rename_i s hs
        obtain ⟨ti, e1, e2⟩ := sizeT_info hs
        obtain ⟨l', g1, g2⟩ := fill_rv he (fun i => some (i * s, s)) parts.toList ps zero z.cells.toList cs (chkPartsA_placed h2) hzr hb
        refine fin l' ?_ g2
        simp only [Program.built, hi, hu, hz, e1, Array.toList_map, e2]
        exact g1
      · cases h2
    · cases h2

theorem min_go {w : World} : ∀ (rest : List AV) (k : IntKind) (x : Int) (l : List Value) (r : AV), minmaxAV false (.int k x) rest = some r → RvL m rest l → ∃ v, (l.foldlM Builtin.min2 (.int k x)).run P w = .ok v w ∧ Rv m r v
  | [], k, x, l, r, h, hl => by
    simp only [RvL] at hl
    subst hl
    simp [minmaxAV] at h
    subst h
    exact ⟨_, by simp; rfl, by simp only [Rv]⟩
  | b :: rest, k, x, l, r, h, hl => by
    simp only [RvL] at hl
    obtain ⟨v, vs, rfl, h1, h2⟩ := hl
    have hint : ∃ j y, b = .int j y := by
      cases b <;> first
        | exact ⟨_, _, rfl⟩
        | (simp [minmaxAV] at h; done)
    obtain ⟨j, y, rfl⟩ := hint
    simp only [minmaxAV] at h
    split at h
    · rename_i e
      subst e
      obtain ⟨v', g1, g2⟩ := min_go rest k _ vs r h h2
      refine ⟨v', ?_, g2⟩
      rw [rv_int h1]
      simp only [List.foldlM_cons, Sem.run_bind, Builtin.min2, Sem.run_pure, Result.andThen_ok]
      rw [show (if y < x then y else x) = min x y by simp only [Int.min_def]; split <;> split <;> omega]
      simpa using g1
    · cases h
theorem max_go {w : World} : ∀ (rest : List AV) (k : IntKind) (x : Int) (l : List Value) (r : AV), minmaxAV true (.int k x) rest = some r → RvL m rest l → ∃ v, (l.foldlM Builtin.max2 (.int k x)).run P w = .ok v w ∧ Rv m r v
  | [], k, x, l, r, h, hl => by
    simp only [RvL] at hl
    subst hl
    simp [minmaxAV] at h
    subst h
    exact ⟨_, by simp; rfl, by simp only [Rv]⟩
  | b :: rest, k, x, l, r, h, hl => by
    simp only [RvL] at hl
    obtain ⟨v, vs, rfl, h1, h2⟩ := hl
    have hint : ∃ j y, b = .int j y := by
      cases b <;> first
        | exact ⟨_, _, rfl⟩
        | (simp [minmaxAV] at h; done)
    obtain ⟨j, y, rfl⟩ := hint
    simp only [minmaxAV] at h
    split at h
    · rename_i e
      subst e
      obtain ⟨v', g1, g2⟩ := max_go rest k _ vs r h h2
      refine ⟨v', ?_, g2⟩
      rw [rv_int h1]
      simp only [List.foldlM_cons, Sem.run_bind, Builtin.max2, Sem.run_pure, Result.andThen_ok]
      rw [show (if y > x then y else x) = max x y by simp only [Int.max_def]; split <;> split <;> omega]
      simpa using g1
    · cases h
theorem q_minmax {c isMax ys r} (he : RvE m env a.tmps) (ho : o.op = .call c) (h : chkOp P o.op (.minmax isMax ys) = true) (H : AHeap) (hp : peval (.minmax isMax ys) env H = some r) : Quiet P m a o r := by
  obtain ⟨callee, args, argTypes⟩ := c
  rw [ho] at h
  have key : chkXs args.toList ys = true → ∃ k x rest l, (args.map a.eval).toList = .int k x :: l ∧ RvL m rest l ∧ minmaxAV isMax (.int k x) rest = some r := by
    intro hx
    have hl := chkXs_rv he hx
    simp only [peval] at hp
    split at hp
    · rename_i a0 rest e
      rw [e] at hl
      simp only [RvL] at hl
      obtain ⟨v, vs, g1, g2, g3⟩ := hl
      have hint : ∃ k x, a0 = .int k x := by
        cases a0 <;> cases rest <;> first
          | exact ⟨_, _, rfl⟩
          | (simp [minmaxAV] at hp; done)
      obtain ⟨k, x, rfl⟩ := hint
      exact ⟨k, x, rest, vs, by rw [rv_int g2] at g1; simpa using g1, g3, hp⟩
    · cases hp
  cases callee with
  | value f => simp [chkOp] at h
  | invoke _ _ => simp [chkOp] at h
  | builtin b =>
    cases b <;> cases isMax <;> simp only [chkOp] at h <;> first
      | (cases h; done)
      | skip
    · obtain ⟨k, x, rest, l, g1, g2, g3⟩ := key h
      obtain ⟨v, e1, e2⟩ := max_go (P := P) (w := m.w) rest k x l r g3 g2
      refine ⟨v, ?_, e2⟩
      simp [execOp, ho, resolve, invoke, builtin, Builtin.max_]
      simp at g1
      simp [g1, e1]
    · obtain ⟨k, x, rest, l, g1, g2, g3⟩ := key h
      obtain ⟨v, e1, e2⟩ := min_go (P := P) (w := m.w) rest k x l r g3 g2
      refine ⟨v, ?_, e2⟩
      simp [execOp, ho, resolve, invoke, builtin, Builtin.min_]
      simp at g1
      simp [g1, e1]

/-- All that peval knows. -/
theorem peval_run {e : EOp} {r : AV} (he : RvE m env a.tmps) (rh : RH m) (h : chkOp P o.op e = true) (hp : peval e env m.H = some r) : Quiet P m a o r := by
  cases e with
  | mv y =>
    simp only [peval, Option.some.injEq] at hp
    subst hp
    cases ho : o.op <;> simp [ho, chkOp] at h
    · exact q_mv he (.inl ho) h
    · exact q_mv he (.inr ho) h
  | pick c x y =>
    cases ho : o.op <;> simp [ho, chkOp] at h
    exact q_pick he ho h.1.1 h.1.2 h.2 m.H hp
  | nilck y =>
    cases ho : o.op <;> simp [ho, chkOp] at h
    exact q_nilck he ho h m.H hp
  | build zero ps =>
    cases ho : o.op <;> try (simp [ho, chkOp] at h; done)
    exact q_build he ho h m.H hp
  | load agg n y =>
    cases ho : o.op <;> simp [ho, chkOp] at h
    exact q_load he rh ho h.1 h.2 hp
  | loadD me agg n y =>
    cases ho : o.op <;> simp [ho, chkOp] at h
    exact q_load he rh ho h.1 h.2 (peval_loadD hp).1
  | faddr off y =>
    cases ho : o.op <;> try (simp [ho, chkOp] at h; done)
    exact q_faddr he ho h m.H hp
  | field agg off n y =>
    cases ho : o.op <;> try (simp [ho, chkOp] at h; done)
    exact q_field he ho h m.H hp
  | bin op x y =>
    cases ho : o.op <;> try (simp [ho, chkOp] at h; done)
    have hop := h
    rw [ho] at hop
    simp only [chkOp, Bool.and_eq_true, decide_eq_true_eq] at hop
    obtain ⟨⟨rfl, _⟩, _⟩ := hop
    exact q_bin he ho h m.H hp
  | binB op x y =>
    cases ho : o.op <;> try (simp [ho, chkOp] at h; done)
    have hop := h
    rw [ho] at hop
    simp only [chkOp, Bool.and_eq_true, decide_eq_true_eq] at hop
    obtain ⟨⟨⟨rfl, _⟩, _⟩, _⟩ := hop
    exact q_binB he ho h m.H hp
  | eqA neg T ks x y =>
    cases ho : o.op <;> try (simp [ho, chkOp] at h; done)
    exact q_eqA he ho h m.H hp
  | not y =>
    cases ho : o.op <;> try (simp [ho, chkOp] at h; done)
    rename_i u t x
    cases u <;> simp [ho, chkOp] at h
    exact q_not he ho h m.H hp
  | neg y =>
    cases ho : o.op <;> try (simp [ho, chkOp] at h; done)
    rename_i u t x
    cases u <;> simp [ho, chkOp] at h
    exact q_neg he ho h m.H hp
  | conv k y =>
    cases ho : o.op <;> try (simp [ho, chkOp] at h; done)
    exact q_conv he ho h m.H hp
  | lenS y =>
    cases ho : o.op <;> try (simp [ho, chkOp] at h; done)
    exact q_lenS he ho h m.H hp
  | len y =>
    cases ho : o.op <;> try (simp [ho, chkOp] at h; done)
    exact q_len he ho h m.H hp
  | lenA n =>
    simp only [peval, Option.some.injEq] at hp
    subst hp
    cases ho : o.op <;> try (simp [ho, chkOp] at h; done)
    exact q_lenA ho h
  | minmax isMax ys =>
    cases ho : o.op <;> try (simp [ho, chkOp] at h; done)
    exact q_minmax he ho h m.H hp
  | extract i y =>
    cases ho : o.op <;> simp [ho, chkOp] at h
    obtain ⟨h1, rfl⟩ := h
    exact q_extract he ho h1 m.H hp
  | mkfn f ys =>
    simp only [peval, Option.some.injEq] at hp
    subst hp
    cases ho : o.op <;> try (simp [ho, chkOp] at h; done)
    rename_i g first caps
    cases g <;> simp [ho, chkOp] at h
    obtain ⟨⟨rfl, h2⟩, h3⟩ := h
    exact q_mkfn he ho (by simpa using h2) h3
  | mkif T y =>
    simp only [peval, Option.some.injEq] at hp
    subst hp
    cases ho : o.op <;> try (simp [ho, chkOp] at h; done)
    rename_i t x
    rw [ho] at h
    simp only [chkOp, Bool.and_eq_true, decide_eq_true_eq] at h
    obtain ⟨⟨rfl, h2⟩, h3⟩ := h
    exact q_mkif he ho h2 h3
  | _ => simp [peval] at hp
end
end Go.Aw

/- Each described step is what the model's run gives (own work). -/
namespace Go.Aw
open Go
set_option linter.unusedVariables false
set_option linter.unusedSimpArgs false
section
variable {P : Program} {m : Mem} {env : Env} {a : Act} {o : Oper}

theorem wp_of_run {K : Act → World → Prop} {Q : Exit → Act → World → Prop} {w w' : World} {v : Value} (h : (execOp a.eval o).run P w = .ok (.value v) w') (hk : K (a.put o.dst v) w') : o.wp P a w K Q := by
  simp only [Oper.wp, h, Oper.upon]
  exact hk

theorem d_quo {t x y u x' y' k p q} (he : RvE m env a.tmps) (ho : o.op = .binOp .quo t x y u) (h1 : chkX x x' = true) (h2 : chkX y y' = true) (e1 : x'.ev env = .int k p) (e2 : y'.ev env = .int k q) (hq : q ≠ 0) : Quiet P m a o (.int k (k.wrap (p.tdiv q))) := by
  have hx := chkX_rv he h1
  have hy := chkX_rv he h2
  rw [e1] at hx; rw [e2] at hy
  exact ⟨_, by simp [execOp, ho, rv_int hx, rv_int hy, eqGuard_int, binOp, Op.intDiv, hq]; rfl, by simp only [Rv]⟩
theorem d_rem {t x y u x' y' k p q} (he : RvE m env a.tmps) (ho : o.op = .binOp .rem t x y u) (h1 : chkX x x' = true) (h2 : chkX y y' = true) (e1 : x'.ev env = .int k p) (e2 : y'.ev env = .int k q) (hq : q ≠ 0) : Quiet P m a o (.int k (p.tmod q)) := by
  have hx := chkX_rv he h1
  have hy := chkX_rv he h2
  rw [e1] at hx; rw [e2] at hy
  exact ⟨_, by simp [execOp, ho, rv_int hx, rv_int hy, eqGuard_int, binOp, Op.intDiv, hq]; rfl, by simp only [Rv]⟩
theorem d_cat {t x y u x' y' p q} (he : RvE m env a.tmps) (ho : o.op = .binOp .add t x y u) (h1 : chkX x x' = true) (h2 : chkX y y' = true) (e1 : x'.ev env = .str p) (e2 : y'.ev env = .str q) (hq : p.length + q.length ≤ maxLen) : Quiet P m a o (.str (p ++ q)) := by
  have hx := chkX_rv he h1
  have hy := chkX_rv he h2
  rw [e1] at hx; rw [e2] at hy
  have hs : ¬ ((((⟨⟨p⟩⟩ : ByteArray).size + (⟨⟨q⟩⟩ : ByteArray).size : Nat) : Int) > IntKind.i64.max) := by
    have e1 : (⟨⟨p⟩⟩ : ByteArray).size = p.length := rfl
    have e2 : (⟨⟨q⟩⟩ : ByteArray).size = q.length := rfl
    rw [e1, e2]
    have : IntKind.i64.max = 9223372036854775807 := by decide
    rw [this]
    simp only [maxLen] at hq
    omega
  refine ⟨.string ⟨⟨p ++ q⟩⟩, ?_, by simp only [Rv]; exact ⟨trivial, by simpa using hq⟩⟩
  simp only [execOp, ho, (rv_str hx).1, (rv_str hy).1, Sem.run_bind, eqGuard_str, Result.andThen_ok, binOp, Op.stringOp]
  rw [if_neg hs]
  simp [bytes_append]
theorem maxLen_eq : maxLen = 9223372036854775807 := by decide

theorem d_idxRow {t x i size x' i' rows k n r} (he : RvE m env a.tmps) (ho : o.op = .indexAddr t x i) (h : chkOp P o.op (.iaddr size x' i') = true) (e1 : Rv m (.vs size rows) (a.eval x)) (e2 : i'.ev env = .int k n) (h0 : 0 ≤ n) (hr : rows[n.toNat]? = some r) : Quiet P m a o (.rp r 0) := by
  rw [ho] at h
  simp only [chkOp, Bool.and_eq_true] at h
  obtain ⟨⟨h1, h2⟩, h3⟩ := h
  have hi := chkX_rv he h2
  rw [e2] at hi
  obtain ⟨ad, cap, g1, ⟨g2, g2'⟩, g3⟩ := rv_vs e1
  have hlt : n.toNat < rows.length := (List.getElem?_eq_some_iff.1 hr).1
  rcases g3 with g3 | ⟨b, p, rfl, g3⟩
  · omega
  · obtain ⟨g4, g5⟩ := RvR.get g3 _ _ hr
    split at h3
    · rename_i el hel
      have hsz : sizeT P el = some size := by simpa using h3
      have hu : P.underlying t = some (.slice el) := by
        unfold slT at hel
        split at hel
        · rename_i e hu; simp at hel; subst hel; exact hu
        · cases hel
      refine ⟨.pointer (some ⟨b, p + n.toNat * size, none⟩), ?_, by simp only [Rv]; exact ⟨b, _, rfl, g5⟩⟩
      have hn : 0 ≤ n ∧ n < (rows.length : Int) := ⟨h0, by omega⟩
      simp [execOp, ho, Instr.indexAt, g1, rv_int hi, asIntOf, run_underlying hu, hn, run_sizeOf' hsz, addr_add]
    · cases h3
theorem d_idxM {t x i size x' i' b p len cap k} {n : Int} (he : RvE m env a.tmps) (ho : o.op = .indexAddr t x i) (h : chkOp P o.op (.iaddr size x' i') = true) (e1 : x'.ev env = .raw (.slice (some ⟨b, p, none⟩) len cap)) (e2 : i'.ev env = .int k n) (h0 : 0 ≤ n) (hr : n < (len : Int)) : Quiet P m a o (.ptr b (p + n.toNat * size)) := by
  rw [ho] at h
  simp only [chkOp, Bool.and_eq_true] at h
  obtain ⟨⟨h1, h2⟩, h3⟩ := h
  have hi := chkX_rv he h2
  have hx := chkX_rv he h1
  rw [e2] at hi
  rw [e1] at hx
  split at h3
  · rename_i el hel
    have hsz : sizeT P el = some size := by simpa using h3
    have hu : P.underlying t = some (.slice el) := by
      unfold slT at hel
      split at hel
      · rename_i e hu; simp at hel; subst hel; exact hu
      · cases hel
    refine ⟨.pointer (some ⟨b, p + n.toNat * size, none⟩), ?_, by simp only [Rv]⟩
    simp [execOp, ho, Instr.indexAt, rv_raw hx, rv_int hi, asIntOf, run_underlying hu, h0, hr, run_sizeOf' hsz, addr_add]
  · cases h3
theorem d_idxPtr {t x i size x' i' b p k} {len : Nat} {n : Int} (he : RvE m env a.tmps) (ho : o.op = .indexAddr t x i) (h : chkOp P o.op (.iaddrA len size x' i') = true) (e1 : a.eval x = .pointer (some ⟨b, p, none⟩)) (e2 : i'.ev env = .int k n) (h0 : 0 ≤ n) (hr : n < (len : Int)) :
    (execOp a.eval o).run P m.w = .ok (.value (.pointer (some ⟨b, p + n.toNat * size, none⟩))) m.w := by
  rw [ho] at h
  simp only [chkOp, Bool.and_eq_true] at h
  obtain ⟨⟨h1, h2⟩, h3⟩ := h
  have hi := chkX_rv he h2
  rw [e2] at hi
  split at h3
  · rename_i ln el hu
    simp only [Bool.and_eq_true, decide_eq_true_eq] at h3
    obtain ⟨rfl, hsz⟩ := h3
    simp [execOp, ho, Instr.indexAt, e1, rv_int hi, asIntOf, run_underlying hu, Instr.sureAddr, h0, hr, run_sizeOf' hsz, addr_add]
  · cases h3
theorem d_idxA {t x i agg size x' i' cs k v} {len : Nat} {n : Int} (he : RvE m env a.tmps) (ho : o.op = .index t x i) (h : chkOp P o.op (.idxA agg len size x' i') = true) (e1 : x'.ev env = .agg cs) (e2 : i'.ev env = .int k n) (h0 : 0 ≤ n) (hr : n < (len : Int)) (hl : n.toNat * size + size ≤ cs.length) (hv : AV.ofCells agg ((cs.drop (n.toNat * size)).take size) = some v) : Quiet P m a o v := by
  rw [ho] at h
  simp only [chkOp, Bool.and_eq_true] at h
  obtain ⟨⟨h1, h2⟩, h3⟩ := h
  have hi := chkX_rv he h2
  have hx := chkX_rv he h1
  rw [e2] at hi
  rw [e1] at hx
  obtain ⟨l, g1, g2⟩ := rv_agg hx
  have hll := RvL.length g2
  split at h3
  · rename_i ln el hu
    simp only [Bool.and_eq_true, decide_eq_true_eq] at h3
    obtain ⟨rfl, h3⟩ := h3
    have hsz := (ldT_parts h3).2.1
    refine ⟨if agg then .agg ⟨(l.drop (n.toNat * size)).take size⟩ else l.getD (n.toNat * size) undef, ?_, ?_⟩
    · simp [execOp, ho, Instr.index, g1, rv_int hi, asIntOf, run_underlying hu, h0, hr, run_sizeOf' hsz, run_part h3 l (n.toNat * size) (by omega)]
    · rcases ofCells_rv hv (RvL.take size (RvL.drop (n.toNat * size) g2)) with ⟨rfl, h⟩ | ⟨rfl, u, hu', h⟩
      · exact h
      · have hn := (ldT_parts h3).2.2.1 rfl
        subst hn
        rw [getD_drop]
        have : (l.drop (n.toNat * 1)).getD 0 undef = u := by
          cases hd : l.drop (n.toNat * 1) with
          | nil => rw [hd] at hu'; simp at hu'
          | cons x xs => rw [hd] at hu'; simp at hu'; simp [hu']
        simp only [Bool.false_eq_true, if_false, this]
        exact h
  · cases h3
theorem d_idxS {t x i x' i' s k n c} (he : RvE m env a.tmps) (ho : o.op = .index t x i) (h : chkOp P o.op (.idxS x' i') = true) (e1 : x'.ev env = .str s) (e2 : i'.ev env = .int k n) (h0 : 0 ≤ n) (hc : s[n.toNat]? = some c) : Quiet P m a o (.int .u8 c.toNat) := by
  rw [ho] at h
  simp only [chkOp, Bool.and_eq_true] at h
  obtain ⟨⟨h1, h2⟩, h3⟩ := h
  have hi := chkX_rv he h2
  have hx := chkX_rv he h1
  rw [e2] at hi
  rw [e1] at hx
  split at h3
  · rename_i hu
    refine ⟨.int .u8 c.toNat, ?_, by simp only [Rv]⟩
    have hlt := (List.getElem?_eq_some_iff.1 hc)
    have hb : (⟨⟨s⟩⟩ : ByteArray)[n.toNat]? = some c := by
      obtain ⟨hl, hcc⟩ := hlt
      have := getElem?_pos (⟨⟨s⟩⟩ : ByteArray) n.toNat hl
      rw [this]
      exact congrArg some hcc
    simp [execOp, ho, Instr.index, (rv_str hx).1, rv_int hi, asIntOf, run_underlying hu, h0, hb]
  · cases h3
theorem optNat_run {x : Option Operand} {y : Option EOpd} {d n : Nat} (he : RvE m env a.tmps) (h : chkXo x y = true) (hn : optNat env d y = some n) : (x = none ∧ n = d) ∨ ∃ x0 k, x = some x0 ∧ a.eval x0 = .int k n := by
  unfold chkXo at h
  split at h
  · simp [optNat] at hn; exact .inl ⟨rfl, hn.symm⟩
  · rename_i x0 y0
    have hx := chkX_rv he h
    simp only [optNat] at hn
    split at hn
    · rename_i k q e
      simp at hn
      subst hn
      rw [e] at hx
      exact .inr ⟨x0, k, rfl, rv_int hx⟩
    · cases hn
  · cases h
theorem run_sliceBounds {w : World} {b : Bool} {len cap : Nat} {lo hi : Option Operand} {lo' hi' : Option EOpd} {l h : Nat} (he : RvE m env a.tmps) (h1 : chkXo lo lo' = true) (h2 : chkXo hi hi' = true) (hl : optNat env 0 lo' = some l) (hh : optNat env len hi' = some h) (h3 : l ≤ h) (h4 : h ≤ len) (h5 : len ≤ cap) :
    (Instr.sliceBounds b len cap (lo.map a.eval) (hi.map a.eval) none).run P w = .ok (l, h, cap) w := by
  have bound : ∀ (v : Value) (k : IntKind) (n y : Nat) (c : BoundsCode), v = .int k n → n ≤ y → (Instr.sliceBound v y c).run P w = .ok n w := by
    intro v k n y c e hle
    subst e
    have : (0 : Int) ≤ n ∧ (n : Int) ≤ y := ⟨by omega, by omega⟩
    simp [Instr.sliceBound, asIntOf, this]
  rcases optNat_run he h1 hl with ⟨rfl, rfl⟩ | ⟨x0, k, rfl, e1⟩ <;> rcases optNat_run he h2 hh with ⟨rfl, rfl⟩ | ⟨x1, k1, rfl, e2⟩
  · simp [Instr.sliceBounds]
  · simp [Instr.sliceBounds, bound _ _ _ cap _ e2 (by omega)]
  · simp [Instr.sliceBounds, bound _ _ _ _ _ e1 h3]
  · simp [Instr.sliceBounds, bound _ _ _ cap _ e2 (by omega), bound _ _ _ _ _ e1 h3]
theorem d_slS {t x lo hi mx y lo' hi' s l h} (he : RvE m env a.tmps) (ho : o.op = .slice t x lo hi mx) (hc : chkOp P o.op (.slS y lo' hi') = true) (e1 : y.ev env = .str s) (hl : optNat env 0 lo' = some l) (hh : optNat env s.length hi' = some h) (h1 : l ≤ h) (h2 : h ≤ s.length) : Quiet P m a o (.str ((s.take h).drop l)) := by
  rw [ho] at hc
  cases mx with
  | some _ => simp [chkOp] at hc
  | none =>
    simp only [chkOp, Bool.and_eq_true] at hc
    obtain ⟨⟨⟨c1, c2⟩, c3⟩, c4⟩ := hc
    have hx := chkX_rv he c1
    rw [e1] at hx
    obtain ⟨g1, g2⟩ := rv_str hx
    split at c4
    · rename_i hu
      have hs : (⟨⟨s⟩⟩ : ByteArray).size = s.length := rfl
      have hb := run_sliceBounds (P := P) (w := m.w) (b := false) (cap := s.length) he c2 c3 hl hh h1 h2 (Nat.le_refl _)
      refine ⟨.string ⟨⟨(s.take h).drop l⟩⟩, ?_, by simp only [Rv]; exact ⟨trivial, by simp; omega⟩⟩
      simp [execOp, ho, Instr.sliceAt, Instr.slice, run_underlying hu, g1, hs, hb, bytes_extract]
    · cases c4
theorem d_slV {t x lo hi mx size y lo' hi' rows l h} (he : RvE m env a.tmps) (ho : o.op = .slice t x lo hi mx) (hc : chkOp P o.op (.slV size y lo' hi' none) = true) (e1 : y.ev env = .vs size rows) (hl : optNat env 0 lo' = some l) (hh : optNat env rows.length hi' = some h) (h1 : l ≤ h) (h2 : h ≤ rows.length) : Quiet P m a o (.vs size ((rows.take h).drop l)) := by
  rw [ho] at hc
  simp only [chkOp, Bool.and_eq_true] at hc
  obtain ⟨⟨⟨⟨c1, c2⟩, c3⟩, c5⟩, c4⟩ := hc
  have hx := chkX_rv he c1
  rw [e1] at hx
  have hmx : mx = none := by cases mx <;> simp [chkXo] at c5 ⊢
  subst hmx
  split at c4
  · rename_i el hel
    have hsz : sizeT P el = some size := by simpa using c4
    have hu : P.underlying t = some (.slice el) := by
      unfold slT at hel
      split at hel
      · rename_i e hu; simp at hel; subst hel; exact hu
      · cases hel
    obtain ⟨ad, cap, g1, ⟨g2, g2'⟩, g3⟩ := rv_vs hx
    have hb := run_sliceBounds (P := P) (w := m.w) (b := true) (cap := cap) he c2 c3 hl hh h1 h2 g2
    refine ⟨.slice (if cap = l then ad else ad.map (·.add (l * size))) (h - l) (cap - l), ?_, ?_⟩
    · simp [execOp, ho, Instr.sliceAt, Instr.slice, run_underlying hu, g1, hb, run_sizeOf' hsz]
    · simp only [Rv]
      have hlen : ((rows.take h).drop l).length = h - l := by simp; omega
      refine ⟨_, _, _, rfl, hlen.symm, ⟨by omega, by omega⟩, ?_⟩
      by_cases hlt : l < h
      · rcases g3 with g3 | ⟨b, p, rfl, g3⟩
        · omega
        · refine .inr ⟨b, p + l * size, by rw [if_neg (by omega)]; simp [addr_add], ?_⟩
          have := RvR.drop l g3
          have := RvR.take (h - l) this
          rwa [show (rows.take h).drop l = (rows.drop l).take (h - l) by rw [List.drop_take]]
      · exact .inl (by omega)
  · cases c4
end
end Go.Aw

/- Steps that make memory (own work). -/
namespace Go.Aw
open Go
set_option linter.unusedVariables false
set_option linter.unusedSimpArgs false
section
variable {P : Program} {m : Mem} {env : Env} {a : Act} {o : Oper}

theorem d_box {T x y} (he : RvE m env a.tmps) (rh : RH m) (ho : o.op = .box T x) (h : chkX x y = true) (hy : ((y.ev env).cells).all AV.one = true) :
    ∃ l, (execOp a.eval o).run P m.w = .ok (.value (.pointer (some ⟨m.w.heap.size, 0, none⟩))) (m.nb T (y.ev env).cells l).w ∧ RH (m.nb T (y.ev env).cells l) := by
  obtain ⟨h1, h2⟩ := cells_rv (chkX_rv he h) hy
  exact ⟨(a.eval x).cells.toList, by simp [execOp, ho, Instr.box, newVar, newRow, Mem.nb], RH.nb rh h1 h2⟩
theorem d_alloc {T zero} (rh : RH m) (ho : o.op = .alloc T) (h : zeroT P T zero = true) :
    ∃ l, (execOp a.eval o).run P m.w = .ok (.value (.pointer (some ⟨m.w.heap.size, 0, none⟩))) (m.nb T zero l).w ∧ RH (m.nb T zero l) := by
  obtain ⟨i, z, hi, hz, hc⟩ := zeroT_parts h
  obtain ⟨h1, h2⟩ := cstA_rv (m := m) hc
  exact ⟨z.cells.toList, by simp [execOp, ho, Instr.alloc, zeroValue, typeInfo, hi, hz, newVar, newRow, Mem.nb], RH.nb rh h1 h2⟩

theorem setRange_app (a b c : List AV) (h : c.length = b.length) : ∀ rest, setRange (a ++ b ++ rest) a.length c = a ++ c ++ rest := by
  intro rest
  unfold setRange
  rw [show (a ++ b ++ rest).take a.length = a by rw [List.append_assoc]; exact List.take_left, h]
  rw [show (a ++ b ++ rest).drop (a.length + b.length) = rest by rw [← List.length_append]; exact List.drop_left]
theorem buildParts_flat {env : Env} {size : Nat} : ∀ (ps : List (Nat × EOpd)) (k : Nat) (done : List AV), inOrder k ps = true → done.length = k * size → (∀ p ∈ ps, (p.2.ev env).cells.length = size ∧ (p.2.ev env).okc = true) →
    buildParts env (done ++ List.replicate (ps.length * size) .top) (ps.map fun p => (p.1 * size, size, p.2)) = some (done ++ (bslRows env ps).flatten)
  | [], k, done, _, _, _ => by simp [buildParts, bslRows]
  | (i, x) :: ps, k, done, h1, h2, h3 => by
    simp only [inOrder, Bool.and_eq_true, decide_eq_true_eq] at h1
    obtain ⟨rfl, h1⟩ := h1
    obtain ⟨c1, c2⟩ := h3 (i, x) (by simp)
    simp only at c1 c2
    have hrep : List.replicate (((i, x) :: ps).length * size) AV.top = List.replicate size AV.top ++ List.replicate (ps.length * size) AV.top := by
      rw [List.replicate_append_replicate]
      congr 1
      simp only [List.length_cons, Nat.add_mul]
      omega
    simp only [List.map_cons, buildParts]
    rw [hrep, if_pos ⟨c1, by simp only [List.length_append, List.length_replicate]; omega, c2⟩]
    rw [← List.append_assoc, ← h2, setRange_app _ _ _ (by simpa using c1)]
    have := buildParts_flat ps (i + 1) (done ++ (x.ev env).cells) h1 (by simp [h2, c1, Nat.add_mul]) (fun p hp => h3 p (by simp [hp]))
    rw [this]
    simp [bslRows]
theorem placed_order {size : Nat} : ∀ {ps : List (Nat × Operand)} {qs : List (Nat × EOpd)}, chkPartsS ps qs = true → placed (fun i => some (i * size, size)) ps (qs.map fun p => (p.1 * size, size, p.2))
  | [], [], _ => by simp [placed]
  | [], _ :: _, h => by simp [chkPartsS] at h
  | _ :: _, [], h => by simp [chkPartsS] at h
  | (i, x) :: ps, (j, y) :: qs, h => by
    simp only [chkPartsS, Bool.and_eq_true, decide_eq_true_eq] at h
    obtain ⟨⟨rfl, h2⟩, h3⟩ := h
    simp only [List.map_cons, placed]
    exact ⟨_, _, rfl, rfl, h2, placed_order h3⟩
theorem RvL_top {m : Mem} : ∀ (l : List Value), RvL m (List.replicate l.length .top) l
  | [] => by simp [RvL]
  | v :: l => by simp only [List.length_cons, List.replicate_succ, RvL]; exact ⟨v, l, rfl, by simp only [Rv], RvL_top l⟩
theorem okc_of_one {x : AV} (h : x.cells.all AV.one = true) : x.okc = true := by
  cases x <;> simp only [AV.cells, List.all_cons, List.all_nil, Bool.and_true, AV.one, AV.okc] at h ⊢ <;> exact h
/-- A literal of a slice: a new block, its cells. -/
theorem d_bslice {t n parts T size n' zero ps rows} (he : RvE m env a.tmps) (rh : RH m) (ho : o.op = .buildSlice t n parts) (h : chkOp P o.op (.bslice T size n' zero ps) = true) (hr : bslRows env ps = rows) (hs : rows.all (fun r => r.length == size) = true) (h1 : rows.flatten.all AV.one = true) :
    ∃ l, (execOp a.eval o).run P m.w = .ok (.value (.slice (some ⟨m.w.heap.size, 0, none⟩) rows.length rows.length)) (m.w.alloc (.cells ⟨l⟩ T)) ∧ RvL m rows.flatten l ∧ (∀ v ∈ l, v.oneCell' = true) ∧ l.length = rows.length * size ∧ rows.length ≤ 65536 ∧ size ≠ 0 := by
  rw [ho] at h
  simp only [chkOp, Bool.and_eq_true, decide_eq_true_eq] at h
  obtain ⟨⟨⟨⟨⟨⟨⟨⟨⟨rfl, c2⟩, c3⟩, c4⟩, c5⟩, c6⟩, c7⟩, c8⟩, c9⟩, c10⟩ := h
  have c6' := Nat.le_of_ble_eq_true c6
  have hne : size ≠ 0 := by simpa using c10
  obtain ⟨i, z, hi, hz, hc⟩ := zeroT_parts c4
  have hrl : rows.length = n := by subst hr; simpa [bslRows] using c9
  have hu : P.underlying t = some (.slice T) := by
    unfold slT at c2
    split at c2
    · rename_i e hu; simp at c2; subst c2; exact hu
    · cases c2
  have hzs : z.cells.size = size := by
    have := RvL.length (cstA_rv (m := m) hc).1
    simp at this
    omega
  have hsz : (sizeOf T).run P m.w = .ok size m.w := run_sizeOf' c3 _
  have hlen0 : ((Array.range (n * size)).map (z.cells[· % z.cells.size]!)).size = n * size := by simp
  have hone : ∀ p ∈ ps, (p.2.ev env).cells.length = size ∧ (p.2.ev env).okc = true := by
    intro p hp
    have hm : (p.2.ev env).cells ∈ rows := by subst hr; exact List.mem_map.2 ⟨p, hp, rfl⟩
    refine ⟨by have := List.all_eq_true.1 hs _ hm; simpa using this, okc_of_one ?_⟩
    simp only [List.all_eq_true] at h1 ⊢
    intro x hx
    exact h1 x (List.mem_flatten.2 ⟨_, hm, hx⟩)
  have hb := buildParts_flat (env := env) (size := size) ps 0 [] c8 (by simp) hone
  simp only [List.nil_append, hr] at hb
  have htop := RvL_top (m := m) ((Array.range (n * size)).map (z.cells[· % z.cells.size]!)).toList
  rw [Array.length_toList, hlen0, show n * size = ps.length * size by rw [c9]] at htop
  obtain ⟨l, g1, g2⟩ := fill_rv he (fun i => some (i * size, size)) parts.toList _ _ _ _ (placed_order c7) htop hb
  have hll : l.length = rows.length * size := by
    rw [RvL.length g2]
    clear g1 g2 hb hr hrl h1
    induction rows with
    | nil => simp
    | cons r rows ih =>
      simp only [List.all_cons, Bool.and_eq_true] at hs
      have e : r.length = size := by simpa using hs.1
      simp only [List.flatten_cons, List.length_append, ih hs.2, List.length_cons, Nat.add_mul, e]
      omega
  refine ⟨l, ?_, g2, fun v hv => ?_, hll, ?_, hne⟩
  · have hbig : ¬ (n * size > 2 ^ 24) := by omega
    by_cases h0 : n * size = 0
    · have hn0 : n = 0 := by rcases Nat.mul_eq_zero.1 h0 with e | e <;> omega
      subst hn0
      simp at c9
      subst c9
      have hpt : parts = #[] := by
        have : parts.toList = [] := by cases hp : parts.toList with | nil => rfl | cons x y => rw [hp] at c7; simp [chkPartsS] at c7
        simpa using this
      subst hpt
      have hl0 : l = [] := List.eq_nil_of_length_eq_zero (by rw [hll, hrl]; simp)
      subst hl0
      simp [execOp, ho, Instr.buildSlice, run_underlying hu, hsz, Instr.fill, newRow, hrl]
      congr 2
      exact Array.eq_empty_of_size_eq_zero (by simp)
    · have hz' : (zeroValue T).run P m.w = .ok z m.w := by simp [zeroValue, typeInfo, hi, hz]
      simp only [execOp, ho, Instr.buildSlice, Sem.run_bind, run_underlying hu, Result.andThen_ok, hsz, Sem.run_ite, if_neg hbig, h0, if_false, hz', Sem.run_pure]
      have g1' : Instr.fill (fun i => some (i * size, size)) ((Array.range (n * size)).map (z.cells[· % z.cells.size]!)) ((parts.map fun (i, x) => (i, a.eval x)).toList) = some ⟨l⟩ := by
        rw [Array.toList_map]
        rw [c9] at g1
        exact g1
      simp only [g1', Result.andThen_ok, Sem.run_bind, newRow, run_newObj, Sem.run_pure, hrl]
      rfl
  · obtain ⟨j, hj⟩ := List.getElem?_of_mem hv
    have hj' := (List.getElem?_eq_some_iff.1 hj).1
    rw [RvL.length g2] at hj'
    obtain ⟨v', e1, e2⟩ := RvL.get g2 j rows.flatten[j] (List.getElem?_eq_getElem hj')
    rw [hj] at e1
    simp at e1
    subst e1
    exact one_rv e2 (List.all_eq_true.1 h1 _ (List.getElem_mem hj'))
  · rw [hrl]
    have : n * 1 ≤ n * size := Nat.mul_le_mul_left _ (by omega)
    omega
end
end Go.Aw
