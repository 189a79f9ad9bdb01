/- Part of a proof; own work. -/
import Derived.Orders
import Derived.Test.YtjkbgcgljnldeaaGreatDoorPS1
namespace Go.Aw
open Go
set_option linter.unusedVariables false
set_option linter.unusedSimpArgs false
section
variable {P : Program} {m : Mem} {env : Env} {a : Act} {o : Oper}
theorem setRow_setRange {w : World} {b o : Nat} {l new : List Value} (h : o + new.length ≤ l.length) : (((⟨l⟩ : Array Value).toList.take (o + 0) ++ new ++ (⟨l⟩ : Array Value).toList.drop (o + 0 + new.length)).toArray) = (⟨setRangeV l o new⟩ : Array Value) := by
 simp [setRangeV]
set_option maxHeartbeats 4000000 in
theorem istep_wp0 {n0 : Nat} {a0 v0 : EOpd} {K Rp : AV → AHeap → Prop} {Kc : Act → World → Prop} {Q : Exit → Act → World → Prop} (hs : IStep P (.store n0 a0 v0) env m.H K Rp) (hc : chkOp P o.op (.store n0 a0 v0) = true) (rh : RH m) (he : RvE m env a.tmps)
  (h : ∀ x m' v, K x m'.H → RH m' → Ev m m' → Rv m' x v → Kc (a.put o.dst v) m'.w)
  (hp : ∀ x m' v, Rp x m'.H → RH m' → Ev m m' → Rv m' x v → Q (.panic [{ v, recovered := false }]) a m'.w) : o.wp P a m.w Kc Q := by
 cases hs with
 | sw d hd hk => exact desc_wp hd hc rh he fun x m' v h1 h2 h3 h4 h5 => h _ m' v (h2 ▸ hk x h1) h3 h4 h5
 | store ha hb hn hl hone hk =>
  cases ho : o.op <;> try (simp [ho, chkOp] at hc; done)
  rename_i b p T cs t x y
  rw [ho] at hc
  simp only [chkOp, Bool.and_eq_true, decide_eq_true_eq] at hc
  obtain ⟨⟨c1, c2⟩, c3⟩ := hc
  have hx := chkX_rv he c2
  rw [ha] at hx
  obtain ⟨g1, g2⟩ := cells_rv (chkX_rv he c3) hone
  have hlen := RvL.length g1
  obtain ⟨l, r1, r2, r3⟩ := rh.blk b T cs hb
  have hll := RvL.length r2
  have hst := run_storeCells_at P b p T (a.eval y).cells.toList 0 ⟨l⟩ m.w r1 (by simp only [List.size_toArray]; omega) g2
  rw [setRow_setRange (w := m.w) (b := b) (by omega)] at hst
  have hsz : (a.eval y).cells.size = n0 := by rw [← Array.length_toList, hlen]; exact hn
  have hrun : (execOp a.eval o).run P m.w = .ok .skip (m.w.setRow b ⟨setRangeV l p (a.eval y).cells.toList⟩) := by
   simp only [execOp, ho, Instr.storeAt, rv_ptr hx, Instr.sureAddr, Sem.run_bind, Sem.run_pure, Result.andThen_ok, storeVar, run_sizeOf' c1, Sem.run_ite, hsz, ne_eq, not_true_eq_false, if_false, hst]
  have hw : ∀ k, k ≠ b → (m.w.setRow b ⟨setRangeV l p (a.eval y).cells.toList⟩).heap[k]? = m.w.heap[k]? := fun k hk => setRow_other m.w b k _ hk
  have hset := setRange_rv r2 g1 p
  have hone' : ∀ v ∈ setRangeV l p (a.eval y).cells.toList, v.oneCell' = true := by
   intro v hv
   simp only [setRangeV, List.mem_append] at hv
   rcases hv with (hv | hv) | hv
   ·exact r3 v (List.mem_of_mem_take hv)
   ·exact g2 v hv
   ·exact r3 v (List.mem_of_mem_drop hv)
  have rh' := RH.st rh (w' := m.w.setRow b ⟨setRangeV l p (a.eval y).cells.toList⟩) (T := T) (cs := setRange cs p (EOpd.ev env v0).cells) (l := setRangeV l p (a.eval y).cells.toList) hb rfl rfl rfl (by simp) hw (setRow_heap m.w b _ _ T (0, 0) r1) hset hone'
  have ev' := Ev.st rh (w' := m.w.setRow b ⟨setRangeV l p (a.eval y).cells.toList⟩) (T := T) (cs := setRange cs p (EOpd.ev env v0).cells) hb rfl rfl rfl (by simp) hw
  simp only [Oper.wp, hrun, Oper.upon]
  exact h _ _ Go.undef hk rh' ev' (by simp only [Rv])
 | storeM ha ht hn hl hone hf hr hlen hk =>
  cases ho : o.op <;> try (simp [ho, chkOp] at hc; done)
  rename_i t ver k T size rows rows' ty x y
  rw [ho] at hc
  simp only [chkOp, Bool.and_eq_true, decide_eq_true_eq] at hc
  obtain ⟨⟨c1, c2⟩, c3⟩ := hc
  have hx := chkX_rv he c2
  rw [ha] at hx
  obtain ⟨g1, g2⟩ := cells_rv (chkX_rv he c3) hone
  obtain ⟨g, m', r1, r2, r3, r4, r5⟩ := st_ms (P := P) rh hx ht (by rw [hn]; exact hl) g1 g2 hf hr hlen
  have hsz : (a.eval y).cells.size = n0 := by rw [← Array.length_toList, RvL.length g1]; exact hn
  have hrun : (execOp a.eval o).run P m.w = .ok .skip m'.w := by
   simp only [execOp, ho, Instr.storeAt, r1, Instr.sureAddr, Sem.run_bind, Sem.run_pure, Result.andThen_ok, storeVar, run_sizeOf' c1, Sem.run_ite, hsz, ne_eq, not_true_eq_false, if_false, r2]
  simp only [Oper.wp, hrun, Oper.upon]
  exact h _ m' Go.undef (r5 ▸ hk) r3 r4 (by simp only [Rv])
set_option maxHeartbeats 4000000 in
theorem istep_wp {e : EOp} {K Rp : AV → AHeap → Prop} {Kc : Act → World → Prop} {Q : Exit → Act → World → Prop} (hs : IStep P e env m.H K Rp) (hc : chkOp P o.op e = true) (rh : RH m) (he : RvE m env a.tmps)
  (h : ∀ x m' v, K x m'.H → RH m' → Ev m m' → Rv m' x v → Kc (a.put o.dst v) m'.w)
  (hp : ∀ x m' v, Rp x m'.H → RH m' → Ev m m' → Rv m' x v → Q (.panic [{ v, recovered := false }]) a m'.w) : o.wp P a m.w Kc Q := by
 cases hs with
 | sw d hd hk => exact desc_wp hd hc rh he fun x m' v h1 h2 h3 h4 h5 => h _ m' v (h2 ▸ hk x h1) h3 h4 h5
 | store ha hb hn hl hone hk => exact istep_wp0 (.store ha hb hn hl hone hk) hc rh he h hp
 | storeD hme hoth ha hb hn hl hone hk =>
  refine istep_wp0 (.store ha hb hn hl hone hk) ?_ rh he h hp
  cases ho : o.op <;> try (simp [ho, chkOp] at hc; done)
  rw [ho] at hc
  exact hc
 | append hx ht hy hb hm hk =>
  cases ho : o.op <;> try (simp [ho, chkOp] at hc; done)
  rename_i T size bytes x y τ rows new c
  obtain ⟨callee, args, argTypes⟩ := c
  rw [ho] at hc
  cases callee with
  | value f => simp [chkOp] at hc
  | invoke _ _ => simp [chkOp] at hc
  | builtin b =>
   cases b <;> simp only [chkOp] at hc <;> first
    | (cases hc; done)
    | skip
   simp only [Bool.and_eq_true] at hc
   obtain ⟨c1, c2⟩ := hc
   split at c2
   ·rename_i t u ht'
    obtain ⟨A⟩ := appT_of c2
    obtain rfl := arr2 ht'
    have hargs : ∃ p q, args = #[p, q] ∧ chkX p x = true ∧ chkX q y = true := by
     match hl : args.toList with
     | [p, q] => rw [hl] at c1; simp only [chkXs, Bool.and_eq_true] at c1; exact ⟨p, q, arr2 hl, c1.1, c1.2.1⟩
     | [] => rw [hl] at c1; simp [chkXs] at c1
     | [_] => rw [hl] at c1; simp [chkXs] at c1
     | _ :: _ :: _ :: _ => rw [hl] at c1; simp [chkXs] at c1
    obtain ⟨p, q, rfl, e1, e2⟩ := hargs
    have hp := chkX_rv he e1
    rw [hx] at hp
    obtain ⟨news, S⟩ := src_of (P := P) (chkX_rv he e2) hy
    obtain ⟨m', v, r1, r2, r3, r4, r5⟩ := app_own (ty := o.type) A rh hp ht S hb hm
    refine wp_of_run (v := v) (w' := m'.w) ?_ (h _ m' v (r4 ▸ hk) r2 r3 r5)
    simp [execOp, ho, resolve, invoke, builtin, r1]
   ·cases c2
 | appendM hx ht hy hb hm hk =>
  cases ho : o.op <;> try (simp [ho, chkOp] at hc; done)
  rename_i T size bytes x y τ ver rows new c
  obtain ⟨callee, args, argTypes⟩ := c
  rw [ho] at hc
  cases callee with
  | value f => simp [chkOp] at hc
  | invoke _ _ => simp [chkOp] at hc
  | builtin b =>
   cases b <;> simp only [chkOp] at hc <;> first
    | (cases hc; done)
    | skip
   simp only [Bool.and_eq_true] at hc
   obtain ⟨c1, c2⟩ := hc
   split at c2
   ·rename_i t u ht'
    obtain ⟨A⟩ := appT_of c2
    obtain rfl := arr2 ht'
    have hargs : ∃ p q, args = #[p, q] ∧ chkX p x = true ∧ chkX q y = true := by
     match hl : args.toList with
     | [p, q] => rw [hl] at c1; simp only [chkXs, Bool.and_eq_true] at c1; exact ⟨p, q, arr2 hl, c1.1, c1.2.1⟩
     | [] => rw [hl] at c1; simp [chkXs] at c1
     | [_] => rw [hl] at c1; simp [chkXs] at c1
     | _ :: _ :: _ :: _ => rw [hl] at c1; simp [chkXs] at c1
    obtain ⟨p, q, rfl, e1, e2⟩ := hargs
    have hp := chkX_rv he e1
    rw [hx] at hp
    obtain ⟨news, S⟩ := src_of (P := P) (chkX_rv he e2) hy
    obtain ⟨m', v, r1, r2, r3, r4, r5⟩ := app_ms (ty := o.type) A rh hp ht S hb hm
    refine wp_of_run (v := v) (w' := m'.w) ?_ (h _ m' v (r4 ▸ hk) r2 r3 r5)
    simp [execOp, ho, resolve, invoke, builtin, r1]
   ·cases c2
 | isnilU hx hk =>
  cases ho : o.op <;> try (simp [ho, chkOp] at hc; done)
  rename_i neg x size rows op t u v w
  obtain ⟨b, w', r1, r2⟩ := d_isnilU (P := P) (m := m) he ho hc hx
  exact wp_of_run r1 (h _ m w' (hk b) rh (Ev.refl m) r2)
 | slM hx ht hl hh h1 hk =>
  cases ho : o.op <;> try (simp [ho, chkOp] at hc; done)
  rename_i mx
  have hmx : mx = none := by
   cases mx with
   | none => rfl
   | some q => rw [ho] at hc; simp [chkOp] at hc
  subst hmx
  obtain ⟨m', v, r0, r1, r2, r3, r4⟩ := d_slM he rh ho hc hx ht hl hh h1
  exact wp_of_run r0 (h _ m' v (r3 ▸ hk) r1 r2 r4)
 | storeM ha ht hn hl hone hf hr hlen hk =>
  cases ho : o.op <;> try (simp [ho, chkOp] at hc; done)
  rename_i n av v t ver k T size rows rows' ty x y
  rw [ho] at hc
  simp only [chkOp, Bool.and_eq_true, decide_eq_true_eq] at hc
  obtain ⟨⟨c1, c2⟩, c3⟩ := hc
  have hx := chkX_rv he c2
  rw [ha] at hx
  obtain ⟨g1, g2⟩ := cells_rv (chkX_rv he c3) hone
  obtain ⟨g, m', r1, r2, r3, r4, r5⟩ := st_ms (P := P) rh hx ht (by rw [hn]; exact hl) g1 g2 hf hr hlen
  have hsz : (a.eval y).cells.size = n := by rw [← Array.length_toList, RvL.length g1]; exact hn
  have hrun : (execOp a.eval o).run P m.w = .ok .skip m'.w := by
   simp only [execOp, ho, Instr.storeAt, r1, Instr.sureAddr, Sem.run_bind, Sem.run_pure, Result.andThen_ok, storeVar, run_sizeOf' c1, Sem.run_ite, hsz, ne_eq, not_true_eq_false, if_false, r2]
  simp only [Oper.wp, hrun, Oper.upon]
  exact h _ m' Go.undef (r5 ▸ hk) r3 r4 (by simp only [Rv])
 | call Q0 ha hcall hk =>
  cases ho : o.op <;> try (simp [ho, chkOp] at hc; done)
  rename_i f args az c
  obtain ⟨callee, cargs, argTypes⟩ := c
  rw [ho] at hc
  cases callee with
  | builtin b => cases b <;> simp [chkOp] at hc
  | invoke _ _ => simp [chkOp] at hc
  | value g =>
   simp only [chkOp, Bool.and_eq_true] at hc
   obtain ⟨⟨c1, c2⟩, c3⟩ := hc
   split at c1
   ·rename_i f'
    have : f' = f := by simpa using c1
    subst this
    refine wp_of_enter (run_op_call ho rfl rfl c3 m.w) ?_
    have hl := avles_rv ha (chkXs_rv he c2)
    have hA : (cargs.map a.eval) = ⟨cargs.toList.map a.eval⟩ := Array.ext' (by simp)
    rw [show ({ callee := Callee.value (Operand.func f'), args := cargs, argTypes := argTypes } : Call).args.map a.eval = ⟨cargs.toList.map a.eval⟩ from hA]
    exact acalls_wp rh hl hcall (fun r' m' v hr r1 r2 r3 => h _ m' v (hk _ _ hr) r1 r2 r3) (fun r' m' v hr r1 r2 r3 => hp _ m' v (hk _ _ hr) r1 r2 r3)
   ·cases c1
 | callD Q0 hoth hex ha hcall hk =>
  cases ho : o.op <;> try (simp [ho, chkOp] at hc; done)
  rename_i others f args az c
  obtain ⟨callee, cargs, argTypes⟩ := c
  rw [ho] at hc
  cases callee with
  | builtin b => cases b <;> simp [chkOp] at hc
  | invoke _ _ => simp [chkOp] at hc
  | value g =>
   simp only [chkOp, Bool.and_eq_true] at hc
   obtain ⟨⟨c1, c2⟩, c3⟩ := hc
   split at c1
   ·rename_i f'
    have : f' = f := by simpa using c1
    subst this
    refine wp_of_enter (run_op_call ho rfl rfl c3 m.w) ?_
    have hl := avles_rv ha (chkXs_rv he c2)
    have hA : (cargs.map a.eval) = ⟨cargs.toList.map a.eval⟩ := Array.ext' (by simp)
    rw [show ({ callee := Callee.value (Operand.func f'), args := cargs, argTypes := argTypes } : Call).args.map a.eval = ⟨cargs.toList.map a.eval⟩ from hA]
    exact acalls_wp rh hl hcall (fun r' m' v hr r1 r2 r3 => h _ m' v (hk _ _ hr) r1 r2 r3) (fun r' m' v hr r1 r2 r3 => hp _ m' v (hk _ _ hr) r1 r2 r3)
   ·cases c1
 | callv Q0 hx hf ha hcall hk =>
  cases ho : o.op <;> try (simp [ho, chkOp] at hc; done)
  rename_i x args f cap az c
  obtain ⟨callee, cargs, argTypes⟩ := c
  rw [ho] at hc
  cases callee with
  | builtin b => cases b <;> simp [chkOp] at hc
  | invoke _ _ => simp [chkOp] at hc
  | value g =>
   simp only [chkOp, Bool.and_eq_true] at hc
   obtain ⟨c1, c2⟩ := hc
   have hg := chkX_rv he c1
   rw [hx] at hg
   obtain ⟨l, g1, g2⟩ := rv_fn hg
   refine wp_of_enter (run_op_callv ho rfl g1 hf m.w) ?_
   have hl := avles_rv ha (RvL.append (chkXs_rv he c2) g2)
   have hA : (cargs.map a.eval) ++ ⟨l⟩ = ⟨cargs.toList.map a.eval ++ l⟩ := by
    apply Array.ext'
    simp
   rw [show ({ callee := Callee.value g, args := cargs, argTypes := argTypes } : Call).args.map a.eval ++ ⟨l⟩ = ⟨cargs.toList.map a.eval ++ l⟩ from hA]
   exact acalls_wp rh hl hcall (fun r' m' v hr r1 r2 r3 => h _ m' v (hk _ _ hr) r1 r2 r3) (fun r' m' v hr r1 r2 r3 => hp _ m' v (hk _ _ hr) r1 r2 r3)
 | callvB Q0 hx hf ha hcall hk =>
  cases ho : o.op <;> try (simp [ho, chkOp] at hc; done)
  rename_i x args f cap az c
  obtain ⟨callee, cargs, argTypes⟩ := c
  rw [ho] at hc
  cases callee with
  | builtin b => cases b <;> simp [chkOp] at hc
  | invoke _ _ => simp [chkOp] at hc
  | value g =>
   simp only [chkOp, Bool.and_eq_true] at hc
   obtain ⟨c1, c2⟩ := hc
   have hg := chkX_rv he c1
   rw [hx] at hg
   obtain ⟨l, g1, g2⟩ := rv_fn hg
   refine wp_of_enter (run_op_callvB ho rfl g1 hf m.w) ?_
   have hl := avles_rv ha (RvL.append g2 (chkXs_rv he c2))
   have hA : ⟨l⟩ ++ (cargs.map a.eval) = ⟨l ++ cargs.toList.map a.eval⟩ := by
    apply Array.ext'
    simp
   rw [show ⟨l⟩ ++ ({ callee := Callee.value g, args := cargs, argTypes := argTypes } : Call).args.map a.eval = ⟨l ++ cargs.toList.map a.eval⟩ from hA]
   exact acalls_wp rh hl hcall (fun r' m' v hr r1 r2 r3 => h _ m' v (hk _ _ hr) r1 r2 r3) (fun r' m' v hr r1 r2 r3 => hp _ m' v (hk _ _ hr) r1 r2 r3)
 | slAF hx hb hf hr hl h0 hm hk =>
  cases ho : o.op <;> try (simp [ho, chkOp] at hc; done)
  rename_i len size x' b T cs rows t x lo hi mx
  rw [ho] at hc
  cases lo <;> cases hi <;> cases mx <;> simp only [chkOp, Bool.and_eq_true] at hc <;> first
   | (cases hc; done)
   | skip
  obtain ⟨c1, c2⟩ := hc
  have hxv := chkX_rv he c1
  rw [hx] at hxv
  split at c2
  ·rename_i n e hu
   simp only [Bool.and_eq_true, decide_eq_true_eq] at c2
   obtain ⟨rfl, hsz⟩ := c2
   have hrun : (execOp a.eval o).run P m.w = .ok (.value (.slice (some ⟨b, 0, none⟩) n n)) m.w := by
    have hn : ¬ n = 0 := by omega
    simp [execOp, ho, Instr.sliceAt, Instr.sliceBounds, run_underlying hu, rv_ptr hxv, Instr.sureAddr, asAddr, run_sizeOf' hsz, addr_add, hn]
   have hs := HSub.dropB m.H b
   have r1 : RH ⟨m.w, m.H.dropB b, m.L, m.T⟩ := RH.forget hs rh
   have v1 : Ev m ⟨m.w, m.H.dropB b, m.L, m.T⟩ := Ev.forget hs (Ev.refl m)
   obtain ⟨l, g1, g2, g3⟩ := rh.blk b T cs hb
   have hlt : b < m.w.heap.size := (Array.getElem?_eq_some_iff.1 g1).1
   refine wp_of_run hrun (h _ ⟨m.w, m.H.dropB b, m.L, m.T⟩ _ hk r1 v1 ?_)
   simp only [Rv]
   refine ⟨_, _, _, rfl, hl.symm, ⟨Nat.le_refl _, hm⟩, .inr ⟨b, 0, rfl, RvR.of hr (l := l) (by rw [hf]; exact RvL.forget (w := m.w) (L := m.L) (T := m.T) hs _ _ g2) fun j v hj => ⟨?_, g3 v (List.mem_of_getElem? hj), hlt, by simp [AHeap.dropB], fun t' i ht hbk => ?_⟩⟩⟩
   ·rw [Nat.zero_add, cell_of_row m.w b _ _ _ _ g1]
    simpa using hj
   ·have := ((rh.tok t' i ht).2.2.2 b hbk).1
    rw [this] at hb
    cases hb
  ·cases c2
 | panic hx hk =>
  cases ho : o.op <;> try (simp [ho, chkOp] at hc; done)
  rename_i x t av y
  rw [ho] at hc
  simp only [chkOp] at hc
  have hv := chkX_rv he hc
  rw [hx] at hv
  have hv' := hv
  simp only [Rv] at hv
  obtain ⟨u, hu, _⟩ := hv
  have hrun : (execOp a.eval o).run P m.w = .halt (.panic (a.eval y)) m.w := by
   simp [execOp, ho, hu, Instr.panic]
  simp only [Oper.wp, hrun, Oper.upon]
  exact hp _ m _ hk rh (Ev.refl m) hv'
end
structure MD where
 m : Mem
 D : List Deferred
 kt : List Env
def MD.free (md : MD) (i : EI) : Prop := ∀ E ∈ md.kt, ∀ p ∈ E, i.dst ≠ some p.1
def Rel (n : Nat) (m0 : MD) (env : Env) (H : AHeap) (a : Act) (w : World) : Prop :=
 ∃ m : Mem, m.w = w ∧ m.H = H ∧ RH m ∧ Ev m0.m m ∧ RvE m env a.tmps ∧ (a.defers = m0.D ∧ ∀ E ∈ m0.kt, RvE m E a.tmps) ∧ a.tmps.size = n
theorem rve_put {m m' : Mem} {env : Env} {a : Act} {n : Nat} {dst : Option Nat} {x : AV} {v : Value} (he : RvE m env a.tmps) (ev : Ev m m') (hv : Rv m' x v) (hn : a.tmps.size = n) (hd : ∀ d, dst = some d → d < n) : RvE m' (env.put dst x) (a.put dst v).tmps := by
 intro k
 cases dst with
 | none => exact Rv.ev ev _ _ (he k)
 | some d =>
  have hlt := hd d rfl
  simp only [Env.put, Env.get, Act.put]
  by_cases e : d = k
  ·subst e
   simp only [beq_self_eq_true, cond_true]
   have : (a.tmps.setIfInBounds d v).getD d undef = v := by
    simp [Array.getD_eq_getD_getElem?, hn, hlt]
   rw [this]
   exact hv
  ·have hb : (d == k) = false := by simpa using e
   simp only [hb, cond_false]
   have : (a.tmps.setIfInBounds d v).getD k undef = a.tmps.getD k undef := by
    simp [Array.getD_eq_getD_getElem?, Array.getElem?_setIfInBounds_ne e]
   rw [this]
   exact Rv.ev ev _ _ (he k)
theorem put_defers (a : Act) (dst : Option Nat) (v : Value) : (a.put dst v).defers = a.defers := by cases dst <;> rfl
theorem put_size (a : Act) (dst : Option Nat) (v : Value) : (a.put dst v).tmps.size = a.tmps.size := by cases dst <;> simp [Act.put]
theorem env_top {env : Env} {k : Nat} (h : ∀ p ∈ env, p.1 ≠ k) : env.get k = .top := by
 induction env with
 | nil => rfl
 | cons p env ih =>
  obtain ⟨j, v⟩ := p
  have : (j == k) = false := by simpa using h (j, v) (by simp)
  simp only [Env.get, this, cond_false]
  exact ih fun q hq => h q (by simp [hq])
theorem rve_kept {m m' : Mem} {kt : Env} {a : Act} {dst : Option Nat} {v : Value} (he : RvE m kt a.tmps) (ev : Ev m m') (hf : ∀ p ∈ kt, dst ≠ some p.1) : RvE m' kt (a.put dst v).tmps := by
 intro k
 cases dst with
 | none => exact Rv.ev ev _ _ (he k)
 | some d =>
  by_cases e : d = k
  ·subst e
   rw [env_top fun p hp e => hf p hp (by rw [e])]
   simp only [Rv]
  ·have : (a.put (some d) v).tmps.getD k undef = a.tmps.getD k undef := by
    simp [Act.put, Array.getD_eq_getD_getElem?, Array.getElem?_setIfInBounds_ne e]
   rw [this]
   exact Rv.ev ev _ _ (he k)
theorem rel_put {n : Nat} {m0 : MD} {m m' : Mem} {env : Env} {a : Act} {dst : Option Nat} {x : AV} {v : Value} (he : RvE m env a.tmps) (e0 : Ev m0.m m) (ev : Ev m m') (rh : RH m') (hv : Rv m' x v) (hdf : a.defers = m0.D ∧ ∀ E ∈ m0.kt, RvE m E a.tmps) (hn : a.tmps.size = n) (hd : ∀ d, dst = some d → d < n) (hf : ∀ E ∈ m0.kt, ∀ p ∈ E, dst ≠ some p.1) : Rel n m0 (env.put dst x) m'.H (a.put dst v) m'.w :=
 ⟨m', rfl, rfl, rh, e0.trans ev, rve_put he ev hv hn hd, ⟨by rw [put_defers, hdf.1], fun E hE => rve_kept (hdf.2 E hE) ev (hf E hE)⟩, by rw [put_size, hn]⟩
theorem chkI_parts {P : Program} {n : Nat} {ops : Array Oper} {o : Oper} {i : EI} (h : chkI P n ops o i = true) : o.dst = i.dst ∧ (∀ d, i.dst = some d → d < n) ∧ chkG ops o.guard i.guard = true ∧ chkOp P o.op i.op = true ∧ (∀ t w, i.guard = some (t, w) → t < n) := by
 simp only [chkI, Bool.and_eq_true, decide_eq_true_eq] at h
 obtain ⟨⟨⟨⟨h1, h2⟩, h5⟩, h3⟩, h4⟩ := h
 refine ⟨h1, fun d hd => ?_, h3, h4, fun t w hg => ?_⟩
 ·rw [hd] at h2
  simp [Nat.blt_eq] at h2
  exact h2
 ·rw [hg] at h5
  simp [Nat.blt_eq] at h5
  exact h5
theorem wanted_rv {m : Mem} {env : Env} {ops : Array Oper} {o : Oper} {i : EI} {tmps : Array Value} {b : Bool} (hg : chkG ops o.guard i.guard = true) (he : RvE m env tmps) (hw : wanted i env = some b) (hsz : ∀ j w, i.guard = some (j, w) → j < tmps.size) : Region.wanted o (yielded ops tmps) = b := by
 unfold wanted at hw
 unfold chkG at hg
 cases ho : o.guard with
 | none =>
  cases hi : i.guard with
  | none => rw [hi] at hw; simp at hw; subst hw; simp [Region.wanted, ho]
  | some _ => rw [ho, hi] at hg; cases hg
 | some jw =>
  obtain ⟨j, w⟩ := jw
  cases hi : i.guard with
  | none => rw [ho, hi] at hg; cases hg
  | some tw =>
   obtain ⟨t, w'⟩ := tw
   rw [ho, hi] at hg
   simp only [Bool.and_eq_true, decide_eq_true_eq] at hg
   obtain ⟨rfl, hd⟩ := hg
   have hlt := hsz t w hi
   have hy : yielded ops tmps j = match tmps[t]? with | some (.bool b) => some b | _ => none := by
    unfold yielded
    rw [hd]
    rfl
   have hget : tmps[t]? = some (tmps.getD t undef) := by
    simp [Array.getD_eq_getD_getElem?, hlt]
   rw [hi] at hw
   simp only at hw
   have hr := he t
   split at hw
   ·rename_i c hc
    rw [hc] at hr
    simp at hw
    subst hw
    simp only [Region.wanted, ho, hy, hget, rv_bool hr]
    cases c <;> cases w <;> rfl
   ·rename_i hc
    rw [hc] at hr
    simp at hw
    subst hw
    simp only [Region.wanted, ho, hy, hget, rv_raw hr]
    rfl
   ·cases hw
def GStep (P : Program) (i : EI) (env : Env) (H : AHeap) (K Rp : AV → AHeap → Prop) : Prop :=
 match wanted i env with
 | some true => IStep P i.op env H K Rp
 | some false => K .undef H
 | none => False
theorem DM_cons {P : Program} {i : EI} {l : List EI} {env : Env} {H : AHeap} {K : Env → AHeap → Prop} {Rp : AV → AHeap → Prop} : DM P (i :: l) env H K Rp ↔ GStep P i env H (fun v H' => DM P l (env.put i.dst v) H' K Rp) Rp := by
 simp only [DM, GStep]
 all_goals (cases wanted i env with
  | none => exact Iff.rfl
  | some b => cases b <;> exact Iff.rfl)
def EnvEq (e e' : Env) : Prop := ∀ k, e.get k = e'.get k
def OpdEq (op : EOp) (env env' : Env) : Prop := ∀ x ∈ op.opds, x.ev env = x.ev env'
def Agree (i : EI) (env env' : Env) : Prop := OpdEq i.op env env' ∧ ∀ j w, i.guard = some (j, w) → env.get j = env'.get j
theorem agree_of_reads {i : EI} {env env' : Env} (h : ∀ k ∈ i.reads, env.get k = env'.get k) : Agree i env env' := by
 refine ⟨fun x hx => ?_, fun j w hg => h j ?_⟩
 ·cases x with
  | c a => rfl
  | t n => exact h n (by simp only [EI.reads, List.mem_append]; exact .inl (List.mem_filterMap.2 ⟨.t n, hx, rfl⟩))
 ·simp [EI.reads, hg]
theorem wanted_congr {i : EI} {env env' : Env} (h : Agree i env env') : wanted i env = wanted i env' := by
 unfold wanted
 cases hg : i.guard with
 | none => rfl
 | some jw => obtain ⟨j, w⟩ := jw; simp only [h.2 j w hg]
theorem map_ev {xs : List EOpd} {env env' : Env} (h : ∀ x ∈ xs, x.ev env = x.ev env') : xs.map (EOpd.ev env) = xs.map (EOpd.ev env') := List.map_congr_left h
theorem buildParts_congr {env env' : Env} : ∀ (ps : List (Nat × Nat × EOpd)) (cs : List AV), (∀ x ∈ ps.map (·.2.2), x.ev env = x.ev env') → buildParts env cs ps = buildParts env' cs ps
 | [], _, _ => rfl
 | (o, s, x) :: ps, cs, h => by
  have h1 := h x (by simp)
  simp only [buildParts, h1]
  rw [buildParts_congr ps _ fun y hy => h y (by simp at hy ⊢; exact .inr hy)]
theorem optNat_congr {env env' : Env} {d : Nat} {x : Option EOpd} (h : ∀ y ∈ x.toList, y.ev env = y.ev env') : optNat env d x = optNat env' d x := by
 cases x with
 | none => rfl
 | some y => simp only [optNat, h y (by simp)]
theorem peval_congr {op : EOp} {env env' : Env} (H : AHeap) (h : OpdEq op env env') : peval op env H = peval op env' H := by
 cases op <;> simp only [peval] <;> simp only [OpdEq, EOp.opds, List.mem_cons, List.not_mem_nil, or_false, forall_eq_or_imp, forall_eq] at h <;> first
  | rfl
  | (simp only [h]; done)
  | (rw [h]; done)
  | (obtain ⟨h1, h2⟩ := h; rw [h1, h2]; done)
  | (obtain ⟨h1, h2, h3⟩ := h; rw [h1, h2, h3]; done)
  | (rw [buildParts_congr _ _ h]; done)
  | (obtain ⟨h1, h2⟩ := h; simp only [EOpd.ev] at h1; rw [h1, h2]; done)
  | (rw [map_ev h]; done)
theorem bslRows_congr {env env' : Env} {ps : List (Nat × EOpd)} (h : ∀ x ∈ ps.map (·.2), x.ev env = x.ev env') : bslRows env ps = bslRows env' ps := by
 unfold bslRows
 refine List.map_congr_left fun p hp => ?_
 rw [h p.2 (List.mem_map.2 ⟨p, hp, rfl⟩)]
theorem desc_congr {P : Program} {op : EOp} {env env' : Env} {H : AHeap} {d : D} (h : OpdEq op env env') (hd : Desc P op env H d) : Desc P op env' H d := by
 cases hd with
 | pure hp => exact .pure ((peval_congr H h).symm.trans hp)
 | quo hx hy hb => exact .quo ((h _ (by simp [EOp.opds])).symm.trans hx) ((h _ (by simp [EOp.opds])).symm.trans hy) hb
 | rem hx hy hb => exact .rem ((h _ (by simp [EOp.opds])).symm.trans hx) ((h _ (by simp [EOp.opds])).symm.trans hy) hb
 | cat hx hy hb => exact .cat ((h _ (by simp [EOp.opds])).symm.trans hx) ((h _ (by simp [EOp.opds])).symm.trans hy) hb
 | idxV hx hi h0 hr => exact .idxV ((h _ (by simp [EOp.opds])).symm.trans hx) ((h _ (by simp [EOp.opds])).symm.trans hi) h0 hr
 | idxO hx hi h0 hr => exact .idxO ((h _ (by simp [EOp.opds])).symm.trans hx) ((h _ (by simp [EOp.opds])).symm.trans hi) h0 hr
 | idxM hx hi h0 hr => exact .idxM ((h _ (by simp [EOp.opds])).symm.trans hx) ((h _ (by simp [EOp.opds])).symm.trans hi) h0 hr
 | idxP hx hi h0 hr => exact .idxP ((h _ (by simp [EOp.opds])).symm.trans hx) ((h _ (by simp [EOp.opds])).symm.trans hi) h0 hr
 | idxR hx hi h0 hr => exact .idxR ((h _ (by simp [EOp.opds])).symm.trans hx) ((h _ (by simp [EOp.opds])).symm.trans hi) h0 hr
 | idxA hx hi h0 h1 hl hv => exact .idxA ((h _ (by simp [EOp.opds])).symm.trans hx) ((h _ (by simp [EOp.opds])).symm.trans hi) h0 h1 hl hv
 | idxS hx hi h0 hc => exact .idxS ((h _ (by simp [EOp.opds])).symm.trans hx) ((h _ (by simp [EOp.opds])).symm.trans hi) h0 hc
 | slS hx hl hh h1 h2 => exact .slS ((h _ (by simp [EOp.opds])).symm.trans hx) ((optNat_congr fun y hy => h y (by simp only [EOp.opds, List.mem_cons, List.mem_append]; exact .inr (.inl hy))).symm.trans hl) ((optNat_congr fun y hy => h y (by simp only [EOp.opds, List.mem_cons, List.mem_append]; exact .inr (.inr hy))).symm.trans hh) h1 h2
 | slV hx hl hh h1 h2 => exact .slV ((congrArg (slRows _) (h _ (by simp [EOp.opds]))).symm.trans hx) ((optNat_congr fun y hy => h y (by simp only [EOp.opds, List.mem_cons, List.mem_append]; exact .inr (.inl (.inl hy)))).symm.trans hl) ((optNat_congr fun y hy => h y (by simp only [EOp.opds, List.mem_cons, List.mem_append]; exact .inr (.inl (.inr hy)))).symm.trans hh) h1 h2
 | convBS hx => exact .convBS ((h _ (by simp [EOp.opds])).symm.trans hx)
 | box hx => rename_i T x; have e := h x (by simp [EOp.opds]); rw [e] at hx ⊢; exact .box hx
 | alloc hz => exact .alloc hz
 | bsliceV hr hs ho => exact .bsliceV ((bslRows_congr fun x hx => h x (by simpa [EOp.opds] using hx)).symm.trans hr) hs ho
 | bsliceO hr hs ho h0 => exact .bsliceO ((bslRows_congr fun x hx => h x (by simpa [EOp.opds] using hx)).symm.trans hr) hs ho h0
 | app0 hx hy hb hm h0 =>
  rename_i T size bytes x y rows
  exact .app0 ((h _ (by simp [EOp.opds])).symm.trans hx) (by rw [← h y (by simp [EOp.opds])]; exact hy) hb hm h0
 | pcall ha hp => exact .pcall (by rw [← map_ev fun x hx => h x (by simpa [EOp.opds] using hx)]; exact ha) hp
 | pcallv hx hf ha hp => exact .pcallv ((h _ (by simp [EOp.opds])).symm.trans hx) hf (by rw [← map_ev fun x hx => h x (by simp only [EOp.opds, List.mem_cons]; exact .inr hx)]; exact ha) hp
 | pcall' ha hp => exact .pcall' (by rw [← map_ev fun x hx => h x (by simpa [EOp.opds] using hx)]; exact ha) hp
 | pcallv' hx hf ha hp => exact .pcallv' ((h _ (by simp [EOp.opds])).symm.trans hx) hf (by rw [← map_ev fun x hx => h x (by simp only [EOp.opds, List.mem_cons]; exact .inr hx)]; exact ha) hp
 | lenM hx ht => exact .lenM ((h _ (by simp [EOp.opds])).symm.trans hx) ht
 | mkM hx hb hm ho hz h0 => exact .mkM ((h _ (by simp [EOp.opds])).symm.trans hx) hb hm ho hz h0
 | isnilT hx => exact .isnilT ((h _ (by simp [EOp.opds])).symm.trans hx)
 | isnilF hx hr => exact .isnilF ((h _ (by simp [EOp.opds])).symm.trans hx) hr
 | faddrM hx ht => exact .faddrM ((h _ (by simp [EOp.opds])).symm.trans hx) ht
 | iaddrM hx ht hi h0 h1 => exact .iaddrM ((h _ (by simp [EOp.opds])).symm.trans hx) ht ((h _ (by simp [EOp.opds])).symm.trans hi) h0 h1
 | loadM hx ht hl hv => exact .loadM ((h _ (by simp [EOp.opds])).symm.trans hx) ht hl hv
 | bsliceM hr hs ho h0 => exact .bsliceM ((bslRows_congr fun x hx => h x (by simpa [EOp.opds] using hx)).symm.trans hr) hs ho h0
 | appM0 hx hy hb hm h0 =>
  rename_i T size bytes x y rows
  exact .appM0 ((h _ (by simp [EOp.opds])).symm.trans hx) (by rw [← h y (by simp [EOp.opds])]; exact hy) hb hm h0
 | pcallM' ha hp => exact .pcallM' (by rw [← map_ev fun x hx => h x (by simpa [EOp.opds] using hx)]; exact ha) hp
theorem istep_congr {P : Program} {op : EOp} {env env' : Env} {H : AHeap} {K K' Rp Rp' : AV → AHeap → Prop} (h : OpdEq op env env') (hk : ∀ v H', K v H' → K' v H') (hr : ∀ v H', Rp v H' → Rp' v H') (hs : IStep P op env H K Rp) : IStep P op env' H K' Rp' := by
 cases hs with
 | sw d hd hh => exact .sw d (desc_congr h hd) fun x hx => hk _ _ (hh x hx)
 | store ha hb hn hl ho hh =>
  rename_i n a v b o T cs
  have e := h v (by simp [EOp.opds])
  exact .store ((h _ (by simp [EOp.opds])).symm.trans ha) hb (by rw [← e]; exact hn) hl (by rw [← e]; exact ho) (by rw [← e]; exact hk _ _ hh)
 | storeD hme hoth ha hb hn hl ho hh =>
  rename_i me others n a v b o T cs
  have e := h v (by simp [EOp.opds])
  refine .storeD ((h (.t me) (by simp [EOp.opds])).symm.trans hme) (fun s hs => ?_) ((h _ (by simp [EOp.opds])).symm.trans ha) hb (by rw [← e]; exact hn) hl (by rw [← e]; exact ho) (by rw [← e]; exact hk _ _ hh)
  obtain ⟨b', h1, h2⟩ := hoth s hs
  exact ⟨b', (h (.t s) (by simp [EOp.opds]; exact .inr (.inr (.inr hs)))).symm.trans h1, h2⟩
 | append hx ht hy hb hm hh =>
  rename_i T size bytes x y t rows new
  exact .append ((h _ (by simp [EOp.opds])).symm.trans hx) ht (by rw [← h y (by simp [EOp.opds])]; exact hy) hb hm (hk _ _ hh)
 | appendM hx ht hy hb hm hh =>
  rename_i T size bytes x y t ver rows new
  exact .appendM ((h _ (by simp [EOp.opds])).symm.trans hx) ht (by rw [← h y (by simp [EOp.opds])]; exact hy) hb hm (hk _ _ hh)
 | isnilU hx hh => exact .isnilU ((h _ (by simp [EOp.opds])).symm.trans hx) fun b => hk _ _ (hh b)
 | slM hx ht hl hh0 h1 hh => exact .slM ((h _ (by simp [EOp.opds])).symm.trans hx) ht ((optNat_congr fun y hy => h y (by simp only [EOp.opds, List.mem_cons, List.mem_append]; exact .inr (.inl hy))).symm.trans hl) ((optNat_congr fun y hy => h y (by simp only [EOp.opds, List.mem_cons, List.mem_append]; exact .inr (.inr hy))).symm.trans hh0) h1 (hk _ _ hh)
 | storeM ha ht hn hl ho hf hr' hlen hh =>
  rename_i n a v t ver k T size rows rows'
  have e := h v (by simp [EOp.opds])
  exact .storeM ((h _ (by simp [EOp.opds])).symm.trans ha) ht (by rw [← e]; exact hn) hl (by rw [← e]; exact ho) (by rw [← e]; exact hf) hr' hlen (hk _ _ hh)
 | call Q ha hc hh => exact .call Q (by rw [← map_ev fun x hx => h x (by simpa [EOp.opds] using hx)]; exact ha) hc fun o H' hq => by have := hh o H' hq; cases o <;> first | exact hk _ _ this | exact hr _ _ this
 | callv Q hx hf ha hc hh => exact .callv Q ((h _ (by simp [EOp.opds])).symm.trans hx) hf (by rw [← map_ev fun x hx => h x (by simp only [EOp.opds, List.mem_cons]; exact .inr hx)]; exact ha) hc fun o H' hq => by have := hh o H' hq; cases o <;> first | exact hk _ _ this | exact hr _ _ this
 | callvB Q hx hf ha hc hh => exact .callvB Q ((h _ (by simp [EOp.opds])).symm.trans hx) hf (by rw [← map_ev fun x hx => h x (by simp only [EOp.opds, List.mem_cons]; exact .inr hx)]; exact ha) hc fun o H' hq => by have := hh o H' hq; cases o <;> first | exact hk _ _ this | exact hr _ _ this
 | slAF hx hb hf hr' hl h0 hm hh => exact .slAF ((h _ (by simp [EOp.opds])).symm.trans hx) hb hf hr' hl h0 hm (hk _ _ hh)
 | callD Q ho he ha hc hh =>
  refine .callD Q (fun s hs => ?_) he (by rw [← map_ev fun x hx => h x (by simp only [EOp.opds, List.mem_append]; exact .inl hx)]; exact ha) hc fun o H' hq => by have := hh o H' hq; cases o <;> first | exact hk _ _ this | exact hr _ _ this
  obtain ⟨b, h1, h2⟩ := ho s hs
  exact ⟨b, (h (.t s) (by simp only [EOp.opds, List.mem_append]; exact .inr (List.mem_map.2 ⟨s, hs, rfl⟩))).symm.trans h1, h2⟩
 | panic hx hh => exact .panic ((h _ (by simp [EOp.opds])).symm.trans hx) (hr _ _ hh)
theorem gstep_congr {P : Program} {i : EI} {env env' : Env} {H : AHeap} {K K' Rp Rp' : AV → AHeap → Prop} (h : Agree i env env') (hk : ∀ v H', K v H' → K' v H') (hr : ∀ v H', Rp v H' → Rp' v H') (hs : GStep P i env H K Rp) : GStep P i env' H K' Rp' := by
 unfold GStep at hs ⊢
 rw [← wanted_congr h]
 split at hs
 ·exact istep_congr h.1 hk hr hs
 ·exact hk _ _ hs
 ·exact hs.elim
theorem put_get_eq {e e' : Env} (h : EnvEq e e') (d : Option Nat) (v : AV) : EnvEq (e.put d v) (e'.put d v) := fun k => by
 cases d with
 | none => exact h k
 | some d => simp only [Env.put, Env.get, h k]
theorem agree_of_eq {i : EI} {e e' : Env} (h : EnvEq e e') : Agree i e e' := agree_of_reads fun k _ => h k
theorem dm_congr {P : Program} {K : Env → AHeap → Prop} {Rp : AV → AHeap → Prop} (hK : ∀ e e' H, EnvEq e e' → K e H → K e' H) : ∀ (l : List EI) {e e' : Env} {H : AHeap}, EnvEq e e' → DM P l e H K Rp → DM P l e' H K Rp
 | [], e, e', H, h, hd => by simp only [DM] at hd ⊢; exact hK e e' H h hd
 | i :: l, e, e', H, h, hd => by
  rw [DM_cons] at hd ⊢
  exact gstep_congr (agree_of_eq h) (fun v H' hh => dm_congr hK l (put_get_eq h i.dst v) hh) (fun _ _ h => h) hd
def sp (op : EOp) (env : Env) : D :=
 match op with
 | .bin o x y => (match o, x.ev env, y.ev env with
  | .quo, .int k a, .int _ b => .det (.int k (k.wrap (a.tdiv b)))
  | .rem, .int k a, .int _ b => .det (.int k (a.tmod b))
  | .add, .str a, .str b => .det (.str (a ++ b))
  | _, _, _ => .det .top)
 | .iaddr size x i => (match x.ev env, i.ev env with
  | .vs _ rows, .int _ n => .det (.rp (rows.getD n.toNat []) 0)
  | .own _ _ rows, .int _ n => .det (.rp (rows.getD n.toNat []) 0)
  | .raw (.slice (some ⟨b, o, _⟩) _ _), .int _ n => .det (.ptr b (o + n.toNat * size))
  | _, _ => .det .top)
 | .iaddrA _ size x i => (match x.ev env, i.ev env with
  | .ptr b o, .int _ n => .det (.ptr b (o + n.toNat * size))
  | .rp r o, .int _ n => .det (.rp r (o + n.toNat * size))
  | _, _ => .det .top)
 | .idxA agg _ size x i => (match x.ev env, i.ev env with
  | .agg cs, .int _ n => .det ((AV.ofCells agg ((cs.drop (n.toNat * size)).take size)).getD .top)
  | _, _ => .det .top)
 | .idxS x i => (match x.ev env, i.ev env with
  | .str s, .int _ n => .det (.int .u8 (s.getD n.toNat 0).toNat)
  | _, _ => .det .top)
 | .slS x lo hi => (match x.ev env with
  | .str s => .det (.str ((s.take ((optNat env s.length hi).getD 0)).drop ((optNat env 0 lo).getD 0)))
  | _ => .det .top)
 | .slV size x lo hi _ => (match slRows size (x.ev env) with
  | some rows => .det (.vs size ((rows.take ((optNat env rows.length hi).getD 0)).drop ((optNat env 0 lo).getD 0)))
  | none => .det .top)
 | .convBS T x => (match x.ev env with
  | .str s => .det (.vs 1 (s.map fun c => [.int .u8 c.toNat]))
  | _ => .det .top)
 | .box T x => .nblk T (x.ev env).cells
 | .alloc T zero => .nblk T zero
 | .bslice _ size _ _ parts => .det (.vs size (bslRows env parts))
 | .bsliceO T size _ _ parts => .ntok T size (bslRows env parts)
 | .bsliceM T size _ _ parts => .nms T size (bslRows env parts)
 | .mkM T size _ zero x => .nms T size (List.replicate (match x.ev env with | .int _ n => n.toNat | _ => 0) zero)
 | .pcallMR T size _ _ rows => .nms T size rows
 | .append T size _ _ y => .ntok T size ((rowsOf size (y.ev env)).getD [])
 | .pcallR _ _ r => .det r
 | .pcallvR _ _ r => .det r
 | _ => .det .top
def dOf (op : EOp) (env : Env) (H : AHeap) : D :=
 match peval op env H with
 | some v => .det v
 | none => sp op env
theorem desc_dOf {P : Program} {op : EOp} {env : Env} {H : AHeap} {d : D} (hr : op.rank ≤ 2) (h : Desc P op env H d) : d = dOf op env H := by
 unfold dOf
 cases h with
 | pure hp => simp only [hp]
 | quo hx hy hb => simp [peval, hx, hy, binInt, sp]
 | rem hx hy hb => simp [peval, hx, hy, binInt, sp]
 | cat hx hy hb => simp [peval, hx, hy, binStr, sp]
 | idxV hx hi h0 hq => simp [peval, hx, hi, sp, hq, List.getD]
 | idxO hx hi h0 hq => simp [peval, hx, hi, sp, hq, List.getD]
 | idxM hx hi h0 hr => simp [peval, hx, hi, sp]
 | idxP hx hi h0 hr => simp [peval, hx, hi, sp]
 | idxR hx hi h0 hr => simp [peval, hx, hi, sp]
 | idxA hx hi h0 h1 hl hv => simp [peval, hx, hi, sp, hv]
 | idxS hx hi h0 hc => simp [peval, hx, hi, sp, hc, List.getD]
 | slS hx hl hh h1 h2 => simp [peval, hx, sp, hl, hh]
 | slV hx hl hh h1 h2 => simp [peval, hx, sp, hl, hh]
 | convBS hx => simp [peval, sp, hx]
 | box hx => simp [peval, sp]
 | alloc hz => simp [peval, sp]
 | bsliceV hr hs ho => simp [peval, sp, hr]
 | bsliceO hr hs ho h0 => simp [peval, sp, hr]
 | app0 hx hy hb hm h0 => simp [peval, sp, hy]
 | pcall ha hp => simp [EOp.rank] at hr
 | pcallv hx hf ha hp => simp [EOp.rank] at hr
 | lenM hx ht => simp [EOp.rank] at hr
 | isnilT hx => simp [EOp.rank] at hr
 | isnilF hx _ => simp [EOp.rank] at hr
 | faddrM hx ht => simp [EOp.rank] at hr
 | iaddrM hx ht hi h0 h1 => simp [EOp.rank] at hr
 | loadM hx ht hl hv => simp [EOp.rank] at hr
 | bsliceM hq hs ho h0 => simp [peval, sp, hq]
 | mkM hx hb hm ho hz h0 => simp [peval, sp, hx]
 | appM0 hx hy hb hm h0 => simp [EOp.rank] at hr
 | pcallM' ha hp => simp [peval, sp]
 | pcall' ha hp => simp [peval, sp]
 | pcallv' hx hf ha hp => simp [peval, sp]
theorem desc_unique {P : Program} {op : EOp} {env : Env} {H : AHeap} {d d' : D} (hr : op.rank ≤ 2) (h : Desc P op env H d) (k : Desc P op env H d') : d = d' := by
 rw [desc_dOf hr h, desc_dOf hr k]
def HLe (H H' : AHeap) : Prop := ∀ b x, H.blk b = some x → H'.blk b = some x
theorem peval_up {op : EOp} {env : Env} {H H' : AHeap} {v : AV} (h : HLe H H') (hp : peval op env H = some v) : peval op env H' = some v := by
 cases op <;> try exact hp
 ·rename_i agg n x
  simp only [peval] at hp ⊢
  split at hp
  ·rename_i b o e
   cases hb : H.blk b with
   | none => simp [hb] at hp
   | some y => simp only [h b y hb]; simpa [hb] using hp
  ·rename_i e; exact hp
  ·cases hp
 ·rename_i me agg n x
  simp only [peval] at hp ⊢
  split at hp
  ·rename_i b b' o e1 e2
   cases hb : H.blk b' with
   | none => simp [hb] at hp
   | some y => simp only [h b' y hb]; simpa [hb] using hp
  ·cases hp
theorem desc_up {P : Program} {op : EOp} {env : Env} {H H' : AHeap} {d : D} (hrk : op.rank ≤ 2) (h : HLe H H') (hd : Desc P op env H d) : Desc P op env H' d := by
 cases hd with
 | pure hp => exact .pure (peval_up h hp)
 | quo a b c => exact .quo a b c
 | rem a b c => exact .rem a b c
 | cat a b c => exact .cat a b c
 | idxV a b c d => exact .idxV a b c d
 | idxO a b c d => exact .idxO a b c d
 | idxM a b c d => exact .idxM a b c d
 | idxP a b c d => exact .idxP a b c d
 | idxR a b c d => exact .idxR a b c d
 | idxA a b c d e f => exact .idxA a b c d e f
 | idxS a b c d => exact .idxS a b c d
 | slS a b c d e => exact .slS a b c d e
 | slV a b c d e => exact .slV a b c d e
 | convBS a => exact .convBS a
 | box a => exact .box a
 | alloc a => exact .alloc a
 | bsliceV a b c => exact .bsliceV a b c
 | bsliceO a b c d => exact .bsliceO a b c d
 | app0 a b c d e => exact .app0 a b c d e
 | pcall a b => exact .pcall a b
 | pcallv a b c d => exact .pcallv a b c d
 | lenM hx ht => simp [EOp.rank] at hrk
 | isnilT hx => simp [EOp.rank] at hrk
 | isnilF hx _ => simp [EOp.rank] at hrk
 | faddrM hx ht => simp [EOp.rank] at hrk
 | iaddrM hx ht hi h0 h1 => simp [EOp.rank] at hrk
 | loadM hx ht hl hv => simp [EOp.rank] at hrk
 | bsliceM a b c d => exact .bsliceM a b c d
 | mkM a b c d e f => exact .mkM a b c d e f
 | appM0 hx hy hb hm h0 => simp [EOp.rank] at hrk
 | pcallM' a b => exact .pcallM' a b
 | pcall' a b => exact .pcall' a b
 | pcallv' a b c d => exact .pcallv' a b c d
def refOf (op : EOp) (env : Env) : Nat :=
 match op with
 | .load _ _ x => match x.ev env with | .ptr b _ => b | _ => 0
 | .loadD _ _ _ x => match x.ev env with | .ptr b _ => b | _ => 0
 | .append _ _ _ x _ => match x.ev env with | .own t _ _ => t | _ => 0
 | _ => 0
theorem desc_down {P : Program} {op : EOp} {env : Env} {H H' : AHeap} {d : D} (hrk : op.rank ≤ 2) (h : H'.blk (refOf op env) = H.blk (refOf op env)) (hd : Desc P op env H' d) : Desc P op env H d := by
 cases hd with
 | pure hp =>
  refine .pure ?_
  cases op <;> try exact hp
  ·rename_i agg n x
   simp only [peval, refOf] at hp h ⊢
   split at hp
   ·rename_i b o e
    simp only [e] at h
    rw [← h]
    exact hp
   ·exact hp
   ·cases hp
  ·rename_i me agg n x
   simp only [peval, refOf] at hp h ⊢
   split at hp
   ·rename_i b b' o e1 e2
    simp only [e2] at h
    rw [← h]
    exact hp
   ·cases hp
 | quo a b c => exact .quo a b c
 | rem a b c => exact .rem a b c
 | cat a b c => exact .cat a b c
 | idxV a b c d => exact .idxV a b c d
 | idxO a b c d => exact .idxO a b c d
 | idxM a b c d => exact .idxM a b c d
 | idxP a b c d => exact .idxP a b c d
 | idxR a b c d => exact .idxR a b c d
 | idxA a b c d e f => exact .idxA a b c d e f
 | idxS a b c d => exact .idxS a b c d
 | slS a b c d e => exact .slS a b c d e
 | slV a b c d e => exact .slV a b c d e
 | convBS a => exact .convBS a
 | box a => exact .box a
 | alloc a => exact .alloc a
 | bsliceV a b c => exact .bsliceV a b c
 | bsliceO a b c d => exact .bsliceO a b c d
 | app0 a b c d e => exact .app0 a b c d e
 | pcall a b => exact .pcall a b
 | pcallv a b c d => exact .pcallv a b c d
 | lenM hx ht => simp [EOp.rank] at hrk
 | isnilT hx => simp [EOp.rank] at hrk
 | isnilF hx _ => simp [EOp.rank] at hrk
 | faddrM hx ht => simp [EOp.rank] at hrk
 | iaddrM hx ht hi h0 h1 => simp [EOp.rank] at hrk
 | loadM hx ht hl hv => simp [EOp.rank] at hrk
 | bsliceM a b c d => exact .bsliceM a b c d
 | mkM a b c d e f => exact .mkM a b c d e f
 | appM0 hx hy hb hm h0 => simp [EOp.rank] at hrk
 | pcallM' a b => exact .pcallM' a b
 | pcall' a b => exact .pcall' a b
 | pcallv' a b c d => exact .pcallv' a b c d
inductive X where
 | d (d : D)
 | app (t T size : Nat) (rows new : List (List AV))
def X.fresh : X → Nat → AHeap → Prop
 | .d e, n, H => e.fresh n H
 | .app .., _, _ => True
def X.val : X → Nat → AV
 | .d e, n => e.val n
 | .app t _ size rows new, _ => .own t size (rows ++ new)
def X.heap : X → AHeap → Nat → AHeap
 | .d e, H, n => e.heap H n
 | .app t T size rows new, H, _ => H.setT t (.frz T size (rows.length + new.length))
def X.ok : X → AHeap → Prop
 | .d _, _ => True
 | .app t T size rows _, H => H.tok t = some (.frz T size rows.length)
inductive DescX (P : Program) (i : EI) (env : Env) (H : AHeap) : X → Prop
 | skip (hw : wanted i env = some false) : DescX P i env H (.d (.det .undef))
 | d {d} (hw : wanted i env = some true) (hd : Desc P i.op env H d) : DescX P i env H (.d d)
 | app {T size bytes x y t rows new} (hw : wanted i env = some true) (ho : i.op = .append T size bytes x y) (hx : x.ev env = .own t size rows) (hy : rowsOf size (y.ev env) = some new) (hb : (rows.length + new.length) * bytes ≤ 140737488355328) (hm : rows.length + new.length ≤ maxLen) : DescX P i env H (.app t T size rows new)
theorem gstep_iff {P : Program} {i : EI} {env : Env} {H : AHeap} {K Rp : AV → AHeap → Prop} (hr : i.op.rank ≤ 2) : GStep P i env H K Rp ↔ ∃ x, DescX P i env H x ∧ x.ok H ∧ ∀ n, x.fresh n H → K (x.val n) (x.heap H n) := by
 constructor
 ·intro h
  unfold GStep at h
  split at h
  ·rename_i hw
   generalize ho : i.op = op at h hr
   cases h with
   | sw d hd hh => exact ⟨.d d, .d hw (ho ▸ hd), trivial, hh⟩
   | append hx ht hy hb hm hh => exact ⟨.app _ _ _ _ _, .app hw ho hx hy hb hm, ht, fun _ _ => hh⟩
   | store => simp [EOp.rank] at hr
   | call => simp [EOp.rank] at hr
   | callv => simp [EOp.rank] at hr
   | callvB => simp [EOp.rank] at hr
   | callD => simp [EOp.rank] at hr
   | slAF => simp [EOp.rank] at hr
   | panic => simp [EOp.rank] at hr
   | appendM => simp [EOp.rank] at hr
   | slM => simp [EOp.rank] at hr
   | isnilU => simp [EOp.rank] at hr
   | storeM => simp [EOp.rank] at hr
   | storeD => simp [EOp.rank] at hr
  ·rename_i hw
   exact ⟨.d (.det .undef), .skip hw, trivial, fun _ _ => h⟩
  ·exact h.elim
 ·rintro ⟨x, hd, hok, hh⟩
  unfold GStep
  cases hd with
  | skip hw => rw [hw]; exact hh 0 trivial
  | d hw hd => rw [hw]; exact .sw _ hd hh
  | app hw ho hx hy hb hm => rw [hw, ho]; exact .append hx hok hy hb hm (hh 0 trivial)
theorem descX_congr {P : Program} {i : EI} {env env' : Env} {H : AHeap} {x : X} (h : Agree i env env') (hd : DescX P i env H x) : DescX P i env' H x := by
 have hw := wanted_congr h
 cases hd with
 | skip h1 => exact .skip (hw ▸ h1)
 | d h1 h2 => exact .d (hw ▸ h1) (desc_congr h.1 h2)
 | app h1 ho hx hy hb hm =>
  rename_i T size bytes x y t rows new
  have e1 := h.1 x (by simp [ho, EOp.opds])
  have e2 := h.1 y (by simp [ho, EOp.opds])
  exact .app (hw ▸ h1) ho (e1 ▸ hx) (e2 ▸ hy) hb hm
theorem descX_up {P : Program} {i : EI} {env : Env} {H H' : AHeap} {x : X} (hrk : i.op.rank ≤ 2) (h : HLe H H') (hd : DescX P i env H x) : DescX P i env H' x := by
 cases hd with
 | skip h1 => exact .skip h1
 | d h1 h2 => exact .d h1 (desc_up hrk h h2)
 | app h1 ho hx hy hb hm => exact .app h1 ho hx hy hb hm
theorem descX_down {P : Program} {i : EI} {env : Env} {H H' : AHeap} {x : X} (hrk : i.op.rank ≤ 2) (h : H'.blk (refOf i.op env) = H.blk (refOf i.op env)) (hd : DescX P i env H' x) : DescX P i env H x := by
 cases hd with
 | skip h1 => exact .skip h1
 | d h1 h2 => exact .d h1 (desc_down hrk h h2)
 | app h1 ho hx hy hb hm => exact .app h1 ho hx hy hb hm
theorem descX_unique {P : Program} {i : EI} {env : Env} {H : AHeap} {x x' : X} (hr : i.op.rank ≤ 2) (h : DescX P i env H x) (k : DescX P i env H x') : x = x' := by
 cases h with
 | skip h1 =>
  cases k with
  | skip => rfl
  | d k1 => rw [h1] at k1; cases k1
  | app k1 => rw [h1] at k1; cases k1
 | d h1 h2 =>
  cases k with
  | skip k1 => rw [h1] at k1; cases k1
  | d k1 k2 => rw [desc_unique hr h2 k2]
  | app k1 ho hx hy hb hm =>
   rw [ho] at h2
   cases h2 with
   | pure hp => simp [peval] at hp
   | app0 hx' => rw [hx] at hx'; cases hx'
 | app h1 ho hx hy hb hm =>
  cases k with
  | skip k1 => rw [h1] at k1; cases k1
  | d k1 k2 =>
   rw [ho] at k2
   cases k2 with
   | pure hp => simp [peval] at hp
   | app0 hx' => rw [hx] at hx'; cases hx'
  | app k1 ho' hx' hy' hb' hm' =>
   rw [ho] at ho'
   simp at ho'
   obtain ⟨rfl, rfl, _, rfl, rfl⟩ := ho'
   rw [hx] at hx'
   simp at hx'
   obtain ⟨rfl, rfl⟩ := hx'
   rw [hy] at hy'
   simp at hy'
   subst hy'
   rfl
theorem fin_fresh {H : AHeap} (h : HFin H) (M : Nat) (x : X) : ∃ n, M < n ∧ x.fresh n H := by
 obtain ⟨N, hN⟩ := h
 refine ⟨max N (M + 1), by omega, ?_⟩
 have := hN (max N (M + 1)) (by omega)
 cases x with
 | d e => cases e <;> simp [X.fresh, D.fresh, this]
 | app => trivial
theorem hle_heap {H : AHeap} {x : X} {n : Nat} (h : x.fresh n H) : HLe H (x.heap H n) := by
 intro b y hb
 cases x with
 | d e =>
  cases e with
  | det => exact hb
  | nt => exact hb
  | nblk T cs =>
   simp only [X.fresh, D.fresh] at h
   simp only [X.heap, D.heap, AHeap.setB]
   rw [if_neg (fun e => by subst e; rw [h] at hb; cases hb)]
   exact hb
 | app => exact hb
theorem blk_heap {H : AHeap} {x : X} {n b : Nat} (h : b < n) : (x.heap H n).blk b = H.blk b := by
 cases x with
 | d e =>
  cases e with
  | det => rfl
  | nt => rfl
  | nblk T cs =>
   simp only [X.heap, D.heap, AHeap.setB]
   rw [if_neg (by omega)]
 | app => rfl
theorem fresh_down {H : AHeap} {x y : X} {n k : Nat} (hk : y.fresh k H) (h : x.fresh n (y.heap H k)) : x.fresh n H := by
 cases x with
 | d e =>
  cases e with
  | det => trivial
  | nblk T cs =>
   simp only [X.fresh, D.fresh] at h ⊢
   cases y with
   | d f =>
    cases f with
    | det => exact h
    | nt => exact h
    | nblk =>
     simp only [X.heap, D.heap, AHeap.setB] at h
     split at h
     ·cases h
     ·exact h
   | app => exact h
  | nt o v =>
   simp only [X.fresh, D.fresh] at h ⊢
   cases y with
   | d f =>
    cases f with
    | det => exact h
    | nblk => exact h
    | nt =>
     simp only [X.heap, D.heap, AHeap.setT] at h
     split at h
     ·cases h
     ·exact h
   | app =>
    simp only [X.heap, AHeap.setT] at h
    split at h
    ·cases h
    ·exact h
 | app => trivial
theorem fresh_swap {H : AHeap} {x y : X} {n k : Nat} (hx : x.ok H) (hk : y.fresh k H) (h : x.fresh n (y.heap H k)) : y.fresh k (x.heap H n) := by
 cases y with
 | d f =>
  cases f with
  | det => trivial
  | nblk T cs =>
   simp only [X.fresh, D.fresh] at hk ⊢
   cases x with
   | d e =>
    cases e with
    | det => exact hk
    | nt => exact hk
    | nblk =>
     simp only [X.fresh, D.fresh, X.heap, D.heap, AHeap.setB] at h ⊢
     by_cases e : k = n
     ·subst e; simp at h
     ·rw [if_neg e]; exact hk
   | app => exact hk
  | nt o v =>
   simp only [X.fresh, D.fresh] at hk ⊢
   cases x with
   | d e =>
    cases e with
    | det => exact hk
    | nblk => exact hk
    | nt =>
     simp only [X.fresh, D.fresh, X.heap, D.heap, AHeap.setT] at h ⊢
     by_cases e : k = n
     ·subst e; simp at h
     ·rw [if_neg e]; exact hk
   | app t T' s' rows new =>
    simp only [X.heap, AHeap.setT]
    simp only [X.ok] at hx
    rw [if_neg (fun e => by subst e; rw [hk] at hx; cases hx)]
    exact hk
 | app => trivial
theorem setB_comm {H : AHeap} {a b : Nat} {T U : TypeId} {c d : List AV} (h : a ≠ b) : (H.setB a T c).setB b U d = (H.setB b U d).setB a T c := by
 simp only [AHeap.setB, AHeap.mk.injEq, and_true]
 funext x
 by_cases e : x = b
 ·subst e; simp [Ne.symm h]
 ·simp [e]
theorem setT_comm {H : AHeap} {a b : Nat} {c d : Own} (h : a ≠ b) : (H.setT a c).setT b d = (H.setT b d).setT a c := by
 simp only [AHeap.setT, AHeap.mk.injEq, true_and]
 funext x
 by_cases e : x = b
 ·subst e; simp [Ne.symm h]
 ·simp [e]
theorem heap_swap {H : AHeap} {x y : X} {n k : Nat} (hx : x.ok H) (hy : y.ok H) (hk : y.fresh k H) (h : x.fresh n (y.heap H k)) (hn : x.fresh n H) (h2 : ∀ t T s r w t' T' s' r' w', x = .app t T s r w → y = .app t' T' s' r' w' → False) : x.heap (y.heap H k) n = y.heap (x.heap H n) k := by
 cases x with
 | d e =>
  cases e with
  | det => rfl
  | nblk T cs =>
   cases y with
   | d f =>
    cases f with
    | det => rfl
    | nt => rfl
    | nblk =>
     simp only [X.fresh, D.fresh, X.heap, D.heap, AHeap.setB] at h
     have hne : k ≠ n := fun e => by subst e; simp at h
     exact setB_comm hne
   | app => rfl
  | nt o v =>
   cases y with
   | d f =>
    cases f with
    | det => rfl
    | nblk => rfl
    | nt =>
     simp only [X.fresh, D.fresh, X.heap, D.heap, AHeap.setT] at h
     have hne : k ≠ n := fun e => by subst e; simp at h
     exact setT_comm hne
   | app t T' s' rows new =>
    simp only [X.ok] at hy
    simp only [X.fresh, D.fresh] at hn
    have hne : t ≠ n := fun e => by subst e; rw [hn] at hy; cases hy
    exact setT_comm hne
 | app t T s rows new =>
  cases y with
  | d f =>
   cases f with
   | det => rfl
   | nblk => rfl
   | nt =>
    simp only [X.ok] at hx
    simp only [X.fresh, D.fresh] at hk
    have hne : k ≠ t := fun e => by subst e; rw [hk] at hx; cases hx
    exact setT_comm hne
  | app => exact (h2 _ _ _ _ _ _ _ _ _ _ rfl rfl).elim
theorem get_put_ne {env : Env} {d : Option Nat} {v : AV} {k : Nat} (h : ∀ x, d = some x → x ≠ k) : (env.put d v).get k = env.get k := by
 cases d with
 | none => rfl
 | some x =>
  have := h x rfl
  simp only [Env.put, Env.get]
  have hb : (x == k) = false := by simpa using this
  simp [hb]
theorem put_comm {env : Env} {d e : Option Nat} {v u : AV} (h : ∀ x, d = some x → e ≠ some x) : EnvEq ((env.put d v).put e u) ((env.put e u).put d v) := by
 intro k
 cases d with
 | none => rfl
 | some x =>
  cases e with
  | none => rfl
  | some y =>
   have hne : y ≠ x := fun e => h x rfl (by rw [e])
   simp only [Env.put, Env.get]
   by_cases e1 : x = k
   ·subst e1
    have hb : (y == x) = false := by simpa using hne
    simp [hb]
   ·have hb : (x == k) = false := by simpa using e1
    simp [hb]
theorem indep_parts {i j : EI} (h : indep i j = true) : (∀ x, i.dst = some x → x ∉ j.reads ∧ j.dst ≠ some x) ∧ (∀ x, j.dst = some x → x ∉ i.reads) ∧ (cdOK i j = true ∨ (i.op.quiet = true ∧ j.op.quiet = true) ∨ (i.op.tokq = true ∧ j.op.blkOnly = true) ∨ i.op.rank = 0 ∨ (i.op.live = true ∧ j.op.rank = 0) ∨ stD i j = true ∨ (i.op.rank = 3 ∧ j.total = true) ∨ (i.op.rank ≤ 2 ∧ j.op.rank ≤ 2 ∧ ¬ (i.op.rank = 2 ∧ j.op.rank = 2))) := by
 simp only [indep, Bool.and_eq_true, Bool.or_eq_true, Bool.not_eq_true', decide_eq_true_eq, beq_iff_eq, Bool.and_eq_false_iff, beq_eq_false_iff_ne] at h
 obtain ⟨⟨h1, h2⟩, h3⟩ := h
 refine ⟨fun x hx => ?_, fun x hx => ?_, ?_⟩
 ·rw [hx] at h1
  simp at h1
  exact ⟨h1.1, h1.2⟩
 ·rw [hx] at h2
  simpa using h2
 ·rcases h3 with ((((((h3 | h3) | h3) | h3) | h3) | h3) | h3) | h3
  ·exact .inl h3
  ·exact .inr (.inr (.inr (.inl h3)))
  ·exact .inr (.inl h3)
  ·exact .inr (.inr (.inl h3))
  ·exact .inr (.inr (.inr (.inr (.inl h3))))
  ·exact .inr (.inr (.inr (.inr (.inr (.inl h3)))))
  ·exact .inr (.inr (.inr (.inr (.inr (.inr (.inl h3))))))
  ·refine .inr (.inr (.inr (.inr (.inr (.inr (.inr ⟨h3.1.1, h3.1.2, fun e => ?_⟩))))))
   rcases h3.2 with e' | e'
   ·exact e' e.1
   ·exact e' e.2
theorem agree_put {i : EI} {env : Env} {d : Option Nat} {v : AV} (h : ∀ x, d = some x → x ∉ i.reads) : Agree i env (env.put d v) :=
 agree_of_reads fun k hk => (get_put_ne fun x hx e => h x hx (e ▸ hk)).symm
theorem Agree.symm {i : EI} {e e' : Env} (h : Agree i e e') : Agree i e' e := ⟨fun x hx => (h.1 x hx).symm, fun j w hg => (h.2 j w hg).symm⟩
theorem descX_app {P : Program} {i : EI} {env : Env} {H : AHeap} {t T s : Nat} {r w : List (List AV)} (h : DescX P i env H (.app t T s r w)) : i.op.rank = 2 := by
 cases h with
 | app h1 ho => simp [ho, EOp.rank]
theorem descX_ref {P : Program} {i : EI} {env : Env} {H : AHeap} {t T s : Nat} {r w : List (List AV)} (h : DescX P i env H (.app t T s r w)) : refOf i.op env = t := by
 cases h with
 | app h1 ho hx => simp [ho, refOf, hx]
theorem rank0_det {P : Program} {i : EI} {env : Env} {H : AHeap} {x : X} (hr : i.op.rank = 0) (h : DescX P i env H x) : ∃ v, x = .d (.det v) ∧ ∀ H', DescX P i env H' x := by
 cases h with
 | skip hw => exact ⟨_, rfl, fun H' => .skip hw⟩
 | app hw ho => simp [ho, EOp.rank] at hr
 | d hw hd =>
  rename_i d
  have hdet : ∃ v, d = .det v := by
   generalize i.op = op at hd hr
   cases hd <;> first
    | exact ⟨_, rfl⟩
    | (simp [EOp.rank] at hr; done)
  obtain ⟨v, rfl⟩ := hdet
  refine ⟨v, rfl, fun H' => .d hw ?_⟩
  have hle : ∀ H1 H2 : AHeap, Desc P i.op env H1 (.det v) → Desc P i.op env H2 (.det v) := by
   intro H1 H2 hd
   generalize i.op = op at hd hr
   cases hd with
   | pure hp =>
    refine .pure ?_
    cases op <;> first
     | exact hp
     | (simp [EOp.rank] at hr; done)
   | quo a b c => exact .quo a b c
   | rem a b c => exact .rem a b c
   | cat a b c => exact .cat a b c
   | idxV a b c d => exact .idxV a b c d
   | idxO a b c d => exact .idxO a b c d
   | idxM a b c d => exact .idxM a b c d
   | idxP a b c d => exact .idxP a b c d
   | idxR a b c d => exact .idxR a b c d
   | idxA a b c d e f => exact .idxA a b c d e f
   | idxS a b c d => exact .idxS a b c d
   | slS a b c d e => exact .slS a b c d e
   | slV a b c d e => exact .slV a b c d e
   | convBS a => exact .convBS a
   | bsliceV a b c => exact .bsliceV a b c
   | pcall a b => exact .pcall a b
   | pcallv a b c d => exact .pcallv a b c d
   | lenM => simp [EOp.rank] at hr
   | isnilT => simp [EOp.rank] at hr
   | isnilF => simp [EOp.rank] at hr
   | faddrM => simp [EOp.rank] at hr
   | iaddrM => simp [EOp.rank] at hr
   | loadM => simp [EOp.rank] at hr
   | pcall' a b => exact .pcall' a b
   | pcallv' a b c d => exact .pcallv' a b c d
  exact hle H H' hd
theorem total_step {P : Program} {j : EI} (h : j.total = true) (env : Env) (H : AHeap) : ∃ v, DescX P j env H (.d (.det v)) ∧ ∀ env', Agree j env env' → ∀ H', DescX P j env' H' (.d (.det v)) := by
 simp only [EI.total, Bool.and_eq_true, Option.isNone_iff_eq_none] at h
 obtain ⟨h1, h2⟩ := h
 have hw : ∀ env, wanted j env = some true := fun env => by simp [wanted, h1]
 have hv : ∃ v, ∀ H, peval j.op env H = some v := by
  split at h2 <;> first
   | (rename_i e; rw [e]; exact ⟨_, fun _ => rfl⟩)
   | cases h2
 obtain ⟨v, hv⟩ := hv
 exact ⟨v, .d (hw env) (.pure (hv H)), fun env' ha H' => .d (hw env') (.pure ((peval_congr H' ha.1).symm.trans (hv H')))⟩
theorem fin_heap {H : AHeap} {x : X} {n : Nat} (h : HFin H) : HFin (x.heap H n) := by
 obtain ⟨N, hN⟩ := h
 cases x with
 | d e =>
  cases e with
  | det => exact ⟨N, hN⟩
  | nblk T cs =>
   refine ⟨max N (n + 1), fun k hk => ?_⟩
   have := hN k (by omega)
   simp only [X.heap, D.heap, AHeap.setB]
   rw [if_neg (by omega)]
   exact this
  | nt o v =>
   refine ⟨max N (n + 1), fun k hk => ?_⟩
   have := hN k (by omega)
   simp only [X.heap, D.heap, AHeap.setT]
   rw [if_neg (by omega)]
   exact this
 | app t T s r w =>
  refine ⟨max N (t + 1), fun k hk => ?_⟩
  have := hN k (by omega)
  simp only [X.heap, AHeap.setT]
  rw [if_neg (by omega)]
  exact this
theorem live_out {P : Program} {i : EI} {env : Env} {H : AHeap} {K Rp : AV → AHeap → Prop} (hl : i.op.live = true) (hF : HFin H) (h : GStep P i env H K Rp) : ∃ O : AV → AHeap → Prop, (∃ v H', O v H' ∧ HFin H') ∧ (∀ v H', O v H' → K v H') ∧ ∀ env', Agree i env env' → ∀ K' : AV → AHeap → Prop, (∀ v H', O v H' → K' v H') → GStep P i env' H K' Rp := by
 unfold GStep at h
 split at h
 ·rename_i hw
  have key : ∀ {op : EOp}, op.live = true → IStep P op env H K Rp → ∃ O : AV → AHeap → Prop, (∃ v H', O v H' ∧ HFin H') ∧ (∀ v H', O v H' → K v H') ∧ ∀ K' : AV → AHeap → Prop, (∀ v H', O v H' → K' v H') → IStep P op env H K' Rp := by
   intro op hl h
   cases h with
   | sw d hd hh =>
    obtain ⟨n, _, hn⟩ := fin_fresh hF 0 (.d d)
    exact ⟨fun v H' => ∃ x, d.fresh x H ∧ v = d.val x ∧ H' = d.heap H x, ⟨_, _, ⟨n, hn, rfl, rfl⟩, fin_heap (x := .d d) hF⟩, fun v H' ⟨x, h1, h2, h3⟩ => by subst h2; subst h3; exact hh x h1, fun K' hk => .sw d hd fun x hx => hk _ _ ⟨x, hx, rfl, rfl⟩⟩
   | store ha hb hn hl' ho hh =>
    rename_i n a v b o T cs
    exact ⟨fun v' H' => v' = .undef ∧ H' = H.setB b T (setRange cs o (v.ev env).cells), ⟨_, _, ⟨rfl, rfl⟩, fin_heap (x := .d (.nblk T _)) (n := b) hF⟩, fun v' H' ⟨h1, h2⟩ => by subst h1; subst h2; exact hh, fun K' hk => .store ha hb hn hl' ho (hk _ _ ⟨rfl, rfl⟩)⟩
   | appendM hx ht hy hb hm hh =>
    rename_i T size bytes x y t ver rows new
    exact ⟨fun v' H' => v' = .ms t (ver + 1) ∧ H' = H.setT t (.mu T size (ver + 1) (rows ++ new)), ⟨_, _, ⟨rfl, rfl⟩, fin_heap (x := .d (.nt _ fun _ => .top)) (n := t) hF⟩, fun v' H' ⟨h1, h2⟩ => by subst h1; subst h2; exact hh, fun K' hk => .appendM hx ht hy hb hm (hk _ _ ⟨rfl, rfl⟩)⟩
   | slM hx ht hl' hh' h1 hh =>
    rename_i size x lo hi t ver T rows h
    exact ⟨fun v' H' => v' = .ms t (ver + 1) ∧ H' = H.setT t (.mu T size (ver + 1) (rows.take h)), ⟨_, _, ⟨rfl, rfl⟩, fin_heap (x := .d (.nt _ fun _ => .top)) (n := t) hF⟩, fun v' H' ⟨h1, h2⟩ => by subst h1; subst h2; exact hh, fun K' hk => .slM hx ht hl' hh' h1 (hk _ _ ⟨rfl, rfl⟩)⟩
   | storeD hme hoth ha hb hn hl' ho hh =>
    rename_i me others n a v b o T cs
    exact ⟨fun v' H' => v' = .undef ∧ H' = H.setB b T (setRange cs o (v.ev env).cells), ⟨_, _, ⟨rfl, rfl⟩, fin_heap (x := .d (.nblk T _)) (n := b) hF⟩, fun v' H' ⟨h1, h2⟩ => by subst h1; subst h2; exact hh, fun K' hk => .storeD hme hoth ha hb hn hl' ho (hk _ _ ⟨rfl, rfl⟩)⟩
   | storeM ha ht hn hl' ho hf hr hlen hh =>
    rename_i n a v t ver k T size rows rows'
    exact ⟨fun v' H' => v' = .undef ∧ H' = H.setT t (.mu T size ver rows'), ⟨_, _, ⟨rfl, rfl⟩, fin_heap (x := .d (.nt _ fun _ => .top)) (n := t) hF⟩, fun v' H' ⟨h1, h2⟩ => by subst h1; subst h2; exact hh, fun K' hk => .storeM ha ht hn hl' ho hf hr hlen (hk _ _ ⟨rfl, rfl⟩)⟩
   | isnilU => simp [EOp.live] at hl
   | append => simp [EOp.live] at hl
   | call => simp [EOp.live] at hl
   | callv => simp [EOp.live] at hl
   | callvB => simp [EOp.live] at hl
   | callD => simp [EOp.live] at hl
   | slAF => simp [EOp.live] at hl
   | panic => simp [EOp.live] at hl
  obtain ⟨O, h1, h2, h3⟩ := key hl h
  refine ⟨O, h1, h2, fun env' ha K' hk => ?_⟩
  unfold GStep
  rw [← wanted_congr ha, hw]
  exact istep_congr ha.1 (fun _ _ h => h) (fun _ _ h => h) (h3 K' hk)
 ·rename_i hw
  refine ⟨fun v H' => v = .undef ∧ H' = H, ⟨_, _, ⟨rfl, rfl⟩, hF⟩, fun v H' ⟨h1, h2⟩ => by subst h1; subst h2; exact h, fun env' ha K' hk => ?_⟩
  unfold GStep
  rw [← wanted_congr ha, hw]
  exact hk _ _ ⟨rfl, rfl⟩
 ·exact h.elim
theorem stInfo_of {i : EI} {me : Nat} {o : List Nat} (h : i.stInfo = some (true, me, o)) : i.guard = none ∧ ∃ n a v, i.op = .storeD me o n a v := by
 unfold EI.stInfo at h
 split at h
 ·rename_i hg ho
  simp at h
  obtain ⟨rfl, rfl⟩ := h
  exact ⟨hg, _, _, _, ho⟩
 ·simp at h
 ·cases h
theorem ldInfo_of {i : EI} {me : Nat} {o : List Nat} (h : i.stInfo = some (false, me, o)) : i.guard = none ∧ ∃ g n a, i.op = .loadD me g n a := by
 unfold EI.stInfo at h
 split at h
 ·simp at h
 ·rename_i hg ho
  simp at h
  obtain ⟨rfl, rfl⟩ := h
  exact ⟨hg, _, _, _, ho⟩
 ·cases h
theorem stD_swap {P : Program} {i j : EI} {env : Env} {H : AHeap} {C : Env → AHeap → Prop} {Rp : AV → AHeap → Prop} (hC : ∀ e e' H, EnvEq e e' → C e H → C e' H) (hF : HFin H) (p1 : ∀ x, i.dst = some x → x ∉ j.reads ∧ j.dst ≠ some x) (p2 : ∀ x, j.dst = some x → x ∉ i.reads) (hs : stD i j = true)
  (h : GStep P i env H (fun v H1 => HFin H1 → GStep P j (env.put i.dst v) H1 (fun u H2 => HFin H2 → C ((env.put i.dst v).put j.dst u) H2) Rp) Rp) :
  GStep P j env H (fun u H1 => HFin H1 → GStep P i (env.put j.dst u) H1 (fun v H2 => HFin H2 → C ((env.put j.dst u).put i.dst v) H2) Rp) Rp := by
 have aj : ∀ v, Agree j env (env.put i.dst v) := fun v => agree_put fun x hx => (p1 x hx).1
 have ai : ∀ v, Agree i env (env.put j.dst v) := fun v => agree_put p2
 have pc : ∀ v u, EnvEq ((env.put i.dst v).put j.dst u) ((env.put j.dst u).put i.dst v) := fun v u => put_comm fun x hx => (p1 x hx).2
 unfold stD at hs
 split at hs
 ·rename_i m1 o1 m2 o2 e1 e2
  obtain ⟨g1, n1, a1, v1, q1⟩ := stInfo_of e1
  obtain ⟨g2, n2, a2, v2, q2⟩ := stInfo_of e2
  have wi : ∀ env, wanted i env = some true := fun env => by simp [wanted, g1]
  have wj : ∀ env, wanted j env = some true := fun env => by simp [wanted, g2]
  simp only [GStep, wi, q1] at h
  cases h with
  | sw d hd _ => cases hd with
   | pure hp => simp [peval] at hp
  | storeD hme hoth ha hb hn hl ho hh =>
   rename_i b o T cs
   obtain ⟨b', hb1, hb2⟩ := hoth m2 (by simpa using hs)
   have hF1 : HFin (H.setB b T (setRange cs o (v1.ev env).cells)) := fin_heap (x := .d (.nblk T _)) (n := b) hF
   have h2 := hh hF1
   simp only [GStep, wj, q2] at h2
   have hag : ∀ x ∈ (EOp.storeD m2 o2 n2 a2 v2).opds, x.ev env = x.ev (env.put i.dst .undef) := fun x hx => (aj .undef).1 x (by rw [q2]; exact hx)
   cases h2 with
   | sw d hd _ => cases hd with
    | pure hp => simp [peval] at hp
   | storeD hme2 hoth2 ha2 hbb2 hn2 hl2 ho2 hh2 =>
    rename_i c oc Tc csc
    have ec := (hag (.t m2) (by simp [EOp.opds])).trans hme2
    simp only [EOpd.ev] at ec
    rw [hb1] at ec
    have hcb : b' = c := by simpa using ec
    subst hcb
    have hvx := hag v2 (by simp [EOp.opds])
    have hblk : H.blk b' = some (Tc, csc) := by
     simp only [AHeap.setB] at hbb2
     rwa [if_neg hb2] at hbb2
    simp only [GStep, wj, q2]
    refine .storeD hb1 (fun s hs' => ?_) ((hag a2 (by simp [EOp.opds])).trans ha2) hblk (by rw [hvx]; exact hn2) hl2 (by rw [hvx]; exact ho2) fun hf => ?_
    ·obtain ⟨y, y1, y2⟩ := hoth2 s hs'
     exact ⟨y, (hag (.t s) (by simp [EOp.opds]; exact .inr (.inr (.inr hs')))).trans y1, y2⟩
    ·have hai : ∀ x ∈ (EOp.storeD m1 o1 n1 a1 v1).opds, x.ev env = x.ev (env.put j.dst .undef) := fun x hx => (ai .undef).1 x (by rw [q1]; exact hx)
     have hvy := hai v1 (by simp [EOp.opds])
     simp only [GStep, wi, q1]
     refine .storeD ((hai (.t m1) (by simp [EOp.opds])).symm.trans hme) (fun s hs' => ?_) ((hai a1 (by simp [EOp.opds])).symm.trans ha) (T := T) (cs := cs) ?_ (by rw [← hvy]; exact hn) hl (by rw [← hvy]; exact ho) fun hf' => ?_
     ·obtain ⟨y, y1, y2⟩ := hoth s hs'
      exact ⟨y, (hai (.t s) (by simp [EOp.opds]; exact .inr (.inr (.inr hs')))).symm.trans y1, y2⟩
     ·simp only [AHeap.setB]
      rw [if_neg (Ne.symm hb2)]
      exact hb
     ·refine hC _ _ _ (pc .undef .undef) ?_
      rw [← hvy, hvx, setB_comm hb2]
      rw [hvx, ← hvy, setB_comm hb2] at hf'
      exact hh2 (by rw [← hvx]; rw [← hvx] at hf'; rw [setB_comm (Ne.symm hb2)] at hf'; rw [setB_comm (Ne.symm hb2)]; exact hf')
 ·rename_i m1 o1 m2 o2 e1 e2
  obtain ⟨g1, ag, n1, a1, q1⟩ := ldInfo_of e1
  obtain ⟨g2, n2, a2, v2, q2⟩ := stInfo_of e2
  have wi : ∀ env, wanted i env = some true := fun env => by simp [wanted, g1]
  have wj : ∀ env, wanted j env = some true := fun env => by simp [wanted, g2]
  simp only [GStep, wi, q1] at h
  cases h with
  | sw d hd hh => cases hd with
   | pure hp =>
    rename_i r
    have h2 := hh 0 trivial hF
    simp only [D.val, D.heap, GStep, wj, q2] at h2
    obtain ⟨hp1, b, o, hm, hx⟩ := peval_loadD hp
    have hag : ∀ x ∈ (EOp.storeD m2 o2 n2 a2 v2).opds, x.ev env = x.ev (env.put i.dst r) := fun x hx => (aj r).1 x (by rw [q2]; exact hx)
    cases h2 with
    | sw d hd _ => cases hd with
     | pure hp => simp [peval] at hp
    | storeD hme hoth ha hb hn hl ho hh2 =>
     rename_i c oc Tc csc
     have hvx := hag v2 (by simp [EOp.opds])
     simp only [GStep, wj, q2]
     have hbc : c ≠ b := by
      obtain ⟨y, y1, y2⟩ := hoth m1 (by simpa using hs)
      have e := (hag (.t m1) (by simp [EOp.opds]; exact .inr (.inr (.inr (by simpa using hs))))).trans y1
      simp only [EOpd.ev] at e
      rw [hm] at e
      have : b = y := by simpa using e
      subst this
      exact Ne.symm y2
     refine .storeD ((hag (.t m2) (by simp [EOp.opds])).trans hme) (fun s hs' => ?_) ((hag a2 (by simp [EOp.opds])).trans ha) hb (by rw [hvx]; exact hn) hl (by rw [hvx]; exact ho) fun hf => ?_
     ·obtain ⟨y, y1, y2⟩ := hoth s hs'
      exact ⟨y, (hag (.t s) (by simp [EOp.opds]; exact .inr (.inr (.inr hs')))).trans y1, y2⟩
     ·have hai : ∀ x ∈ (EOp.loadD m1 ag n1 a1).opds, x.ev env = x.ev (env.put j.dst .undef) := fun x hx => (ai .undef).1 x (by rw [q1]; exact hx)
      simp only [GStep, wi, q1]
      refine .sw (.det r) (.pure ?_) fun n _ hf' => ?_
      ·have e1 := hai (.t m1) (by simp [EOp.opds])
       have e2 := hai a1 (by simp [EOp.opds])
       refine peval_loadD' ?_ (e1.symm.trans hm) (e2.symm.trans hx)
       simp only [peval, hx] at hp1
       simp only [peval, e2.symm.trans hx, AHeap.setB]
       rw [if_neg (Ne.symm hbc)]
       exact hp1
      ·refine hC _ _ _ (pc r .undef) ?_
       rw [hvx]
       exact hh2 (by rw [← hvx]; exact hf)
 ·cases hs
theorem quiet_out {P : Program} {op : EOp} {env : Env} {H : AHeap} {K Rp : AV → AHeap → Prop} (hq : op.quiet = true) (h : IStep P op env H K Rp) : ∃ v, Desc P op env H (.det v) ∧ K v H := by
 cases h with
 | sw d hd hh =>
  cases hd with
  | pure h => exact ⟨_, .pure h, hh 0 trivial⟩
  | lenM a b => exact ⟨_, .lenM a b, hh 0 trivial⟩
  | faddrM a b => exact ⟨_, .faddrM a b, hh 0 trivial⟩
  | iaddrM a b c d e => exact ⟨_, .iaddrM a b c d e, hh 0 trivial⟩
  | loadM a b c d => exact ⟨_, .loadM a b c d, hh 0 trivial⟩
  | quo a b c => exact ⟨_, .quo a b c, hh 0 trivial⟩
  | rem a b c => exact ⟨_, .rem a b c, hh 0 trivial⟩
  | cat a b c => exact ⟨_, .cat a b c, hh 0 trivial⟩
  | idxV a b c d => exact ⟨_, .idxV a b c d, hh 0 trivial⟩
  | idxO a b c d => exact ⟨_, .idxO a b c d, hh 0 trivial⟩
  | idxM a b c d => exact ⟨_, .idxM a b c d, hh 0 trivial⟩
  | idxP a b c d => exact ⟨_, .idxP a b c d, hh 0 trivial⟩
  | idxR a b c d => exact ⟨_, .idxR a b c d, hh 0 trivial⟩
  | idxA a b c d e f => exact ⟨_, .idxA a b c d e f, hh 0 trivial⟩
  | idxS a b c d => exact ⟨_, .idxS a b c d, hh 0 trivial⟩
  | slS a b c d e => exact ⟨_, .slS a b c d e, hh 0 trivial⟩
  | slV a b c d e => exact ⟨_, .slV a b c d e, hh 0 trivial⟩
  | _ => simp [EOp.quiet, EOp.rank] at hq
 | _ => simp [EOp.quiet, EOp.rank] at hq
theorem gquiet {P : Program} {i : EI} {env : Env} {H : AHeap} {K Rp : AV → AHeap → Prop} (hq : i.op.quiet = true) (h : GStep P i env H K Rp) : ∃ v, K v H ∧ ∀ env', Agree i env env' → ∀ K' : AV → AHeap → Prop, K' v H → GStep P i env' H K' Rp := by
 unfold GStep at h
 split at h
 ·rename_i hw
  obtain ⟨v, h1, h2⟩ := quiet_out hq h
  refine ⟨v, h2, fun env' ha K' hk => ?_⟩
  unfold GStep
  rw [← wanted_congr ha, hw]
  exact istep_congr ha.1 (fun _ _ h => h) (fun _ _ h => h) (.sw (.det v) h1 fun _ _ => hk)
 ·rename_i hw
  refine ⟨_, h, fun env' ha K' hk => ?_⟩
  unfold GStep
  rw [← wanted_congr ha, hw]
  exact hk
 ·exact h.elim
theorem desc_tok {P : Program} {op : EOp} {env : Env} {H H' : AHeap} {d : D} (hq : op.tokq = true) (h : Desc P op env H d) (ht : H'.tok = H.tok) : Desc P op env H' d := by
 cases h with
 | lenM a b => exact .lenM a (by rw [ht]; exact b)
 | faddrM a b => exact .faddrM a (by rw [ht]; exact b)
 | iaddrM a b c d e => exact .iaddrM a (by rw [ht]; exact b) c d e
 | loadM a b c d => exact .loadM a (by rw [ht]; exact b) c d
 | pure h =>
  cases op with
  | lenM => simp [peval] at h
  | iaddrM => simp [peval] at h
  | loadM => simp [peval] at h
  | faddrM => simp [peval] at h
  | _ => simp [EOp.tokq] at hq
 | _ => simp [EOp.tokq] at hq
theorem gtokq {P : Program} {i : EI} {env : Env} {H : AHeap} {K Rp : AV → AHeap → Prop} (hq : i.op.tokq = true) (h : GStep P i env H K Rp) : ∃ v, K v H ∧ ∀ env' H', Agree i env env' → H'.tok = H.tok → ∀ K' : AV → AHeap → Prop, K' v H' → GStep P i env' H' K' Rp := by
 have hq2 : i.op.quiet = true := by
  cases ho : i.op <;> rw [ho] at hq <;> simp [EOp.tokq] at hq <;> simp [EOp.quiet]
 unfold GStep at h
 split at h
 ·rename_i hw
  obtain ⟨v, h1, h2⟩ := quiet_out hq2 h
  refine ⟨v, h2, fun env' H' ha ht K' hk => ?_⟩
  unfold GStep
  rw [← wanted_congr ha, hw]
  exact istep_congr ha.1 (fun _ _ h => h) (fun _ _ h => h) (.sw (.det v) (desc_tok hq h1 ht) fun _ _ => hk)
 ·rename_i hw
  refine ⟨_, h, fun env' H' ha ht K' hk => ?_⟩
  unfold GStep
  rw [← wanted_congr ha, hw]
  exact hk
 ·exact h.elim
theorem blk_out {P : Program} {i : EI} {env : Env} {H : AHeap} {K Rp : AV → AHeap → Prop} (hl : i.op.blkOnly = true) (h : GStep P i env H K Rp) : ∃ O : AV → AHeap → Prop, (∀ v H', O v H' → K v H' ∧ H'.tok = H.tok) ∧ ∀ env', Agree i env env' → ∀ K' : AV → AHeap → Prop, (∀ v H', O v H' → K' v H') → GStep P i env' H K' Rp := by
 unfold GStep at h
 split at h
 ·rename_i hw
  have key : ∀ {op : EOp}, op.blkOnly = true → IStep P op env H K Rp → ∃ O : AV → AHeap → Prop, (∀ v H', O v H' → K v H' ∧ H'.tok = H.tok) ∧ ∀ K' : AV → AHeap → Prop, (∀ v H', O v H' → K' v H') → IStep P op env H K' Rp := by
   intro op hl h
   cases h with
   | sw d hd hh =>
    refine ⟨fun v H' => ∃ x, d.fresh x H ∧ v = d.val x ∧ H' = d.heap H x, fun v H' ⟨x, h1, h2, h3⟩ => ?_, fun K' hk => .sw d hd fun x hx => hk _ _ ⟨x, hx, rfl, rfl⟩⟩
    subst h2
    subst h3
    refine ⟨hh x h1, ?_⟩
    cases hd with
    | alloc => rfl
    | pure h => rfl
    | _ => simp [EOp.blkOnly] at hl
   | storeD hme hoth ha hb hn hl' ho hh =>
    rename_i me others n a v b o T cs
    exact ⟨fun v' H' => v' = .undef ∧ H' = H.setB b T (setRange cs o (v.ev env).cells), fun v' H' ⟨h1, h2⟩ => by subst h1; subst h2; exact ⟨hh, rfl⟩, fun K' hk => .storeD hme hoth ha hb hn hl' ho (hk _ _ ⟨rfl, rfl⟩)⟩
   | _ => simp [EOp.blkOnly] at hl
  obtain ⟨O, h1, h2⟩ := key hl h
  refine ⟨O, h1, fun env' ha K' hk => ?_⟩
  unfold GStep
  rw [← wanted_congr ha, hw]
  exact istep_congr ha.1 (fun _ _ h => h) (fun _ _ h => h) (h2 K' hk)
 ·rename_i hw
  refine ⟨fun v H' => v = .undef ∧ H' = H, fun v H' ⟨h1, h2⟩ => by subst h1; subst h2; exact ⟨h, rfl⟩, fun env' ha K' hk => ?_⟩
  unfold GStep
  rw [← wanted_congr ha, hw]
  exact hk _ _ ⟨rfl, rfl⟩
 ·exact h.elim
theorem rd_det {P : Program} {i : EI} {env : Env} {H : AHeap} {x : X} {y : Option (List Nat) × Option Nat} {o : List Nat} (hi : i.cdInfo = some y) (hr : rdOK o (some y) = true) (h : DescX P i env H x) :
  ∃ v, x = .d (.det v) ∧ ∀ H', (∀ s ∈ o, ∀ b, env.get s = .ptr b 0 → H'.blk b = H.blk b) → DescX P i env H' x := by
 have key : ∀ (op : EOp), op.still = true → ∀ d, Desc P op env H d → ∃ v, d = .det v ∧ ∀ H', Desc P op env H' d := by
  intro op hs d hd
  cases hd with
  | pure hp =>
   refine ⟨_, rfl, fun H' => .pure ?_⟩
   cases op <;> first
    | exact hp
    | (simp [EOp.still, EOp.rank] at hs; done)
  | quo a b c => exact ⟨_, rfl, fun _ => .quo a b c⟩
  | rem a b c => exact ⟨_, rfl, fun _ => .rem a b c⟩
  | cat a b c => exact ⟨_, rfl, fun _ => .cat a b c⟩
  | idxV a b c d => exact ⟨_, rfl, fun _ => .idxV a b c d⟩
  | idxO a b c d => exact ⟨_, rfl, fun _ => .idxO a b c d⟩
  | idxM a b c d => exact ⟨_, rfl, fun _ => .idxM a b c d⟩
  | idxP a b c d => exact ⟨_, rfl, fun _ => .idxP a b c d⟩
  | idxR a b c d => exact ⟨_, rfl, fun _ => .idxR a b c d⟩
  | idxA a b c d e f => exact ⟨_, rfl, fun _ => .idxA a b c d e f⟩
  | idxS a b c d => exact ⟨_, rfl, fun _ => .idxS a b c d⟩
  | slS a b c d e => exact ⟨_, rfl, fun _ => .slS a b c d e⟩
  | slV a b c d e => exact ⟨_, rfl, fun _ => .slV a b c d e⟩
  | convBS a => exact ⟨_, rfl, fun _ => .convBS a⟩
  | bsliceV a b c => exact ⟨_, rfl, fun _ => .bsliceV a b c⟩
  | pcall' a b => exact ⟨_, rfl, fun _ => .pcall' a b⟩
  | pcallv' a b c d => exact ⟨_, rfl, fun _ => .pcallv' a b c d⟩
  | _ => simp [EOp.still, EOp.rank] at hs
 unfold EI.cdInfo at hi
 split at hi
 ·simp at hi; subst hi; simp [rdOK] at hr
 ·rename_i me agg n x hg ho
  simp at hi
  subst hi
  have hme : me ∈ o := by simpa [rdOK] using hr
  cases h with
  | skip hw => simp [wanted, hg] at hw
  | app hw ho' => rw [ho] at ho'; cases ho'
  | d hw hd =>
   rw [ho] at hd
   cases hd with
   | pure hp =>
    obtain ⟨hp1, b, p, hm, hx⟩ := peval_loadD hp
    refine ⟨_, rfl, fun H' hb => .d hw ?_⟩
    rw [ho]
    refine .pure ?_
    have := hb me hme b hm
    simp only [peval, hm, hx, if_true] at hp ⊢
    rw [this]
    exact hp
 ·split at hi
  ·rename_i hs
   cases h with
   | skip hw => exact ⟨_, rfl, fun H' _ => .skip hw⟩
   | app hw ho' => rw [ho'] at hs; simp [EOp.still, EOp.rank] at hs
   | d hw hd =>
    obtain ⟨v, rfl, h2⟩ := key _ hs _ hd
    exact ⟨v, rfl, fun H' _ => .d hw (h2 H')⟩
  ·cases hi
 ·cases hi
theorem rd_rank {i : EI} {y : Option (List Nat) × Option Nat} {o : List Nat} (hi : i.cdInfo = some y) (hr : rdOK o (some y) = true) : i.op.rank ≤ 2 := by
 unfold EI.cdInfo at hi
 split at hi
 ·simp at hi; subst hi; simp [rdOK] at hr
 ·rename_i ho; rw [ho]; simp [EOp.rank]
 ·split at hi
  ·rename_i hs
   cases hop : i.op <;> rw [hop] at hs <;> simp [EOp.still, EOp.rank] at hs ⊢
  ·cases hi
 ·cases hi
theorem callD_of {i : EI} {o : List Nat} {z : Option Nat} (h : i.cdInfo = some (some o, z)) : i.guard = none ∧ ∃ f args, i.op = .callD o f args := by
 unfold EI.cdInfo at h
 split at h
 ·rename_i hg ho
  simp at h
  obtain ⟨rfl, _⟩ := h
  exact ⟨hg, _, _, ho⟩
 ·simp at h
 ·split at h <;> simp at h
 ·cases h
theorem callD_out {P : Program} {i : EI} {o : List Nat} {z : Option Nat} {env : Env} {H : AHeap} {K Rp : AV → AHeap → Prop} (hi : i.cdInfo = some (some o, z)) (hF : HFin H) (h : GStep P i env H K Rp) :
  ∃ O : AV → AHeap → Prop, (∃ v H', O v H' ∧ HFin H') ∧ (∀ v H', O v H' → K v H' ∧ ∀ s ∈ o, ∀ b, env.get s = .ptr b 0 → H'.blk b = H.blk b) ∧ ∀ env', Agree i env env' → ∀ K' : AV → AHeap → Prop, (∀ v H', O v H' → K' v H') → GStep P i env' H K' Rp := by
 obtain ⟨hg, f, args, ho⟩ := callD_of hi
 have hw : ∀ env, wanted i env = some true := fun env => by simp [wanted, hg]
 unfold GStep at h
 rw [hw] at h
 simp only at h
 rw [ho] at h
 cases h with
 | sw d hd hh => cases hd with
  | pure hp => simp [peval] at hp
 | callD Q hoth hex ha hc hk =>
  obtain ⟨r0, H0, q1, q2⟩ := hex hF
  refine ⟨fun v H' => Q (.ret v) H', ⟨r0, H0, q1, q2⟩, fun v H' hq => ⟨hk _ _ hq, fun s hs b hb => ?_⟩, fun env' hag K' hk' => ?_⟩
  ·obtain ⟨b', e1, e2⟩ := hoth s hs
   rw [hb] at e1
   cases e1
   exact e2 _ _ hq
  ·unfold GStep
   rw [hw]
   simp only
   have h0 : IStep P (.callD o f args) env H K' Rp := .callD Q hoth hex ha hc fun ou H' hq => by
    cases ou with
    | ret v => exact hk' v H' hq
    | pan v => exact hk _ _ hq
   rw [ho]
   exact istep_congr (by have := hag.1; rw [ho] at this; exact this) (fun _ _ h => h) (fun _ _ h => h) h0
theorem cd_swap {P : Program} {i j : EI} {env : Env} {H : AHeap} {C : Env → AHeap → Prop} {Rp : AV → AHeap → Prop} (hC : ∀ e e' H, EnvEq e e' → C e H → C e' H) (hF : HFin H) (p1 : ∀ x, i.dst = some x → x ∉ j.reads ∧ j.dst ≠ some x) (p2 : ∀ x, j.dst = some x → x ∉ i.reads) (hs : cdOK i j = true)
  (h : GStep P i env H (fun v H1 => HFin H1 → GStep P j (env.put i.dst v) H1 (fun u H2 => HFin H2 → C ((env.put i.dst v).put j.dst u) H2) Rp) Rp) :
  GStep P j env H (fun u H1 => HFin H1 → GStep P i (env.put j.dst u) H1 (fun v H2 => HFin H2 → C ((env.put j.dst u).put i.dst v) H2) Rp) Rp := by
 have aj : ∀ v, Agree j env (env.put i.dst v) := fun v => agree_put fun x hx => (p1 x hx).1
 have ai : ∀ v, Agree i env (env.put j.dst v) := fun v => agree_put p2
 have pc : ∀ v u, EnvEq ((env.put i.dst v).put j.dst u) ((env.put j.dst u).put i.dst v) := fun v u => put_comm fun x hx => (p1 x hx).2
 have gets : ∀ {k : EI} {o : List Nat} {z : Option Nat} {d : Option Nat} {v : AV}, k.cdInfo = some (some o, z) → (∀ x, d = some x → x ∉ k.reads) → ∀ s ∈ o, (env.put d v).get s = env.get s := by
  intro k o z d v hk hd s hs
  obtain ⟨_, f, args, ho⟩ := callD_of hk
  refine get_put_ne fun x hx e => hd x hx ?_
  subst e
  simp only [EI.reads, ho, EOp.opds, List.mem_append, List.mem_filterMap]
  exact .inl ⟨.t x, .inr (List.mem_map.2 ⟨x, hs, rfl⟩), rfl⟩
 unfold cdOK at hs
 split at hs
 ·rename_i o z x ei
  cases ej : j.cdInfo with
  | none => rw [ej] at hs; simp [rdOK] at hs
  | some y =>
   rw [ej] at hs
   have hrk := rd_rank ej hs
   obtain ⟨O, ⟨v0, H0, o1, o2⟩, o3, o4⟩ := callD_out ei hF h
   obtain ⟨x0, d1, d2, d3⟩ := (gstep_iff hrk).1 ((o3 _ _ o1).1 o2)
   have d1' := descX_congr (aj v0).symm d1
   obtain ⟨u, rfl, dd⟩ := rd_det ej hs d1'
   have dH := dd H fun s hs' b hb => ((o3 _ _ o1).2 s hs' b hb).symm
   refine (gstep_iff hrk).2 ⟨_, dH, trivial, fun n _ hf => ?_⟩
   refine o4 _ (ai _) _ fun v H' ho hf' => ?_
   obtain ⟨y0, e1, e2, e3⟩ := (gstep_iff hrk).1 ((o3 _ _ ho).1 hf')
   obtain ⟨u1, e5, dd'⟩ := rd_det ej hs dH
   have dH' := dd' H' (o3 _ _ ho).2
   have := descX_unique hrk (descX_congr (aj v).symm e1) dH'
   subst this
   exact hC _ _ _ (pc v u) (e3 0 trivial hf')
 ·rename_i x o z ej hni
  cases ei : i.cdInfo with
  | none => rw [ei] at hs; simp [rdOK] at hs
  | some y =>
   rw [ei] at hs
   have hrk := rd_rank ei hs
   obtain ⟨x0, d1, d2, d3⟩ := (gstep_iff hrk).1 h
   obtain ⟨v, rfl, dd⟩ := rd_det ei hs d1
   have h1 := d3 0 trivial hF
   obtain ⟨O, _, o3, o4⟩ := callD_out ej hF h1
   refine o4 _ (aj v).symm _ fun u H' ho hf => ?_
   have dH' := dd H' fun s hs' b hb => (o3 _ _ ho).2 s hs' b ((gets ej (fun x hx => (p1 x hx).1) s hs').trans hb)
   refine (gstep_iff hrk).2 ⟨_, descX_congr (ai u) dH', trivial, fun n _ hf2 => ?_⟩
   exact hC _ _ _ (pc v u) ((o3 _ _ ho).1 hf)
 ·cases hs
theorem gswap {P : Program} {i j : EI} {env : Env} {H : AHeap} {C : Env → AHeap → Prop} {Rp : AV → AHeap → Prop} (hC : ∀ e e' H, EnvEq e e' → C e H → C e' H) (hF : HFin H) (hi : indep i j = true)
  (h : GStep P i env H (fun v H1 => HFin H1 → GStep P j (env.put i.dst v) H1 (fun u H2 => HFin H2 → C ((env.put i.dst v).put j.dst u) H2) Rp) Rp) :
  GStep P j env H (fun u H1 => HFin H1 → GStep P i (env.put j.dst u) H1 (fun v H2 => HFin H2 → C ((env.put j.dst u).put i.dst v) H2) Rp) Rp := by
 obtain ⟨p1, p2, p3⟩ := indep_parts hi
 have aj : ∀ v, Agree j env (env.put i.dst v) := fun v => agree_put fun x hx => (p1 x hx).1
 have ai : ∀ v, Agree i env (env.put j.dst v) := fun v => agree_put p2
 have pc : ∀ v u, EnvEq ((env.put i.dst v).put j.dst u) ((env.put j.dst u).put i.dst v) := fun v u => put_comm fun x hx => (p1 x hx).2
 rcases p3 with p3 | p3
 ·exact cd_swap hC hF p1 p2 p3 h
 rcases p3 with ⟨q1, q2⟩ | p3
 ·obtain ⟨v, k1, k2⟩ := gquiet q1 h
  obtain ⟨u, k3, k4⟩ := gquiet q2 (k1 hF)
  exact k4 _ (aj v).symm _ fun _ => k2 _ (ai u) _ fun _ => hC _ _ _ (pc v u) (k3 hF)
 rcases p3 with ⟨q1, q2⟩ | p3
 ·obtain ⟨v, k1, k2⟩ := gtokq q1 h
  obtain ⟨O, k3, k4⟩ := blk_out q2 (k1 hF)
  exact k4 _ (aj v).symm _ fun u H' ho _ => k2 _ H' (ai u) (k3 u H' ho).2 _ fun hf => hC _ _ _ (pc v u) ((k3 u H' ho).1 hf)
 rcases p3 with p3 | ⟨p3, p4⟩ | p3 | p3 | ⟨p3, p4, p5⟩
 rotate_left
 rotate_left
 ·exact stD_swap hC hF p1 p2 p3 h
 rotate_right
 ·obtain ⟨O, ⟨v0, H0, o1, o2⟩, o3, o4⟩ := live_out p3 hF h
  obtain ⟨x, d1, d2, d3⟩ := (gstep_iff (by omega)).1 (o3 _ _ o1 o2)
  obtain ⟨u, rfl, dd⟩ := rank0_det p4 d1
  refine (gstep_iff (by omega)).2 ⟨_, descX_congr (aj v0).symm (dd H), trivial, fun n _ hf => ?_⟩
  refine o4 _ (ai _) _ fun v H' ho hf' => ?_
  obtain ⟨y, e1, e2, e3⟩ := (gstep_iff (by omega)).1 (o3 _ _ ho hf')
  have := descX_unique (by omega) (descX_congr (aj v).symm e1) (descX_congr (aj v0).symm (dd H'))
  subst this
  exact hC _ _ _ (pc v u) (e3 0 trivial hf')
 rotate_right
 ·obtain ⟨x, d1, d2, d3⟩ := (gstep_iff (by omega)).1 h
  obtain ⟨v, rfl, dd⟩ := rank0_det p3 d1
  have h1 := d3 0 trivial hF
  refine gstep_congr (aj v).symm (fun u H' hh hf => ?_) (fun _ _ h => h) h1
  refine (gstep_iff (by omega)).2 ⟨_, descX_congr (ai u) (dd H'), trivial, fun n _ hf2 => ?_⟩
  exact hC _ _ _ (pc v u) (hh hf)
 ·obtain ⟨u, t1, t2⟩ := total_step p3.2 env H
  have hr : j.op.rank ≤ 2 := by
   have := p3.2
   simp only [EI.total, Bool.and_eq_true] at this
   have h2 := this.2
   split at h2 <;> first
    | (rename_i e; rw [e]; simp [EOp.rank])
    | cases h2
  refine (gstep_iff hr).2 ⟨_, t1, trivial, fun n _ hf0 => ?_⟩
  refine gstep_congr (ai u) (fun v H' hh hf => ?_) (fun _ _ h => h) h
  obtain ⟨y, e1, e2, e3⟩ := (gstep_iff hr).1 (hh hf)
  have := descX_unique hr e1 (t2 _ (aj v) H')
  subst this
  exact hC _ _ _ (pc v u) (e3 0 trivial hf)
 ·obtain ⟨x, d1, d2, d3⟩ := (gstep_iff p3).1 h
  obtain ⟨n0, hn0, hf0⟩ := fin_fresh hF (refOf j.op env) x
  have g0 := d3 n0 hf0 (fin_heap hF)
  obtain ⟨y, e1, e2, e3⟩ := (gstep_iff p4).1 g0
  have e1' := descX_congr (aj (x.val n0)).symm e1
  have e4 : DescX P j env H y := descX_down p4 (blk_heap hn0) e1'
  have notboth : ∀ t T s r w t' T' s' r' w', x = .app t T s r w → y = .app t' T' s' r' w' → False := by
   rintro t T s r w t' T' s' r' w' rfl rfl
   exact p5 ⟨descX_app d1, descX_app e4⟩
  have hy : y.ok H := by
   cases y with
   | d e => trivial
   | app t T s r w =>
    have hr := descX_ref e4
    simp only [X.ok] at e2 ⊢
    cases x with
    | d f =>
     cases f with
     | det => exact e2
     | nblk => exact e2
     | nt =>
      simp only [X.heap, D.heap, AHeap.setT] at e2
      rw [if_neg (by omega)] at e2
      exact e2
    | app => exact (notboth _ _ _ _ _ _ _ _ _ _ rfl rfl).elim
  refine (gstep_iff p4).2 ⟨y, e4, hy, fun k hk hfk => ?_⟩
  have d1' := descX_up p3 (hle_heap hk) (descX_congr (ai (y.val k)) d1)
  have hx' : x.ok (y.heap H k) := by
   cases x with
   | d e => trivial
   | app t T s r w =>
    simp only [X.ok] at d2 ⊢
    cases y with
    | d f =>
     cases f with
     | det => exact d2
     | nblk => exact d2
     | nt =>
      simp only [X.fresh, D.fresh] at hk
      simp only [X.heap, D.heap, AHeap.setT]
      rw [if_neg (fun e => by subst e; rw [hk] at d2; cases d2)]
      exact d2
    | app => exact (notboth _ _ _ _ _ _ _ _ _ _ rfl rfl).elim
  refine (gstep_iff p3).2 ⟨x, d1', hx', fun n hn hfn => ?_⟩
  have hn' := fresh_down hk hn
  have g1 := d3 n hn' (fin_heap hF)
  obtain ⟨y', f1, f2, f3⟩ := (gstep_iff p4).1 g1
  have f1' := descX_congr (aj (x.val n)).symm f1
  have := descX_unique p4 f1' (descX_up p4 (hle_heap hn') e4)
  subst this
  rw [heap_swap d2 hy hk hn hn' notboth] at hfn ⊢
  exact hC _ _ _ (pc _ _) (f3 k (fresh_swap d2 hk hn) hfn)
def DMf (P : Program) : List EI → Env → AHeap → (Env → AHeap → Prop) → (AV → AHeap → Prop) → Prop
 | [], env, H, K, _ => K env H
 | i :: l, env, H, K, Rp => GStep P i env H (fun v H' => HFin H' → DMf P l (env.put i.dst v) H' K Rp) Rp
theorem dmf_of_dm {P : Program} {K : Env → AHeap → Prop} {Rp : AV → AHeap → Prop} : ∀ (l : List EI) {env : Env} {H : AHeap}, DM P l env H K Rp → DMf P l env H K Rp
 | [], _, _, h => by simpa only [DMf, DM] using h
 | i :: l, env, H, h => by
  rw [DM_cons] at h
  exact gstep_congr (agree_of_eq fun _ => rfl) (fun v H' hh _ => dmf_of_dm l hh) (fun _ _ h => h) h
theorem dmf_congr {P : Program} {K : Env → AHeap → Prop} {Rp : AV → AHeap → Prop} (hK : ∀ e e' H, EnvEq e e' → K e H → K e' H) : ∀ (l : List EI) {e e' : Env} {H : AHeap}, EnvEq e e' → DMf P l e H K Rp → DMf P l e' H K Rp
 | [], e, e', H, h, hd => by simp only [DMf] at hd ⊢; exact hK e e' H h hd
 | i :: l, e, e', H, h, hd => by
  simp only [DMf] at hd ⊢
  exact gstep_congr (agree_of_eq h) (fun v H' hh hf => dmf_congr hK l (put_get_eq h i.dst v) (hh hf)) (fun _ _ h => h) hd
theorem dmf_mono {P : Program} {K K' : Env → AHeap → Prop} {Rp : AV → AHeap → Prop} (hK : ∀ e H, K e H → K' e H) : ∀ (l : List EI) {e : Env} {H : AHeap}, DMf P l e H K Rp → DMf P l e H K' Rp
 | [], e, H, hd => by simp only [DMf] at hd ⊢; exact hK e H hd
 | i :: l, e, H, hd => by
  simp only [DMf] at hd ⊢
  exact gstep_congr (agree_of_eq fun _ => rfl) (fun v H' hh hf => dmf_mono hK l (hh hf)) (fun _ _ h => h) hd
theorem dmf_front {P : Program} {K : Env → AHeap → Prop} {Rp : AV → AHeap → Prop} (hK : ∀ e e' H, EnvEq e e' → K e H → K e' H) {i : EI} {T2 : List EI} : ∀ (T1 : List EI) {env : Env} {H : AHeap}, HFin H → (∀ y ∈ T1, indep y i = true) → DMf P (T1 ++ i :: T2) env H K Rp → DMf P (i :: (T1 ++ T2)) env H K Rp
 | [], _, _, _, _, h => h
 | y :: T1, env, H, hF, hi, h => by
  simp only [List.cons_append, DMf] at h
  have h2 : GStep P y env H (fun v H1 => HFin H1 → GStep P i (env.put y.dst v) H1 (fun u H2 => HFin H2 → DMf P (T1 ++ T2) ((env.put y.dst v).put i.dst u) H2 K Rp) Rp) Rp :=
   gstep_congr (agree_of_eq fun _ => rfl) (fun v H1 hh hf => dmf_front hK T1 hf (fun z hz => hi z (by simp [hz])) (hh hf)) (fun _ _ h => h) h
  exact gswap (C := fun e H => DMf P (T1 ++ T2) e H K Rp) (fun e e' H he hd => dmf_congr hK _ he hd) hF (hi y (by simp)) h2
section
variable {P : Program} {n : Nat} {m0 : MD} {ops : Array Oper} {Q : Exit → Act → World → Prop}
theorem rh_fin {m : Mem} (rh : RH m) : HFin m.H := by
 refine ⟨max m.w.heap.size m.T, fun k hk => ⟨?_, ?_⟩⟩
 ·cases h : m.H.blk k with
  | none => rfl
  | some x => have := blk_lt rh (T := x.1) (cs := x.2) h; omega
 ·cases h : m.H.tok k with
  | none => rfl
  | some i => have := (rh.tok k i h).1; omega
def PanOk (n : Nat) (m0 : MD) (Rp : AV → AHeap → Prop) (Q : Exit → Act → World → Prop) : Prop :=
 ∀ (x : AV) (m' : Mem) (cv : Value) (a : Act), Rp x m'.H → RH m' → Ev m0.m m' → Rv m' x cv → (a.defers = m0.D ∧ ∀ E ∈ m0.kt, RvE m' E a.tmps) → a.tmps.size = n → Q (.panic [{ v := cv, recovered := false }]) a m'.w
theorem gstep_wp {o : Oper} {i : EI} {idx : Nat} {env : Env} {H : AHeap} {a : Act} {w : World} {K Rp : AV → AHeap → Prop} {Kc : Act → World → Prop} (ho : ops[idx]? = some o) (hc : chkI P n ops o i = true) (hfr : m0.free i) (hr : Rel n m0 env H a w) (hp : PanOk n m0 Rp Q) (hs : GStep P i env H K Rp)
  (h : ∀ v H' a' w', K v H' → HFin H' → Rel n m0 (env.put i.dst v) H' a' w' → Kc a' w') : wpOp P ops Q idx Kc a w := by
 obtain ⟨m, rfl, rfl, rh, e0, he, hdf, hsz⟩ := hr
 obtain ⟨c1, c2, c3, c4, c5⟩ := chkI_parts hc
 unfold wpOp
 simp only [ho]
 unfold GStep at hs
 split at hs
 ·rename_i hw
  have hwant := wanted_rv c3 he hw (fun j w hg => by rw [hsz]; exact c5 j w hg)
  rw [hwant]
  simp only [if_true]
  refine .inl (istep_wp hs c4 rh he (fun x m' v hk r1 r2 r3 => ?_) (fun x m' v hk r1 r2 r3 => hp x m' v a hk r1 (e0.trans r2) r3 ⟨hdf.1, fun E hE k => Rv.ev r2 _ _ (hdf.2 E hE k)⟩ hsz))
  rw [c1]
  exact h x m'.H _ _ hk (rh_fin r1) (rel_put he e0 r2 r1 r3 hdf hsz c2 hfr)
 ·rename_i hw
  have hwant := wanted_rv c3 he hw (fun j w hg => by rw [hsz]; exact c5 j w hg)
  rw [hwant]
  simp only [Bool.false_eq_true, if_false]
  rw [c1]
  exact h _ _ _ _ hs (rh_fin rh) (rel_put he e0 (Ev.refl m) rh (by simp only [Rv]) hdf hsz c2 hfr)
 ·exact hs.elim
def ei0 : EI := ⟨none, none, .lenA 0⟩
def nth (is : List EI) (k : Nat) : EI := is.getD k ei0
theorem chkIs_get : ∀ {os : List Oper} {is : List EI}, chkIs P n ops os is = true → os.length = is.length ∧ ∀ k o, os[k]? = some o → chkI P n ops o (nth is k) = true
 | [], [], _ => ⟨rfl, fun k o h => by simp at h⟩
 | [], _ :: _, h => by simp [chkIs] at h
 | _ :: _, [], h => by simp [chkIs] at h
 | o :: os, i :: is, h => by
  simp only [chkIs, Bool.and_eq_true] at h
  obtain ⟨e1, e2⟩ := chkIs_get h.2
  refine ⟨by simp [e1], fun k o' hk => ?_⟩
  cases k with
  | zero => simp at hk; subst hk; exact h.1
  | succ k => simp at hk; have := e2 k o' hk; simpa [nth] using this
theorem dmf_wp {is : List EI} {K : Env → AHeap → Prop} {Rp : AV → AHeap → Prop} (hc : ∀ k o, ops[k]? = some o → chkI P n ops o (nth is k) = true) (hfr : ∀ k, m0.free (nth is k)) (hp : PanOk n m0 Rp Q) (hk : ∀ env H a w, K env H → Rel n m0 env H a w → Q .normal a w) :
  ∀ (L : List Nat) {env : Env} {H : AHeap} {a : Act} {w : World}, (∀ k ∈ L, k < ops.size) → DMf P (L.map (nth is)) env H K Rp → Rel n m0 env H a w → wpOps P ops Q L a w
 | [], env, H, a, w, _, h, hr => by
  simp only [List.map_nil, DMf] at h
  exact hk _ _ _ _ h hr
 | k :: L, env, H, a, w, hl, h, hr => by
  rw [wpOps_cons]
  have hlt := hl k (by simp)
  have ho : ops[k]? = some ops[k] := Array.getElem?_eq_getElem hlt
  simp only [List.map_cons, DMf] at h
  exact gstep_wp ho (hc k _ ho) (hfr k) hr hp h fun v H' a' w' hh hf hr' => dmf_wp hc hfr hp hk L (fun x hx => hl x (by simp [hx])) (hh hf) hr'
theorem range_map_nth {is : List EI} : (List.range is.length).map (nth is) = is := by
 apply List.ext_getElem?
 intro k
 by_cases hk : k < is.length
 ·simp [nth, hk]
 ·simp [List.getElem?_eq_none (Nat.le_of_not_lt hk), hk]
end
section
variable {P : Program} {n : Nat} {m0 : MD} {ops : Array Oper} {Q : Exit → Act → World → Prop}
def Closed (ops : Array Oper) (listed : Array Bool) : Prop := ∀ i o, ops[i]? = some o → listed.getD i false = true → ∀ e ∈ o.after, Region.binds .any e = true → listed.getD e.on false = true
theorem anc_step (acc : List Nat) (l : List Edge) (s k : Nat) : (l.foldl (fun s e => if Region.binds .any e then s ||| 2 ^ e.on ||| acc.getD e.on 0 else s) s).testBit k = true → s.testBit k = true ∨ ∃ e ∈ l, Region.binds .any e = true ∧ (k = e.on ∨ (acc.getD e.on 0).testBit k = true) := by
 induction l generalizing s with
 | nil => intro h; exact .inl h
 | cons e l ih =>
  intro h
  simp only [List.foldl_cons] at h
  rcases ih _ h with h | ⟨e', he', hb, hk⟩
  ·split at h
   ·rename_i hb
    simp only [Nat.testBit_or, Bool.or_eq_true] at h
    rcases h with (h | h) | h
    ·exact .inl h
    ·refine .inr ⟨e, by simp, hb, .inl ?_⟩
     rw [Nat.testBit_two_pow] at h
     exact (by simpa using h : e.on = k).symm
    ·exact .inr ⟨e, by simp, hb, .inr h⟩
   ·exact .inl h
  ·exact .inr ⟨e', by simp [he'], hb, hk⟩
theorem ancs_listed {listed : Array Bool} (hc : Closed ops listed) (hb : ∀ i o, ops[i]? = some o → ∀ e ∈ o.after, Region.binds .any e = true → e.on < i) :
  ∀ (os : List Oper) (acc : List Nat), (∀ j o, os[j]? = some o → ops[acc.length + j]? = some o) →
   (∀ i, i < acc.length → (∀ o, ops[i]? = some o → ∀ e ∈ o.after, Region.binds .any e = true → listed.getD e.on false = true) → ∀ k, (acc.getD i 0).testBit k = true → listed.getD k false = true) →
   ∀ i, i < acc.length + os.length → (∀ o, ops[i]? = some o → ∀ e ∈ o.after, Region.binds .any e = true → listed.getD e.on false = true) →
    ∀ k, ((os.foldl (fun acc o => acc ++ [o.after.foldl (fun s e => if Region.binds .any e then s ||| 2 ^ e.on ||| acc.getD e.on 0 else s) 0]) acc).getD i 0).testBit k = true → listed.getD k false = true
 | [], acc, _, h, i, hi, hr, k, hk => h i (by simpa using hi) hr k hk
 | o :: os, acc, hos, h, i, hi, hr, k, hk => by
  simp only [List.foldl_cons] at hk
  refine ancs_listed hc hb os _ (fun j o' hj => ?_) (fun i' hi' hr' k' hk' => ?_) i (by simp at hi ⊢; omega) hr k hk
  ·have := hos (j + 1) o' (by simpa using hj)
   simpa [Nat.add_assoc, Nat.add_comm 1 j] using this
  ·simp only [List.length_append, List.length_singleton] at hi'
   by_cases hlt : i' < acc.length
   ·refine h i' hlt hr' k' ?_
    rw [List.getD_eq_getElem?_getD, List.getElem?_append_left hlt, ← List.getD_eq_getElem?_getD] at hk'
    exact hk'
   ·have hie : i' = acc.length := by omega
    subst hie
    have ho : ops[acc.length]? = some o := by have := hos 0 o rfl; simpa using this
    rw [List.getD_eq_getElem?_getD, List.getElem?_append_right (Nat.le_refl _)] at hk'
    simp only [Nat.sub_self, List.getElem?_cons_zero, Option.getD_some] at hk'
    rw [← Array.foldl_toList] at hk'
    rcases anc_step acc o.after.toList 0 k' hk' with h0 | ⟨e, he, hbe, hke⟩
    ·simp at h0
    ·have he' : e ∈ o.after := by simpa using he
     have hl := hr' o ho e he' hbe
     rcases hke with rfl | hke
     ·exact hl
     ·have hlt := hb _ o ho e he' hbe
      refine h e.on hlt (fun o2 ho2 e2 he2 hb2 => hc e.on o2 ho2 hl e2 he2 hb2) k' hke
theorem okDraw_parts {os : List Oper} {is : List EI} (h : okDraw os is = true) : (∀ (i : Nat) (o : Oper), os[i]? = some o → ∀ e ∈ o.after, Region.binds .any e = true → e.on < i) ∧ (∀ i j, i < j → j < is.length → ((ancs os).getD j 0).testBit i = true ∨ indep (nth is i) (nth is j) = true) := by
 simp only [okDraw, Bool.and_eq_true, List.all_eq_true] at h
 obtain ⟨h1, h2⟩ := h
 refine ⟨fun i o ho e he hb => ?_, fun i j hij hj => ?_⟩
 ·have := h1 (o, i) (by rw [List.mem_zipIdx_iff_getElem?]; exact ho)
  simp only [Array.all_eq_true_iff_forall_mem] at this
  have := this e he
  simp only [hb, Bool.not_true, Bool.false_or, Nat.blt_eq] at this
  exact this
 ·have hi : i < is.length := by omega
  have := h2 (nth is j, j) (by rw [List.mem_zipIdx_iff_getElem?]; simp [nth, hj]) (nth is i, i) (by rw [List.mem_zipIdx_iff_getElem?]; simp [nth, hi])
  simp only [Bool.or_eq_true, Bool.not_eq_true'] at this
  rcases this with (this | this) | this
  ·have hlt : Nat.blt i j = true := by rw [Nat.blt_eq]; exact hij
   rw [hlt] at this
   cases this
  ·exact .inl this
  ·exact .inr this
theorem draw_wp {is : List EI} {K : Env → AHeap → Prop} {Rp : AV → AHeap → Prop} (hlen : ops.size = is.length) (hok : okDraw ops.toList is = true) (hc : ∀ k o, ops[k]? = some o → chkI P n ops o (nth is k) = true) (hfr : ∀ k, m0.free (nth is k)) (hp : PanOk n m0 Rp Q) (hK : ∀ e e' H, EnvEq e e' → K e H → K e' H) (hk : ∀ env H a w, K env H → Rel n m0 env H a w → Q .normal a w) :
  ∀ (fuel : Nat) (T : List Nat) (listed : Array Bool) {env : Env} {H : AHeap} {a : Act} {w : World}, listed.size = ops.size → T.Pairwise (· < ·) → (∀ k, k ∈ T ↔ k < ops.size ∧ listed.getD k true = false) → T.length = fuel → Closed ops listed →
   DMf P (T.map (nth is)) env H K Rp → Rel n m0 env H a w → wpAny P .any ops Q fuel listed a w := by
 obtain ⟨hb, hin⟩ := okDraw_parts hok
 have hb' : ∀ (i : Nat) (o : Oper), ops[i]? = some o → ∀ e ∈ o.after, Region.binds .any e = true → e.on < i := fun i o ho => hb i o (by simpa using ho)
 have ready : ∀ (listed : Array Bool) i, i ∈ Region.ready .any ops listed ↔ i < ops.size ∧ listed.getD i true = false ∧ ∀ o, ops[i]? = some o → ∀ e ∈ o.after, Region.binds .any e = true → listed.getD e.on false = true := by
  intro listed i
  simp only [Region.ready, List.mem_filter, List.mem_range, Bool.and_eq_true, Bool.not_eq_true']
  constructor
  ·rintro ⟨h1, h2, h3⟩
   refine ⟨h1, h2, fun o ho e he hbe => ?_⟩
   rw [ho] at h3
   simp only [Option.map_some, Option.getD_some, Array.all_eq_true_iff_forall_mem] at h3
   have := h3 e he
   simpa [hbe] using this
  ·rintro ⟨h1, h2, h3⟩
   refine ⟨h1, h2, ?_⟩
   have ho : ops[i]? = some ops[i] := Array.getElem?_eq_getElem h1
   rw [ho]
   simp only [Option.map_some, Option.getD_some, Array.all_eq_true_iff_forall_mem]
   intro e he
   by_cases hbe : Region.binds .any e = true
   ·simp [hbe, h3 _ ho e he hbe]
   ·simp [hbe]
 intro fuel
 induction fuel with
 | zero =>
  intro T listed env H a w hsz hs hT hl hcl h hr
  have : T = [] := List.eq_nil_of_length_eq_zero hl
  subst this
  refine ⟨?_, hk _ _ _ _ h hr⟩
  rw [List.eq_nil_iff_forall_not_mem]
  intro i hi
  obtain ⟨h1, h2, _⟩ := (ready listed i).1 hi
  have := (hT i).2 ⟨h1, h2⟩
  cases this
 | succ fuel ih =>
  intro T listed env H a w hsz hs hT hl hcl h hr
  refine ⟨fun hnil => ?_, fun i hi => ?_⟩
  ·-- the first that is left is ready
   match T, hl with
   | t :: T, _ =>
    have ht := (hT t).1 (by simp)
    have : t ∈ Region.ready .any ops listed := by
     refine (ready listed t).2 ⟨ht.1, ht.2, fun o ho e he hbe => ?_⟩
     have hlt := hb' t o ho e he hbe
     cases hq : listed.getD e.on true with
     | true =>
      have : e.on < listed.size := by omega
      simp [Array.getD_eq_getD_getElem?, this] at hq ⊢
      exact hq
     | false =>
      have hm := (hT e.on).2 ⟨by omega, hq⟩
      rcases List.mem_cons.1 hm with e1 | e1
      ·omega
      ·have := List.rel_of_pairwise_cons hs e1
       omega
    rw [hnil] at this
    cases this
  ·obtain ⟨h1, h2, h3⟩ := (ready listed i).1 hi
   have hiT := (hT i).2 ⟨h1, h2⟩
   obtain ⟨T1, T2, rfl⟩ := List.append_of_mem hiT
   have ho : ops[i]? = some ops[i] := Array.getElem?_eq_getElem h1
   have hanc := ancs_listed hcl hb' ops.toList [] (fun j o hj => by simpa using hj) (fun i hi => by simp at hi) i (by simpa using h1) h3
   have hind : ∀ y ∈ T1.map (nth is), indep y (nth is i) = true := by
    intro y hy
    obtain ⟨k, hkm, rfl⟩ := List.mem_map.1 hy
    have hki : k < i := by
     rw [List.pairwise_append] at hs
     exact hs.2.2 k hkm i (by simp)
    rcases hin k i hki (by omega) with hbit | hind
    ·have hlk := hanc k hbit
     have hk0 := (hT k).1 (by simp [hkm])
     have : k < listed.size := by omega
     simp [Array.getD_eq_getD_getElem?, this] at hlk hk0
     rw [hlk] at hk0
     simp at hk0
    ·exact hind
   have hF : HFin H := by
    obtain ⟨m, rfl, rfl, rh, _⟩ := hr
    exact rh_fin rh
   have hfront := dmf_front hK (i := nth is i) (T1.map (nth is)) hF hind (by simpa using h)
   simp only [DMf] at hfront
   refine gstep_wp ho (hc i _ ho) (hfr i) hr hp hfront fun v H' a' w' hh hf hr' => ?_
   refine ih (T1 ++ T2) _ (by simpa using hsz) ?_ (fun k => ?_) (by simp at hl ⊢; omega) ?_ (by simpa using hh hf) hr'
   ·rw [List.pairwise_append, List.pairwise_cons] at hs
    rw [List.pairwise_append]
    exact ⟨hs.1, hs.2.1.2, fun a ha b hb => hs.2.2 a ha b (by simp [hb])⟩
   ·have hdis : i ∉ T1 ∧ i ∉ T2 := by
     rw [List.pairwise_append, List.pairwise_cons] at hs
     exact ⟨fun hm => by have := hs.2.2 i hm i (by simp); omega, fun hm => by have := hs.2.1.1 i hm; omega⟩
    have := hT k
    by_cases e : k = i
    ·subst e
     simp only [List.mem_append, hdis.1, hdis.2, or_self, false_iff, not_and]
     intro _
     have : k < listed.size := by omega
     simp [Array.getD_eq_getD_getElem?, this]
    ·have hne : (listed.setIfInBounds i true).getD k true = listed.getD k true := by
      simp [Array.getD_eq_getD_getElem?, Array.getElem?_setIfInBounds_ne (Ne.symm e)]
     rw [hne, ← this]
     simp [e]
   ·intro j o hj hlj e he hbe
    by_cases hji : j = i
    ·subst hji
     have := h3 o hj e he hbe
     by_cases hei : e.on = j
     ·have := hb' j o hj e he hbe
      omega
     ·simp only [Array.getD_eq_getD_getElem?, Array.getElem?_setIfInBounds_ne (Ne.symm hei)] at this ⊢
      exact this
    ·have hlj' : listed.getD j false = true := by
      simp only [Array.getD_eq_getD_getElem?, Array.getElem?_setIfInBounds_ne (Ne.symm hji)] at hlj ⊢
      exact hlj
     have := hcl j o hj hlj' e he hbe
     by_cases hei : e.on = i
     ·rw [hei]
      have : i < listed.size := by omega
      simp [Array.getD_eq_getD_getElem?, this]
     ·simp only [Array.getD_eq_getD_getElem?, Array.getElem?_setIfInBounds_ne (Ne.symm hei)] at this ⊢
      exact this
end
theorem load_run {P : Program} {m : Mem} {env : Env} {t : TypeId} {agg : Bool} {n : Nat} {y : EOpd} {r : AV} {pv : Value} (rh : RH m) (h1 : ldT P t agg n = true) (hc : Rv m (y.ev env) pv) (hp : peval (.load agg n y) env m.H = some r) :
  ∃ ad v, pv = .pointer (some ad) ∧ (loadVar t ad).run P m.w = .ok v m.w ∧ Rv m r v := by
 simp only [peval] at hp
 have fin : ∀ b p (l : List Value) (cs : List AV), pv = .pointer (some ⟨b, p, none⟩) → AV.ofCells agg cs = some r → RvL m cs l → l.length = n → (∀ (j : Nat) (v : Value), l[j]? = some v → m.w.cell? ⟨b, p + j, none⟩ = some v) → ∃ ad v, pv = .pointer (some ad) ∧ (loadVar t ad).run P m.w = .ok v m.w ∧ Rv m r v := by
  intro b p l cs e1 e2 e3 e4 e5
  refine ⟨_, _, e1, run_loadVar_cells h1 b p l e4 e5, ?_⟩
  rcases ofCells_rv e2 e3 with ⟨rfl, h⟩ | ⟨rfl, v, rfl, h⟩
  ·exact h
  ·exact h
 split at hp
 ·rename_i b p e
  rw [e] at hc
  split at hp
  ·rename_i T cs hb
   split at hp
   ·rename_i hle
    obtain ⟨l, g1, g2, g3⟩ := rh.blk b _ cs hb
    refine fin b p ((l.drop p).take n) _ (rv_ptr hc) hp (RvL.take n (RvL.drop p g2)) ?_ fun j v hj => ?_
    ·have := RvL.length g2
     simp; omega
    ·rw [cell_of_row m.w b _ _ _ _ g1]
     rw [List.getElem?_take] at hj
     split at hj
     ·rw [List.getElem?_drop] at hj
      simpa using hj
     ·cases hj
   ·cases hp
  ·cases hp
 ·rename_i row p e
  rw [e] at hc
  obtain ⟨b, q, e1, e2⟩ := rv_rp hc
  split at hp
  ·rename_i hle
   obtain ⟨l, g1, g2⟩ := RvC.vals e2
   refine fin b (q + p) ((l.drop p).take n) _ e1 hp (RvL.take n (RvL.drop p g1)) ?_ fun j v hj => ?_
   ·have := RvL.length g1
    simp; omega
   ·rw [List.getElem?_take] at hj
    split at hj
    ·rw [List.getElem?_drop] at hj
     rw [Nat.add_assoc]
     exact (g2 _ v hj).1
    ·cases hj
  ·cases hp
 ·cases hp
def resOne (tmps : Array Value) (x : ResultVar) : Sem Value :=
 match x with
 | .tmp t => pure (tmps.getD t undef)
 | .cell a t => do loadVar t (← asAddr (tmps.getD a undef))
theorem eres_run {P : Program} {m : Mem} {env : Env} {tmps : Array Value} {x : ResultVar} {e : ERes} {r : AV} (he : RvE m env tmps) (rh : RH m) (hc : chkR P [x] [e] = true) (hr : e.ev env m.H = some r) :
  ∃ v, (resOne tmps x).run P m.w = .ok v m.w ∧ Rv m r v := by
 cases x with
 | tmp t =>
  cases e with
  | t k =>
   simp [chkR] at hc
   subst hc
   simp only [ERes.ev, Option.some.injEq] at hr
   subst hr
   exact ⟨_, rfl, he t⟩
  | cell => simp [chkR] at hc
 | cell a ty =>
  cases e with
  | t k => simp [chkR] at hc
  | cell agg k a' =>
   simp [chkR] at hc
   obtain ⟨rfl, h2⟩ := hc
   simp only [ERes.ev] at hr
   obtain ⟨ad, v, e1, e2, e3⟩ := load_run (y := .t a) rh h2 (he a) hr
   refine ⟨v, ?_, e3⟩
   simp only [resOne, Sem.run_bind, e1, asAddr, Sem.run_pure, Result.andThen_ok, e2]
theorem chkR_cons {P : Program} {x : ResultVar} {xs : List ResultVar} {e : ERes} {es : List ERes} (h : chkR P (x :: xs) (e :: es) = true) : chkR P [x] [e] = true ∧ chkR P xs es = true := by
 cases x <;> cases e <;> simp [chkR] at h ⊢
 ·exact h
 ·exact h
theorem results_list {P : Program} {m : Mem} {env : Env} {tmps : Array Value} (he : RvE m env tmps) (rh : RH m) : ∀ {xs : List ResultVar} {es : List ERes} {rs : List AV}, chkR P xs es = true → es.mapM (ERes.ev env m.H) = some rs →
  ∃ vs, (xs.mapM (resOne tmps)).run P m.w = .ok vs m.w ∧ RvL m rs vs
 | [], [], rs, _, h => by
  simp at h
  subst h
  exact ⟨[], by simp, by simp only [RvL]⟩
 | [], _ :: _, _, h, _ => by simp [chkR] at h
 | _ :: _, [], _, h, _ => by simp [chkR] at h
 | x :: xs, e :: es, rs, hc, h => by
  obtain ⟨h1, h2⟩ := chkR_cons hc
  simp only [List.mapM_cons, Option.bind_eq_bind, Option.pure_def] at h
  cases hr : e.ev env m.H with
  | none => simp [hr] at h
  | some r =>
   cases hrs : es.mapM (ERes.ev env m.H) with
   | none => simp [hr, hrs] at h
   | some rs' =>
    simp [hr, hrs] at h
    subst h
    obtain ⟨v, g1, g2⟩ := eres_run he rh h1 hr
    obtain ⟨vs, g3, g4⟩ := results_list he rh h2 hrs
    refine ⟨v :: vs, ?_, by simp only [RvL]; exact ⟨v, vs, rfl, g2, g4⟩⟩
    rw [List.mapM_cons]
    simp only [Sem.run_bind, g1, Result.andThen_ok, g3, Sem.run_pure]
theorem results_run {P : Program} {m : Mem} {env : Env} {tmps : Array Value} {fn : Func} {rs : List ERes} {r : AV} (he : RvE m env tmps) (rh : RH m) (hc : chkR P fn.results.toList rs = true) (hr : Aw.results rs env m.H = some r) :
  ∃ v, (Go.results fn tmps).run P m.w = .ok v m.w ∧ Rv m r v := by
 have key : ∀ es : List AV, rs.mapM (ERes.ev env m.H) = some es → ∃ vs, (Go.results fn tmps).run P m.w = .ok (if h : vs.toArray.size = 1 then vs.toArray[0] else .tuple vs.toArray) m.w ∧ RvL m es vs := by
  intro es hes
  obtain ⟨vs, g1, g2⟩ := results_list he rh hc hes
  refine ⟨vs, ?_, g2⟩
  show ((fn.results.mapM (resOne tmps)) >>= fun vs => pure (if h : vs.size = 1 then vs[0] else .tuple vs)).run P m.w = _
  rw [Array.mapM_eq_mapM_toList]
  simp only [Sem.run_bind, Sem.run_map, g1, Result.andThen_ok, Sem.run_pure]
 unfold Aw.results at hr
 split at hr
 ·rename_i e
  obtain ⟨vs, g1, g2⟩ := key [r] (by simp [hr])
  simp only [RvL] at g2
  obtain ⟨v, _, rfl, g2, rfl⟩ := g2
  exact ⟨v, by simpa using g1, g2⟩
 ·rename_i hne
  cases hes : rs.mapM (ERes.ev env m.H) with
  | none => simp [hes] at hr
  | some es =>
   simp [hes] at hr
   subst hr
   obtain ⟨vs, g1, g2⟩ := key es hes
   have hl : rs.length = es.length := by
    have : ∀ (l : List ERes) (es : List AV), l.mapM (ERes.ev env m.H) = some es → l.length = es.length := by
     intro l
     induction l with
     | nil => intro es h; simp at h; subst h; rfl
     | cons x l ih =>
      intro es h
      simp only [List.mapM_cons, Option.bind_eq_bind, Option.pure_def] at h
      cases hx : x.ev env m.H with
      | none => simp [hx] at h
      | some y =>
       cases hl : l.mapM (ERes.ev env m.H) with
       | none => simp [hx, hl] at h
       | some ys => simp [hx, hl] at h; subst h; simp [ih ys hl]
    exact this rs es hes
   have hne1 : vs.length ≠ 1 := by
    rw [RvL.length g2, ← hl]
    intro e
    obtain ⟨x, hx⟩ := List.length_eq_one_iff.1 e
    exact hne x hx
   rw [dif_neg (by simpa using hne1)] at g1
   exact ⟨_, g1, by simp only [Rv]; exact ⟨vs, rfl, g2⟩⟩
end Go.Aw
namespace Go.Aw
open Go
set_option linter.unusedVariables false
set_option linter.unusedSimpArgs false
inductive CItem where
 | c (c : Code)
 | blk (id : Nat)
 | round (J : Act → World → Prop)
def post (P : Program) (B : Exit → Act → World → Prop) : List CItem → Exit → Act → World → Prop
 | [], e, a, w => B e a w
 | .c code :: k, e, a, w => match e with
  | .normal => code.wp P (post P B k) a w
  | e => post P B k e a w
 | .blk id :: k, e, a, w => match e with
  | .exit id' => if id' = id then post P B k .normal a w else post P B k (.exit id') a w
  | e => post P B k e a w
 | .round J :: k, e, a, w => match e with
  | .normal => J a w
  | e => post P B k e a w
def IM (P : Program) (n : Nat) (m0 : MD) : List Item → List CItem → Prop
 | [], l => l = []
 | .c e :: k, l => ∃ c l', l = .c c :: l' ∧ (chkC P n c e = true ∧ ∀ E ∈ m0.kt, ∀ p ∈ E, e.noW p.1 = true) ∧ IM P n m0 k l'
 | .blk id :: k, l => ∃ l', l = .blk id :: l' ∧ IM P n m0 k l'
 | .round I m :: k, l => ∃ J l', l = .round J :: l' ∧ (∀ a w, (∃ m' env H, I m' env H ∧ m' < m ∧ Rel n m0 env H a w) → J a w) ∧ IM P n m0 k l'
section
variable {P : Program} {B : Exit → Act → World → Prop}
theorem post_ret : ∀ (l : List CItem) (a : Act) (w : World), B .ret a w → post P B l .ret a w
 | [], _, _, h => h
 | .c _ :: l, a, w, h => post_ret l a w h
 | .blk _ :: l, a, w, h => post_ret l a w h
 | .round _ :: l, a, w, h => post_ret l a w h
theorem post_panic : ∀ (l : List CItem) (ch : List PanicEntry) (a : Act) (w : World), B (.panic ch) a w → post P B l (.panic ch) a w
 | [], _, _, _, h => h
 | .c _ :: l, ch, a, w, h => post_panic l ch a w h
 | .blk _ :: l, ch, a, w, h => post_panic l ch a w h
 | .round _ :: l, ch, a, w, h => post_panic l ch a w h
theorem post_exit {n : Nat} {m0 : MD} {id : Nat} : ∀ (k : List Item) (l : List CItem) (k' : List Item), IM P n m0 k l → popTo id k = some k' → ∃ l', IM P n m0 k' l' ∧ ∀ a w, post P B l' .normal a w → post P B l (.exit id) a w
 | [], _, _, _, h => by simp [popTo] at h
 | .c e :: k, l, k', hi, h => by
  simp only [IM] at hi
  obtain ⟨c, l', rfl, _, hi⟩ := hi
  simp only [popTo] at h
  obtain ⟨l2, g1, g2⟩ := post_exit k l' k' hi h
  exact ⟨l2, g1, fun a w hh => g2 a w hh⟩
 | .blk j :: k, l, k', hi, h => by
  simp only [IM] at hi
  obtain ⟨l', rfl, hi⟩ := hi
  simp only [popTo] at h
  split at h
  ·rename_i e
   subst e
   simp at h
   subst h
   exact ⟨l', hi, fun a w hh => by simp only [post, if_pos]; exact hh⟩
  ·rename_i e
   obtain ⟨l2, g1, g2⟩ := post_exit k l' k' hi h
   exact ⟨l2, g1, fun a w hh => by simp only [post]; rw [if_neg (Ne.symm e)]; exact g2 a w hh⟩
 | .round I m :: k, l, k', hi, h => by
  simp only [IM] at hi
  obtain ⟨J, l', rfl, _, hi⟩ := hi
  simp only [popTo] at h
  obtain ⟨l2, g1, g2⟩ := post_exit k l' k' hi h
  exact ⟨l2, g1, fun a w hh => g2 a w hh⟩
theorem post_then {c : Code} {l : List CItem} : Exit.then (c.wp P (post P B l)) (post P B l) = post P B (.c c :: l) := by
 funext e a w
 cases e <;> rfl
theorem post_blk {id : Nat} {l : List CItem} : Exit.inBlock id (post P B l) = post P B (.blk id :: l) := by
 funext e a w
 cases e <;> rfl
end
theorem annotate_chk {P : Program} {n : Nat} {ops : Array Oper} : ∀ {os : List Oper} {is : List EI} (anns : List AV), chkIs P n ops os is = true → chkIs P n ops os (annotate is anns) = true
 | [], [], _, h => by simpa [annotate] using h
 | [], _ :: _, _, h => by simp [chkIs] at h
 | _ :: _, [], _, h => by simp [chkIs] at h
 | o :: os, ⟨d, g, op⟩ :: is, anns, h => by
  simp only [chkIs, Bool.and_eq_true] at h
  cases op with
  | pcall f args =>
   cases anns with
   | nil => simp only [annotate, chkIs, Bool.and_eq_true]; exact ⟨h.1, annotate_chk [] h.2⟩
   | cons r rs =>
    simp only [annotate, chkIs, Bool.and_eq_true]
    refine ⟨?_, annotate_chk rs h.2⟩
    have h1 := h.1
    simp only [chkI, Bool.and_eq_true] at h1 ⊢
    refine ⟨h1.1, ?_⟩
    have := h1.2
    cases ho : o.op <;> rw [ho] at this <;> first
     | (simp [chkOp] at this; done)
     | skip
    rename_i c
    obtain ⟨callee, cargs, at'⟩ := c
    cases callee <;> first
     | exact this
     | (rename_i b; cases b <;> exact this)
  | pcallv x args =>
   cases anns with
   | nil => simp only [annotate, chkIs, Bool.and_eq_true]; exact ⟨h.1, annotate_chk [] h.2⟩
   | cons r rs =>
    simp only [annotate, chkIs, Bool.and_eq_true]
    refine ⟨?_, annotate_chk rs h.2⟩
    have h1 := h.1
    simp only [chkI, Bool.and_eq_true] at h1 ⊢
    refine ⟨h1.1, ?_⟩
    have := h1.2
    cases ho : o.op <;> rw [ho] at this <;> first
     | (simp [chkOp] at this; done)
     | skip
    rename_i c
    obtain ⟨callee, cargs, at'⟩ := c
    cases callee <;> first
     | exact this
     | (rename_i b; cases b <;> exact this)
  | pcallM T size f args =>
   cases anns with
   | nil => simp only [annotate, chkIs, Bool.and_eq_true]; exact ⟨h.1, annotate_chk [] h.2⟩
   | cons r rs =>
    simp only [annotate, chkIs, Bool.and_eq_true]
    refine ⟨?_, annotate_chk rs h.2⟩
    have h1 := h.1
    simp only [chkI, Bool.and_eq_true] at h1 ⊢
    refine ⟨h1.1, ?_⟩
    have := h1.2
    cases ho : o.op <;> rw [ho] at this <;> first
     | (simp [chkOp] at this; done)
     | skip
    rename_i c
    obtain ⟨callee, cargs, at'⟩ := c
    cases callee <;> first
     | exact this
     | (rename_i b; cases b <;> exact this)
  | _ => simp only [annotate, chkIs, Bool.and_eq_true]; exact ⟨h.1, annotate_chk anns h.2⟩
theorem annotate_nth : ∀ (is : List EI) (anns : List AV) (k : Nat), (nth (annotate is anns) k).dst = (nth is k).dst ∧ (nth (annotate is anns) k).reads = (nth is k).reads ∧ (nth (annotate is anns) k).op.rank = (nth is k).op.rank ∧ (nth (annotate is anns) k).total = (nth is k).total ∧ (nth (annotate is anns) k).op.live = (nth is k).op.live ∧ (nth (annotate is anns) k).stInfo = (nth is k).stInfo
 | [], anns, k => by simp [annotate]
 | ⟨d, g, op⟩ :: is, anns, k => by
  cases op with
  | pcall f args =>
   cases anns with
   | nil =>
    cases k with
    | zero => exact ⟨rfl, rfl, rfl, rfl, rfl, by first | rfl | (cases g <;> rfl)⟩
    | succ k => exact annotate_nth is [] k
   | cons r rs =>
    cases k with
    | zero => exact ⟨rfl, rfl, rfl, rfl, rfl, by first | rfl | (cases g <;> rfl)⟩
    | succ k => exact annotate_nth is rs k
  | pcallv f args =>
   cases anns with
   | nil =>
    cases k with
    | zero => exact ⟨rfl, rfl, rfl, rfl, rfl, by first | rfl | (cases g <;> rfl)⟩
    | succ k => exact annotate_nth is [] k
   | cons r rs =>
    cases k with
    | zero => exact ⟨rfl, rfl, rfl, rfl, rfl, by first | rfl | (cases g <;> rfl)⟩
    | succ k => exact annotate_nth is rs k
  | pcallM T size f args =>
   cases anns with
   | nil =>
    cases k with
    | zero => exact ⟨rfl, rfl, rfl, rfl, rfl, by first | rfl | (cases g <;> rfl)⟩
    | succ k => exact annotate_nth is [] k
   | cons r rs =>
    cases k with
    | zero => exact ⟨rfl, rfl, rfl, rfl, rfl, by first | rfl | (cases g <;> rfl)⟩
    | succ k => exact annotate_nth is rs k
  | _ =>
   cases k with
   | zero => exact ⟨rfl, rfl, rfl, rfl, rfl, by first | rfl | (cases g <;> rfl)⟩
   | succ k => exact annotate_nth is anns k
theorem annotate_quiet : ∀ (is : List EI) (anns : List AV) (k : Nat), (nth (annotate is anns) k).op.quiet = (nth is k).op.quiet ∧ (nth (annotate is anns) k).op.tokq = (nth is k).op.tokq ∧ (nth (annotate is anns) k).op.blkOnly = (nth is k).op.blkOnly ∧ (nth (annotate is anns) k).cdInfo = (nth is k).cdInfo
 | [], anns, k => by simp [annotate]
 | ⟨d, g, op⟩ :: is, anns, k => by
  cases op with
  | pcall f args =>
   cases anns with
   | nil =>
    cases k with
    | zero => exact ⟨rfl, rfl, rfl, by first | rfl | (cases g <;> rfl)⟩
    | succ k => exact annotate_quiet is [] k
   | cons r rs =>
    cases k with
    | zero => exact ⟨rfl, rfl, rfl, by first | rfl | (cases g <;> rfl)⟩
    | succ k => exact annotate_quiet is rs k
  | pcallv f args =>
   cases anns with
   | nil =>
    cases k with
    | zero => exact ⟨rfl, rfl, rfl, by first | rfl | (cases g <;> rfl)⟩
    | succ k => exact annotate_quiet is [] k
   | cons r rs =>
    cases k with
    | zero => exact ⟨rfl, rfl, rfl, by first | rfl | (cases g <;> rfl)⟩
    | succ k => exact annotate_quiet is rs k
  | pcallM T size f args =>
   cases anns with
   | nil =>
    cases k with
    | zero => exact ⟨rfl, rfl, rfl, by first | rfl | (cases g <;> rfl)⟩
    | succ k => exact annotate_quiet is [] k
   | cons r rs =>
    cases k with
    | zero => exact ⟨rfl, rfl, rfl, by first | rfl | (cases g <;> rfl)⟩
    | succ k => exact annotate_quiet is rs k
  | _ =>
   cases k with
   | zero => exact ⟨rfl, rfl, rfl, by first | rfl | (cases g <;> rfl)⟩
   | succ k => exact annotate_quiet is anns k
theorem annotate_len : ∀ (is : List EI) (anns : List AV), (annotate is anns).length = is.length
 | [], _ => rfl
 | ⟨d, g, op⟩ :: is, anns => by
  cases op with
  | pcall f args => cases anns <;> simp [annotate, annotate_len is]
  | pcallv f args => cases anns <;> simp [annotate, annotate_len is]
  | pcallM T size f args => cases anns <;> simp [annotate, annotate_len is]
  | _ => simp [annotate, annotate_len is]
theorem annotate_okDraw {os : List Oper} {is : List EI} {anns : List AV} (h : okDraw os is = true) : okDraw os (annotate is anns) = true := by
 simp only [okDraw, Bool.and_eq_true, List.all_eq_true] at h ⊢
 refine ⟨h.1, fun ⟨y, j⟩ hy ⟨x, i⟩ hx => ?_⟩
 rw [List.mem_zipIdx_iff_getElem?] at hy hx
 have hj : j < is.length := by rw [← annotate_len is anns]; exact (List.getElem?_eq_some_iff.1 hy).1
 have hi : i < is.length := by rw [← annotate_len is anns]; exact (List.getElem?_eq_some_iff.1 hx).1
 have ey : nth (annotate is anns) j = y := by simp only [nth, List.getD_eq_getElem?_getD]; rw [hy]; rfl
 have ex : nth (annotate is anns) i = x := by simp only [nth, List.getD_eq_getElem?_getD]; rw [hx]; rfl
 have := h.2 (nth is j, j) (by rw [List.mem_zipIdx_iff_getElem?]; simp [nth, hj]) (nth is i, i) (by rw [List.mem_zipIdx_iff_getElem?]; simp [nth, hi])
 have e : indep x y = indep (nth is i) (nth is j) := by
  obtain ⟨a1, a2, a3, a4, a5, a6⟩ := annotate_nth is anns i
  obtain ⟨b1, b2, b3, b4, b5, b6⟩ := annotate_nth is anns j
  rw [ey] at b1 b2 b3 b4 b5 b6
  rw [ex] at a1 a2 a3 a4 a5 a6
  obtain ⟨a7, a8, a9, a10⟩ := annotate_quiet is anns i
  obtain ⟨b7, b8, b9, b10⟩ := annotate_quiet is anns j
  rw [ey] at b7 b8 b9 b10
  rw [ex] at a7 a8 a9 a10
  unfold indep stD cdOK
  rw [a10, b10, a7, b7, a8, b9, a1, a2, a3, a5, a6, b1, b2, b3, b4, b6]
 simp only [e]
 exact this
theorem rel_weak {n : Nat} {m0 : MD} {env env' : Env} {H : AHeap} {a : Act} {w : World} (h : ∀ j, AVLe (env.get j) (env'.get j)) (hr : Rel n m0 env H a w) : Rel n m0 env' H a w := by
 obtain ⟨m, h1, h2, h3, h4, h5, h6⟩ := hr
 exact ⟨m, h1, h2, h3, h4, fun k => h k _ _ (h5 k), h6⟩
def RQ (m0 : Mem) (R : Out → AHeap → Prop) (e : Ending) (w' : World) : Prop :=
 ∃ o H' L' T', RH ⟨w', H', L', T'⟩ ∧ Ev m0 ⟨w', H', L', T'⟩ ∧ RvOut ⟨w', H', L', T'⟩ o e ∧ R o H'
structure HB (P : Program) (fn : Func) (n : Nat) (rs : List ERes) (Q : Ending → World → Prop) (R : Out → AHeap → Prop) (m0 : MD) : Prop where
 ret : ∀ env H v a w, Aw.results rs env H = some v → R (.ret v) H → Rel n m0 env H a w → Leaves P fn a.tmps Q a.defers .returning w
 pan : ∀ (x : AV) (m' : Mem) (cv : Value) (a : Act), R (.pan x) m'.H → RH m' → Ev m0.m m' → Rv m' x cv → (a.defers = m0.D ∧ ∀ E ∈ m0.kt, RvE m' E a.tmps) → a.tmps.size = n → Leaves P fn a.tmps Q a.defers (.panicking [{ v := cv, recovered := false }]) m'.w
theorem hb_base {P : Program} {fn : Func} {n : Nat} {m0 : Mem} {rs : List ERes} {R : Out → AHeap → Prop} (hres : chkR P fn.results.toList rs = true) : HB P fn n rs (RQ m0 R) R ⟨m0, [], []⟩ where
 ret := fun env H v a w hv hR hr => by
  obtain ⟨m, rfl, rfl, rh, e0, he, hdf, _⟩ := hr
  obtain ⟨cv, g1, g2⟩ := results_run (fn := fn) he rh hres hv
  rw [hdf.1]
  exact ⟨cv, g1, .ret v, m.H, m.L, m.T, rh, e0, ⟨cv, rfl, g2⟩, hR⟩
 pan := fun x m' cv a hR rh ev hv hdf _ => by
  rw [hdf.1]
  exact ⟨.pan x, m'.H, m'.L, m'.T, rh, ev, ⟨cv, rfl, hv⟩, hR⟩
theorem hb_dfr {P : Program} {fn : Func} {n : Nat} {rs : List ERes} {Q : Ending → World → Prop} {R R' : Out → AHeap → Prop} {m0 : MD} {m1 : Mem} {f : FuncId} {caps : List AV} {vs : List Value} {kt : Env} (hb : HB P fn n rs Q R m0) (hf : callable P f = true) (hev : Ev m0.m m1) (hcap : RvL m1 caps vs) (hidle : DIdle P f caps)
  (hret : ∀ v H', R' (.ret v) H' → R (.ret v) H') (hpan : ∀ x H', R' (.pan x) H' → DCalls P f caps x H' fun H2 => ∃ v, Aw.results rs kt H2 = some v ∧ R (.ret v) H2) :
  HB P fn n rs Q R' ⟨m1, { target := .fn (.func f) ⟨vs⟩, args := #[] } :: m0.D, kt :: m0.kt⟩ where
 ret := fun env H v a w hv hR hr => by
  obtain ⟨m, rfl, rfl, rh, e0, he, hdf, hsz⟩ := hr
  rw [hdf.1]
  have hinv : (invoke (.fn (.func f) ⟨vs⟩) #[]).run P m.w = .ok (.enter f ⟨vs⟩) m.w := by simp [invoke, run_call hf]
  refine leaves_cons (by simp) hinv ((hidle m vs rh (RvL.ev e0 _ _ hcap)).mono ?_)
  rintro e u' w' ⟨⟨v', rfl⟩, rfl, L', T', r1, r2⟩
  have := hb.ret env m.H v { a with defers := m0.D } w' hv (hret _ _ hR) ⟨⟨w', m.H, L', T'⟩, rfl, rfl, r1, (hev.trans e0).trans r2, fun k => Rv.ev r2 _ _ (he k), ⟨rfl, fun E hE k => Rv.ev r2 _ _ (hdf.2 E (by simp [hE]) k)⟩, hsz⟩
  exact this
 pan := fun x m' cv a hR rh ev hv hdf hsz => by
  rw [hdf.1]
  have hinv : (invoke (.fn (.func f) ⟨vs⟩) #[]).run P m'.w = .ok (.enter f ⟨vs⟩) m'.w := by simp [invoke, run_call hf]
  refine leaves_cons (by simp) hinv ((hpan x m'.H hR m' vs cv rfl rh (RvL.ev ev _ _ hcap) hv).mono ?_)
  rintro e u' w' ⟨⟨v', rfl⟩, rfl, H', L', T', r1, r2, v, hv2, hR2⟩
  have := hb.ret kt H' v { a with defers := m0.D } w' hv2 hR2 ⟨⟨w', H', L', T'⟩, rfl, rfl, r1, (hev.trans ev).trans r2, fun k => Rv.ev r2 _ _ (hdf.2 kt (by simp) k), ⟨rfl, fun E hE k => Rv.ev r2 _ _ (hdf.2 E (by simp [hE]) k)⟩, hsz⟩
  exact this
theorem IM.more {P : Program} {n : Nat} {m0 m1 : MD} : ∀ {k : List Item} {l : List CItem}, IM P n m0 k l → (∀ E ∈ m1.kt, E ∈ m0.kt ∨ ∀ p ∈ E, k.all (Item.noW p.1) = true) → k.all (fun i => match i with | .round _ _ => false | _ => true) = true → IM P n m1 k l
 | [], l, h, _, _ => by simp only [IM] at *; exact h
 | .c e :: k, l, h, hk, hr => by
  simp only [IM] at *
  obtain ⟨c, l', rfl, ⟨h1, h2⟩, h3⟩ := h
  simp only [List.all_cons, Bool.and_eq_true] at hk hr
  exact ⟨c, l', rfl, ⟨h1, fun E hE p hp => (hk E hE).elim (fun h => h2 E h p hp) fun h => (h p hp).1⟩, IM.more h3 (fun E hE => (hk E hE).imp (fun h => h) fun h p hp => (h p hp).2) hr.2⟩
 | .blk id :: k, l, h, hk, hr => by
  simp only [IM] at *
  obtain ⟨l', rfl, h3⟩ := h
  simp only [List.all_cons, Bool.and_eq_true] at hk hr
  exact ⟨l', rfl, IM.more h3 (fun E hE => (hk E hE).imp (fun h => h) fun h p hp => (h p hp).2) hr.2⟩
 | .round I m :: k, l, h, hk, hr => by simp at hr
theorem noW_free {m0 : MD} {ops : List EI} {draw : Bool} (anns : List AV) (h : ∀ E ∈ m0.kt, ∀ p ∈ E, (EC.region ops draw).noW p.1 = true) (k : Nat) : m0.free (nth (annotate ops anns) k) := by
 intro E hE p hp e
 have h1 := h E hE p hp
 simp only [EC.noW, List.all_eq_true] at h1
 rw [(annotate_nth ops anns k).1] at e
 by_cases hk : k < ops.length
 ·have h2 := h1 (nth ops k) (by simp [nth, hk])
  simp [e] at h2
 ·simp [nth, List.getD, hk, ei0] at e
theorem am_soundB {P : Program} {fn : Func} {n : Nat} {rs : List ERes} {Q : Ending → World → Prop} {R : Out → AHeap → Prop} (hm : P.follows .mixedOrders = true) {k : List Item} {env : Env} {H : AHeap} (h : AM P rs R k env H) :
  ∀ (m0 : MD) (hb : HB P fn n rs Q R m0) (l : List CItem) (a : Act) (w : World), IM P n m0 k l → Rel n m0 env H a w → post P (bodyPostD P fn Q) l .normal a w := by
 have pan : ∀ {R : Out → AHeap → Prop} (m0 : MD) (hb : HB P fn n rs Q R m0) (l : List CItem), PanOk n m0 (fun v H' => R (.pan v) H') (post P (bodyPostD P fn Q) l) := by
  intro R m0 hb l x m' cv a hR rh ev hv hdf hsz
  exact post_panic l _ a m'.w (hb.pan x m' cv a hR rh ev hv hdf hsz)
 induction h with
 | done hv hR =>
  intro m0 hb l a w hi hr
  simp only [IM] at hi
  subst hi
  exact hb.ret _ _ _ _ _ hv hR hr
 | ret hv hR =>
  intro m0 hb l a w hi hr
  simp only [IM] at hi
  obtain ⟨c, l', rfl, ⟨hc, hw⟩, hi⟩ := hi
  cases c <;> simp [chkC] at hc
  exact wp_ret (post_ret l' a w (hb.ret _ _ _ _ _ hv hR hr))
 | skip _ ih =>
  intro m0 hb l a w hi hr
  simp only [IM] at hi
  obtain ⟨c, l', rfl, ⟨hc, hw⟩, hi⟩ := hi
  cases c <;> simp [chkC] at hc
  exact wp_skip (ih m0 hb l' a w hi hr)
 | blkEnd _ ih =>
  intro m0 hb l a w hi hr
  simp only [IM] at hi
  obtain ⟨l', rfl, hi⟩ := hi
  exact ih m0 hb l' a w hi hr
 | seq _ ih =>
  intro m0 hb l a w hi hr
  simp only [IM] at hi
  obtain ⟨c, l', rfl, ⟨hc, hw⟩, hi⟩ := hi
  cases c <;> simp [chkC] at hc
  rename_i x y
  refine wp_seq ?_
  rw [post_then]
  exact ih m0 hb (.c x :: .c y :: l') a w (by simp only [IM]; exact ⟨_, _, rfl, ⟨hc.1, fun E hE p hp => by have := hw E hE p hp; simp only [EC.noW, Bool.and_eq_true] at this; exact this.1⟩, _, _, rfl, ⟨hc.2, fun E hE p hp => by have := hw E hE p hp; simp only [EC.noW, Bool.and_eq_true] at this; exact this.2⟩, hi⟩) hr
 | block _ ih =>
  intro m0 hb l a w hi hr
  simp only [IM] at hi
  obtain ⟨c, l', rfl, ⟨hc, hw⟩, hi⟩ := hi
  cases c <;> simp [chkC] at hc
  rename_i id x
  obtain ⟨rfl, hc⟩ := hc
  refine wp_block ?_
  rw [post_blk]
  exact ih m0 hb (.c x :: .blk id :: l') a w (by simp only [IM]; exact ⟨_, _, rfl, ⟨hc, fun E hE p hp => by have := hw E hE p hp; simpa only [EC.noW] using this⟩, _, rfl, hi⟩) hr
 | exit hk _ ih =>
  intro m0 hb l a w hi hr
  simp only [IM] at hi
  obtain ⟨c, l', rfl, ⟨hc, hw⟩, hi⟩ := hi
  cases c <;> simp [chkC] at hc
  subst hc
  obtain ⟨l2, g1, g2⟩ := post_exit (B := bodyPostD P fn Q) _ l' _ hi hk
  exact wp_exit (g2 a w (ih m0 hb l2 a w g1 hr))
 | cond hc0 _ _ ih1 ih2 =>
  intro m0 hb l a w hi hr
  simp only [IM] at hi
  obtain ⟨c, l', rfl, ⟨hc, hw⟩, hi⟩ := hi
  cases c <;> simp [chkC] at hc
  rename_i x p q
  have hx : ∀ (c : EOpd) (env : Env) (H : AHeap) (t : Bool), chkX x c = true → Rel n m0 env H a w → EOpd.ev env c = AV.bool t → a.eval x = .bool t := by
   intro c env H t h1 hr ht
   obtain ⟨m, rfl, rfl, rh, e0, he, _⟩ := hr
   have := chkX_rv he h1
   rw [ht] at this
   exact rv_bool this
  exact wp_cond_split (hx _ _ _ _ hc.1.1 hr hc0) (fun ht => ih1 ht m0 hb (.c p :: l') a w (by simp only [IM]; exact ⟨_, _, rfl, ⟨hc.1.2, fun E hE p hp => by have := hw E hE p hp; simp only [EC.noW, Bool.and_eq_true] at this; exact this.1⟩, hi⟩) hr) (fun ht => ih2 ht m0 hb (.c q :: l') a w (by simp only [IM]; exact ⟨_, _, rfl, ⟨hc.2, fun E hE p hp => by have := hw E hE p hp; simp only [EC.noW, Bool.and_eq_true] at this; exact this.2⟩, hi⟩) hr)
 | region anns K h hK ih =>
  rename_i ops draw k env H
  intro m0 hb l a w hi hr
  simp only [IM] at hi
  obtain ⟨c, l', rfl, ⟨hc, hw⟩, hi⟩ := hi
  cases c <;> simp only [chkC, Bool.false_eq_true] at hc
  rename_i id cops cdraw
  simp only [Bool.and_eq_true, beq_iff_eq] at hc
  obtain ⟨⟨rfl, hc1⟩, hc2⟩ := hc
  have hc3 := annotate_chk anns hc1
  obtain ⟨hlen, hget⟩ := chkIs_get hc3
  have hlen' : cops.size = (annotate ops anns).length := by rw [← hlen, Array.length_toList]
  have hget' : ∀ k o, cops[k]? = some o → chkI P n cops o (nth (annotate ops anns) k) = true := fun k o ho => hget k o (by simpa using ho)
  have hdm := dmf_of_dm _ h
  have hnorm : ∀ env H a w, K env H → Rel n m0 env H a w → post P (bodyPostD P fn Q) l' .normal a w := fun env H a w hk hr => ih env H hk m0 hb l' a w hi hr
  cases cdraw with
  | false =>
   refine wp_region ?_
   have := dmf_wp (Q := post P (bodyPostD P fn Q) l') hget' (noW_free anns hw) (pan m0 hb l') hnorm (List.range cops.size) (fun k hk => by simpa using hk) (by rw [hlen', range_map_nth]; exact hdm) hr
   exact this
  | true =>
   refine wp_region_any hm ?_
   have hok := annotate_okDraw (anns := anns) (by simpa using hc2)
   have hr' : Rel n m0 env H a { w with drawn := w.drawn + 1 } := by
    obtain ⟨m, rfl, rfl, rh, e0, he, hdf, hsz⟩ := hr
    exact ⟨{ m with w := m.w.drew }, rfl, rfl, rh.drew, e0.trans (Ev.drew m), fun k => Rv.ev (Ev.drew m) _ _ (he k), ⟨hdf.1, fun E hE k => Rv.ev (Ev.drew m) _ _ (hdf.2 E hE k)⟩, hsz⟩
   have hdm' := dmf_mono (K' := fun env H => ∃ env0, EnvEq env0 env ∧ K env0 H) (fun e H hk => ⟨e, fun _ => rfl, hk⟩) _ hdm
   refine draw_wp (K := fun env H => ∃ env0, EnvEq env0 env ∧ K env0 H) hlen' hok hget' (noW_free anns hw) (pan m0 hb l') (fun e e' H he ⟨e0, h1, h2⟩ => ⟨e0, fun k => (h1 k).trans (he k), h2⟩) (fun env H a w ⟨e0, h1, h2⟩ hr => hnorm e0 H a w h2 (rel_weak (fun j m v hv => by rw [h1 j]; exact hv) hr)) cops.size (List.range cops.size) _ (by simp) List.pairwise_lt_range (fun k => ?_) (by simp) ?_ (by rw [hlen', range_map_nth]; exact hdm') hr'
   ·simp only [List.mem_range]
    constructor
    ·intro hk
     exact ⟨hk, by simp [Array.getD_eq_getD_getElem?, hk]⟩
    ·exact fun h => h.1
   ·intro i o ho hl
    have hlt := (Array.getElem?_eq_some_iff.1 ho).1
    simp [Array.getD_eq_getD_getElem?, hlt] at hl
 | loop I m1 h0 h ih =>
  rename_i body k env H
  intro m0 hb l a w hi hr
  simp only [IM] at hi
  obtain ⟨c, l', rfl, ⟨hc, hw⟩, hi⟩ := hi
  cases c <;> simp [chkC] at hc
  rename_i x
  -- the least measure
  let inv : Act → World → Prop := fun a w => ∃ m' env H, I m' env H ∧ Rel n m0 env H a w
  let mu : Act → World → Nat := fun a w => Classical.epsilon fun q => (∃ env H, I q env H ∧ Rel n m0 env H a w) ∧ ∀ q', (∃ env H, I q' env H ∧ Rel n m0 env H a w) → q ≤ q'
  have hmu : ∀ a w, inv a w → (∃ env H, I (mu a w) env H ∧ Rel n m0 env H a w) ∧ ∀ q', (∃ env H, I q' env H ∧ Rel n m0 env H a w) → mu a w ≤ q' := by
   intro a w hinv
   have hex : ∃ q, (∃ env H, I q env H ∧ Rel n m0 env H a w) ∧ ∀ q', (∃ env H, I q' env H ∧ Rel n m0 env H a w) → q ≤ q' := by
    obtain ⟨q0, env, H, h1, h2⟩ := hinv
    have key : ∀ b, (∃ q, q ≤ b ∧ ∃ env H, I q env H ∧ Rel n m0 env H a w) → ∃ q, (∃ env H, I q env H ∧ Rel n m0 env H a w) ∧ ∀ q', (∃ env H, I q' env H ∧ Rel n m0 env H a w) → q ≤ q' := by
     intro b
     induction b with
     | zero => rintro ⟨q, hq, hh⟩; exact ⟨q, hh, fun q' _ => by omega⟩
     | succ b ihb =>
      rintro ⟨q, hq, hh⟩
      by_cases hlow : ∃ q, q ≤ b ∧ ∃ env H, I q env H ∧ Rel n m0 env H a w
      ·exact ihb hlow
      ·exact ⟨q, hh, fun q' hq' => by
        rcases Nat.lt_or_ge b q' with hlt | hge
        ·omega
        ·exact absurd ⟨q', hge, hq'⟩ hlow⟩
    exact key q0 ⟨q0, Nat.le_refl _, env, H, h1, h2⟩
   exact Classical.epsilon_spec hex
  refine wp_loop inv mu ⟨m1, env, H, h0, hr⟩ fun a w hinv => ?_
  obtain ⟨⟨env1, H1, g1, g2⟩, gmin⟩ := hmu a w hinv
  have := ih (mu a w) env1 H1 g1 m0 hb (.c x :: .round (fun a' w' => inv a' w' ∧ mu a' w' < mu a w) :: l') a w (by
   simp only [IM]
   refine ⟨_, _, rfl, ⟨hc, fun E hE p hp => by have := hw E hE p hp; simpa only [EC.noW] using this⟩, _, _, rfl, fun a' w' ⟨m', env', H', k1, k2, k3⟩ => ?_, hi⟩
   have hinv' : inv a' w' := ⟨m', env', H', k1, k3⟩
   exact ⟨hinv', Nat.lt_of_le_of_lt ((hmu a' w' hinv').2 m' ⟨env', H', k1, k3⟩) k2⟩) g2
  refine wp_mono this fun e a' w' hq => ?_
  cases e <;> exact hq
 | round m1 h0 h1 =>
  intro m0 hb l a w hi hr
  simp only [IM] at hi
  obtain ⟨J, l', rfl, hJ, hi⟩ := hi
  exact hJ a w ⟨m1, _, _, h0, h1, hr⟩
 | weak he _ ih =>
  intro m0 hb l a w hi hr
  exact ih m0 hb l a w hi (rel_weak he hr)
 | conv S hs _ ih =>
  intro m0 hb l a w hi hr
  obtain ⟨m, rfl, rfl, rh, e0, he, hdf, hsz⟩ := hr
  obtain ⟨env', H', L', T', s1, s2, s3, s4⟩ := hs m rfl rh
  exact ih env' H' s1 m0 hb l a _ hi ⟨⟨m.w, H', L', T'⟩, rfl, rfl, s2, e0.trans s3, fun k => s4 k _ (he k), ⟨hdf.1, fun E hE k => Rv.ev s3 _ _ (hdf.2 E hE k)⟩, hsz⟩
 | dfr R' kt hkt hk hd hc hf hidle hret hpan hnx ih =>
  rename_i R d f cap k env H
  intro m0 hb l a w hi hr
  simp only [IM] at hi
  obtain ⟨c, l', rfl, ⟨hcc, hw⟩, hi⟩ := hi
  obtain ⟨m, rfl, rfl, rh, e0, he, hdf, hsz⟩ := hr
  cases c <;> try (simp only [chkC, Bool.false_eq_true] at hcc; done)
  rename_i id ops draw
  cases draw <;> simp only [chkC, Bool.false_eq_true] at hcc
  simp only [Bool.and_eq_true] at hcc
  obtain ⟨⟨hdn, _⟩, hops⟩ := hcc
  have hdn' : d < n := by simpa [Nat.blt_eq] using hdn
  split at hops
  ·rename_i o1 o2 hol
   simp only [Bool.and_eq_true, beq_iff_eq, Option.isNone_iff_eq_none] at hops
   obtain ⟨⟨⟨⟨⟨h1, h2⟩, h3⟩, h4⟩, h5⟩, h6⟩ := hops
   split at h5
   ·rename_i g first caps ho1
    simp only [Bool.and_eq_true, decide_eq_true_eq] at h5
    obtain ⟨⟨rfl, h51⟩, h52⟩ := h5
    split at h6
    ·rename_i t args aty ho2
     simp only [Bool.and_eq_true, beq_iff_eq] at h6
     obtain ⟨rfl, h62⟩ := h6
     have hopsA : ops = #[o1, o2] := by cases ops; simp at hol; subst hol; rfl
     subst hopsA
     obtain ⟨v, hrun, hv⟩ := q_mkfn he ho1 h51 h52 (by simpa using call_bnd hf) (P := P) (m := m) (o := o1)
     obtain ⟨vs, hvf, hcap⟩ := rv_fn hv
     have hvf' := hvf.trans (fnV_lt (call_bnd hf) vs)
     subst hvf'
     refine wp_region ?_
     have hw1 : ∀ y, Region.wanted o1 y = true := fun y => by simp [Region.wanted, h2]
     have hw2 : ∀ y, Region.wanted o2 y = true := fun y => by simp [Region.wanted, h4]
     have hargs : args = #[] := by simpa using h62
     subst hargs
     show wpOps P #[o1, o2] _ [0, 1] a m.w
     simp only [wpOps, List.getElem?_toArray, List.getElem?_cons_zero, List.getElem?_cons_succ, hw1, hw2, if_true]
     refine .inl ?_
     simp only [Oper.wp, hrun, Oper.upon]
     have hev : (a.put o1.dst (.func (.func g) #[] ⟨vs⟩)).eval (.tmp t) = .func (.func g) #[] ⟨vs⟩ := by
      rw [h1]
      simp [Act.put, Act.eval, Array.getD_eq_getD_getElem?, hsz, hdn']
     have hrun2 : (execOp (a.put o1.dst (.func (.func g) #[] ⟨vs⟩)).eval o2).run P m.w = .ok (.defer { target := .fn (.func g) ⟨vs⟩, args := #[] }) m.w := by
      simp [execOp, ho2, resolve, hev, Deferred.ofValue]
     rw [hrun2]
     refine .inl ?_
     simp only [Oper.upon]
     refine ih _ (hb_dfr hb hf e0 hcap hidle hret hpan) l' _ _ (IM.more hi (fun E hE => ?_) hc) ?_
     ·rcases List.mem_cons.1 hE with rfl | hE
      ·exact .inr hk
      ·exact .inl hE
     ·have q1 : RvE m kt a.tmps := fun k => hkt k _ _ (he k)
      refine ⟨m, rfl, rfl, rh, Ev.refl m, ?_, ⟨?_, fun E hE => ?_⟩, ?_⟩
      ·have := rve_put (dst := some t) he (Ev.refl m) hv hsz (by simpa using hdn')
       rw [h1, h3]
       exact this
      ·rw [h1, h3]
       simp [Act.put, hdf.1]
      ·rw [h1, h3]
       rcases List.mem_cons.1 hE with rfl | hE
       ·exact rve_kept (dst := some t) (v := .func (.func g) #[] ⟨vs⟩) q1 (Ev.refl m) (fun p hp e => hd p hp (by simpa using e))
       ·exact rve_kept (dst := some t) (v := .func (.func g) #[] ⟨vs⟩) (hdf.2 E hE) (Ev.refl m) (fun p hp e => by have := hw E hE p hp; simp only [EC.noW] at this; simp at e; simp [e] at this)
      ·rw [h1, h3]
       simp [Act.put, hsz]
    ·cases h6
   ·cases h5
  ·cases hops
theorem am_sound {P : Program} {fn : Func} {n : Nat} {m0 : Mem} {rs : List ERes} {R : Out → AHeap → Prop} (hm : P.follows .mixedOrders = true) (hres : chkR P fn.results.toList rs = true) {k : List Item} {env : Env} {H : AHeap} (h : AM P rs R k env H)
  (l : List CItem) (a : Act) (w : World) (hi : IM P n ⟨m0, [], []⟩ k l) (hr : Rel n ⟨m0, [], []⟩ env H a w) : post P (bodyPostD P fn (RQ m0 R)) l .normal a w :=
 am_soundB hm h _ (hb_base hres) l a w hi hr
theorem region_sound {P : Program} {n : Nat} {m0 : MD} {id : Nat} {cops : Array Oper} {draw : Bool} {ops : List EI} {anns : List AV} {env : Env} {H : AHeap} {K : Env → AHeap → Prop} {Rp : AV → AHeap → Prop} {Q : Exit → Act → World → Prop} {a : Act} {w : World} (hm : P.follows .mixedOrders = true) (hk0 : m0.kt = [])
  (hc : chkC P n (.region id cops draw) (.region ops draw) = true) (hp : PanOk n m0 Rp Q) (hnorm : ∀ env H a w, K env H → Rel n m0 env H a w → Q .normal a w) (h : DM P (annotate ops anns) env H K Rp) (hr : Rel n m0 env H a w) : (Code.region id cops draw).wp P Q a w := by
 simp only [chkC, Bool.and_eq_true, beq_iff_eq, BEq.rfl, true_and] at hc
 obtain ⟨hc1, hc2⟩ := hc
 have hc3 := annotate_chk anns hc1
 obtain ⟨hlen, hget⟩ := chkIs_get hc3
 have hlen' : cops.size = (annotate ops anns).length := by rw [← hlen, Array.length_toList]
 have hget' : ∀ k o, cops[k]? = some o → chkI P n cops o (nth (annotate ops anns) k) = true := fun k o ho => hget k o (by simpa using ho)
 have hfree : ∀ k, m0.free (nth (annotate ops anns) k) := fun k E hE => by rw [hk0] at hE; cases hE
 have hdm := dmf_of_dm _ h
 cases draw with
 | false =>
  refine wp_region ?_
  exact dmf_wp hget' hfree hp hnorm (List.range cops.size) (fun k hk => by simpa using hk) (by rw [hlen', range_map_nth]; exact hdm) hr
 | true =>
  refine wp_region_any hm ?_
  have hok := annotate_okDraw (anns := anns) (by simpa using hc2)
  have hr' : Rel n m0 env H a { w with drawn := w.drawn + 1 } := by
   obtain ⟨m, rfl, rfl, rh, e0, he, hdf, hsz⟩ := hr
   exact ⟨{ m with w := m.w.drew }, rfl, rfl, rh.drew, e0.trans (Ev.drew m), fun k => Rv.ev (Ev.drew m) _ _ (he k), ⟨hdf.1, fun E hE k => Rv.ev (Ev.drew m) _ _ (hdf.2 E hE k)⟩, hsz⟩
  have hdm' := dmf_mono (K' := fun env H => ∃ env0, EnvEq env0 env ∧ K env0 H) (fun e H hk => ⟨e, fun _ => rfl, hk⟩) _ hdm
  refine draw_wp (K := fun env H => ∃ env0, EnvEq env0 env ∧ K env0 H) hlen' hok hget' hfree hp (fun e e' H he ⟨e0, h1, h2⟩ => ⟨e0, fun k => (h1 k).trans (he k), h2⟩) (fun env H a w ⟨e0, h1, h2⟩ hr => hnorm e0 H a w h2 (rel_weak (fun j m v hv => by rw [h1 j]; exact hv) hr)) cops.size (List.range cops.size) _ (by simp) List.pairwise_lt_range (fun k => ?_) (by simp) ?_ (by rw [hlen', range_map_nth]; exact hdm') hr'
  ·simp only [List.mem_range]
   constructor
   ·intro hk
    exact ⟨hk, by simp [Array.getD_eq_getD_getElem?, hk]⟩
   ·exact fun h => h.1
  ·intro i o ho hl
   have hlt := (Array.getElem?_eq_some_iff.1 ho).1
   simp [Array.getD_eq_getD_getElem?, hlt] at hl
end Go.Aw
namespace Go.Aw
open Go
set_option linter.unusedVariables false
set_option linter.unusedSimpArgs false
def initFrom : Nat → List AV → Env
 | _, [] => []
 | k, a :: az => (k, a) :: initFrom (k + 1) az
abbrev initEnv (args : List AV) : Env := initFrom 0 args
theorem initFrom_get : ∀ (args : List AV) (k j : Nat), (initFrom k args).get j = if k ≤ j then args.getD (j - k) .top else .top
 | [], k, j => by simp [initFrom, Env.get]
 | a :: az, k, j => by
  simp only [initFrom, Env.get]
  by_cases h : k = j
  ·subst h
   simp
  ·have : (k == j) = false := by simpa using h
   rw [this, cond_false, initFrom_get az (k + 1) j]
   by_cases h1 : k + 1 ≤ j
   ·have h2 : k ≤ j := by omega
    rw [if_pos h1, if_pos h2, show j - k = (j - (k + 1)) + 1 by omega]
    simp
   ·rw [if_neg h1, if_neg (by omega)]
theorem initEnv_rv {m : Mem} {args : List AV} {vs : List Value} {n : Nat} (h : RvL m args vs) : RvE m (initEnv args) (⟨vs⟩ ++ Array.replicate n undef) := by
 intro k
 rw [initFrom_get]
 simp only [Nat.zero_le, if_true, Nat.sub_zero]
 by_cases hk : k < args.length
 ·obtain ⟨v, e1, e2⟩ := RvL.get h k args[k] (List.getElem?_eq_getElem hk)
  have e3 : (⟨vs⟩ ++ Array.replicate n undef : Array Value).getD k undef = v := by
   have hl : k < vs.length := by rw [RvL.length h]; exact hk
   have e1' : vs[k] = v := by rw [List.getElem?_eq_getElem hl] at e1; simpa using e1
   have : k < (⟨vs⟩ : Array Value).size := hl
   simp only [Array.getD_eq_getD_getElem?, Array.getElem?_append, this, if_true]
   simp [hl, e1']
  rw [e3]
  simpa [List.getD, hk] using e2
 ·have : args.getD k .top = .top := by simp [List.getD, hk]
  rw [this]
  simp only [Rv]
theorem acalls_of {P : Program} {f : FuncId} {fn : Func} {args : List AV} {e : EC} {rs : List ERes} {H : AHeap} {R : Out → AHeap → Prop} (hm : P.follows .mixedOrders = true) (hf : P.funcs[f]? = some fn) (hc : chkF P fn args.length e rs = true) (h : AM P rs R [.c e] (initEnv args) H) : ACalls P f args H R := by
 intro m vs hH rh hv
 simp only [chkF, Bool.and_eq_true] at hc
 obtain ⟨⟨hn, hr⟩, hb⟩ := hc
 cases hbody : fn.body with
 | none => rw [hbody] at hb; cases hb
 | some c =>
  rw [hbody] at hb
  refine calls_of_wp_defers hf hbody ?_
  have hlen := RvL.length hv
  have hn' : args.length ≤ fn.ntmps := Nat.le_of_ble_eq_true hn
  have := am_sound (fn := fn) (n := fn.ntmps) (m0 := m) hm hr h [.c c] { tmps := ⟨vs⟩ ++ Array.replicate (fn.ntmps - (⟨vs⟩ : Array Value).size) undef, defers := [] } m.w (by simp only [IM]; exact ⟨c, [], rfl, ⟨hb, by simp⟩, rfl⟩) ⟨m, rfl, hH, rh, Ev.refl m, initEnv_rv hv, ⟨rfl, by simp⟩, by simp [hlen]; omega⟩
  simp only [post] at this
  refine this
def OutLe : Out → Out → Prop
 | .ret a, .ret b => AVLe a b
 | .pan a, .pan b => AVLe a b
 | _, _ => False
theorem AVLe.refl (a : AV) : AVLe a a := fun _ _ h => h
theorem AVLe.trans {a b c : AV} (h : AVLe a b) (k : AVLe b c) : AVLe a c := fun m v x => k m v (h m v x)
theorem ACalls.mono {P : Program} {f : FuncId} {args : List AV} {H : AHeap} {R R' : Out → AHeap → Prop} (h : ACalls P f args H R) (hr : ∀ o H', R o H' → ∃ o2 H2, OutLe o o2 ∧ HSub H2 H' ∧ R' o2 H2) : ACalls P f args H R' := by
 intro m vs hH rh hv cs
 obtain ⟨e, w', az, ⟨o, H', L', T', g1, g2, g3, g4⟩, rest⟩ := h m vs hH rh hv cs
 obtain ⟨o2, H2, k1, k2, k3⟩ := hr o H' g4
 refine ⟨e, w', az, ⟨o2, H2, L', T', RH.forget k2 g1, Ev.forget k2 g2, ?_, k3⟩, rest⟩
 cases o <;> cases o2 <;> simp only [OutLe] at k1 <;> try exact k1.elim
 ·simp only [RvOut] at g3 ⊢
  obtain ⟨v, e1, e2⟩ := g3
  exact ⟨v, e1, Rv.forget k2 _ _ (k1 _ _ e2)⟩
 ·simp only [RvOut] at g3 ⊢
  obtain ⟨v, e1, e2⟩ := g3
  exact ⟨v, e1, Rv.forget k2 _ _ (k1 _ _ e2)⟩
theorem ACalls.pure {P : Program} {f : FuncId} {args : List AV} {r : AV} (h : ∀ H, ACalls P f args H fun o H' => ∃ a, o = .ret a ∧ AVLe a r ∧ HSub H H') : Pure P f args r := fun H =>
 (h H).mono fun o H' ⟨a, e, h1, h2⟩ => ⟨.ret r, H, by subst e; exact h1, h2, rfl, rfl⟩
theorem pure_intro {P : Program} {f : FuncId} {fn : Func} {args : List AV} {e : EC} {rs : List ERes} {r : AV} (hm : P.follows .mixedOrders = true) (hf : P.funcs[f]? = some fn) (hc : chkF P fn args.length e rs = true) (h : ∀ H, AM P rs (fun o H' => ∃ a, o = .ret a ∧ AVLe a r ∧ HSub H H') [.c e] (initEnv args) H) : Pure P f args r :=
 ACalls.pure fun H => acalls_of hm hf hc (h H)
end Go.Aw
namespace Go.Aw
open Go
set_option linter.unusedVariables false
variable {P : Program} {rs : List ERes} {R : Out → AHeap → Prop}
def EnvLe (env : Env) : Env → Prop
 | [] => True
 | (k, v) :: E => AVLe (env.get k) v ∧ EnvLe env E
theorem AVLe.top (a : AV) : AVLe a .top := fun _ _ _ => by simp only [Rv]
theorem EnvLe.get {env : Env} : ∀ {E : Env}, EnvLe env E → ∀ j, AVLe (env.get j) (E.get j)
 | [], _, j => AVLe.top _
 | (k, v) :: E, h, j => by
  simp only [Env.get]
  by_cases e : k = j
  ·subst e; simpa using h.1
  ·have : (k == j) = false := by simpa using e
   rw [this, cond_false]
   exact EnvLe.get h.2 j
theorem DM.pc {f args env H l K Rp d} (az : List AV) (r : AV) (hp : Pure P f az r) (ha : AVLes (args.map (EOpd.ev env)) az) (h : DM P l (env.put d r) H K Rp) : DM P (⟨d, none, .call f args⟩ :: l) env H K Rp :=
 DM.de (.det r) rfl (.pcall ha hp) fun _ _ => h
theorem DM.idxS {x i env H l K Rp d} (s : List UInt8) (k : IntKind) (n : Int) (c : UInt8) (hx : x.ev env = .str s) (hi : i.ev env = .int k n) (h0 : 0 ≤ n) (hc : s[n.toNat]? = some c) (h : DM P l (env.put d (.int .u8 c.toNat)) H K Rp) : DM P (⟨d, none, .idxS x i⟩ :: l) env H K Rp :=
 DM.de (.det _) rfl (.idxS hx hi h0 hc) fun _ _ => h
theorem DM.gd {d j t op l env H K Rp} {b : Bool} (hb : env.get j = .bool b) (h : b = t → DM P (⟨d, none, op⟩ :: l) env H K Rp) (h' : b = (!t) → DM P l (env.put d .undef) H K Rp) : DM P (⟨d, some (j, t), op⟩ :: l) env H K Rp := by
 by_cases e : b = t
 ·have := h e
  simp only [DM, wanted] at this ⊢
  rw [hb]
  subst e
  simpa using this
 ·refine DM.skip ?_ (h' (by cases b <;> cases t <;> simp_all))
  simp only [wanted, hb]
  cases b <;> cases t <;> simp_all
theorem DM.gt {d j t op l env H K Rp} (hb : env.get j = .bool t) (h : DM P (⟨d, none, op⟩ :: l) env H K Rp) : DM P (⟨d, some (j, t), op⟩ :: l) env H K Rp :=
 DM.gd hb (fun _ => h) (fun e => by cases t <;> simp at e)
theorem avles_nil : AVLes [] [] := rfl
theorem avles_cons {a b : AV} {az bs : List AV} (h : AVLe a b) (t : AVLes az bs) : AVLes (a :: az) (b :: bs) := ⟨b, bs, rfl, h, t⟩
theorem AVLes.refl : ∀ (az : List AV), AVLes az az
 | [] => rfl
 | a :: az => avles_cons (AVLe.refl a) (AVLes.refl az)
theorem AVLe.own {t size rows} : AVLe (.own t size rows) (.vs size rows) := fun _ _ h => rv_own h
theorem AVLe.nil {size : Nat} : AVLe .nilS (.vs size []) := fun m v h => by
 simp only [Rv] at h ⊢
 subst h
 exact ⟨none, 0, 0, rfl, rfl, ⟨Nat.le_refl _, by unfold maxLen; omega⟩, .inl rfl⟩
theorem avle_agg {az bs : List AV} (h : AVLes az bs) : AVLe (.agg az) (.agg bs) := by
 intro m v hv
 simp only [Rv] at hv ⊢
 obtain ⟨l, e, hl⟩ := hv
 refine ⟨l, e, ?_⟩
 clear e
 induction az generalizing bs l with
 | nil => simp only [AVLes] at h; subst h; exact hl
 | cons a az ih =>
  simp only [AVLes] at h
  obtain ⟨b, bs', rfl, h1, h2⟩ := h
  simp only [RvL] at hl ⊢
  obtain ⟨x, xs, rfl, g1, g2⟩ := hl
  exact ⟨x, xs, rfl, h1 _ _ g1, ih h2 _ g2⟩
theorem avle_tup {az bs : List AV} (h : AVLes az bs) : AVLe (.tup az) (.tup bs) := by
 intro m v hv
 simp only [Rv] at hv ⊢
 obtain ⟨l, e, hl⟩ := hv
 have := avle_agg h m (.agg ⟨l⟩) (by simp only [Rv]; exact ⟨l, rfl, hl⟩)
 simp only [Rv] at this
 obtain ⟨l', e', h'⟩ := this
 simp at e'
 subst e'
 exact ⟨l, e, h'⟩
theorem AM.congr {k e e' H} (h : EnvEq e e') (ha : AM P rs R k e H) : AM P rs R k e' H := AM.weak (fun j => by rw [h j]; exact AVLe.refl _) ha
theorem env_same {env : Env} {j : Nat} {v : AV} (h : env.get j = v) : EnvEq ((j, v) :: env) env := fun k => by
 simp only [Env.get]
 by_cases e : j = k
 ·subst e; simp [h]
 ·have : (j == k) = false := by simpa using e
  rw [this, cond_false]
theorem DM.gb {d : Option Nat} {j : Nat} {t : Bool} {op : EOp} {l : List EI} {env : Env} {H : AHeap} {k : List Item} {Rp : AV → AHeap → Prop} {b : Bool} (hb : env.get j = .bool b) (h : b = t → DM P (⟨d, none, op⟩ :: l) ((j, .bool t) :: env) H (fun e H' => AM P rs R k e H') Rp) (h' : b = (!t) → DM P l (Env.put ((j, .bool (!t)) :: env) d .undef) H (fun e H' => AM P rs R k e H') Rp) : DM P (⟨d, some (j, t), op⟩ :: l) env H (fun e H' => AM P rs R k e H') Rp := by
 refine DM.gd hb (fun e => ?_) (fun e => ?_)
 ·subst e
  exact dm_congr (K := fun e H' => AM P rs R k e H') (fun _ _ _ he hk => AM.congr he hk) _ (env_same hb) (h rfl)
 ·subst e
  exact dm_congr (K := fun e H' => AM P rs R k e H') (fun _ _ _ he hk => AM.congr he hk) _ (put_get_eq (env_same hb) _ _) (h' rfl)
theorem AM.condT {c : EOpd} {a b : EC} {k : List Item} {env : Env} {H : AHeap} (hc : c.ev env = .bool true) (h : AM P rs R (.c a :: k) env H) : AM P rs R (.c (.cond c a b) :: k) env H := AM.cond hc (fun _ => h) (fun e => by cases e)
theorem AM.condF {c : EOpd} {a b : EC} {k : List Item} {env : Env} {H : AHeap} (hc : c.ev env = .bool false) (h : AM P rs R (.c b :: k) env H) : AM P rs R (.c (.cond c a b) :: k) env H := AM.cond hc (fun e => by cases e) (fun _ => h)
section
variable {d : Nat} {d? : Option Nat} {j : Nat} {t t' : Bool} {op : EOp} {l : List EI} {env : Env} {H : AHeap} {K : Env → AHeap → Prop} {Rp : AV → AHeap → Prop} {v : AV}
theorem DM.p (hv : peval op env H = some v) (h : DM P l ((d, v) :: env) H K Rp) : DM P (⟨some d, none, op⟩ :: l) env H K Rp := DM.pv rfl hv h
theorem DM.p0 (hv : peval op env H = some v) (h : DM P l env H K Rp) : DM P (⟨none, none, op⟩ :: l) env H K Rp := DM.pv rfl hv h
theorem DM.g1 (hb : env.get j = .bool t) (h : DM P (⟨d?, none, op⟩ :: l) env H K Rp) : DM P (⟨d?, some (j, t), op⟩ :: l) env H K Rp := DM.gt hb h
theorem DM.g0 (hb : env.get j = .bool t') (ht : (t' == t) = false) (h : DM P l (env.put d? .undef) H K Rp) : DM P (⟨d?, some (j, t), op⟩ :: l) env H K Rp :=
 DM.skip (by simp only [wanted, hb]; rw [ht]) h
end
theorem DM.gbT {d : Nat} {j : Nat} {op : EOp} {l : List EI} {env : Env} {H : AHeap} {k : List Item} {Rp : AV → AHeap → Prop} {b : Bool} (hb : env.get j = .bool b) (h : b = true → DM P (⟨some d, none, op⟩ :: l) ((j, .bool true) :: env) H (fun e H' => AM P rs R k e H') Rp) (h' : b = false → DM P l ((d, .undef) :: (j, .bool false) :: env) H (fun e H' => AM P rs R k e H') Rp) : DM P (⟨some d, some (j, true), op⟩ :: l) env H (fun e H' => AM P rs R k e H') Rp := DM.gb hb h h'
theorem DM.gbF {d : Nat} {j : Nat} {op : EOp} {l : List EI} {env : Env} {H : AHeap} {k : List Item} {Rp : AV → AHeap → Prop} {b : Bool} (hb : env.get j = .bool b) (h : b = false → DM P (⟨some d, none, op⟩ :: l) ((j, .bool false) :: env) H (fun e H' => AM P rs R k e H') Rp) (h' : b = true → DM P l ((d, .undef) :: (j, .bool true) :: env) H (fun e H' => AM P rs R k e H') Rp) : DM P (⟨some d, some (j, false), op⟩ :: l) env H (fun e H' => AM P rs R k e H') Rp := DM.gb hb h h'
theorem avle_eq {a b : AV} (h : a = b) : AVLe a b := h ▸ AVLe.refl a
section
variable {d : Nat} {d? : Option Nat} {j : Nat} {op : EOp} {l : List EI} {env : Env} {H : AHeap} {K : Env → AHeap → Prop} {Rp : AV → AHeap → Prop} {v : AV} {f : FuncId} {args : List EOpd} {az az' : List AV} {r : AV}
theorem DM.pcs (hp : Pure P f az r) (hm : args.map (EOpd.ev env) = az') (ha : AVLes az' az) (h : DM P l ((d, r) :: env) H K Rp) : DM P (⟨some d, none, .call f args⟩ :: l) env H K Rp :=
 DM.pc az r hp (hm ▸ ha) h
end
theorem wrap64 {n : Int} (h0 : -9223372036854775808 ≤ n) (h1 : n ≤ 9223372036854775807) : IntKind.i64.wrap n = n := by
 simp only [IntKind.wrap, IntKind.bits, IntKind.signed]
 simp
 omega
variable {P : Program} {rs : List ERes} {R : Out → AHeap → Prop}
theorem list_set_same {α : Type} : ∀ {l : List α} {o : Nat} {v : α}, l[o]? = some v → l.set o v = l
 | [], _, _, h => by simp at h
 | x :: l, 0, v, h => by simp at h; simp [h]
 | x :: l, o + 1, v, h => by simp at h; simp [list_set_same h]
def Frz (H H2 : AHeap) (a a2 : AV) : Prop := ∀ m : Mem, m.H = H → RH m → ∀ v, Rv m a v → Rv ⟨m.w, H2, m.L, m.T⟩ a2 v
def FrzL (H H2 : AHeap) (a a2 : List AV) : Prop := ∀ m : Mem, m.H = H → RH m → ∀ v, RvL m a v → RvL ⟨m.w, H2, m.L, m.T⟩ a2 v
theorem Frz.same {H H2 : AHeap} {a : AV} (hh : HSub H2 H) : Frz H H2 a a := by
 rintro m rfl rh v h
 exact Rv.forget (w := m.w) (L := m.L) (T := m.T) hh a v h
theorem FrzL.nil {H H2 : AHeap} : FrzL H H2 [] [] := fun m _ _ v h => by simp only [RvL] at *; exact h
theorem FrzL.cons {H H2 : AHeap} {a b : AV} {az bs : List AV} (h : Frz H H2 a b) (t : FrzL H H2 az bs) : FrzL H H2 (a :: az) (b :: bs) := fun m e r v hv => by
 simp only [RvL] at *
 obtain ⟨x, xs, rfl, h1, h2⟩ := hv
 exact ⟨x, xs, rfl, h m e r _ h1, t m e r _ h2⟩
theorem Frz.agg {H H2 : AHeap} {az bs : List AV} (h : FrzL H H2 az bs) : Frz H H2 (.agg az) (.agg bs) := fun m e r v hv => by
 simp only [Rv] at *
 obtain ⟨l, rfl, h1⟩ := hv
 exact ⟨l, rfl, h m e r _ h1⟩
theorem Frz.tup {H H2 : AHeap} {az bs : List AV} (h : FrzL H H2 az bs) : Frz H H2 (.tup az) (.tup bs) := fun m e r v hv => by
 simp only [Rv] at *
 obtain ⟨l, rfl, h1⟩ := hv
 exact ⟨l, rfl, h m e r _ h1⟩
theorem Frz.ms {H H2 : AHeap} {t ver T size : Nat} {rows : List (List AV)} (hh : HSub H2 H) (ht : H.tok t = some (.mu T size ver rows)) (ht2 : H2.tok t = none) : Frz H H2 (.ms t ver) (.vs size rows) := by
 rintro m rfl rh v h
 obtain ⟨hL, h0, hs, hc⟩ := ms_get rh ht h
 simp only [Rv]
 rcases hc with ⟨rfl, rfl⟩ | ⟨g, cap, cur, rfl, hg, h1, h2, h3, h4, h5⟩
 ·exact ⟨none, 0, 0, rfl, rfl, ⟨Nat.le_refl _, by unfold maxLen; omega⟩, .inl rfl⟩
 ·obtain ⟨k1, k2, k3, k4⟩ := rh.tok t _ ht
  obtain ⟨q1, q2⟩ := k4 g (by rw [hL]; rfl)
  have hlt : g < m.w.heap.size := (Array.getElem?_eq_some_iff.1 hg).1
  refine ⟨some ⟨g, 0, none⟩, rows.length, cap, rfl, rfl, ⟨h1, h2⟩, .inr ⟨g, 0, rfl, RvR.of hs (RvL.forget (w := m.w) (L := m.L) (T := m.T) hh _ _ h4) fun j v hj => ⟨?_, h5 v (List.mem_of_getElem? hj), ⟨hlt, hh.none_blk q1, fun t' i' ht' hb' => ?_⟩⟩⟩⟩
  ·rw [Nat.zero_add, cell_of_row m.w g j cur T (0, 0) hg]
   have := hj
   rw [List.getElem?_take] at this
   split at this
   ·simpa using this
   ·cases this
  ·have := q2 t' i' (hh.tok t' i' ht') hb'
   subst this
   rw [ht2] at ht'
   cases ht'
def OutFrz (H H2 : AHeap) : Out → Out → Prop
 | .ret a, .ret b => Frz H H2 a b
 | .pan a, .pan b => Frz H H2 a b
 | _, _ => False
theorem ACalls.frz {f : FuncId} {args : List AV} {H : AHeap} {R R' : Out → AHeap → Prop} (h : ACalls P f args H R) (hr : ∀ o H', R o H' → ∃ o2 H2, OutFrz H' H2 o o2 ∧ HSub H2 H' ∧ R' o2 H2) : ACalls P f args H R' := by
 intro m vs hH rh hv cs
 obtain ⟨e, w', az, ⟨o, H', L', T', g1, g2, g3, g4⟩, rest⟩ := h m vs hH rh hv cs
 obtain ⟨o2, H2, k1, k2, k3⟩ := hr o H' g4
 refine ⟨e, w', az, ⟨o2, H2, L', T', RH.forget k2 g1, Ev.forget k2 g2, ?_, k3⟩, rest⟩
 cases o <;> cases o2 <;> simp only [OutFrz] at k1 <;> try exact k1.elim
 ·simp only [RvOut] at g3 ⊢
  obtain ⟨v, e1, e2⟩ := g3
  exact ⟨v, e1, k1 ⟨w', H', L', T'⟩ rfl g1 v e2⟩
 ·simp only [RvOut] at g3 ⊢
  obtain ⟨v, e1, e2⟩ := g3
  exact ⟨v, e1, k1 ⟨w', H', L', T'⟩ rfl g1 v e2⟩
variable {P : Program} {rs : List ERes} {R : Out → AHeap → Prop}
section
variable {H : AHeap} {b b' t t' : Nat} {T : TypeId} {c : List AV} {o : Own}
theorem fresh_setB (h : (H.setB b T c).blk b' = none) : b' ≠ b ∧ b ≠ b' ∧ H.blk b' = none := by
 simp only [AHeap.setB] at h
 by_cases e : b' = b
 ·rw [if_pos e] at h; cases h
 ·rw [if_neg e] at h; exact ⟨e, Ne.symm e, h⟩
theorem fresh_elim {G : Prop} (h : (H.setB b T c).blk b' = none) (k : b' ≠ b → b ≠ b' → H.blk b' = none → G) : G := by obtain ⟨x, y, z⟩ := fresh_setB h; exact k x y z
theorem fresh_elimT {G : Prop} (h : (H.setT t o).blk b' = none) (k : H.blk b' = none → G) : G := k h
theorem ne_blk {x : TypeId × List AV} (h : H.blk b = none) (k : H.blk b' = some x) : b ≠ b' ∧ b' ≠ b := by
 have : b ≠ b' := fun e => by subst e; rw [h] at k; cases k
 exact ⟨this, Ne.symm this⟩
theorem ne_tok {x : Own} (h : H.tok b = none) (k : H.tok b' = some x) : b ≠ b' ∧ b' ≠ b := by
 have : b ≠ b' := fun e => by subst e; rw [h] at k; cases k
 exact ⟨this, Ne.symm this⟩
theorem setB_same : (H.setB b T c).blk b = some (T, c) := by simp [AHeap.setB]
theorem setB_ne (h : b' ≠ b) : (H.setB b T c).blk b' = H.blk b' := by simp [AHeap.setB, h]
theorem setT_same : (H.setT t o).tok t = some o := by simp [AHeap.setT]
theorem setT_ne (h : t' ≠ t) : (H.setT t o).tok t' = H.tok t' := by simp [AHeap.setT, h]
theorem g_same : (H.setB b T c).blk b = some (T, c) := setB_same
theorem g_ne {x : Option (TypeId × List AV)} (h : b' ≠ b) (k : H.blk b' = x) : (H.setB b T c).blk b' = x := (setB_ne h).trans k
theorem g_T {x : Option (TypeId × List AV)} (k : H.blk b' = x) : (H.setT t o).blk b' = x := k
theorem t_same : (H.setT t o).tok t = some o := setT_same
theorem t_ne {x : Option Own} (h : t' ≠ t) (k : H.tok t' = x) : (H.setT t o).tok t' = x := (setT_ne h).trans k
theorem t_B {x : Option Own} (k : H.tok t' = x) : (H.setB b T c).tok t' = x := k
theorem setB_setB {T' : TypeId} {c' : List AV} : (H.setB b T c).setB b T' c' = H.setB b T' c' := by
 simp only [AHeap.setB, AHeap.mk.injEq, and_true]
 funext x
 by_cases e : x = b <;> simp [e]
end
theorem AM.forget {k : List Item} {env : Env} {H : AHeap} (H2 : AHeap) (hs : HSub H2 H) (h : AM P rs R k env H2) : AM P rs R k env H :=
 AM.conv (fun env' H' => env' = env ∧ H' = H2) (fun m e rh => by
  subst e
  have e1 : Ev m ⟨m.w, m.H, m.L, m.T⟩ := Ev.refl m
  exact ⟨env, H2, m.L, m.T, ⟨rfl, rfl⟩, RH.forget hs rh, Ev.forget hs e1, fun j v hv => Rv.forget (w := m.w) (L := m.L) (T := m.T) hs _ _ hv⟩) (fun env' H' ⟨e1, e2⟩ => by subst e1; subst e2; exact h)
section
variable {d : Nat} {d? : Option Nat} {l : List EI} {env : Env} {H : AHeap} {K : Env → AHeap → Prop} {Rp : AV → AHeap → Prop} {x a v : EOpd} {cs new cs' : List AV} {b o n : Nat} {T : TypeId} {r r' : AV}
theorem DM.bxA (hx : x.ev env = .agg cs) (ho : cs.all AV.one = true) (h : ∀ b, H.blk b = none → DM P l ((d, .ptr b 0) :: env) (H.setB b T cs) K Rp) : DM P (⟨some d, none, .box T x⟩ :: l) env H K Rp :=
 DM.de (.nblk T (x.ev env).cells) rfl (.box (by rw [hx]; exact ho)) fun b hb => by
  have := h b hb
  simp only [D.val, D.heap, hx, AV.cells]
  exact this
theorem DM.al (ho : cs.all AV.one = true) (h : ∀ b, H.blk b = none → DM P l ((d, .ptr b 0) :: env) (H.setB b T cs) K Rp) : DM P (⟨some d, none, .alloc T cs⟩ :: l) env H K Rp :=
 DM.de (.nblk T cs) rfl (.alloc ho) fun b hb => h b hb
theorem take_one {α : Type} {l : List α} {o : Nat} {r : α} (h : l[o]? = some r) : (l.drop o).take 1 = [r] := by
 obtain ⟨hl, e⟩ := List.getElem?_eq_some_iff.1 h
 rw [List.drop_eq_getElem_cons hl, e]
 rfl
theorem DM.ld1 (hx : x.ev env = .ptr b o) (hb : H.blk b = some (T, cs)) (hg : cs[o]? = some r) (h : DM P l ((d, r) :: env) H K Rp) : DM P (⟨some d, none, .load false 1 x⟩ :: l) env H K Rp := by
 refine DM.p (v := r) ?_ h
 have hl := (List.getElem?_eq_some_iff.1 hg).1
 simp only [peval, hx, hb]
 rw [if_pos (by omega)]
 rw [take_one hg]
 rfl
theorem DM.ldA (hx : x.ev env = .ptr b o) (hb : H.blk b = some (T, cs)) (hl : o + n ≤ cs.length) (hg : (cs.drop o).take n = new) (h : DM P l ((d, .agg new) :: env) H K Rp) : DM P (⟨some d, none, .load true n x⟩ :: l) env H K Rp := by
 refine DM.p (v := .agg new) ?_ h
 simp only [peval, hx, hb]
 rw [if_pos hl, hg]
 rfl
theorem DM.ldR1 (hx : x.ev env = .rp cs o) (hg : cs[o]? = some r) (h : DM P l ((d, r) :: env) H K Rp) : DM P (⟨some d, none, .load false 1 x⟩ :: l) env H K Rp := by
 refine DM.p (v := r) ?_ h
 have hl := (List.getElem?_eq_some_iff.1 hg).1
 simp only [peval, hx]
 rw [if_pos (by omega)]
 rw [take_one hg]
 rfl
theorem DM.ldRA (hx : x.ev env = .rp cs o) (hl : o + n ≤ cs.length) (hg : (cs.drop o).take n = new) (h : DM P l ((d, .agg new) :: env) H K Rp) : DM P (⟨some d, none, .load true n x⟩ :: l) env H K Rp := by
 refine DM.p (v := .agg new) ?_ h
 simp only [peval, hx]
 rw [if_pos hl, hg]
 rfl
inductive RD (H : AHeap) : AV → List AV → Nat → Prop
 | p {b o : Nat} {T : TypeId} {cs : List AV} (h : H.blk b = some (T, cs)) : RD H (.ptr b o) cs o
 | r {cs : List AV} {o : Nat} : RD H (.rp cs o) cs o
theorem DM.ldm1 (hx : x.ev env = r') (hb : RD H r' cs o) (hg : cs[o]? = some r) (h : DM P l ((d, r) :: env) H K Rp) : DM P (⟨some d, none, .load false 1 x⟩ :: l) env H K Rp := by
 cases hb with
 | p hb => exact DM.ld1 hx hb hg h
 | r => exact DM.ldR1 hx hg h
theorem DM.ldmA (hx : x.ev env = r') (hb : RD H r' cs o) (hl : o + n ≤ cs.length) (hg : (cs.drop o).take n = new) (h : DM P l ((d, .agg new) :: env) H K Rp) : DM P (⟨some d, none, .load true n x⟩ :: l) env H K Rp := by
 cases hb with
 | p hb => exact DM.ldA hx hb hl hg h
 | r => exact DM.ldRA hx hl hg h
theorem DM.stE (ha : a.ev env = .ptr b o) (hb : H.blk b = some (T, cs)) (hv : (v.ev env).cells = new) (hn : new.length = n) (hl : o + n ≤ cs.length) (ho : new.all AV.one = true) (hs : setRange cs o new = cs') {H' : AHeap} (hH : H.setB b T cs' = H') (h : DM P l env H' K Rp) : DM P (⟨none, none, .store n a v⟩ :: l) env H K Rp := by
 simp only [DM, wanted]
 subst hH
 exact IStep.store ha hb (by rw [hv]; exact hn) hl (by rw [hv]; exact ho) (by rw [hv, hs]; exact h)
theorem DM.ixP {size len : Nat} {i : EOpd} {k : IntKind} {z : Int} (hx : x.ev env = .ptr b o) (hi : i.ev env = .int k z) (h0 : 0 ≤ z) (h1 : z < (len : Int)) (hp : o + z.toNat * size = n) (h : DM P l ((d, .ptr b n) :: env) H K Rp) : DM P (⟨some d, none, .iaddrA len size x i⟩ :: l) env H K Rp :=
 DM.de (.det (.ptr b (o + z.toNat * size))) rfl (.idxP hx hi h0 h1) fun _ _ => hp ▸ h
theorem DM.bsl {size : Nat} {zero : List AV} {parts : List (Nat × EOpd)} {rows : List (List AV)} (hr : bslRows env parts = rows) (hs : rows.all (fun r => r.length == size) = true) (ho : rows.flatten.all AV.one = true) (h : DM P l ((d, .vs size rows) :: env) H K Rp) : DM P (⟨some d, none, .bslice T size n zero parts⟩ :: l) env H K Rp :=
 DM.de (.det _) rfl (.bsliceV hr hs ho) fun _ _ => h
section
variable {t ver size k : Nat} {rows : List (List AV)} {row : List AV} {Te : TypeId}
theorem DM.lnM (hx : x.ev env = .ms t ver) (ht : H.tok t = some (.mu Te size ver rows)) (h : DM P l ((d, .int .i64 rows.length) :: env) H K Rp) : DM P (⟨some d, none, .lenM x⟩ :: l) env H K Rp :=
 DM.de (.det _) rfl (.lenM hx ht) fun _ _ => h
theorem DM.isT {neg : Bool} (hx : x.ev env = .nilS) (h : DM P l ((d, .bool (!neg)) :: env) H K Rp) : DM P (⟨some d, none, .isnil neg x⟩ :: l) env H K Rp :=
 DM.de (.det (.bool (!neg))) rfl (.isnilT hx) fun _ _ => h
theorem DM.fdM {off : Nat} (hx : x.ev env = .mp t ver k) (ht : H.tok t = some (.mu Te size ver rows)) (h : DM P l ((d, .mp t ver (k + off)) :: env) H K Rp) : DM P (⟨some d, none, .faddrM off x⟩ :: l) env H K Rp :=
 DM.de (.det _) rfl (.faddrM hx ht) fun _ _ => h
end
theorem results_c {a' n' : Nat} (hx : env.get a' = .ptr b 0) (hb : H.blk b = some (T, cs)) (hl : n' = cs.length) : Aw.results [.cell true n' a'] env H = some (.agg cs) := by
 subst hl
 simp [Aw.results, ERes.ev, peval, EOpd.ev, hx, hb, AV.ofCells]
theorem results_ct {a' n' m' : Nat} (hx : env.get a' = .ptr b 0) (hb : H.blk b = some (T, cs)) (hl : n' = cs.length) (hm : env.get m' = r) : Aw.results [.cell true n' a', .t m'] env H = some (.tup [.agg cs, r]) := by
 subst hl
 subst hm
 simp [Aw.results, ERes.ev, peval, EOpd.ev, hx, hb, AV.ofCells]
theorem results_tt {a' m' : Nat} {q : AV} (hx : env.get a' = q) (hm : env.get m' = r) : Aw.results [.t a', .t m'] env H = some (.tup [q, r]) := by
 subst hm
 subst hx
 simp [Aw.results, ERes.ev]
theorem results_ttt {a' m' c' : Nat} {q q' : AV} (hx : env.get a' = q) (hm : env.get m' = r) (hc : env.get c' = q') : Aw.results [.t a', .t m', .t c'] env H = some (.tup [q, r, q']) := by
 subst hm
 subst hx
 subst hc
 simp [Aw.results, ERes.ev]
theorem results_t {a' : Nat} (hx : env.get a' = r) : Aw.results [.t a'] env H = some r := by
 subst hx
 simp [Aw.results, ERes.ev]
theorem results_nil : Aw.results [] env H = some (.tup []) := by simp [Aw.results]
theorem AM.retA {rs : List ERes} {k : List Item} {H0 : AHeap} {q r' : AV} (hv : Aw.results rs env H = some q) (h : AVLe q r') (hs : HSub H0 H) : AM P rs (fun o H' => ∃ a, o = .ret a ∧ AVLe a r' ∧ HSub H0 H') (.c .ret :: k) env H :=
 AM.ret hv ⟨_, rfl, h, hs⟩
theorem AM.doneA {rs : List ERes} {H0 : AHeap} {q r' : AV} (hv : Aw.results rs env H = some q) (h : AVLe q r') (hs : HSub H0 H) : AM P rs (fun o H' => ∃ a, o = .ret a ∧ AVLe a r' ∧ HSub H0 H') [] env H :=
 AM.done hv ⟨_, rfl, h, hs⟩
def Ret (S : AV → AHeap → Prop) (o : Out) (H : AHeap) : Prop := ∃ r, o = .ret r ∧ S r H
theorem AM.retS {rs : List ERes} {k : List Item} {S : AV → AHeap → Prop} {q : AV} (hv : Aw.results rs env H = some q) (h : S q H) : AM P rs (Ret S) (.c .ret :: k) env H :=
 AM.ret hv ⟨_, rfl, h⟩
theorem AM.doneS {rs : List ERes} {S : AV → AHeap → Prop} {q : AV} (hv : Aw.results rs env H = some q) (h : S q H) : AM P rs (Ret S) [] env H :=
 AM.done hv ⟨_, rfl, h⟩
def PureAt (P : Program) (f : FuncId) (args : List AV) (H : AHeap) (r : AV) : Prop := ACalls P f args H fun o H' => o = .ret r ∧ H' = H
theorem Pure.at {P : Program} {f : FuncId} {args : List AV} {r : AV} (h : Pure P f args r) (H : AHeap) : PureAt P f args H r := h H
end
end Go.Aw
namespace Go.Aw
open Go
set_option linter.unusedVariables false
theorem annotate_nil : ∀ (l : List EI), annotate l [] = l
 | [] => rfl
 | ⟨d, g, op⟩ :: l => by cases op <;> simp only [annotate, annotate_nil l]
inductive Sp : Prop → Prop → Prop
 | sq {P : Program} {rs : List ERes} {R : Out → AHeap → Prop} {k : List Item} {env : Env} {H : AHeap} {a b : EC} : Sp (AM P rs R (.c a :: .c b :: k) env H) (AM P rs R (.c (.seq a b) :: k) env H)
 | bk {P : Program} {rs : List ERes} {R : Out → AHeap → Prop} {k : List Item} {env : Env} {H : AHeap} {id : Nat} {body : EC} : Sp (AM P rs R (.c body :: .blk id :: k) env H) (AM P rs R (.c (.block id body) :: k) env H)
 | sk {P : Program} {rs : List ERes} {R : Out → AHeap → Prop} {k : List Item} {env : Env} {H : AHeap} : Sp (AM P rs R k env H) (AM P rs R (.c .skip :: k) env H)
 | be {P : Program} {rs : List ERes} {R : Out → AHeap → Prop} {k : List Item} {env : Env} {H : AHeap} {id : Nat} : Sp (AM P rs R k env H) (AM P rs R (.blk id :: k) env H)
 | ex {P : Program} {rs : List ERes} {R : Out → AHeap → Prop} {k : List Item} {k' : List Item} {env : Env} {H : AHeap} {id : Nat} (hk : popTo id k = some k') : Sp (AM P rs R k' env H) (AM P rs R (.c (.exit id) :: k) env H)
 | rg {P : Program} {rs : List ERes} {R : Out → AHeap → Prop} {k : List Item} {env : Env} {H : AHeap} {l : List EI} : Sp (DM P l env H (fun env' H' => AM P rs R k env' H') (fun v H' => R (.pan v) H')) (AM P rs R (.c (.region l false) :: k) env H)
 | nl {P : Program} {rs : List ERes} {R : Out → AHeap → Prop} {k : List Item} {env : Env} {H : AHeap} {Rp : AV → AHeap → Prop} : Sp (AM P rs R k env H) (DM P [] env H (fun env' H' => AM P rs R k env' H') Rp)
 | l1 {P : Program} {env : Env} {H : AHeap} {K : Env → AHeap → Prop} {Rp : AV → AHeap → Prop} {l : List EI} {d : Nat} {x : EOpd} {cs : List AV} {o : Nat} {r : AV} {r' : AV} (hx : x.ev env = r') (hb : RD H r' cs o) (hg : cs[o]? = some r) : Sp (DM P l ((d, r) :: env) H K Rp) (DM P (⟨some d, none, .load false 1 x⟩ :: l) env H K Rp)
 | lA {P : Program} {env : Env} {H : AHeap} {K : Env → AHeap → Prop} {Rp : AV → AHeap → Prop} {l : List EI} {d : Nat} {x : EOpd} {cs : List AV} {new : List AV} {o : Nat} {n : Nat} {r' : AV} (hx : x.ev env = r') (hb : RD H r' cs o) (hl : o + n ≤ cs.length) (hg : (cs.drop o).take n = new) : Sp (DM P l ((d, .agg new) :: env) H K Rp) (DM P (⟨some d, none, .load true n x⟩ :: l) env H K Rp)
 | bA {P : Program} {env : Env} {H : AHeap} {K : Env → AHeap → Prop} {Rp : AV → AHeap → Prop} {l : List EI} {d : Nat} {x : EOpd} {cs : List AV} {T : TypeId} (hx : x.ev env = .agg cs) (ho : cs.all AV.one = true) : Sp (∀ b, H.blk b = none → DM P l ((d, .ptr b 0) :: env) (H.setB b T cs) K Rp) (DM P (⟨some d, none, .box T x⟩ :: l) env H K Rp)
 | al {P : Program} {env : Env} {H : AHeap} {K : Env → AHeap → Prop} {Rp : AV → AHeap → Prop} {l : List EI} {d : Nat} {cs : List AV} {T : TypeId} (ho : cs.all AV.one = true) : Sp (∀ b, H.blk b = none → DM P l ((d, .ptr b 0) :: env) (H.setB b T cs) K Rp) (DM P (⟨some d, none, .alloc T cs⟩ :: l) env H K Rp)
 | sE {P : Program} {env : Env} {H : AHeap} {H' : AHeap} {K : Env → AHeap → Prop} {Rp : AV → AHeap → Prop} {l : List EI} {a : EOpd} {v : EOpd} {cs : List AV} {new : List AV} {cs' : List AV} {b : Nat} {o : Nat} {n : Nat} {T : TypeId} (ha : a.ev env = .ptr b o) (hb : H.blk b = some (T, cs)) (hv : (v.ev env).cells = new) (hn : new.length = n) (hl : o + n ≤ cs.length) (ho : new.all AV.one = true) (hs : setRange cs o new = cs') (hH : H.setB b T cs' = H') : Sp (DM P l env H' K Rp) (DM P (⟨none, none, .store n a v⟩ :: l) env H K Rp)
 | iP {P : Program} {env : Env} {H : AHeap} {K : Env → AHeap → Prop} {Rp : AV → AHeap → Prop} {l : List EI} {d : Nat} {x : EOpd} {i : EOpd} {b : Nat} {o : Nat} {n : Nat} {size len : Nat} {kk : IntKind} {z : Int} (hx : x.ev env = .ptr b o) (hi : i.ev env = .int kk z) (h0 : 0 ≤ z) (h1 : z < (len : Int)) (hp : o + z.toNat * size = n) : Sp (DM P l ((d, .ptr b n) :: env) H K Rp) (DM P (⟨some d, none, .iaddrA len size x i⟩ :: l) env H K Rp)
 | lM {P : Program} {env : Env} {H : AHeap} {K : Env → AHeap → Prop} {Rp : AV → AHeap → Prop} {l : List EI} {d : Nat} {x : EOpd} {t ver size : Nat} {rows : List (List AV)} {Te : TypeId} (hx : x.ev env = .ms t ver) (ht : H.tok t = some (.mu Te size ver rows)) : Sp (DM P l ((d, .int .i64 rows.length) :: env) H K Rp) (DM P (⟨some d, none, .lenM x⟩ :: l) env H K Rp)
 | fM {P : Program} {env : Env} {H : AHeap} {K : Env → AHeap → Prop} {Rp : AV → AHeap → Prop} {l : List EI} {d : Nat} {x : EOpd} {t ver size kk off : Nat} {rows : List (List AV)} {Te : TypeId} (hx : x.ev env = .mp t ver kk) (ht : H.tok t = some (.mu Te size ver rows)) : Sp (DM P l ((d, .mp t ver (kk + off)) :: env) H K Rp) (DM P (⟨some d, none, .faddrM off x⟩ :: l) env H K Rp)
 | bs {P : Program} {env : Env} {H : AHeap} {K : Env → AHeap → Prop} {Rp : AV → AHeap → Prop} {l : List EI} {d : Nat} {n : Nat} {T : TypeId} {size : Nat} {zero : List AV} {parts : List (Nat × EOpd)} {rows : List (List AV)} (hr : bslRows env parts = rows) (hs : rows.all (fun r => r.length == size) = true) (ho : rows.flatten.all AV.one = true) : Sp (DM P l ((d, .vs size rows) :: env) H K Rp) (DM P (⟨some d, none, .bslice T size n zero parts⟩ :: l) env H K Rp)
 | pv {P : Program} {env : Env} {H : AHeap} {K : Env → AHeap → Prop} {Rp : AV → AHeap → Prop} {l : List EI} {d : Nat} {r : AV} {op : EOp} (hv : peval op env H = some r) : Sp (DM P l ((d, r) :: env) H K Rp) (DM P (⟨some d, none, op⟩ :: l) env H K Rp)
theorem Sp.go {N G : Prop} (h : Sp N G) (hn : N) : G := by
 cases h with
 | sq => exact AM.seq hn
 | bk => exact AM.block hn
 | sk => exact AM.skip hn
 | be => exact AM.blkEnd hn
 | ex hk => exact AM.exit hk hn
 | rg => exact AM.reg [] (by rw [annotate_nil]; exact hn)
 | nl => exact DM.nil hn
 | l1 hx hb hg => exact DM.ldm1 hx hb hg hn
 | lA hx hb hl hg => exact DM.ldmA hx hb hl hg hn
 | bA hx ho => exact DM.bxA hx ho hn
 | al ho => exact DM.al ho hn
 | sE ha hb hv hn' hl ho hs hH => exact DM.stE ha hb hv hn' hl ho hs hH hn
 | iP hx hi h0 h1 hp => exact DM.ixP hx hi h0 h1 hp hn
 | lM hx ht => exact DM.lnM hx ht hn
 | fM hx ht => exact DM.fdM hx ht hn
 | bs hr hs ho => exact DM.bsl hr hs ho hn
 | pv hv => exact DM.p hv hn
inductive Sr : Prop → Prop → Prop
 | a {P : Program} {rs : List ERes} {k : List Item} {env : Env} {H : AHeap} {r' : AV} {q : AV} {H0 : AHeap} (hv : Aw.results rs env H = some q) (hs : HSub H0 H) : Sr (AVLe q r') (AM P rs (fun o H' => ∃ a, o = .ret a ∧ AVLe a r' ∧ HSub H0 H') (.c .ret :: k) env H)
 | b {P : Program} {rs : List ERes} {env : Env} {H : AHeap} {r' : AV} {q : AV} {H0 : AHeap} (hv : Aw.results rs env H = some q) (hs : HSub H0 H) : Sr (AVLe q r') (AM P rs (fun o H' => ∃ a, o = .ret a ∧ AVLe a r' ∧ HSub H0 H') [] env H)
 | s {P : Program} {rs : List ERes} {k : List Item} {env : Env} {H : AHeap} {q : AV} {S : AV → AHeap → Prop} (hv : Aw.results rs env H = some q) : Sr (S q H) (AM P rs (Ret S) (.c .ret :: k) env H)
 | t {P : Program} {rs : List ERes} {env : Env} {H : AHeap} {q : AV} {S : AV → AHeap → Prop} (hv : Aw.results rs env H = some q) : Sr (S q H) (AM P rs (Ret S) [] env H)
theorem Sr.go {N G : Prop} (h : Sr N G) (hn : N) : G := by
 cases h with
 | a hv hs => exact AM.retA hv hn hs
 | b hv hs => exact AM.doneA hv hn hs
 | s hv => exact AM.retS hv hn
 | t hv => exact AM.doneS hv hn
inductive Lk : Prop → Prop
 | bB {H : AHeap} {b : Nat} {T : TypeId} {c : List AV} : Lk ((H.setB b T c).blk b = some (T, c))
 | nB {H : AHeap} {b : Nat} {b' : Nat} {T : TypeId} {c : List AV} {y : Option (TypeId × List AV)} (h : b' ≠ b) (k : H.blk b' = y) : Lk ((H.setB b T c).blk b' = y)
 | tB {H : AHeap} {b' : Nat} {t : Nat} {o : Own} {y : Option (TypeId × List AV)} (k : H.blk b' = y) : Lk ((H.setT t o).blk b' = y)
 | bT {H : AHeap} {t : Nat} {o : Own} : Lk ((H.setT t o).tok t = some o)
 | nT {H : AHeap} {t t' : Nat} {o : Own} {y : Option Own} (h : t' ≠ t) (k : H.tok t' = y) : Lk ((H.setT t o).tok t' = y)
 | tT {H : AHeap} {b : Nat} {T : TypeId} {t : Nat} {c : List AV} {y : Option Own} (k : H.tok t = y) : Lk ((H.setB b T c).tok t = y)
 | rd {H : AHeap} {cs : List AV} {o : Nat} : Lk (RD H (.rp cs o) cs o)
 | rp {H : AHeap} {cs : List AV} {b : Nat} {o : Nat} {T : TypeId} (h : H.blk b = some (T, cs)) : Lk (RD H (.ptr b o) cs o)
 | hr {H : AHeap} : Lk (HSub H H)
 | hB {H : AHeap} {H' : AHeap} {b : Nat} {T : TypeId} {c : List AV} (h : HSub H H') (hb : H.blk b = none) : Lk (HSub H (H'.setB b T c))
 | hT {H : AHeap} {H' : AHeap} {t : Nat} {o : Own} (h : HSub H H') (hb : H.tok t = none) : Lk (HSub H (H'.setT t o))
 | q0 {env : Env} {H : AHeap} : Lk (Aw.results [] env H = some (.tup []))
 | q1 {env : Env} {H : AHeap} {r : AV} {a' : Nat} (hx : env.get a' = r) : Lk (Aw.results [.t a'] env H = some r)
 | q2 {env : Env} {H : AHeap} {cs : List AV} {b : Nat} {T : TypeId} {a' n' : Nat} (hx : env.get a' = .ptr b 0) (hb : H.blk b = some (T, cs)) (hl : n' = cs.length) : Lk (Aw.results [.cell true n' a'] env H = some (.agg cs))
 | q3 {env : Env} {H : AHeap} {cs : List AV} {b : Nat} {T : TypeId} {r : AV} {a' n' m' : Nat} (hx : env.get a' = .ptr b 0) (hb : H.blk b = some (T, cs)) (hl : n' = cs.length) (hm : env.get m' = r) : Lk (Aw.results [.cell true n' a', .t m'] env H = some (.tup [.agg cs, r]))
 | q4 {env : Env} {H : AHeap} {r : AV} {q : AV} {a' m' : Nat} (hx : env.get a' = q) (hm : env.get m' = r) : Lk (Aw.results [.t a', .t m'] env H = some (.tup [q, r]))
 | q5 {env : Env} {H : AHeap} {r : AV} {r' : AV} {q : AV} {a' m' c' : Nat} (hx : env.get a' = q) (hm : env.get m' = r) (hc : env.get c' = r') : Lk (Aw.results [.t a', .t m', .t c'] env H = some (.tup [q, r, r']))
theorem Lk.go {G : Prop} (h : Lk G) : G := by
 cases h with
 | bB => exact g_same
 | nB h k => exact g_ne h k
 | tB k => exact g_T k
 | bT => exact t_same
 | nT h k => exact t_ne h k
 | tT k => exact t_B k
 | rd => exact RD.r
 | rp h => exact RD.p h
 | hr => exact HSub.refl _
 | hB h hb => exact HSub.setB h hb
 | hT h hb => exact HSub.setT h hb
 | q0 => exact results_nil
 | q1 hx => exact results_t hx
 | q2 hx hb hl => exact results_c hx hb hl
 | q3 hx hb hl hm => exact results_ct hx hb hl hm
 | q4 hx hm => exact results_tt hx hm
 | q5 hx hm hc => exact results_ttt hx hm hc
theorem rt {P : Program} {rs : List ERes} {R : Out → AHeap → Prop} {k : List Item} {env : Env} {H : AHeap} {l : List EI} (h : DM P l env H (fun env' H' => AM P rs R k env' H') (fun v H' => R (.pan v) H')) : AM P rs R (.c (.region l true) :: k) env H := AM.reg [] (by rw [annotate_nil]; exact h)
theorem ss {H : AHeap} {b : Nat} {T : TypeId} {T' : TypeId} {c c' : List AV} : (H.setB b T c).setB b T' c' = H.setB b T' c' := setB_setB
theorem fe {H : AHeap} {b : Nat} {b' : Nat} {T : TypeId} {G : Prop} {c : List AV} (h : (H.setB b T c).blk b' = none) (k : b' ≠ b → b ≠ b' → H.blk b' = none → G) : G := fresh_elim h k
theorem fT {H : AHeap} {b' : Nat} {G : Prop} {t : Nat} {o : Own} (h : (H.setT t o).blk b' = none) (k : H.blk b' = none → G) : G := fresh_elimT h k
theorem nb {H : AHeap} {b : Nat} {b' : Nat} {y : TypeId × List AV} (h : H.blk b = none) (k : H.blk b' = some y) : b' ≠ b := (ne_blk h k).2
theorem nt {H : AHeap} {t t' : Nat} {y : Own} (h : H.tok t = none) (k : H.tok t' = some y) : t' ≠ t := (ne_tok h k).2
theorem gA {P : Program} {env : Env} {H : AHeap} {K : Env → AHeap → Prop} {Rp : AV → AHeap → Prop} {l : List EI} {d? : Option Nat} {g : Nat × Bool} {op : EOp} (hw : wanted ⟨d?, some g, op⟩ env = some true) (h : DM P (⟨d?, none, op⟩ :: l) env H K Rp) : DM P (⟨d?, some g, op⟩ :: l) env H K Rp := by
 simp only [DM] at h ⊢
 rw [hw]
 exact h
theorem gB {P : Program} {env : Env} {H : AHeap} {K : Env → AHeap → Prop} {Rp : AV → AHeap → Prop} {l : List EI} {d : Nat} {g : Nat × Bool} {op : EOp} (hw : wanted ⟨some d, some g, op⟩ env = some false) (h : DM P l ((d, .undef) :: env) H K Rp) : DM P (⟨some d, some g, op⟩ :: l) env H K Rp := DM.skip hw h
theorem cT {P : Program} {rs : List ERes} {R : Out → AHeap → Prop} {k : List Item} {env : Env} {H : AHeap} {c : EOpd} {a b : EC} (hc : c.ev env = .bool true) (h : AM P rs R (.c a :: k) env H) : AM P rs R (.c (.cond c a b) :: k) env H := AM.condT hc h
theorem cF {P : Program} {rs : List ERes} {R : Out → AHeap → Prop} {k : List Item} {env : Env} {H : AHeap} {c : EOpd} {a b : EC} (hc : c.ev env = .bool false) (h : AM P rs R (.c b :: k) env H) : AM P rs R (.c (.cond c a b) :: k) env H := AM.condF hc h
section
variable {P : Program} {rs : List ERes} {R : Out → AHeap → Prop}
end
section
variable {P : Program} {d : Nat} {d? : Option Nat} {l : List EI} {env : Env} {H : AHeap} {K : Env → AHeap → Prop} {Rp : AV → AHeap → Prop}
theorem DM.mk {T size bytes n : Nat} {zero : List AV} {x : EOpd} {k : IntKind} (hb : bytes * n ≤ 281474976710656) (hm : n ≤ maxLen) (hx : x.ev env = .int k (n : Int)) (ho : zero.all AV.one = true) (hz : zero.length = size) (h0 : size ≠ 0) (h : ∀ t, H.tok t = none → DM P l ((d, .ms t 0) :: env) (H.setT t (.mu T size 0 (List.replicate n zero))) K Rp) : DM P (⟨some d, none, .mkM T size bytes zero x⟩ :: l) env H K Rp :=
 DM.de (.nms T size (List.replicate n zero)) rfl (.mkM hx hb hm ho hz h0) fun t ht => h t ht
end
end Go.Aw
namespace Go.Aw
theorem Sp.g {N G : Prop} (hn : N) (h : Sp N G := by constructor <;> first | exact ss | (change _ = _; first | (simp only [go_sem, Nat.reduceBEq, Nat.reduceAdd, Nat.reduceLeDiff, reduceIte] <;> rfl) | rfl) | exact Nat.le_of_ble_eq_true rfl | decide | ((repeat' first | (apply Lk.go; constructor) | assumption | exact nb ‹_› ‹_› | exact nt ‹_› ‹_›); done)) : G := Sp.go h hn
theorem Sr.g {N G : Prop} (hn : N) (h : Sr N G := by constructor <;> first | (apply Lk.go; constructor <;> first | exact ss | (change _ = _; first | (simp only [go_sem, Nat.reduceBEq, Nat.reduceAdd, Nat.reduceLeDiff, reduceIte] <;> rfl) | rfl) | exact Nat.le_of_ble_eq_true rfl | decide | ((repeat' first | (apply Lk.go; constructor) | assumption | exact nb ‹_› ‹_› | exact nt ‹_› ‹_›); done)) | assumption) : G := Sr.go h hn
end Go.Aw
namespace Go.Aw
open Go
set_option linter.unusedVariables false
set_option linter.unusedSimpArgs false
structure Sg where
 b : List Nat
 t : List Nat
structure Sg.Le (s s' : Sg) : Prop where
 b : ∀ (i x : Nat), s.b[i]? = some x → s'.b[i]? = some x
 t : ∀ (i x : Nat), s.t[i]? = some x → s'.t[i]? = some x
theorem Sg.Le.refl (s : Sg) : Sg.Le s s := ⟨fun _ _ h => h, fun _ _ h => h⟩
theorem Sg.Le.trans {a b c : Sg} (h : Sg.Le a b) (k : Sg.Le b c) : Sg.Le a c := ⟨fun i x e => k.b i x (h.b i x e), fun i x e => k.t i x (h.t i x e)⟩
mutual
def Rn (s : Sg) : AV → AV → Prop
 | .top, _ => True
 | .ptr b o, a => ∃ x, s.b[b]? = some x ∧ a = .ptr x o
 | .agg cs, a => ∃ l, a = .agg l ∧ RnL s cs l
 | .tup cs, a => ∃ l, a = .tup l ∧ RnL s cs l
 | .vs n rows, a => ∃ l, a = .vs n l ∧ RnR s rows l
 | .own t n rows, a => ∃ x l, s.t[t]? = some x ∧ a = .own x n l ∧ RnR s rows l
 | .ms t ver, a => ∃ x, s.t[t]? = some x ∧ a = .ms x ver
 | .mp t ver k, a => ∃ x, s.t[t]? = some x ∧ a = .mp x ver k
 | .rp row off, a => ∃ l, a = .rp l off ∧ RnL s row l
 | .fn f cap, a => ∃ l, a = .fn f l ∧ RnL s cap l
 | .ifc t v, a => ∃ x, a = .ifc t x ∧ Rn s v x
 | .bool b, a => a = .bool b
 | .int k n, a => a = .int k n
 | .str x, a => a = .str x
 | .raw v, a => a = .raw v
def RnL (s : Sg) : List AV → List AV → Prop
 | [], l => l = []
 | a :: az, l => ∃ v vs, l = v :: vs ∧ Rn s a v ∧ RnL s az vs
def RnR (s : Sg) : List (List AV) → List (List AV) → Prop
 | [], l => l = []
 | r :: rs, l => ∃ v vs, l = v :: vs ∧ RnL s r v ∧ RnR s rs vs
end
mutual
theorem Rn.mono {s s' : Sg} (e : Sg.Le s s') : ∀ (a v : AV), Rn s a v → Rn s' a v
 | .top, _, _ => by simp only [Rn]
 | .ptr b o, _, h => by simp only [Rn] at *; obtain ⟨x, h1, h2⟩ := h; exact ⟨x, e.b _ _ h1, h2⟩
 | .agg cs, _, h => by simp only [Rn] at *; obtain ⟨l, h1, h2⟩ := h; exact ⟨l, h1, RnL.mono e cs l h2⟩
 | .tup cs, _, h => by simp only [Rn] at *; obtain ⟨l, h1, h2⟩ := h; exact ⟨l, h1, RnL.mono e cs l h2⟩
 | .vs n rows, _, h => by simp only [Rn] at *; obtain ⟨l, h1, h2⟩ := h; exact ⟨l, h1, RnR.mono e rows l h2⟩
 | .own t n rows, _, h => by simp only [Rn] at *; obtain ⟨x, l, h1, h2, h3⟩ := h; exact ⟨x, l, e.t _ _ h1, h2, RnR.mono e rows l h3⟩
 | .ms t ver, _, h => by simp only [Rn] at *; obtain ⟨x, h1, h2⟩ := h; exact ⟨x, e.t _ _ h1, h2⟩
 | .mp t ver k, _, h => by simp only [Rn] at *; obtain ⟨x, h1, h2⟩ := h; exact ⟨x, e.t _ _ h1, h2⟩
 | .rp row off, _, h => by simp only [Rn] at *; obtain ⟨l, h1, h2⟩ := h; exact ⟨l, h1, RnL.mono e row l h2⟩
 | .fn f cap, _, h => by simp only [Rn] at *; obtain ⟨l, h1, h2⟩ := h; exact ⟨l, h1, RnL.mono e cap l h2⟩
 | .ifc t v, _, h => by simp only [Rn] at *; obtain ⟨x, h1, h2⟩ := h; exact ⟨x, h1, Rn.mono e v x h2⟩
 | .bool _, _, h => by simp only [Rn] at *; exact h
 | .int _ _, _, h => by simp only [Rn] at *; exact h
 | .str _, _, h => by simp only [Rn] at *; exact h
 | .raw _, _, h => by simp only [Rn] at *; exact h
theorem RnL.mono {s s' : Sg} (e : Sg.Le s s') : ∀ (az l : List AV), RnL s az l → RnL s' az l
 | [], _, h => by simp only [RnL] at *; exact h
 | a :: az, _, h => by simp only [RnL] at *; obtain ⟨v, vs, h1, h2, h3⟩ := h; exact ⟨v, vs, h1, Rn.mono e a v h2, RnL.mono e az vs h3⟩
theorem RnR.mono {s s' : Sg} (e : Sg.Le s s') : ∀ (az l : List (List AV)), RnR s az l → RnR s' az l
 | [], _, h => by simp only [RnR] at *; exact h
 | r :: rs, _, h => by simp only [RnR] at *; obtain ⟨v, vs, h1, h2, h3⟩ := h; exact ⟨v, vs, h1, RnL.mono e r v h2, RnR.mono e rs vs h3⟩
end
section
variable {s : Sg}
theorem RnL.length : ∀ {az l : List AV}, RnL s az l → l.length = az.length
 | [], _, h => by simp only [RnL] at h; subst h; rfl
 | a :: az, _, h => by simp only [RnL] at h; obtain ⟨v, vs, rfl, _, h2⟩ := h; simp [RnL.length h2]
theorem RnL.get : ∀ {az l : List AV} (_ : RnL s az l) (i : Nat) (a : AV), az[i]? = some a → ∃ v, l[i]? = some v ∧ Rn s a v
 | [], _, _, _, _, h => by simp at h
 | a :: az, _, h, 0, x, hx => by simp only [RnL] at h; obtain ⟨v, vs, rfl, h1, h2⟩ := h; simp at hx; subst hx; exact ⟨v, rfl, h1⟩
 | a :: az, _, h, i + 1, x, hx => by simp only [RnL] at h; obtain ⟨v, vs, rfl, h1, h2⟩ := h; simp at hx; obtain ⟨v', e1, e2⟩ := RnL.get h2 i x hx; exact ⟨v', by simpa using e1, e2⟩
theorem RnL.append : ∀ {az l bs l' : List AV} (_ : RnL s az l) (_ : RnL s bs l'), RnL s (az ++ bs) (l ++ l')
 | [], _, _, _, h, k => by simp only [RnL] at h; subst h; simpa using k
 | a :: az, _, _, _, h, k => by simp only [RnL] at h; obtain ⟨v, vs, rfl, h1, h2⟩ := h; simp only [List.cons_append, RnL]; exact ⟨v, _, rfl, h1, RnL.append h2 k⟩
theorem RnL.drop : ∀ (n : Nat) {az l : List AV} (_ : RnL s az l), RnL s (az.drop n) (l.drop n)
 | 0, _, _, h => by simpa using h
 | n + 1, [], _, h => by simp only [RnL] at h; subst h; simp [RnL]
 | n + 1, a :: az, _, h => by simp only [RnL] at h; obtain ⟨v, vs, rfl, h1, h2⟩ := h; simpa using RnL.drop n h2
theorem RnL.take : ∀ (n : Nat) {az l : List AV} (_ : RnL s az l), RnL s (az.take n) (l.take n)
 | 0, _, _, _ => by simp [RnL]
 | n + 1, [], _, h => by simp only [RnL] at h; subst h; simp [RnL]
 | n + 1, a :: az, _, h => by simp only [RnL] at h; obtain ⟨v, vs, rfl, h1, h2⟩ := h; simp only [List.take_succ_cons, RnL]; exact ⟨v, _, rfl, h1, RnL.take n h2⟩
theorem RnL.setRange {az l new new' : List AV} (h : RnL s az l) (k : RnL s new new') (o : Nat) : RnL s (setRange az o new) (setRange l o new') := by
 unfold Aw.setRange
 rw [RnL.length k]
 exact ((h.take o).append k).append (h.drop _)
theorem RnR.length : ∀ {az l : List (List AV)}, RnR s az l → l.length = az.length
 | [], _, h => by simp only [RnR] at h; subst h; rfl
 | a :: az, _, h => by simp only [RnR] at h; obtain ⟨v, vs, rfl, _, h2⟩ := h; simp [RnR.length h2]
theorem RnR.get : ∀ {az l : List (List AV)} (_ : RnR s az l) (i : Nat) (a : List AV), az[i]? = some a → ∃ v, l[i]? = some v ∧ RnL s a v
 | [], _, _, _, _, h => by simp at h
 | a :: az, _, h, 0, x, hx => by simp only [RnR] at h; obtain ⟨v, vs, rfl, h1, h2⟩ := h; simp at hx; subst hx; exact ⟨v, rfl, h1⟩
 | a :: az, _, h, i + 1, x, hx => by simp only [RnR] at h; obtain ⟨v, vs, rfl, h1, h2⟩ := h; simp at hx; obtain ⟨v', e1, e2⟩ := RnR.get h2 i x hx; exact ⟨v', by simpa using e1, e2⟩
theorem RnR.append : ∀ {az l bs l' : List (List AV)} (_ : RnR s az l) (_ : RnR s bs l'), RnR s (az ++ bs) (l ++ l')
 | [], _, _, _, h, k => by simp only [RnR] at h; subst h; simpa using k
 | a :: az, _, _, _, h, k => by simp only [RnR] at h; obtain ⟨v, vs, rfl, h1, h2⟩ := h; simp only [List.cons_append, RnR]; exact ⟨v, _, rfl, h1, RnR.append h2 k⟩
theorem RnR.drop : ∀ (n : Nat) {az l : List (List AV)} (_ : RnR s az l), RnR s (az.drop n) (l.drop n)
 | 0, _, _, h => by simpa using h
 | n + 1, [], _, h => by simp only [RnR] at h; subst h; simp [RnR]
 | n + 1, a :: az, _, h => by simp only [RnR] at h; obtain ⟨v, vs, rfl, h1, h2⟩ := h; simpa using RnR.drop n h2
theorem RnR.take : ∀ (n : Nat) {az l : List (List AV)} (_ : RnR s az l), RnR s (az.take n) (l.take n)
 | 0, _, _, _ => by simp [RnR]
 | n + 1, [], _, h => by simp only [RnR] at h; subst h; simp [RnR]
 | n + 1, a :: az, _, h => by simp only [RnR] at h; obtain ⟨v, vs, rfl, h1, h2⟩ := h; simp only [List.take_succ_cons, RnR]; exact ⟨v, _, rfl, h1, RnR.take n h2⟩
theorem RnR.flatten : ∀ {az l : List (List AV)} (_ : RnR s az l), RnL s az.flatten l.flatten
 | [], _, h => by simp only [RnR] at h; subst h; simp [RnL]
 | a :: az, _, h => by simp only [RnR] at h; obtain ⟨v, vs, rfl, h1, h2⟩ := h; simpa using h1.append (RnR.flatten h2)
theorem RnR.sizes {n : Nat} : ∀ {az l : List (List AV)} (_ : RnR s az l), az.all (fun r => r.length == n) = true → l.all (fun r => r.length == n) = true
 | [], _, h, _ => by simp only [RnR] at h; subst h; rfl
 | a :: az, _, h, k => by
  simp only [RnR] at h
  obtain ⟨v, vs, rfl, h1, h2⟩ := h
  simp only [List.all_cons, Bool.and_eq_true] at k ⊢
  rw [RnL.length h1]
  exact ⟨k.1, RnR.sizes h2 k.2⟩
theorem Rn.one {a v : AV} (h : Rn s a v) (ha : a.one = true) : v.one = true := by
 cases a <;> simp only [AV.one, Bool.false_eq_true] at ha <;> simp only [Rn] at h
 all_goals first
  | (subst h; first | rfl | exact ha)
  | (obtain ⟨x, h1, rfl⟩ := h; rfl)
  | (obtain ⟨x, rfl, h1⟩ := h; rfl)
  | (obtain ⟨x, l, h1, rfl, h2⟩ := h; rfl)
theorem RnL.ones : ∀ {az l : List AV} (_ : RnL s az l), az.all AV.one = true → l.all AV.one = true
 | [], _, h, _ => by simp only [RnL] at h; subst h; rfl
 | a :: az, _, h, k => by
  simp only [RnL] at h
  obtain ⟨v, vs, rfl, h1, h2⟩ := h
  simp only [List.all_cons, Bool.and_eq_true] at k ⊢
  exact ⟨h1.one k.1, RnL.ones h2 k.2⟩
theorem Rn.okc {a v : AV} (h : Rn s a v) (ha : a.okc = true) : v.okc = true ∧ RnL s a.cells v.cells := by
 cases a with
 | agg cs =>
  simp only [Rn] at h
  obtain ⟨l, rfl, h1⟩ := h
  exact ⟨rfl, h1⟩
 | _ =>
  all_goals
   have h1 := h.one (by simpa only [AV.okc] using ha)
   have hv : v.cells = [v] ∧ v.okc = true := by
    cases v <;> simp only [AV.one, Bool.false_eq_true] at h1 <;> first | exact ⟨rfl, rfl⟩ | exact ⟨rfl, h1⟩
   refine ⟨hv.2, ?_⟩
   rw [hv.1]
   simp only [AV.cells, RnL]
   exact ⟨_, _, rfl, h, rfl⟩
theorem RnL.ofCells {agg : Bool} {az l : List AV} {v : AV} (h : RnL s az l) (hv : AV.ofCells agg az = some v) : ∃ v', AV.ofCells agg l = some v' ∧ Rn s v v' := by
 cases agg with
 | true =>
  simp only [AV.ofCells, cond_true, Option.some.injEq] at hv ⊢
  subst hv
  exact ⟨_, rfl, by simp only [Rn]; exact ⟨l, rfl, h⟩⟩
 | false =>
  simp only [AV.ofCells, cond_false] at hv ⊢
  match az, h, hv with
  | [a], h, hv =>
   simp only [RnL] at h
   obtain ⟨x, xs, rfl, h1, rfl⟩ := h
   simp only [Option.some.injEq] at hv ⊢
   subst hv
   exact ⟨_, rfl, h1⟩
end
mutual
def AV.flat : AV → Bool
 | .bool _ => true
 | .int _ _ => true
 | .str _ => true
 | .raw _ => true
 | .agg cs => flatL cs
 | .tup cs => flatL cs
 | .vs _ rows => flatR rows
 | .rp row _ => flatL row
 | .fn _ cap => flatL cap
 | .ifc _ v => v.flat
 | _ => false
def flatL : List AV → Bool
 | [] => true
 | a :: az => a.flat && flatL az
def flatR : List (List AV) → Bool
 | [] => true
 | a :: az => flatL a && flatR az
end
mutual
theorem AV.flat_rn {s : Sg} : ∀ (a : AV), a.flat = true → ∀ v, Rn s a v ↔ v = a
 | .bool _, _, _ => by simp only [Rn]
 | .int _ _, _, _ => by simp only [Rn]
 | .str _, _, _ => by simp only [Rn]
 | .raw _, _, _ => by simp only [Rn]
 | .agg cs, h, v => by simp only [AV.flat] at h; simp only [Rn, flatL_rn cs h]; exact ⟨fun ⟨l, e1, e2⟩ => by rw [e1, e2], fun e => ⟨cs, e, rfl⟩⟩
 | .tup cs, h, v => by simp only [AV.flat] at h; simp only [Rn, flatL_rn cs h]; exact ⟨fun ⟨l, e1, e2⟩ => by rw [e1, e2], fun e => ⟨cs, e, rfl⟩⟩
 | .vs n rows, h, v => by simp only [AV.flat] at h; simp only [Rn, flatR_rn rows h]; exact ⟨fun ⟨l, e1, e2⟩ => by rw [e1, e2], fun e => ⟨rows, e, rfl⟩⟩
 | .rp row o, h, v => by simp only [AV.flat] at h; simp only [Rn, flatL_rn row h]; exact ⟨fun ⟨l, e1, e2⟩ => by rw [e1, e2], fun e => ⟨row, e, rfl⟩⟩
 | .fn f cap, h, v => by simp only [AV.flat] at h; simp only [Rn, flatL_rn cap h]; exact ⟨fun ⟨l, e1, e2⟩ => by rw [e1, e2], fun e => ⟨cap, e, rfl⟩⟩
 | .ifc t a, h, v => by simp only [AV.flat] at h; simp only [Rn, AV.flat_rn a h]; exact ⟨fun ⟨l, e1, e2⟩ => by rw [e1, e2], fun e => ⟨a, e, rfl⟩⟩
theorem flatL_rn {s : Sg} : ∀ (az : List AV), flatL az = true → ∀ l, RnL s az l ↔ l = az
 | [], _, l => by simp only [RnL]
 | a :: az, h, l => by
  simp only [flatL, Bool.and_eq_true] at h
  simp only [RnL, AV.flat_rn a h.1, flatL_rn az h.2]
  exact ⟨fun ⟨v, vs, e1, e2, e3⟩ => by rw [e1, e2, e3], fun e => ⟨a, az, e, rfl, rfl⟩⟩
theorem flatR_rn {s : Sg} : ∀ (az : List (List AV)), flatR az = true → ∀ l, RnR s az l ↔ l = az
 | [], _, l => by simp only [RnR]
 | a :: az, h, l => by
  simp only [flatR, Bool.and_eq_true] at h
  simp only [RnR, flatL_rn a h.1, flatR_rn az h.2]
  exact ⟨fun ⟨v, vs, e1, e2, e3⟩ => by rw [e1, e2, e3], fun e => ⟨a, az, e, rfl, rfl⟩⟩
end
def RnE (s : Sg) (env env' : Env) : Prop := ∀ j, Rn s (env.get j) (env'.get j)
def cev (env : Env) : EOpd → AV
 | .t n => env.get n
 | .c a => bif a.flat then a else .top
def OwR (s : Sg) (i i' : Own) : Prop := i'.ty = i.ty ∧ i'.size = i.size ∧ i'.n = i.n ∧ i'.ver = i.ver ∧ match i.con with
 | none => i'.con = none
 | some rows => ∃ l, i'.con = some l ∧ RnR s rows l
structure HR (H0 : AHeap) (s : Sg) (C H : AHeap) : Prop where
 base : HSub H0 H
 blk : ∀ b T cs, C.blk b = some (T, cs) → ∃ x cs', s.b[b]? = some x ∧ H.blk x = some (T, cs') ∧ RnL s cs cs'
 tok : ∀ t i, C.tok t = some i → ∃ x i', s.t[t]? = some x ∧ H.tok x = some i' ∧ OwR s i i'
 newb : ∀ (b x : Nat), s.b[b]? = some x → H0.blk x = none ∧ ∃ y, H.blk x = some y
 newt : ∀ (t x : Nat), s.t[t]? = some x → H0.tok x = none ∧ ∃ y, H.tok x = some y
 injb : ∀ (b b' x : Nat), s.b[b]? = some x → s.b[b']? = some x → b = b'
 injt : ∀ (b b' x : Nat), s.t[b]? = some x → s.t[b']? = some x → b = b'
section
variable {P : Program} {s : Sg} {env env' : Env} {H0 C H : AHeap}
theorem cev_rn (he : RnE s env env') (x : EOpd) : Rn s (cev env x) (x.ev env') := by
 cases x with
 | t n => exact he n
 | c a =>
  show Rn s (bif a.flat then a else .top) a
  cases h : a.flat with
  | false => simp only [cond_false, Rn]
  | true => rw [cond_true, AV.flat_rn a h]
theorem cevs_rn (he : RnE s env env') : ∀ (xs : List EOpd), RnL s (xs.map (cev env)) (xs.map (EOpd.ev env'))
 | [] => by simp [RnL]
 | x :: xs => by simp only [List.map_cons, RnL]; exact ⟨_, _, rfl, cev_rn he x, cevs_rn he xs⟩
theorem RnE.put (he : RnE s env env') {v v' : AV} (hv : Rn s v v') (d : Option Nat) : RnE s (env.put d v) (env'.put d v') := by
 cases d with
 | none => exact he
 | some k =>
  intro j
  simp only [Env.put, Env.get]
  cases k == j with
  | true => exact hv
  | false => exact he j
theorem RnE.mono {s' : Sg} (e : Sg.Le s s') (he : RnE s env env') : RnE s' env env' := fun j => Rn.mono e _ _ (he j)
def coptNat (env : Env) (dflt : Nat) : Option EOpd → Option Nat
 | none => some dflt
 | some x => match cev env x with
  | .int _ (.ofNat n) => some n
  | _ => none
theorem coptNat_ok (he : RnE s env env') {d n : Nat} {x : Option EOpd} (h : coptNat env d x = some n) : optNat env' d x = some n := by
 cases x with
 | none => exact h
 | some x =>
  have hx := cev_rn he x
  simp only [coptNat] at h
  split at h
  ·rename_i k m e
   rw [e] at hx
   simp only [Rn] at hx
   simp only [optNat, hx]
   exact h
  ·cases h
def cbuild (env : Env) (cells : List AV) : List (Nat × Nat × EOpd) → Option (List AV)
 | [] => some cells
 | (off, size, x) :: rest =>
  let a := cev env x
  bif a.okc && (a.cells.length == size && Nat.ble (off + size) cells.length) then cbuild env (setRange cells off a.cells) rest else none
theorem cbuild_ok (he : RnE s env env') : ∀ (parts : List (Nat × Nat × EOpd)) (cells cells' cs : List AV), RnL s cells cells' → cbuild env cells parts = some cs → ∃ cs', buildParts env' cells' parts = some cs' ∧ RnL s cs cs'
 | [], cells, cells', cs, h, hb => by
  simp only [cbuild, Option.some.injEq] at hb
  subst hb
  exact ⟨_, rfl, h⟩
 | (off, size, x) :: rest, cells, cells', cs, h, hb => by
  simp only [cbuild] at hb
  cases hc : ((cev env x).okc && ((cev env x).cells.length == size && Nat.ble (off + size) cells.length)) with
  | false => rw [hc] at hb; cases hb
  | true =>
   rw [hc, cond_true] at hb
   simp only [Bool.and_eq_true, beq_iff_eq, Nat.ble_eq] at hc
   obtain ⟨h1, h2, h3⟩ := hc
   obtain ⟨k1, k2⟩ := (cev_rn he x).okc h1
   obtain ⟨cs', e1, e2⟩ := cbuild_ok he rest _ (setRange cells' off (x.ev env').cells) cs (h.setRange k2 off) hb
   refine ⟨cs', ?_, e2⟩
   simp only [buildParts]
   rw [if_pos ⟨by rw [RnL.length k2, h2], by rw [RnL.length h]; exact h3, k1⟩]
   exact e1
theorem minmax_ok (isMax : Bool) : ∀ (l l' : List AV) (a a' v : AV), Rn s a a' → RnL s l l' → minmaxAV isMax a l = some v → minmaxAV isMax a' l' = some v ∧ Rn s v v
 | [], _, a, a', v, ha, hl, hv => by
  simp only [RnL] at hl
  subst hl
  cases a <;> simp only [minmaxAV, Option.some.injEq, reduceCtorEq] at hv
  subst hv
  simp only [Rn] at ha
  subst ha
  exact ⟨rfl, by simp only [Rn]⟩
 | b :: rest, _, a, a', v, ha, hl, hv => by
  simp only [RnL] at hl
  obtain ⟨b', l2, rfl, hb, hl⟩ := hl
  cases a <;> cases b <;> simp only [minmaxAV, reduceCtorEq] at hv
  simp only [Rn] at ha hb
  subst ha hb
  simp only [minmaxAV]
  split at hv
  ·rename_i hk
   rw [if_pos hk]
   exact minmax_ok isMax rest l2 _ _ v (by simp only [Rn]) hl hv
  ·cases hv
theorem eqCell_ok {k : LK} {a a' b b' : AV} {r : Bool} (ha : Rn s a a') (hb : Rn s b b') (h : eqCell k a b = some r) : eqCell k a' b' = some r := by
 cases k <;> cases a <;> cases b <;> simp only [eqCell, reduceCtorEq] at h <;> simp only [Rn] at ha hb <;> subst ha hb <;> exact h
theorem eqCells_ok : ∀ (ks : List LK) (az az' bs bs' : List AV) (r : Bool), RnL s az az' → RnL s bs bs' → eqCells ks az bs = some r → eqCells ks az' bs' = some r
 | [], [], _, [], _, r, ha, hb, h => by
  simp only [RnL] at ha hb
  subst ha hb
  exact h
 | k :: ks, a :: az, _, b :: bs, _, r, ha, hb, h => by
  simp only [RnL] at ha hb
  obtain ⟨a', az', rfl, ha, has⟩ := ha
  obtain ⟨b', bs', rfl, hb, hbs⟩ := hb
  simp only [eqCells] at h ⊢
  split at h
  ·rename_i x y h1 h2
   rw [eqCell_ok ha hb h1, eqCells_ok ks az az' bs bs' y has hbs h2]
   exact h
  ·cases h
 | [], _ :: _, _, _, _, _, _, _, h => by simp [eqCells] at h
 | [], [], _, _ :: _, _, _, _, _, h => by simp [eqCells] at h
 | _ :: _, [], _, _, _, _, _, _, h => by simp [eqCells] at h
 | _ :: _, _ :: _, _, [], _, _, _, _, h => by simp [eqCells] at h
end
def cidx (n : Int) (len : Nat) : Option Nat :=
 match n with
 | .ofNat k => bif Nat.blt k len then some k else none
 | _ => none
theorem cidx_ok {n : Int} {len k : Nat} (h : cidx n len = some k) : 0 ≤ n ∧ n < (len : Int) ∧ n.toNat = k := by
 cases n with
 | ofNat j =>
  simp only [cidx] at h
  cases hb : Nat.blt j len with
  | false => rw [hb] at h; cases h
  | true =>
   rw [hb] at h
   simp only [cond_true, Option.some.injEq] at h
   subst h
   have : j < len := by simpa [Nat.blt_eq] using hb
   exact ⟨Int.natCast_nonneg j, Int.ofNat_lt.2 this, rfl⟩
 | negSucc j => cases h
def crange (cs : List AV) (agg : Bool) (o n : Nat) : Option AV := bif Nat.ble (o + n) cs.length then AV.ofCells agg ((cs.drop o).take n) else none
theorem crange_ok {s : Sg} {cs cs' : List AV} {agg : Bool} {o n : Nat} {v : AV} (h : RnL s cs cs') (hv : crange cs agg o n = some v) : o + n ≤ cs'.length ∧ ∃ v', AV.ofCells agg ((cs'.drop o).take n) = some v' ∧ Rn s v v' := by
 unfold crange at hv
 cases hb : Nat.ble (o + n) cs.length with
 | false => rw [hb] at hv; cases hv
 | true =>
  rw [hb, cond_true] at hv
  exact ⟨by rw [RnL.length h]; exact Nat.le_of_ble_eq_true hb, RnL.ofCells ((h.drop o).take n) hv⟩
def cbin (op : BinOp) : AV → AV → Option AV
 | .int k a, .int j b => if k = j then (match op with
  | .quo => if b = 0 then none else some (.int k (k.wrap (a.tdiv b)))
  | .rem => if b = 0 then none else some (.int k (a.tmod b))
  | op => binInt op k a b) else shInt op k a b
 | .str a, .str b => match op with
  | .add => bif Nat.ble (a.length + b.length) maxLen then some (.str (a ++ b)) else none
  | op => binStr op a b
 | _, _ => none
def cpv (op : EOp) (env : Env) (C : AHeap) : Option AV :=
 match op with
 | .mv x => some (cev env x)
 | .pick c a b => match cev env c with
  | .bool true => some (cev env a)
  | .bool false => some (cev env b)
  | _ => none
 | .nilck x => match cev env x with
  | .ptr b o => some (.ptr b o)
  | .rp r o => some (.rp r o)
  | .fn f c => some (.fn f c)
  | _ => none
 | .build zero parts => bif flatL zero then (cbuild env zero parts).map .agg else none
 | .load agg n x => match cev env x with
  | .ptr b o => match C.blk b with
   | some (_, cs) => crange cs agg o n
   | none => none
  | .rp row o => crange row agg o n
  | _ => none
 | .loadD me agg n x => match env.get me, cev env x with
  | .ptr b 0, .ptr b' o => bif b' == b then (match C.blk b' with
   | some (_, cs) => crange cs agg o n
   | none => none) else none
  | _, _ => none
 | .loadR agg n x => match cev env x with
  | .rp row o => crange row agg o n
  | _ => none
 | .faddr off x => match cev env x with
  | .ptr b o => some (.ptr b (o + off))
  | .rp row o => some (.rp row (o + off))
  | _ => none
 | .field agg off n x => match cev env x with
  | .agg cs => crange cs agg off n
  | _ => none
 | .iaddr size x i => match cev env x, cev env i with
  | .vs size' rows, .int _ (.ofNat n) => bif size' == size then rows[n]?.map fun r => .rp r 0 else none
  | .own _ size' rows, .int _ (.ofNat n) => bif size' == size then rows[n]?.map fun r => .rp r 0 else none
  | _, _ => none
 | .iaddrA len size x i => match cev env x, cev env i with
  | .ptr b o, .int _ n => (cidx n len).map fun k => .ptr b (o + k * size)
  | .rp row o, .int _ n => (cidx n len).map fun k => .rp row (o + k * size)
  | _, _ => none
 | .idxA agg len size x i => match cev env x, cev env i with
  | .agg cs, .int _ n => match cidx n len with
   | some k => crange cs agg (k * size) size
   | none => none
  | _, _ => none
 | .idxS x i => match cev env x, cev env i with
  | .str b, .int _ (.ofNat n) => b[n]?.map fun c => .int .u8 c.toNat
  | _, _ => none
 | .bin op x y => cbin op (cev env x) (cev env y)
 | .binB op x y => match cev env x, cev env y with
  | .bool a, .bool b => binBool op a b
  | _, _ => none
 | .eqA neg _ ks x y => match cev env x, cev env y with
  | .agg a, .agg b => (eqCells ks a b).map fun r => .bool (bif neg then !r else r)
  | _, _ => none
 | .not x => match cev env x with
  | .bool b => some (.bool (!b))
  | _ => none
 | .pnil neg x => match cev env x with
  | .ptr _ _ => some (.bool neg)
  | .rp _ _ => some (.bool neg)
  | .raw (.pointer none) => some (.bool (!neg))
  | _ => none
 | .neg x => match cev env x with
  | .int k n => some (.int k (k.wrap (0 - n)))
  | _ => none
 | .conv k x => match cev env x with
  | .int _ n => some (.int k (k.wrap n))
  | _ => none
 | .lenS x => match cev env x with
  | .str b => some (.int .i64 b.length)
  | _ => none
 | .len x => match cev env x with
  | .vs _ rows => some (.int .i64 rows.length)
  | .own _ _ rows => some (.int .i64 rows.length)
  | .raw (.slice _ n _) => some (.int .i64 n)
  | _ => none
 | .lenA n => some (.int .i64 n)
 | .minmax isMax xs => match xs.map (cev env) with
  | a :: rest => minmaxAV isMax a rest
  | [] => none
 | .slS x lo hi => match cev env x with
  | .str b => match coptNat env 0 lo, coptNat env b.length hi with
   | some l, some h => bif Nat.ble l h && Nat.ble h b.length then some (.str ((b.take h).drop l)) else none
   | _, _ => none
  | _ => none
 | .slV size x lo hi none => match slRows size (cev env x) with
  | some rows => match coptNat env 0 lo, coptNat env rows.length hi with
   | some l, some h => bif Nat.ble l h && Nat.ble h rows.length then some (.vs size ((rows.take h).drop l)) else none
   | _, _ => none
  | none => none
 | .extract i x => match cev env x with
  | .tup l => l[i]?
  | _ => none
 | .mkfn f cap => some (.fn f (cap.map (cev env)))
 | .mkfnB f cap => some (.fn (f + bnd) (cap.map (cev env)))
 | .convS int x => match int, cev env x with
  | true, .int _ n => some (.str (Utf8.encode n).data.toList)
  | false, .vs 1 rows => (byteRows rows).map .str
  | false, .own _ 1 rows => (byteRows rows).map .str
  | false, .raw (.slice none _ _) => some (.str [])
  | _, _ => none
 | .convBS T x => match cev env x with
  | .str b => some (.vs 1 (b.map fun c => [.int .u8 c.toNat]))
  | _ => none
 | .mkif T x => some (.ifc T (cev env x))
 | .isnil neg x => match cev env x with
  | .raw (.slice none 0 0) => some (.bool (!neg))
  | .vs _ (_ :: _) => some (.bool neg)
  | _ => none
 | .lenM x => match cev env x with
  | .ms t ver => match C.tok t with
   | some ⟨_, _, 0, ver', some rows⟩ => bif ver' == ver then some (.int .i64 rows.length) else none
   | _ => none
  | _ => none
 | .faddrM off x => match cev env x with
  | .mp t ver k => match C.tok t with
   | some ⟨_, _, 0, ver', some rows⟩ => bif ver' == ver then some (.mp t ver (k + off)) else none
   | _ => none
  | _ => none
 | .iaddrM size x i => match cev env x, cev env i with
  | .ms t ver, .int _ n => match C.tok t with
   | some ⟨_, size', 0, ver', some rows⟩ => bif ver' == ver && size' == size then (cidx n rows.length).map fun k => .mp t ver (k * size) else none
   | _ => none
  | _, _ => none
 | .loadM agg n x => match cev env x with
  | .mp t ver k => match C.tok t with
   | some ⟨_, _, 0, ver', some rows⟩ => bif ver' == ver then crange rows.flatten agg k n else none
   | _ => none
  | _ => none
 | .bslice T size n zero parts =>
  let az := parts.map fun p => cev env p.2
  bif az.all AV.okc && ((az.map AV.cells).all (fun r => r.length == size) && (az.map AV.cells).flatten.all AV.one) then some (.vs size (az.map AV.cells)) else none
 | _ => none
section
variable {P : Program} {s : Sg} {env env' : Env} {H0 C H : AHeap}
theorem HR.mu (hr : HR H0 s C H) {t : Nat} {T : TypeId} {size ver : Nat} {rows : List (List AV)} (h : C.tok t = some ⟨T, size, 0, ver, some rows⟩) : ∃ x l, s.t[t]? = some x ∧ H.tok x = some (.mu T size ver l) ∧ RnR s rows l := by
 obtain ⟨x, ⟨T', z', n', v', c'⟩, h1, h2, e1, e2, e3, e4, e5⟩ := hr.tok t _ h
 simp only at e1 e2 e3 e4 e5
 obtain ⟨l, e5, e6⟩ := e5
 subst e1 e2 e3 e4 e5
 exact ⟨x, l, h1, h2, e6⟩
theorem bsl_ok (he : RnE s env env') : ∀ (parts : List (Nat × EOpd)), (parts.map fun p => cev env p.2).all AV.okc = true → RnR s ((parts.map fun p => cev env p.2).map AV.cells) (bslRows env' parts)
 | [], _ => by simp [bslRows, RnR]
 | p :: parts, h => by
  simp only [List.map_cons, List.all_cons, Bool.and_eq_true] at h
  simp only [List.map_cons, bslRows, RnR]
  exact ⟨_, _, rfl, ((cev_rn he p.2).okc h.1).2, bsl_ok he parts h.2⟩
end
variable {P : Program} {s : Sg} {env env' : Env} {H0 C H : AHeap}
theorem cev_eq (he : RnE s env env') {x : EOpd} {a : AV} (e : cev env x = a) : Rn s a (x.ev env') := e ▸ cev_rn he x
theorem slRows_rn {size : Nat} {a a' : AV} {rows : List (List AV)} (h : Rn s a a') (e : slRows size a = some rows) : ∃ l, slRows size a' = some l ∧ RnR s rows l := by
 unfold slRows at e
 split at e
 ·split at e
  ·rename_i hs
   simp only [Option.some.injEq] at e
   subst e
   simp only [Rn] at h
   obtain ⟨l, rfl, h1⟩ := h
   exact ⟨l, by simp [slRows, hs], h1⟩
  ·cases e
 ·split at e
  ·rename_i hs
   simp only [Option.some.injEq] at e
   subst e
   simp only [Rn] at h
   obtain ⟨x, l, _, rfl, h1⟩ := h
   exact ⟨l, by simp [slRows, hs], h1⟩
  ·cases e
 ·cases e
theorem binInt_rn {op : BinOp} {k : IntKind} {a b : Int} {v : AV} (h : binInt op k a b = some v) : Rn s v v := by
 cases op <;> simp only [binInt, Option.some.injEq, reduceCtorEq] at h <;> first
  | (subst h; simp only [Rn]; done)
  | (split at h <;> first
    | (cases h; done)
    | (simp only [Option.some.injEq] at h; subst h; simp only [Rn]; done))
theorem shInt_rn {op : BinOp} {k : IntKind} {a b : Int} {v : AV} (h : shInt op k a b = some v) : Rn s v v := by
 cases op <;> simp only [shInt, reduceCtorEq] at h <;> first
  | (cases h; done)
  | (split at h <;> first
    | (cases h; done)
    | (simp only [Option.some.injEq] at h; subst h; simp only [Rn]; done))
theorem byteRows_rn : ∀ {rows l : List (List AV)} {b : List UInt8}, byteRows rows = some b → RnR s rows l → byteRows l = some b
 | [], l, b, h, k => by simp only [RnR] at k; subst k; exact h
 | r :: rs, l, b, h, k => by
  simp only [RnR] at k
  obtain ⟨r', l', rfl, k1, k2⟩ := k
  unfold byteRows at h
  split at h
  ·rename_i e; cases e
  ·rename_i n rs' e
   simp only [List.cons.injEq] at e
   obtain ⟨rfl, rfl⟩ := e
   simp only [RnL, Rn] at k1
   obtain ⟨_, _, rfl, rfl, rfl⟩ := k1
   split at h
   ·rename_i s' e'
    simp only [byteRows, byteRows_rn e' k2]
    exact h
   ·cases h
  ·cases h
theorem bytes_rnR : ∀ (b : List UInt8), RnR s (b.map fun c => [AV.int .u8 c.toNat]) (b.map fun c => [AV.int .u8 c.toNat])
 | [] => by simp [RnR]
 | c :: b => by simp only [List.map_cons, RnR, RnL, Rn]; exact ⟨_, _, rfl, ⟨_, _, rfl, rfl, rfl⟩, bytes_rnR b⟩
theorem cbin_ok {op : BinOp} {x y : EOpd} {a b v : AV} (ha : Rn s a (x.ev env')) (hb : Rn s b (y.ev env')) (h : cbin op a b = some v) : ∃ v', Desc P (.bin op x y) env' H (.det v') ∧ Rn s v v' := by
 unfold cbin at h
 split at h
 ·rename_i k a j b
  simp only [Rn] at ha hb
  split at h
  ·rename_i hk
   subst hk
   split at h
   ·split at h
    ·cases h
    ·rename_i hz
     simp only [Option.some.injEq] at h
     subst h
     exact ⟨_, .quo ha hb hz, by simp only [Rn]⟩
   ·split at h
    ·cases h
    ·rename_i hz
     simp only [Option.some.injEq] at h
     subst h
     exact ⟨_, .rem ha hb hz, by simp only [Rn]⟩
   ·refine ⟨v, .pure (by simp only [peval, ha, hb, if_pos]; exact h), ?_⟩
    exact binInt_rn h
  ·rename_i hk
   refine ⟨v, .pure (by simp only [peval, ha, hb, if_neg hk]; exact h), shInt_rn h⟩
 ·rename_i a b
  simp only [Rn] at ha hb
  split at h
  ·cases hm : Nat.ble (a.length + b.length) maxLen with
   | false => rw [hm] at h; cases h
   | true =>
    rw [hm] at h
    simp only [cond_true, Option.some.injEq] at h
    subst h
    exact ⟨_, .cat ha hb (Nat.le_of_ble_eq_true hm), by simp only [Rn]⟩
  ·refine ⟨v, .pure (by simp only [peval, ha, hb]; exact h), ?_⟩
   cases op <;> simp only [binStr, Option.some.injEq, reduceCtorEq] at h <;> subst h <;> simp only [Rn]
 ·cases h
theorem mu_of {ver ver' : Nat} (h : (ver' == ver) = true) : ver' = ver := by simpa using h
theorem cpv_ok (he : RnE s env env') (hr : HR H0 s C H) {op : EOp} {v : AV} (h : cpv op env C = some v) : ∃ v', Desc P op env' H (.det v') ∧ Rn s v v' := by
 cases op <;> simp only [cpv, reduceCtorEq] at h
 case mv x =>
  simp only [Option.some.injEq] at h
  subst h
  exact ⟨_, .pure rfl, cev_rn he x⟩
 case pick c a b =>
  split at h
  ·rename_i e
   have hc := cev_eq he e
   simp only [Rn] at hc
   simp only [Option.some.injEq] at h
   subst h
   exact ⟨_, .pure (by simp only [peval, hc]), cev_rn he a⟩
  ·rename_i e
   have hc := cev_eq he e
   simp only [Rn] at hc
   simp only [Option.some.injEq] at h
   subst h
   exact ⟨_, .pure (by simp only [peval, hc]), cev_rn he b⟩
  ·cases h
 case nilck x =>
  split at h
  ·rename_i e
   have hx := cev_eq he e
   simp only [Option.some.injEq] at h
   subst h
   simp only [Rn] at hx
   obtain ⟨y, h1, h2⟩ := hx
   exact ⟨_, .pure (by simp only [peval, h2]; rfl), by simp only [Rn]; exact ⟨y, h1, rfl⟩⟩
  ·rename_i e
   have hx := cev_eq he e
   simp only [Option.some.injEq] at h
   subst h
   simp only [Rn] at hx
   obtain ⟨y, h2, h1⟩ := hx
   exact ⟨_, .pure (by simp only [peval, h2]; rfl), by simp only [Rn]; exact ⟨y, rfl, h1⟩⟩
  ·rename_i e
   have hx := cev_eq he e
   simp only [Option.some.injEq] at h
   subst h
   simp only [Rn] at hx
   obtain ⟨y, h2, h1⟩ := hx
   exact ⟨_, .pure (by simp only [peval, h2]; rfl), by simp only [Rn]; exact ⟨y, rfl, h1⟩⟩
  ·cases h
 case build zero parts =>
  cases hz : flatL zero with
  | false => rw [hz] at h; cases h
  | true =>
   rw [hz] at h
   simp only [cond_true, Option.map_eq_some_iff] at h
   obtain ⟨cs, e, rfl⟩ := h
   obtain ⟨cs', e1, e2⟩ := cbuild_ok he parts zero zero cs ((flatL_rn zero hz _).2 rfl) e
   exact ⟨_, .pure (by simp only [peval, e1, Option.map_some]; rfl), by simp only [Rn]; exact ⟨_, rfl, e2⟩⟩
 case load agg n x =>
  split at h
  ·rename_i b o e
   have hx := cev_eq he e
   simp only [Rn] at hx
   obtain ⟨y, h1, h2⟩ := hx
   split at h
   ·rename_i T cs e2
    obtain ⟨x', cs', g1, g2, g3⟩ := hr.blk _ _ _ e2
    rw [h1] at g1
    cases g1
    obtain ⟨k1, v', k2, k3⟩ := crange_ok g3 h
    exact ⟨v', .pure (by simp only [peval, h2, g2, if_pos k1, k2]), k3⟩
   ·cases h
  ·rename_i row o e
   have hx := cev_eq he e
   simp only [Rn] at hx
   obtain ⟨l, h2, h1⟩ := hx
   obtain ⟨k1, v', k2, k3⟩ := crange_ok h1 h
   exact ⟨v', .pure (by simp only [peval, h2, if_pos k1, k2]), k3⟩
  ·cases h
 case loadR agg n x =>
  split at h
  ·rename_i row o e
   have hx := cev_eq he e
   simp only [Rn] at hx
   obtain ⟨l, h2, h1⟩ := hx
   obtain ⟨k1, v', k2, k3⟩ := crange_ok h1 h
   exact ⟨v', .pure (by simp only [peval, h2, if_pos k1, k2]), k3⟩
  ·cases h
 case loadD me agg n x =>
  split at h
  ·rename_i b b' o e0 e
   have hx := cev_eq he e
   have hm := he me
   rw [e0] at hm
   simp only [Rn] at hx hm
   obtain ⟨y, h1, h2⟩ := hx
   obtain ⟨y0, h3, h4⟩ := hm
   cases hb : b' == b with
   | false => rw [hb] at h; cases h
   | true =>
    rw [hb, cond_true] at h
    have hb : b' = b := by simpa using hb
    subst hb
    rw [h1] at h3
    cases h3
    split at h
    ·rename_i T cs e2
     obtain ⟨x', cs', g1, g2, g3⟩ := hr.blk _ _ _ e2
     rw [h1] at g1
     cases g1
     obtain ⟨k1, v', k2, k3⟩ := crange_ok g3 h
     exact ⟨v', .pure (by simp only [peval, h2, h4, g2, if_pos k1, k2, if_true]), k3⟩
    ·cases h
  ·cases h
 case faddr off x =>
  split at h
  ·rename_i e
   have hx := cev_eq he e
   simp only [Option.some.injEq] at h
   subst h
   simp only [Rn] at hx
   obtain ⟨y, h1, h2⟩ := hx
   exact ⟨_, .pure (by simp only [peval, h2]; rfl), by simp only [Rn]; exact ⟨y, h1, rfl⟩⟩
  ·rename_i e
   have hx := cev_eq he e
   simp only [Option.some.injEq] at h
   subst h
   simp only [Rn] at hx
   obtain ⟨y, h2, h1⟩ := hx
   exact ⟨_, .pure (by simp only [peval, h2]; rfl), by simp only [Rn]; exact ⟨y, rfl, h1⟩⟩
  ·cases h
 case field agg off n x =>
  split at h
  ·rename_i e
   have hx := cev_eq he e
   simp only [Rn] at hx
   obtain ⟨l, h2, h1⟩ := hx
   obtain ⟨k1, v', k2, k3⟩ := crange_ok h1 h
   exact ⟨v', .pure (by simp only [peval, h2, if_pos k1, k2]), k3⟩
  ·cases h
 case iaddr size x i =>
  split at h
  ·rename_i size' rows k n e1 e2
   have hx := cev_eq he e1
   have hi := cev_eq he e2
   simp only [Rn] at hx hi
   obtain ⟨l, h2, h1⟩ := hx
   cases hs : size' == size with
   | false => rw [hs] at h; cases h
   | true =>
    rw [hs] at h
    have hs : size' = size := by simpa using hs
    subst hs
    simp only [cond_true, Option.map_eq_some_iff] at h
    obtain ⟨r, g1, rfl⟩ := h
    obtain ⟨r', g2, g3⟩ := RnR.get h1 _ _ g1
    exact ⟨_, .idxV h2 hi (Int.natCast_nonneg n) g2, by simp only [Rn]; exact ⟨_, rfl, g3⟩⟩
  ·rename_i t' size' rows k n e1 e2
   have hx := cev_eq he e1
   have hi := cev_eq he e2
   simp only [Rn] at hx hi
   obtain ⟨y, l, h0, h2, h1⟩ := hx
   cases hs : size' == size with
   | false => rw [hs] at h; cases h
   | true =>
    rw [hs] at h
    have hs : size' = size := by simpa using hs
    subst hs
    simp only [cond_true, Option.map_eq_some_iff] at h
    obtain ⟨r, g1, rfl⟩ := h
    obtain ⟨r', g2, g3⟩ := RnR.get h1 _ _ g1
    exact ⟨_, .idxO h2 hi (Int.natCast_nonneg n) g2, by simp only [Rn]; exact ⟨_, rfl, g3⟩⟩
  ·cases h
 case iaddrA len size x i =>
  split at h
  ·rename_i b o k n e1 e2
   have hx := cev_eq he e1
   have hi := cev_eq he e2
   simp only [Rn] at hx hi
   obtain ⟨y, h1, h2⟩ := hx
   simp only [Option.map_eq_some_iff] at h
   obtain ⟨j, g1, rfl⟩ := h
   obtain ⟨g2, g3, rfl⟩ := cidx_ok g1
   exact ⟨_, .idxP h2 hi g2 g3, by simp only [Rn]; exact ⟨_, h1, rfl⟩⟩
  ·rename_i row o k n e1 e2
   have hx := cev_eq he e1
   have hi := cev_eq he e2
   simp only [Rn] at hx hi
   obtain ⟨l, h2, h1⟩ := hx
   simp only [Option.map_eq_some_iff] at h
   obtain ⟨j, g1, rfl⟩ := h
   obtain ⟨g2, g3, rfl⟩ := cidx_ok g1
   exact ⟨_, .idxR h2 hi g2 g3, by simp only [Rn]; exact ⟨_, rfl, h1⟩⟩
  ·cases h
 case idxA agg len size x i =>
  split at h
  ·rename_i cs k n e1 e2
   have hx := cev_eq he e1
   have hi := cev_eq he e2
   simp only [Rn] at hx hi
   obtain ⟨l, h2, h1⟩ := hx
   split at h
   ·rename_i j g1
    obtain ⟨g2, g3, rfl⟩ := cidx_ok g1
    obtain ⟨k1, v', k2, k3⟩ := crange_ok h1 h
    exact ⟨v', .idxA h2 hi g2 g3 k1 k2, k3⟩
   ·cases h
  ·cases h
 case idxS x i =>
  split at h
  ·rename_i b k n e1 e2
   have hx := cev_eq he e1
   have hi := cev_eq he e2
   simp only [Rn] at hx hi
   simp only [Option.map_eq_some_iff] at h
   obtain ⟨c, g1, rfl⟩ := h
   exact ⟨_, .idxS hx hi (Int.natCast_nonneg n) g1, by simp only [Rn]⟩
  ·cases h
 case bin op x y => exact cbin_ok (cev_rn he x) (cev_rn he y) h
 case binB op x y =>
  split at h
  ·rename_i a b e1 e2
   have hx := cev_eq he e1
   have hy := cev_eq he e2
   simp only [Rn] at hx hy
   refine ⟨v, .pure (by simp only [peval, hx, hy]; exact h), ?_⟩
   cases op <;> simp only [binBool, Option.some.injEq, reduceCtorEq] at h <;> subst h <;> simp only [Rn]
  ·cases h
 case eqA neg T ks x y =>
  split at h
  ·rename_i a b e1 e2
   have hx := cev_eq he e1
   have hy := cev_eq he e2
   simp only [Rn] at hx hy
   obtain ⟨l1, h1, h2⟩ := hx
   obtain ⟨l2, h3, h4⟩ := hy
   simp only [Option.map_eq_some_iff] at h
   obtain ⟨r, g1, rfl⟩ := h
   exact ⟨_, .pure (by simp only [peval, h1, h3, eqCells_ok ks _ _ _ _ r h2 h4 g1, Option.map_some]; rfl), by simp only [Rn]⟩
  ·cases h
 case not x =>
  split at h
  ·rename_i e
   have hx := cev_eq he e
   simp only [Rn] at hx
   simp only [Option.some.injEq] at h
   subst h
   exact ⟨_, .pure (by simp only [peval, hx]; rfl), by simp only [Rn]⟩
  ·cases h
 case pnil neg x =>
  split at h
  ·rename_i e
   have hx := cev_eq he e
   simp only [Rn] at hx
   obtain ⟨y, h1, h2⟩ := hx
   simp only [Option.some.injEq] at h
   subst h
   exact ⟨_, .pure (by simp only [peval, h2]; rfl), by simp only [Rn]⟩
  ·rename_i e
   have hx := cev_eq he e
   simp only [Rn] at hx
   obtain ⟨y, h2, h1⟩ := hx
   simp only [Option.some.injEq] at h
   subst h
   exact ⟨_, .pure (by simp only [peval, h2]; rfl), by simp only [Rn]⟩
  ·rename_i e
   have hx := cev_eq he e
   simp only [Rn] at hx
   simp only [Option.some.injEq] at h
   subst h
   exact ⟨_, .pure (by simp only [peval, hx]; rfl), by simp only [Rn]⟩
  ·cases h
 case neg x =>
  split at h
  ·rename_i e
   have hx := cev_eq he e
   simp only [Rn] at hx
   simp only [Option.some.injEq] at h
   subst h
   exact ⟨_, .pure (by simp only [peval, hx]; rfl), by simp only [Rn]⟩
  ·cases h
 case conv k x =>
  split at h
  ·rename_i e
   have hx := cev_eq he e
   simp only [Rn] at hx
   simp only [Option.some.injEq] at h
   subst h
   exact ⟨_, .pure (by simp only [peval, hx]; rfl), by simp only [Rn]⟩
  ·cases h
 case lenS x =>
  split at h
  ·rename_i e
   have hx := cev_eq he e
   simp only [Rn] at hx
   simp only [Option.some.injEq] at h
   subst h
   exact ⟨_, .pure (by simp only [peval, hx]; rfl), by simp only [Rn]⟩
  ·cases h
 case len x =>
  split at h
  ·rename_i e
   have hx := cev_eq he e
   simp only [Rn] at hx
   obtain ⟨l, h2, h1⟩ := hx
   simp only [Option.some.injEq] at h
   subst h
   exact ⟨_, .pure (by simp only [peval, h2]; rfl), by simp only [Rn]; rw [RnR.length h1]⟩
  ·rename_i e
   have hx := cev_eq he e
   simp only [Rn] at hx
   obtain ⟨y, l, h0, h2, h1⟩ := hx
   simp only [Option.some.injEq] at h
   subst h
   exact ⟨_, .pure (by simp only [peval, h2]; rfl), by simp only [Rn]; rw [RnR.length h1]⟩
  ·rename_i e
   have hx := cev_eq he e
   simp only [Rn] at hx
   simp only [Option.some.injEq] at h
   subst h
   exact ⟨_, .pure (by simp only [peval, hx]; rfl), by simp only [Rn]⟩
  ·cases h
 case lenA n =>
  simp only [Option.some.injEq] at h
  subst h
  exact ⟨_, .pure rfl, by simp only [Rn]⟩
 case minmax isMax xs =>
  have hl := cevs_rn he xs
  split at h
  ·rename_i a rest e
   rw [e] at hl
   simp only [RnL] at hl
   obtain ⟨a', rest', e', h1, h2⟩ := hl
   obtain ⟨k1, k2⟩ := minmax_ok isMax _ _ _ _ v h1 h2 h
   exact ⟨v, .pure (by simp only [peval, e']; exact k1), k2⟩
  ·cases h
 case slS x lo hi =>
  split at h
  ·rename_i b e
   have hx := cev_eq he e
   simp only [Rn] at hx
   split at h
   ·rename_i l m e1 e2
    cases hb : (Nat.ble l m && Nat.ble m b.length) with
    | false => rw [hb] at h; cases h
    | true =>
     rw [hb] at h
     simp only [cond_true, Option.some.injEq] at h
     subst h
     simp only [Bool.and_eq_true, Nat.ble_eq] at hb
     exact ⟨_, .slS hx (coptNat_ok he e1) (coptNat_ok he e2) hb.1 hb.2, by simp only [Rn]⟩
   ·cases h
  ·cases h
 case slV size x lo hi mx =>
  cases mx with
  | some _ => cases h
  | none =>
   simp only at h
   split at h
   ·rename_i rows e
    obtain ⟨l', h2, h1⟩ := slRows_rn (cev_rn he x) e
    split at h
    ·rename_i l m e1 e2
     cases hb : (Nat.ble l m && Nat.ble m rows.length) with
     | false => rw [hb] at h; cases h
     | true =>
      rw [hb] at h
      simp only [cond_true, Option.some.injEq] at h
      subst h
      simp only [Bool.and_eq_true, Nat.ble_eq] at hb
      obtain ⟨hb1, hb2⟩ := hb
      exact ⟨_, .slV h2 (coptNat_ok he e1) (by rw [RnR.length h1]; exact coptNat_ok he e2) hb1 (by rw [RnR.length h1]; exact hb2), by simp only [Rn]; exact ⟨_, rfl, (h1.take _).drop _⟩⟩
    ·cases h
   ·cases h
 case extract i x =>
  split at h
  ·rename_i e
   have hx := cev_eq he e
   simp only [Rn] at hx
   obtain ⟨l, h2, h1⟩ := hx
   obtain ⟨v', g1, g2⟩ := RnL.get h1 _ _ h
   exact ⟨v', .pure (by simp only [peval, h2]; exact g1), g2⟩
  ·cases h
 case mkfn f cap =>
  simp only [Option.some.injEq] at h
  subst h
  exact ⟨_, .pure rfl, by simp only [Rn]; exact ⟨_, rfl, cevs_rn he cap⟩⟩
 case mkfnB f cap =>
  simp only [Option.some.injEq] at h
  subst h
  exact ⟨_, .pure rfl, by simp only [Rn]; exact ⟨_, rfl, cevs_rn he cap⟩⟩
 case convBS T x =>
  split at h
  ·rename_i b e
   have hx := cev_eq he e
   simp only [Rn] at hx
   simp only [Option.some.injEq] at h
   subst h
   exact ⟨_, .convBS hx, by simp only [Rn]; exact ⟨_, rfl, bytes_rnR b⟩⟩
  ·cases h
 case convS int x =>
  split at h
  ·rename_i k n e
   have hx := cev_eq he e
   simp only [Rn] at hx
   simp only [Option.some.injEq] at h
   subst h
   exact ⟨_, .pure (by simp only [peval, hx]; rfl), by simp only [Rn]⟩
  ·rename_i rows e
   have hx := cev_eq he e
   simp only [Rn] at hx
   obtain ⟨l, h2, h1⟩ := hx
   cases hb : byteRows rows with
   | none => simp [hb] at h
   | some b =>
    simp only [hb, Option.map_some, Option.some.injEq] at h
    subst h
    exact ⟨_, .pure (by simp only [peval, h2, byteRows_rn hb h1]; rfl), by simp only [Rn]⟩
  ·rename_i t rows e
   have hx := cev_eq he e
   simp only [Rn] at hx
   obtain ⟨y, l, h0, h2, h1⟩ := hx
   cases hb : byteRows rows with
   | none => simp [hb] at h
   | some b =>
    simp only [hb, Option.map_some, Option.some.injEq] at h
    subst h
    exact ⟨_, .pure (by simp only [peval, h2, byteRows_rn hb h1]; rfl), by simp only [Rn]⟩
  ·rename_i n c e
   have hx := cev_eq he e
   simp only [Rn] at hx
   simp only [Option.some.injEq] at h
   subst h
   exact ⟨.str [], .pure (by simp only [peval, hx]), by simp only [Rn]⟩
  ·cases h
 case mkif T x =>
  simp only [Option.some.injEq] at h
  subst h
  exact ⟨_, .pure rfl, by simp only [Rn]; exact ⟨_, rfl, cev_rn he x⟩⟩
 case isnil neg x =>
  split at h
  ·rename_i e
   have hx := cev_eq he e
   simp only [Rn] at hx
   simp only [Option.some.injEq] at h
   subst h
   exact ⟨_, .isnilT hx, by simp only [Rn]⟩
  ·rename_i e
   have hx := cev_eq he e
   simp only [Rn] at hx
   obtain ⟨l, h2, h1⟩ := hx
   simp only [Option.some.injEq] at h
   subst h
   refine ⟨_, .isnilF h2 (fun hh => ?_), by simp only [Rn]⟩
   subst hh
   simpa using RnR.length h1
  ·cases h
 case lenM x =>
  split at h
  ·rename_i t ver e
   have hx := cev_eq he e
   simp only [Rn] at hx
   obtain ⟨y, h1, h2⟩ := hx
   split at h
   ·rename_i T size ver' rows e2
    cases hv : ver' == ver with
    | false => rw [hv] at h; cases h
    | true =>
     rw [hv] at h
     simp only [cond_true, Option.some.injEq] at h
     subst h
     have hv := mu_of hv
     subst hv
     obtain ⟨z, l, g1, g2, g3⟩ := hr.mu e2
     rw [h1] at g1
     cases g1
     exact ⟨_, .lenM h2 g2, by simp only [Rn]; rw [RnR.length g3]⟩
   ·cases h
  ·cases h
 case faddrM off x =>
  split at h
  ·rename_i t ver k e
   have hx := cev_eq he e
   simp only [Rn] at hx
   obtain ⟨y, h1, h2⟩ := hx
   split at h
   ·rename_i T size ver' rows e2
    cases hv : ver' == ver with
    | false => rw [hv] at h; cases h
    | true =>
     rw [hv] at h
     simp only [cond_true, Option.some.injEq] at h
     subst h
     have hv := mu_of hv
     subst hv
     obtain ⟨z, l, g1, g2, g3⟩ := hr.mu e2
     rw [h1] at g1
     cases g1
     exact ⟨_, .faddrM h2 g2, by simp only [Rn]; exact ⟨_, h1, rfl⟩⟩
   ·cases h
  ·cases h
 case iaddrM size x i =>
  split at h
  ·rename_i t ver k n e e1
   have hx := cev_eq he e
   have hi := cev_eq he e1
   simp only [Rn] at hx hi
   obtain ⟨y, h1, h2⟩ := hx
   split at h
   ·rename_i T size' ver' rows e2
    cases hv : (ver' == ver && size' == size) with
    | false => rw [hv] at h; cases h
    | true =>
     rw [hv] at h
     simp only [cond_true, Option.map_eq_some_iff] at h
     simp only [Bool.and_eq_true, beq_iff_eq] at hv
     obtain ⟨rfl, rfl⟩ := hv
     obtain ⟨j, k1, rfl⟩ := h
     obtain ⟨z, l, g1, g2, g3⟩ := hr.mu e2
     rw [h1] at g1
     cases g1
     obtain ⟨k2, k3, rfl⟩ := cidx_ok k1
     exact ⟨_, .iaddrM h2 g2 hi k2 (by rw [RnR.length g3]; exact k3), by simp only [Rn]; exact ⟨_, h1, rfl⟩⟩
   ·cases h
  ·cases h
 case loadM agg n x =>
  split at h
  ·rename_i t ver k e
   have hx := cev_eq he e
   simp only [Rn] at hx
   obtain ⟨y, h1, h2⟩ := hx
   split at h
   ·rename_i T size ver' rows e2
    cases hv : ver' == ver with
    | false => rw [hv] at h; cases h
    | true =>
     rw [hv] at h
     simp only [cond_true] at h
     have hv := mu_of hv
     subst hv
     obtain ⟨z, l, g1, g2, g3⟩ := hr.mu e2
     rw [h1] at g1
     cases g1
     obtain ⟨k1, v', k2, k3⟩ := crange_ok g3.flatten h
     exact ⟨v', .loadM h2 g2 k1 k2, k3⟩
   ·cases h
  ·cases h
 case bslice T size n zero parts =>
  cases hc : ((parts.map fun p => cev env p.2).all AV.okc && (((parts.map fun p => cev env p.2).map AV.cells).all (fun r => r.length == size) && ((parts.map fun p => cev env p.2).map AV.cells).flatten.all AV.one)) with
  | false => rw [hc] at h; cases h
  | true =>
   rw [hc, cond_true, Option.some.injEq] at h
   subst h
   rw [Bool.and_eq_true, Bool.and_eq_true] at hc
   obtain ⟨h1, h2, h3⟩ := hc
   have hb := bsl_ok he parts h1
   exact ⟨_, .bsliceV rfl (hb.sizes h2) (hb.flatten.ones h3), by simp only [Rn]; exact ⟨_, rfl, hb⟩⟩
structure CS where
 H : AHeap
 nb : Nat
 nt : Nat
def CS.new : CS := ⟨.none, 0, 0⟩
def CS.addB (c : CS) (T : TypeId) (cs : List AV) : CS := ⟨c.H.setB c.nb T cs, c.nb + 1, c.nt⟩
def CS.addT (c : CS) (o : Own) : CS := ⟨c.H.setT c.nt o, c.nb, c.nt + 1⟩
def CS.setB (c : CS) (b : Nat) (T : TypeId) (cs : List AV) : CS := ⟨c.H.setB b T cs, c.nb, c.nt⟩
def CS.setT (c : CS) (t : Nat) (o : Own) : CS := ⟨c.H.setT t o, c.nb, c.nt⟩
structure HRc (H0 : AHeap) (s : Sg) (c : CS) (H : AHeap) : Prop extends HR H0 s c.H H where
 nb : c.nb = s.b.length
 nt : c.nt = s.t.length
section
variable {P : Program} {s : Sg} {env env' : Env} {H0 H : AHeap} {c : CS}
theorem OwR.mono {s' : Sg} (e : Sg.Le s s') {i i' : Own} (h : OwR s i i') : OwR s' i i' := by
 obtain ⟨h1, h2, h3, h4, h5⟩ := h
 refine ⟨h1, h2, h3, h4, ?_⟩
 cases hc : i.con with
 | none => rw [hc] at h5; exact h5
 | some rows => rw [hc] at h5; obtain ⟨l, e1, e2⟩ := h5; exact ⟨l, e1, RnR.mono e _ _ e2⟩
theorem getElem?_app {l : List Nat} {x i y : Nat} (h : (l ++ [x])[i]? = some y) : l[i]? = some y ∨ (i = l.length ∧ y = x) := by
 by_cases hi : i < l.length
 ·rw [List.getElem?_append_left hi] at h
  exact .inl h
 ·rw [List.getElem?_append_right (by omega)] at h
  by_cases h0 : i = l.length
  ·subst h0
   simp at h
   exact .inr ⟨rfl, h.symm⟩
  ·have : i - l.length = (i - l.length - 1) + 1 := by omega
   rw [this] at h
   simp at h
theorem app_left {l : List Nat} {x i y : Nat} (h : l[i]? = some y) : (l ++ [x])[i]? = some y := by
 have hi : i < l.length := (List.getElem?_eq_some_iff.1 h).1
 rw [List.getElem?_append_left hi, h]
theorem app_right {l : List Nat} {x : Nat} : (l ++ [x])[l.length]? = some x := by simp
theorem Sg.leB (s : Sg) (x : Nat) : Sg.Le s ⟨s.b ++ [x], s.t⟩ := ⟨fun _ _ h => app_left h, fun _ _ h => h⟩
theorem Sg.leT (s : Sg) (x : Nat) : Sg.Le s ⟨s.b, s.t ++ [x]⟩ := ⟨fun _ _ h => h, fun _ _ h => app_left h⟩
theorem HRc.addB (h : HRc H0 s c H) {T : TypeId} {cs cs' : List AV} (hc : RnL s cs cs') {x : Nat} (hx : H.blk x = none) : HRc H0 ⟨s.b ++ [x], s.t⟩ (c.addB T cs) (H.setB x T cs') where
 base := h.base.setB (h.base.none_blk hx)
 blk := fun b T' l hb => by
  simp only [CS.addB, AHeap.setB] at hb
  split at hb
  ·rename_i e
   subst e
   cases hb
   exact ⟨x, cs', by rw [h.nb]; exact app_right, by simp [AHeap.setB], RnL.mono (Sg.leB s x) _ _ hc⟩
  ·obtain ⟨y, l', g1, g2, g3⟩ := h.blk b T' l hb
   refine ⟨y, l', app_left g1, ?_, RnL.mono (Sg.leB s x) _ _ g3⟩
   simp only [AHeap.setB]
   rw [if_neg (by intro e; subst e; rw [hx] at g2; cases g2)]
   exact g2
 tok := fun t i hb => by
  obtain ⟨y, i', g1, g2, g3⟩ := h.tok t i hb
  exact ⟨y, i', g1, g2, g3.mono (Sg.leB s x)⟩
 newb := fun b y hb => by
  rcases getElem?_app hb with g | ⟨_, rfl⟩
  ·obtain ⟨g1, z, g2⟩ := h.newb b y g
   refine ⟨g1, z, ?_⟩
   simp only [AHeap.setB]
   rw [if_neg (by intro e; subst e; rw [hx] at g2; cases g2)]
   exact g2
  ·exact ⟨h.base.none_blk hx, (T, cs'), by simp [AHeap.setB]⟩
 newt := fun t y hb => h.newt t y hb
 injb := fun b b' y h1 h2 => by
  rcases getElem?_app h1 with g | ⟨e1, rfl⟩ <;> rcases getElem?_app h2 with g' | ⟨e2, e3⟩
  ·exact h.injb b b' y g g'
  ·subst e3
   obtain ⟨_, z, g2⟩ := h.newb b _ g
   rw [hx] at g2
   cases g2
  ·obtain ⟨_, z, g2⟩ := h.newb b' _ g'
   rw [hx] at g2
   cases g2
  ·omega
 injt := h.injt
 nb := by simp [CS.addB, h.nb]
 nt := h.nt
theorem HRc.addT (h : HRc H0 s c H) {o o' : Own} (hc : OwR s o o') {x : Nat} (hx : H.tok x = none) : HRc H0 ⟨s.b, s.t ++ [x]⟩ (c.addT o) (H.setT x o') where
 base := h.base.setT (h.base.none_tok hx)
 tok := fun b i hb => by
  simp only [CS.addT, AHeap.setT] at hb
  split at hb
  ·rename_i e
   subst e
   cases hb
   exact ⟨x, o', by rw [h.nt]; exact app_right, by simp [AHeap.setT], hc.mono (Sg.leT s x)⟩
  ·obtain ⟨y, l', g1, g2, g3⟩ := h.tok b i hb
   refine ⟨y, l', app_left g1, ?_, g3.mono (Sg.leT s x)⟩
   simp only [AHeap.setT]
   rw [if_neg (by intro e; subst e; rw [hx] at g2; cases g2)]
   exact g2
 blk := fun t T i hb => by
  obtain ⟨y, i', g1, g2, g3⟩ := h.blk t T i hb
  exact ⟨y, i', g1, g2, RnL.mono (Sg.leT s x) _ _ g3⟩
 newt := fun b y hb => by
  rcases getElem?_app hb with g | ⟨_, rfl⟩
  ·obtain ⟨g1, z, g2⟩ := h.newt b y g
   refine ⟨g1, z, ?_⟩
   simp only [AHeap.setT]
   rw [if_neg (by intro e; subst e; rw [hx] at g2; cases g2)]
   exact g2
  ·exact ⟨h.base.none_tok hx, o', by simp [AHeap.setT]⟩
 newb := fun t y hb => h.newb t y hb
 injt := fun b b' y h1 h2 => by
  rcases getElem?_app h1 with g | ⟨e1, rfl⟩ <;> rcases getElem?_app h2 with g' | ⟨e2, e3⟩
  ·exact h.injt b b' y g g'
  ·subst e3
   obtain ⟨_, z, g2⟩ := h.newt b _ g
   rw [hx] at g2
   cases g2
  ·obtain ⟨_, z, g2⟩ := h.newt b' _ g'
   rw [hx] at g2
   cases g2
  ·omega
 injb := h.injb
 nb := h.nb
 nt := by simp [CS.addT, h.nt]
theorem HRc.setB (h : HRc H0 s c H) {b x : Nat} (hb : s.b[b]? = some x) {T : TypeId} {cs cs' : List AV} (hc : RnL s cs cs') : HRc H0 s (c.setB b T cs) (H.setB x T cs') where
 base := h.base.setB (h.newb b x hb).1
 blk := fun b' T' l hb' => by
  simp only [CS.setB, AHeap.setB] at hb'
  split at hb'
  ·rename_i e
   subst e
   cases hb'
   exact ⟨x, cs', hb, by simp [AHeap.setB], hc⟩
  ·rename_i hne
   obtain ⟨y, l', g1, g2, g3⟩ := h.blk b' T' l hb'
   refine ⟨y, l', g1, ?_, g3⟩
   simp only [AHeap.setB]
   rw [if_neg (by intro e; subst e; exact hne (h.injb _ _ _ g1 hb))]
   exact g2
 tok := h.tok
 newb := fun b' y hb' => by
  obtain ⟨g1, z, g2⟩ := h.newb b' y hb'
  refine ⟨g1, ?_⟩
  simp only [AHeap.setB]
  split
  ·exact ⟨_, rfl⟩
  ·exact ⟨z, g2⟩
 newt := h.newt
 injb := h.injb
 injt := h.injt
 nb := h.nb
 nt := h.nt
theorem HRc.setT (h : HRc H0 s c H) {b x : Nat} (hb : s.t[b]? = some x) {o o' : Own} (hc : OwR s o o') : HRc H0 s (c.setT b o) (H.setT x o') where
 base := h.base.setT (h.newt b x hb).1
 tok := fun b' l hb' => by
  simp only [CS.setT, AHeap.setT] at hb'
  split at hb'
  ·rename_i e
   subst e
   cases hb'
   exact ⟨x, o', hb, by simp [AHeap.setT], hc⟩
  ·rename_i hne
   obtain ⟨y, l', g1, g2, g3⟩ := h.tok b' l hb'
   refine ⟨y, l', g1, ?_, g3⟩
   simp only [AHeap.setT]
   rw [if_neg (by intro e; subst e; exact hne (h.injt _ _ _ g1 hb))]
   exact g2
 blk := h.blk
 newt := fun b' y hb' => by
  obtain ⟨g1, z, g2⟩ := h.newt b' y hb'
  refine ⟨g1, ?_⟩
  simp only [AHeap.setT]
  split
  ·exact ⟨_, rfl⟩
  ·exact ⟨z, g2⟩
 newb := h.newb
 injb := h.injb
 injt := h.injt
 nb := h.nb
 nt := h.nt
theorem HRc.start (H : AHeap) : HRc H ⟨[], []⟩ .new H where
 base := HSub.refl H
 blk := fun _ _ _ h => by cases h
 tok := fun _ _ h => by cases h
 newb := fun _ _ h => by simp at h
 newt := fun _ _ h => by simp at h
 injb := fun _ _ _ h => by simp at h
 injt := fun _ _ _ h => by simp at h
 nb := rfl
 nt := rfl
theorem rows_flat : ∀ (b : List UInt8), flatR (b.map fun c => [AV.int .u8 c.toNat]) = true
 | [] => rfl
 | _ :: b => by simp only [List.map_cons, flatR, flatL, AV.flat, rows_flat b]; rfl
theorem rowsOf_ok {size : Nat} {a a' : AV} {rows : List (List AV)} (h : Rn s a a') (hr : rowsOf size a = some rows) : ∃ rows', rowsOf size a' = some rows' ∧ RnR s rows rows' := by
 cases a <;> simp only [rowsOf, reduceCtorEq] at hr
 case str b =>
  simp only [Rn] at h
  subst h
  refine ⟨rows, hr, ?_⟩
  split at hr
  ·simp only [Option.some.injEq] at hr
   subst hr
   exact (flatR_rn _ (rows_flat b) _).2 rfl
  ·cases hr
 case raw v =>
  simp only [Rn] at h
  subst h
  refine ⟨rows, hr, ?_⟩
  split at hr
  ·rename_i e
   cases e
  ·rename_i e
   cases e
  ·cases hr
   simp [RnR]
  ·rename_i e
   cases e
  ·cases hr
 case vs n l =>
  simp only [Rn] at h
  obtain ⟨l', rfl, h1⟩ := h
  split at hr
  ·rename_i e
   simp only [Option.some.injEq] at hr
   subst hr
   exact ⟨l', by simp only [rowsOf, if_pos e], h1⟩
  ·cases hr
 case own t n l =>
  simp only [Rn] at h
  obtain ⟨x, l', h0, rfl, h1⟩ := h
  split at hr
  ·rename_i e
   simp only [Option.some.injEq] at hr
   subst hr
   exact ⟨l', by simp only [rowsOf, if_pos e], h1⟩
  ·cases hr
end
mutual
def AV.wk : AV → AV
 | .own _ n rows => .vs n rows
 | .agg cs => .agg (wkL cs)
 | .tup cs => .tup (wkL cs)
 | .top => .top
 | .bool b => .bool b
 | .int k n => .int k n
 | .str b => .str b
 | .raw v => .raw v
 | .ptr b o => .ptr b o
 | .vs n rows => .vs n rows
 | .ms t v => .ms t v
 | .mp t v k => .mp t v k
 | .rp r o => .rp r o
 | .fn f c => .fn f c
 | .ifc t v => .ifc t v
def wkL : List AV → List AV
 | [] => []
 | a :: az => a.wk :: wkL az
end
mutual
theorem wk_le {s : Sg} {m : Mem} : ∀ (a a' : AV), Rn s a a' → a.wk.flat = true → ∀ v, Rv m a' v → Rv m a.wk v
 | .own t n rows, a', h, hf, v, hv => by
  simp only [AV.wk, AV.flat] at hf ⊢
  simp only [Rn] at h
  obtain ⟨x, l, _, rfl, h1⟩ := h
  have := (flatR_rn rows hf l).1 h1
  subst this
  simp only [Rv] at hv ⊢
  exact hv.1
 | .agg cs, a', h, hf, v, hv => by
  simp only [AV.wk, AV.flat] at hf ⊢
  simp only [Rn] at h
  obtain ⟨l, rfl, h1⟩ := h
  simp only [Rv] at hv ⊢
  obtain ⟨lv, e1, e2⟩ := hv
  exact ⟨lv, e1, wkL_le cs l h1 hf lv e2⟩
 | .tup cs, a', h, hf, v, hv => by
  simp only [AV.wk, AV.flat] at hf ⊢
  simp only [Rn] at h
  obtain ⟨l, rfl, h1⟩ := h
  simp only [Rv] at hv ⊢
  obtain ⟨lv, e1, e2⟩ := hv
  exact ⟨lv, e1, wkL_le cs l h1 hf lv e2⟩
 | .top, a', h, hf, v, hv => by simp only [AV.wk, Rv]
 | .bool b, a', h, hf, v, hv => by simp only [AV.wk] at hf ⊢; rw [AV.flat_rn _ hf] at h; subst h; exact hv
 | .int k n, a', h, hf, v, hv => by simp only [AV.wk] at hf ⊢; rw [AV.flat_rn _ hf] at h; subst h; exact hv
 | .str b, a', h, hf, v, hv => by simp only [AV.wk] at hf ⊢; rw [AV.flat_rn _ hf] at h; subst h; exact hv
 | .raw b, a', h, hf, v, hv => by simp only [AV.wk] at hf ⊢; rw [AV.flat_rn _ hf] at h; subst h; exact hv
 | .ptr b o, a', h, hf, v, hv => by simp only [AV.wk, AV.flat] at hf; cases hf
 | .vs n rows, a', h, hf, v, hv => by simp only [AV.wk] at hf ⊢; rw [AV.flat_rn _ hf] at h; subst h; exact hv
 | .ms t ver, a', h, hf, v, hv => by simp only [AV.wk, AV.flat] at hf; cases hf
 | .mp t ver k, a', h, hf, v, hv => by simp only [AV.wk, AV.flat] at hf; cases hf
 | .rp r o, a', h, hf, v, hv => by simp only [AV.wk] at hf ⊢; rw [AV.flat_rn _ hf] at h; subst h; exact hv
 | .fn f c, a', h, hf, v, hv => by simp only [AV.wk] at hf ⊢; rw [AV.flat_rn _ hf] at h; subst h; exact hv
 | .ifc t x, a', h, hf, v, hv => by simp only [AV.wk] at hf ⊢; rw [AV.flat_rn _ hf] at h; subst h; exact hv
theorem wkL_le {s : Sg} {m : Mem} : ∀ (az l : List AV), RnL s az l → flatL (wkL az) = true → ∀ lv, RvL m l lv → RvL m (wkL az) lv
 | [], l, h, _, lv, hv => by
  simp only [RnL] at h
  subst h
  simpa only [wkL] using hv
 | a :: az, l, h, hf, lv, hv => by
  simp only [RnL] at h
  obtain ⟨a', l', rfl, h1, h2⟩ := h
  simp only [wkL, flatL, Bool.and_eq_true] at hf ⊢
  simp only [RvL] at hv ⊢
  obtain ⟨v, vs, e1, e2, e3⟩ := hv
  exact ⟨v, vs, e1, wk_le a a' h1 hf.1 v e2, wkL_le az l' h2 hf.2 vs e3⟩
end
theorem wkL_les {s : Sg} : ∀ (az l : List AV), RnL s az l → flatL (wkL az) = true → AVLes l (wkL az)
 | [], l, h, _ => by
  simp only [RnL] at h
  subst h
  simp only [wkL, AVLes]
 | a :: az, l, h, hf => by
  simp only [RnL] at h
  obtain ⟨a', l', rfl, h1, h2⟩ := h
  simp only [wkL, flatL, Bool.and_eq_true] at hf ⊢
  simp only [AVLes]
  exact ⟨_, _, rfl, fun m v hv => wk_le a a' h1 hf.1 v hv, wkL_les az l' h2 hf.2⟩
def crows (env : Env) (parts : List (Nat × EOpd)) : List (List AV) := (parts.map fun p => cev env p.2).map AV.cells
def crowsOk (env : Env) (size : Nat) (parts : List (Nat × EOpd)) : Bool := (parts.map fun p => cev env p.2).all AV.okc && ((crows env parts).all (fun r => r.length == size) && ((crows env parts).flatten.all AV.one && !(size == 0)))
abbrev Cl := FuncId → List AV → CS → Option (AV × CS)
def chunks (size : Nat) : Nat → List AV → List (List AV)
 | 0, _ => []
 | n + 1, l => l.take size :: chunks size n (l.drop size)
theorem chunks_flat (size : Nat) : ∀ (n : Nat) (l : List AV), l.length = n * size → (chunks size n l).flatten = l ∧ (∀ r ∈ chunks size n l, r.length = size) ∧ (chunks size n l).length = n
 | 0, l, h => by
  have : l = [] := List.length_eq_zero_iff.1 (by omega)
  subst this
  simp [chunks]
 | n + 1, l, h => by
  have hs : size ≤ l.length := by rw [h, Nat.add_mul]; omega
  obtain ⟨e1, e2, e3⟩ := chunks_flat size n (l.drop size) (by rw [List.length_drop, h, Nat.add_mul]; omega)
  refine ⟨by simp only [chunks, List.flatten_cons, e1, List.take_append_drop], fun r hr => ?_, by simp only [chunks, List.length_cons, e3]⟩
  simp only [chunks, List.mem_cons] at hr
  rcases hr with rfl | hr
  ·rw [List.length_take]; omega
  ·exact e2 r hr
theorem chunks_rn {s : Sg} (size : Nat) : ∀ (n : Nat) (l l' : List AV), RnL s l l' → RnR s (chunks size n l) (chunks size n l')
 | 0, _, _, _ => by simp [chunks, RnR]
 | n + 1, l, l', h => by simp only [chunks, RnR]; exact ⟨_, _, rfl, h.take size, chunks_rn size n _ _ (h.drop size)⟩
def cstB (c : CS) (b o n : Nat) (x : AV) : Option (AV × CS) :=
 match c.H.blk b with
 | some (T, cs) => bif (x.okc && x.cells.length == n) && (Nat.ble (o + n) cs.length && x.cells.all AV.one) then some (.undef, c.setB b T (setRange cs o x.cells)) else none
 | none => none
def cstM (c : CS) (t ver k n : Nat) (x : AV) : Option (AV × CS) :=
 match c.H.tok t with
 | some ⟨T, size, 0, ver', some rows⟩ =>
  bif (ver' == ver && (x.okc && x.cells.length == n)) && ((Nat.ble (k + n) rows.flatten.length && x.cells.all AV.one) && rows.flatten.length == rows.length * size) then some (.undef, c.setT t (.mu T size ver (chunks size rows.length (setRange rows.flatten k x.cells)))) else none
 | _ => none
def capp (c : CS) (T size bytes : Nat) (x : AV) (new : List (List AV)) : Option (AV × CS) :=
 match x with
 | .raw (.slice none 0 0) => bif Nat.ble (new.length * bytes) 140737488355328 && (Nat.ble new.length maxLen && !(size == 0)) then some (.own c.nt size new, c.addT (.frz T size new.length)) else none
 | .own t size' rows => match c.H.tok t with
  | some ⟨T', z, n, ver, none⟩ => bif (T' == T && (z == size && (n == rows.length && (ver == rows.length && size' == size)))) && (Nat.ble ((rows.length + new.length) * bytes) 140737488355328 && Nat.ble (rows.length + new.length) maxLen) then some (.own t size (rows ++ new), c.setT t (.frz T size (rows.length + new.length))) else none
  | _ => none
 | _ => none
def cappM (c : CS) (T size bytes : Nat) (x : AV) (new : List (List AV)) : Option (AV × CS) :=
 match x with
 | .raw (.slice none 0 0) => bif Nat.ble (new.length * bytes) 140737488355328 && (Nat.ble new.length maxLen && !(size == 0)) then some (.ms c.nt 0, c.addT (.mu T size 0 new)) else none
 | .ms t ver => match c.H.tok t with
  | some ⟨T', z, 0, ver', some rows⟩ => bif (T' == T && (z == size && ver' == ver)) && (Nat.ble ((rows.length + new.length) * bytes) 140737488355328 && Nat.ble (rows.length + new.length) maxLen) then some (.ms t (ver + 1), c.setT t (.mu T size (ver + 1) (rows ++ new))) else none
  | _ => none
 | _ => none
def cslM (c : CS) (env : Env) (size t ver : Nat) (lo hi : Option EOpd) : Option (AV × CS) :=
 match c.H.tok t with
 | some ⟨T, size', 0, ver', some rows⟩ => match coptNat env 0 lo, coptNat env rows.length hi with
  | some 0, some h => bif (ver' == ver && size' == size) && Nat.ble h rows.length then some (.ms t (ver + 1), c.setT t (.mu T size (ver + 1) (rows.take h))) else none
  | _, _ => none
 | _ => none
def cnot (env : Env) (b j : Nat) : Bool :=
 match env.get j with
 | .ptr b2 0 => !(b2 == b)
 | _ => false
def cstp (cvs : List FuncId) (cl : Cl) (op : EOp) (env : Env) (c : CS) : Option (AV × CS) :=
 match op with
 | .box T x => bif (cev env x).okc && (cev env x).cells.all AV.one then some (.ptr c.nb 0, c.addB T (cev env x).cells) else none
 | .alloc T zero => bif flatL zero && zero.all AV.one then some (.ptr c.nb 0, c.addB T zero) else none
 | .bsliceO T size n zero parts => bif crowsOk env size parts then some (.own c.nt size (crows env parts), c.addT (.frz T size (crows env parts).length)) else none
 | .bsliceM T size n zero parts => bif crowsOk env size parts then some (.ms c.nt 0, c.addT (.mu T size 0 (crows env parts))) else none
 | .mkM T size bytes zero x => match cev env x with
  | .int _ (.ofNat n) => bif Nat.ble (bytes * n) 281474976710656 && (Nat.ble n maxLen && (flatL zero && (zero.all AV.one && (zero.length == size && !(size == 0))))) then some (.ms c.nt 0, c.addT (.mu T size 0 (List.replicate n zero))) else none
  | _ => none
 | .append T size bytes x y => match rowsOf size (cev env y) with
  | some new => capp c T size bytes (cev env x) new
  | none => none
 | .appendM T size bytes x y => match rowsOf size (cev env y) with
  | some new => cappM c T size bytes (cev env x) new
  | none => none
 | .slM size x lo hi => match cev env x with
  | .ms t ver => cslM c env size t ver lo hi
  | _ => none
 | .store n a v => match cev env a with
  | .ptr b o => cstB c b o n (cev env v)
  | .mp t ver k => cstM c t ver k n (cev env v)
  | _ => none
 | .storeD me others n a v => match env.get me, cev env a with
  | .ptr b 0, .ptr b' o => bif b' == b && others.all (cnot env b) then cstB c b o n (cev env v) else none
  | _, _ => none
 | .call f args => cl f (args.map (cev env)) c
 | .callv x args => match cev env x with
  | .fn f cap => bif cvs.contains f then cl f (args.map (cev env) ++ cap) c else bif Nat.ble bnd f && cvs.contains (f - bnd) then cl (f - bnd) (cap ++ args.map (cev env)) c else none
  | _ => none
 | op => (cpv op env c.H).map fun v => (v, c)
def CallOK (P : Program) (cl : Cl) : Prop := ∀ f az c v c', cl f az c = some (v, c') → ∀ H0 s az' H, RnL s az az' → HRc H0 s c H → ACalls P f az' H fun o H' => ∃ s' v', Sg.Le s s' ∧ o = .ret v' ∧ Rn s' v v' ∧ HRc H0 s' c' H'
variable {P : Program} {s : Sg} {env env' : Env} {H0 H : AHeap} {c c' : CS} {K Rp : AV → AHeap → Prop} {v : AV}
theorem OwR.frz {T size n : Nat} : OwR s (.frz T size n) (.frz T size n) := ⟨rfl, rfl, rfl, rfl, rfl⟩
theorem OwR.mu {T size ver : Nat} {rows rows' : List (List AV)} (h : RnR s rows rows') : OwR s (.mu T size ver rows) (.mu T size ver rows') := ⟨rfl, rfl, rfl, rfl, rows', rfl, h⟩
theorem AVLes.rfl' : ∀ (l : List AV), AVLes l l
 | [] => by simp only [AVLes]
 | a :: l => by simp only [AVLes]; exact ⟨_, _, rfl, AVLe.refl a, AVLes.rfl' l⟩
theorem crows_ok (he : RnE s env env') {size : Nat} {parts : List (Nat × EOpd)} (h : crowsOk env size parts = true) : RnR s (crows env parts) (bslRows env' parts) ∧ (bslRows env' parts).all (fun r => r.length == size) = true ∧ (bslRows env' parts).flatten.all AV.one = true ∧ size ≠ 0 := by
 simp only [crowsOk, Bool.and_eq_true, Bool.not_eq_true', beq_eq_false_iff_ne] at h
 obtain ⟨h1, h2, h3, h4⟩ := h
 have hb := bsl_ok he parts h1
 exact ⟨hb, RnR.sizes hb h2, RnL.ones (RnR.flatten hb) h3, h4⟩
theorem RnR.repl {size n : Nat} {zero : List AV} (h : flatL zero = true) : RnR s (List.replicate n zero) (List.replicate n zero) := by
 induction n with
 | zero => simp [RnR]
 | succ n ih => simp only [List.replicate_succ, RnR]; exact ⟨_, _, rfl, (flatL_rn zero h _).2 rfl, ih⟩
theorem cstB_ok {b o n x : Nat} {a a' : AV} (ha : Rn s a a') (hb : s.b[b]? = some x) (hr : HRc H0 s c H) (h : cstB c b o n a = some (v, c')) : ∃ T cs, H.blk x = some (T, cs) ∧ a'.cells.length = n ∧ o + n ≤ cs.length ∧ a'.cells.all AV.one = true ∧ v = .undef ∧ HRc H0 s c' (H.setB x T (setRange cs o a'.cells)) := by
 unfold cstB at h
 split at h
 ·rename_i T cs e
  obtain ⟨y, cs', g1, g2, g3⟩ := hr.blk _ _ _ e
  rw [hb] at g1
  cases g1
  cases hc : ((a.okc && a.cells.length == n) && (Nat.ble (o + n) cs.length && a.cells.all AV.one)) with
  | false => rw [hc] at h; cases h
  | true =>
   rw [hc] at h
   simp only [cond_true, Option.some.injEq, Prod.mk.injEq] at h
   obtain ⟨rfl, rfl⟩ := h
   simp only [Bool.and_eq_true, beq_iff_eq, Nat.ble_eq] at hc
   obtain ⟨⟨h1, h2⟩, h3, h4⟩ := hc
   obtain ⟨k1, k2⟩ := ha.okc h1
   exact ⟨T, cs', g2, by rw [RnL.length k2, h2], by rw [RnL.length g3]; exact h3, RnL.ones k2 h4, rfl, hr.setB hb (g3.setRange k2 o)⟩
 ·cases h
theorem cstM_ok {t ver k n x : Nat} {a a' : AV} (ha : Rn s a a') (ht : s.t[t]? = some x) (hr : HRc H0 s c H) (h : cstM c t ver k n a = some (v, c')) : ∃ T size rows rows', H.tok x = some (.mu T size ver rows) ∧ a'.cells.length = n ∧ k + n ≤ rows.flatten.length ∧ a'.cells.all AV.one = true ∧ rows'.flatten = setRange rows.flatten k a'.cells ∧ (∀ r ∈ rows', r.length = size) ∧ rows'.length = rows.length ∧ v = .undef ∧ HRc H0 s c' (H.setT x (.mu T size ver rows')) := by
 unfold cstM at h
 split at h
 ·rename_i T size ver' rows e
  obtain ⟨y, l, g1, g2, g3⟩ := hr.mu e
  rw [ht] at g1
  cases g1
  cases hc : ((ver' == ver && (a.okc && a.cells.length == n)) && ((Nat.ble (k + n) rows.flatten.length && a.cells.all AV.one) && rows.flatten.length == rows.length * size)) with
  | false => rw [hc] at h; cases h
  | true =>
   rw [hc] at h
   simp only [cond_true, Option.some.injEq, Prod.mk.injEq] at h
   obtain ⟨rfl, rfl⟩ := h
   simp only [Bool.and_eq_true, beq_iff_eq, Nat.ble_eq] at hc
   obtain ⟨⟨rfl, h1, h2⟩, ⟨h3, h4⟩, h5⟩ := hc
   obtain ⟨k1, k2⟩ := ha.okc h1
   have hl : l.flatten.length = l.length * size := by rw [RnL.length g3.flatten, RnR.length g3]; exact h5
   have hk : k + n ≤ l.flatten.length := by rw [RnL.length g3.flatten]; exact h3
   have hn : a'.cells.length = n := by rw [RnL.length k2, h2]
   have hs : (setRange l.flatten k a'.cells).length = l.length * size := by
    unfold setRange
    simp only [List.length_append, List.length_take, List.length_drop]
    omega
   obtain ⟨e1, e2, e3⟩ := chunks_flat size l.length _ hs
   refine ⟨T, size, l, chunks size l.length (setRange l.flatten k a'.cells), g2, hn, hk, RnL.ones k2 h4, e1, e2, e3, rfl, hr.setT ht (OwR.mu ?_)⟩
   rw [RnR.length g3]
   exact chunks_rn size _ _ _ (g3.flatten.setRange k2 k)
 ·cases h
theorem cstp_ok {cvs : List FuncId} {cl : Cl} (hcl : CallOK P cl) (hcv : ∀ f ∈ cvs, callable P f = true) (he : RnE s env env') (hr : HRc H0 s c H) {op : EOp} (h : cstp cvs cl op env c = some (v, c'))
  (hK : ∀ s' v' H', Sg.Le s s' → Rn s' v v' → HRc H0 s' c' H' → K v' H') : IStep P op env' H K Rp := by
 unfold cstp at h
 split at h
 ·rename_i T x
  cases hc : ((cev env x).okc && (cev env x).cells.all AV.one) with
  | false => rw [hc] at h; cases h
  | true =>
   rw [hc] at h
   simp only [cond_true, Option.some.injEq, Prod.mk.injEq] at h
   obtain ⟨rfl, rfl⟩ := h
   rw [Bool.and_eq_true] at hc
   obtain ⟨k1, k2⟩ := (cev_rn he x).okc hc.1
   refine .sw _ (.box (RnL.ones k2 hc.2)) fun y hy => hK _ _ _ (Sg.leB s y) ?_ (hr.addB k2 hy)
   simp only [Rn, D.val]
   exact ⟨y, by rw [hr.nb]; exact app_right, rfl⟩
 ·rename_i T zero
  cases hc : (flatL zero && zero.all AV.one) with
  | false => rw [hc] at h; cases h
  | true =>
   rw [hc] at h
   simp only [cond_true, Option.some.injEq, Prod.mk.injEq] at h
   obtain ⟨rfl, rfl⟩ := h
   rw [Bool.and_eq_true] at hc
   refine .sw _ (.alloc hc.2) fun y hy => hK _ _ _ (Sg.leB s y) ?_ (hr.addB ((flatL_rn zero hc.1 _).2 rfl) hy)
   simp only [Rn, D.val]
   exact ⟨y, by rw [hr.nb]; exact app_right, rfl⟩
 ·rename_i T size n zero parts
  cases hc : crowsOk env size parts with
  | false => rw [hc] at h; cases h
  | true =>
   rw [hc] at h
   simp only [cond_true, Option.some.injEq, Prod.mk.injEq] at h
   obtain ⟨rfl, rfl⟩ := h
   obtain ⟨k1, k2, k3, k4⟩ := crows_ok he hc
   refine .sw _ (.bsliceO rfl k2 k3 k4) fun y hy => hK _ _ _ (Sg.leT s y) ?_ (hr.addT (by rw [RnR.length k1]; exact OwR.frz) hy)
   simp only [Rn, D.val]
   exact ⟨y, _, by rw [hr.nt]; exact app_right, rfl, RnR.mono (Sg.leT s y) _ _ k1⟩
 ·rename_i T size n zero parts
  cases hc : crowsOk env size parts with
  | false => rw [hc] at h; cases h
  | true =>
   rw [hc] at h
   simp only [cond_true, Option.some.injEq, Prod.mk.injEq] at h
   obtain ⟨rfl, rfl⟩ := h
   obtain ⟨k1, k2, k3, k4⟩ := crows_ok he hc
   refine .sw _ (.bsliceM rfl k2 k3 k4) fun y hy => hK _ _ _ (Sg.leT s y) ?_ (hr.addT (OwR.mu k1) hy)
   simp only [Rn, D.val]
   exact ⟨y, by rw [hr.nt]; exact app_right, rfl⟩
 ·rename_i T size bytes zero x
  split at h
  ·rename_i k n e
   have hx := cev_eq he e
   simp only [Rn] at hx
   cases hc : (Nat.ble (bytes * n) 281474976710656 && (Nat.ble n maxLen && (flatL zero && (zero.all AV.one && (zero.length == size && !(size == 0)))))) with
   | false => rw [hc] at h; cases h
   | true =>
    rw [hc] at h
    simp only [cond_true, Option.some.injEq, Prod.mk.injEq] at h
    obtain ⟨rfl, rfl⟩ := h
    simp only [Bool.and_eq_true, Nat.ble_eq, beq_iff_eq, Bool.not_eq_true', beq_eq_false_iff_ne] at hc
    obtain ⟨h1, h2, h3, h4, h5, h6⟩ := hc
    refine .sw _ (.mkM hx h1 h2 h4 h5 h6) fun y hy => hK _ _ _ (Sg.leT s y) ?_ (hr.addT (OwR.mu (RnR.repl (size := size) h3)) hy)
    simp only [Rn, D.val]
    exact ⟨y, by rw [hr.nt]; exact app_right, rfl⟩
  ·cases h
 ·rename_i T size bytes x y
  split at h
  ·rename_i new e
   obtain ⟨new', k1, k2⟩ := rowsOf_ok (cev_rn he y) e
   have hx := cev_rn he x
   unfold capp at h
   split at h
   ·rename_i e1
    rw [e1] at hx
    simp only [Rn] at hx
    cases hc : (Nat.ble (new.length * bytes) 140737488355328 && (Nat.ble new.length maxLen && !(size == 0))) with
    | false => rw [hc] at h; cases h
    | true =>
     rw [hc] at h
     simp only [cond_true, Option.some.injEq, Prod.mk.injEq] at h
     obtain ⟨rfl, rfl⟩ := h
     simp only [Bool.and_eq_true, Nat.ble_eq, Bool.not_eq_true', beq_eq_false_iff_ne] at hc
     refine .sw _ (.app0 hx k1 (by rw [RnR.length k2]; exact hc.1) (by rw [RnR.length k2]; exact hc.2.1) hc.2.2) fun z hz => hK _ _ _ (Sg.leT s z) ?_ (hr.addT (by rw [RnR.length k2]; exact OwR.frz) hz)
     simp only [Rn, D.val]
     exact ⟨z, _, by rw [hr.nt]; exact app_right, rfl, RnR.mono (Sg.leT s z) _ _ k2⟩
   ·rename_i t size' rows e1
    rw [e1] at hx
    simp only [Rn] at hx
    obtain ⟨z, l, g1, g2, g3⟩ := hx
    split at h
    ·rename_i T' zz n ver e2
     obtain ⟨z', i', f1, f2, f3⟩ := hr.tok _ _ e2
     rw [g1] at f1
     cases f1
     cases hc : ((T' == T && (zz == size && (n == rows.length && (ver == rows.length && size' == size)))) && (Nat.ble ((rows.length + new.length) * bytes) 140737488355328 && Nat.ble (rows.length + new.length) maxLen)) with
     | false => rw [hc] at h; cases h
     | true =>
      rw [hc] at h
      simp only [cond_true, Option.some.injEq, Prod.mk.injEq] at h
      obtain ⟨rfl, rfl⟩ := h
      simp only [Bool.and_eq_true, Nat.ble_eq, beq_iff_eq] at hc
      obtain ⟨⟨rfl, rfl, rfl, rfl, rfl⟩, c1, c2⟩ := hc
      have hi : i' = .frz T' size' l.length := by
       obtain ⟨a1, a2, a3, a4, a5⟩ := f3
       cases i'
       simp only at a1 a2 a3 a4 a5
       subst a1 a2 a3 a4 a5
       rw [RnR.length g3]
       rfl
      subst hi
      refine .append g2 f2 k1 (by rw [RnR.length k2, RnR.length g3]; exact c1) (by rw [RnR.length k2, RnR.length g3]; exact c2) (hK _ _ _ (Sg.Le.refl s) ?_ (hr.setT g1 (by rw [RnR.length k2, RnR.length g3]; exact OwR.frz)))
      simp only [Rn]
      exact ⟨z, _, g1, rfl, g3.append k2⟩
    ·cases h
   ·cases h
  ·cases h
 ·rename_i T size bytes x y
  split at h
  ·rename_i new e
   obtain ⟨new', k1, k2⟩ := rowsOf_ok (cev_rn he y) e
   have hx := cev_rn he x
   unfold cappM at h
   split at h
   ·rename_i e1
    rw [e1] at hx
    simp only [Rn] at hx
    cases hc : (Nat.ble (new.length * bytes) 140737488355328 && (Nat.ble new.length maxLen && !(size == 0))) with
    | false => rw [hc] at h; cases h
    | true =>
     rw [hc] at h
     simp only [cond_true, Option.some.injEq, Prod.mk.injEq] at h
     obtain ⟨rfl, rfl⟩ := h
     simp only [Bool.and_eq_true, Nat.ble_eq, Bool.not_eq_true', beq_eq_false_iff_ne] at hc
     refine .sw _ (.appM0 hx k1 (by rw [RnR.length k2]; exact hc.1) (by rw [RnR.length k2]; exact hc.2.1) hc.2.2) fun z hz => hK _ _ _ (Sg.leT s z) ?_ (hr.addT (OwR.mu k2) hz)
     simp only [Rn, D.val]
     exact ⟨z, by rw [hr.nt]; exact app_right, rfl⟩
   ·rename_i t ver e1
    rw [e1] at hx
    simp only [Rn] at hx
    obtain ⟨z, g1, g2⟩ := hx
    split at h
    ·rename_i T' zz ver' rows e2
     obtain ⟨z', l, f1, f2, f3⟩ := hr.mu e2
     rw [g1] at f1
     cases f1
     cases hc : ((T' == T && (zz == size && ver' == ver)) && (Nat.ble ((rows.length + new.length) * bytes) 140737488355328 && Nat.ble (rows.length + new.length) maxLen)) with
     | false => rw [hc] at h; cases h
     | true =>
      rw [hc] at h
      simp only [cond_true, Option.some.injEq, Prod.mk.injEq] at h
      obtain ⟨rfl, rfl⟩ := h
      simp only [Bool.and_eq_true, Nat.ble_eq, beq_iff_eq] at hc
      obtain ⟨⟨rfl, rfl, rfl⟩, c1, c2⟩ := hc
      refine .appendM g2 f2 k1 (by rw [RnR.length k2, RnR.length f3]; exact c1) (by rw [RnR.length k2, RnR.length f3]; exact c2) (hK _ _ _ (Sg.Le.refl s) ?_ (hr.setT g1 (OwR.mu (f3.append k2))))
      simp only [Rn]
      exact ⟨z, g1, rfl⟩
    ·cases h
   ·cases h
  ·cases h
 ·rename_i size x lo hi
  split at h
  ·rename_i t ver e
   have hx := cev_eq he e
   simp only [Rn] at hx
   obtain ⟨z, g1, g2⟩ := hx
   unfold cslM at h
   split at h
   ·rename_i T size' ver' rows e2
    obtain ⟨z', l, f1, f2, f3⟩ := hr.mu e2
    rw [g1] at f1
    cases f1
    split at h
    ·rename_i m e3 e4
     cases hc : ((ver' == ver && size' == size) && Nat.ble m rows.length) with
     | false => rw [hc] at h; cases h
     | true =>
      rw [hc] at h
      simp only [cond_true, Option.some.injEq, Prod.mk.injEq] at h
      obtain ⟨rfl, rfl⟩ := h
      simp only [Bool.and_eq_true, Nat.ble_eq, beq_iff_eq] at hc
      obtain ⟨⟨rfl, rfl⟩, c1⟩ := hc
      refine .slM g2 f2 (coptNat_ok he e3) (by rw [RnR.length f3]; exact coptNat_ok he e4) (by rw [RnR.length f3]; exact c1) (hK _ _ _ (Sg.Le.refl s) ?_ (hr.setT g1 (OwR.mu (f3.take m))))
      simp only [Rn]
      exact ⟨z, g1, rfl⟩
    ·cases h
   ·cases h
  ·cases h
 ·rename_i n a x
  split at h
  ·rename_i b o e
   have ha := cev_eq he e
   simp only [Rn] at ha
   obtain ⟨z, g1, g2⟩ := ha
   obtain ⟨T, cs, f1, f2, f3, f4, rfl, f6⟩ := cstB_ok (cev_rn he x) g1 hr h
   exact .store g2 f1 f2 f3 f4 (hK _ _ _ (Sg.Le.refl s) (by simp only [Rn]) f6)
  ·rename_i t ver k e
   have ha := cev_eq he e
   simp only [Rn] at ha
   obtain ⟨z, g1, g2⟩ := ha
   obtain ⟨T, size, rows, rows', f1, f2, f3, f4, f5, f6, f7, rfl, f9⟩ := cstM_ok (cev_rn he x) g1 hr h
   exact .storeM g2 f1 f2 f3 f4 f5 f6 f7 (hK _ _ _ (Sg.Le.refl s) (by simp only [Rn]) f9)
  ·cases h
 ·rename_i me others n a x
  split at h
  ·rename_i b b' o e0 e
   have ha := cev_eq he e
   have hm := he me
   rw [e0] at hm
   simp only [Rn] at ha hm
   obtain ⟨z, g1, g2⟩ := ha
   obtain ⟨z0, g3, g4⟩ := hm
   cases hc : (b' == b && others.all (cnot env b)) with
   | false => rw [hc] at h; cases h
   | true =>
    rw [hc, cond_true] at h
    simp only [Bool.and_eq_true, beq_iff_eq, List.all_eq_true] at hc
    obtain ⟨rfl, hc⟩ := hc
    rw [g1] at g3
    cases g3
    obtain ⟨T, cs, f1, f2, f3, f4, rfl, f6⟩ := cstB_ok (cev_rn he x) g1 hr h
    refine .storeD g4 (fun j hj => ?_) g2 f1 f2 f3 f4 (hK _ _ _ (Sg.Le.refl s) (by simp only [Rn]) f6)
    have h2 := hc j hj
    unfold cnot at h2
    have h3 := he j
    split at h2
    ·rename_i b2 e2
     rw [e2] at h3
     simp only [Rn] at h3
     obtain ⟨z2, q1, q2⟩ := h3
     refine ⟨z2, q2, fun hh => ?_⟩
     subst hh
     have := hr.injb _ _ _ q1 g1
     subst this
     simp at h2
    ·cases h2
  ·cases h
 ·rename_i f args
  refine .call _ (AVLes.rfl' _) (hcl f _ c v c' h H0 s _ H (cevs_rn he args) hr) fun o H' hq => ?_
  obtain ⟨s', v', q1, rfl, q3, q4⟩ := hq
  exact hK s' v' H' q1 q3 q4
 ·rename_i x args
  split at h
  ·rename_i f cap e
   have hx := cev_eq he e
   simp only [Rn] at hx
   obtain ⟨l, g1, g2⟩ := hx
   cases hc : cvs.contains f with
   | false =>
    rw [hc, cond_false] at h
    cases hd : (Nat.ble bnd f && cvs.contains (f - bnd)) with
    | false => rw [hd] at h; cases h
    | true =>
     rw [hd, cond_true] at h
     simp only [Bool.and_eq_true] at hd
     have hle := Nat.le_of_ble_eq_true hd.1
     have g1' : x.ev env' = .fn (f - bnd + bnd) l := by rw [Nat.sub_add_cancel hle]; exact g1
     refine .callvB _ g1' (hcv (f - bnd) (by simpa using hd.2)) (AVLes.rfl' _) (hcl (f - bnd) _ c v c' h H0 s _ H (g2.append (cevs_rn he args)) hr) fun o H' hq => ?_
     obtain ⟨s', v', q1, rfl, q3, q4⟩ := hq
     exact hK s' v' H' q1 q3 q4
   | true =>
    rw [hc, cond_true] at h
    refine .callv _ g1 (hcv f (by simpa using hc)) (AVLes.rfl' _) (hcl f _ c v c' h H0 s _ H ((cevs_rn he args).append g2) hr) fun o H' hq => ?_
    obtain ⟨s', v', q1, rfl, q3, q4⟩ := hq
    exact hK s' v' H' q1 q3 q4
  ·cases h
 ·simp only [Option.map_eq_some_iff, Prod.mk.injEq] at h
  obtain ⟨v0, g1, rfl, rfl⟩ := h
  obtain ⟨v', g2, g3⟩ := cpv_ok (P := P) he hr.toHR g1
  exact .sw _ g2 fun x _ => hK s v' H (Sg.Le.refl s) g3 hr
def cpure (cl : Cl) (f : FuncId) (az : List AV) : Option AV :=
 bif flatL (wkL az) then match cl f (wkL az) .new with
  | some (v, _) => bif v.wk.flat then some v.wk else none
  | none => none
 else none
def isP : EOp → Bool
 | .pcall _ _ => true
 | .pcallv _ _ => true
 | .pcallM _ _ _ _ => true
 | _ => false
def dmr (cvs : List FuncId) (cl : Cl) : List EI → Env → CS → Option (List AV × Env × CS)
 | [], env, c => some ([], env, c)
 | ⟨d, g, op⟩ :: l, env, c => match wanted ⟨d, g, op⟩ env with
  | none => none
  | some false => match dmr cvs cl l (env.put d .undef) c with
   | some (anns, e, c2) => some (bif isP op then .undef :: anns else anns, e, c2)
   | none => none
  | some true => match op with
   | .pcall f args => match cpure cl f (args.map (cev env)) with
    | some r => match dmr cvs cl l (env.put d r) c with
     | some (anns, e, c2) => some (r :: anns, e, c2)
     | none => none
    | none => none
   | .pcallv x args => match cev env x with
    | .fn f cap => bif cvs.contains f then match cpure cl f (args.map (cev env) ++ cap) with
     | some r => match dmr cvs cl l (env.put d r) c with
      | some (anns, e, c2) => some (r :: anns, e, c2)
      | none => none
     | none => none
     else none
    | _ => none
   | .pcallM _ _ _ _ => none
   | op => match cstp cvs cl op env c with
    | some (v, c1) => dmr cvs cl l (env.put d v) c1
    | none => none
section
variable {P : Program} {s : Sg} {env env' : Env} {H0 H : AHeap} {c c' : CS} {Rp : AV → AHeap → Prop}
theorem wanted_ok (he : RnE s env env') {i : EI} {b : Bool} (h : wanted i env = some b) : wanted i env' = some b := by
 obtain ⟨d, g, op⟩ := i
 cases g with
 | none => exact h
 | some p =>
  obtain ⟨j, want⟩ := p
  have hj := he j
  simp only [wanted] at h ⊢
  split at h
  ·rename_i x e
   rw [e] at hj
   simp only [Rn] at hj
   rw [hj]
   exact h
  ·rename_i e
   rw [e] at hj
   simp only [Rn] at hj
   rw [hj]
   exact h
  ·cases h
end
end Go.Aw
namespace Go.Aw
open Go
set_option linter.unusedVariables false
set_option linter.unusedSimpArgs false
inductive CI where
 | c (e : EC)
 | blk (id : Nat)
 | rnd (body : EC)
def cpop (id : Nat) : List CI → Option (List CI)
 | .blk j :: k => bif j == id then some k else cpop id k
 | _ :: k => cpop id k
 | [] => none
def cresv (env : Env) (C : AHeap) : ERes → Option AV
 | .t n => some (env.get n)
 | .cell agg n a => match env.get a with
  | .ptr b o => match C.blk b with
   | some (_, cs) => crange cs agg o n
   | none => none
  | .rp row o => crange row agg o n
  | _ => none
def cresL (env : Env) (C : AHeap) : List ERes → Option (List AV)
 | [] => some []
 | r :: rs => match cresv env C r, cresL env C rs with
  | some v, some l => some (v :: l)
  | _, _ => none
def cres (rs : List ERes) (env : Env) (C : AHeap) : Option AV :=
 match rs with
 | [r] => cresv env C r
 | rs => (cresL env C rs).map .tup
abbrev Tab := FuncId → Option (EC × List ERes × Nat)
abbrev Lib := FuncId → List AV → Option AV
def run (tab : Tab) (lib : Lib) (cvs : List FuncId) : Nat → List ERes → List CI → Env → CS → Option (AV × CS)
 | 0, _, _, _, _ => none
 | n + 1, rs, k, env, c =>
  match k with
  | [] => (cres rs env c.H).map fun v => (v, c)
  | .blk _ :: k => run tab lib cvs n rs k env c
  | .rnd body :: k => run tab lib cvs n rs (.c body :: .rnd body :: k) env c
  | .c e :: k => match e with
   | .ret => (cres rs env c.H).map fun v => (v, c)
   | .skip => run tab lib cvs n rs k env c
   | .seq a b => run tab lib cvs n rs (.c a :: .c b :: k) env c
   | .block id b => run tab lib cvs n rs (.c b :: .blk id :: k) env c
   | .exit id => match cpop id k with
    | some k' => run tab lib cvs n rs k' env c
    | none => none
   | .cond x a b => match cev env x with
    | .bool true => run tab lib cvs n rs (.c a :: k) env c
    | .bool false => run tab lib cvs n rs (.c b :: k) env c
    | _ => none
   | .region ops _ =>
    match dmr cvs (fun f az c => match lib f (wkL az) with
     | some r => bif flatL (wkL az) && r.flat then some (r, c) else none
     | none => match tab f with
      | some (e, rs, m) => bif az.length == m then run tab lib cvs n rs [.c e] (initEnv az) c else none
      | none => none) ops env c with
    | some (_, env', c') => run tab lib cvs n rs k env' c'
    | none => none
   | .loop body => run tab lib cvs n rs (.c body :: .rnd body :: k) env c
   | .dfr _ _ _ => none
def Inv (tab : Tab) (lib : Lib) (cvs : List FuncId) (rs : List ERes) (v : AV) (c1 : CS) (H0 : AHeap) (s0 : Sg) (body : EC) (k : List CI) (B : Nat) : Nat → Env → AHeap → Prop := fun m env' H' =>
 m ≤ B ∧ ∃ s env c, Sg.Le s0 s ∧ run tab lib cvs (m + 1) rs (.rnd body :: k) env c = some (v, c1) ∧ RnE s env env' ∧ HRc H0 s c H'
def IR (tab : Tab) (lib : Lib) (cvs : List FuncId) (rs : List ERes) (v : AV) (c1 : CS) (H0 : AHeap) (s0 : Sg) (n : Nat) : List CI → List Item → Prop
 | [], [] => True
 | .c e :: k, .c e' :: k' => e = e' ∧ IR tab lib cvs rs v c1 H0 s0 n k k'
 | .blk i :: k, .blk j :: k' => i = j ∧ IR tab lib cvs rs v c1 H0 s0 n k k'
 | .rnd b :: k, .round I m0 :: k' => n ≤ m0 ∧ (∃ B, n ≤ B + 1 ∧ I = Inv tab lib cvs rs v c1 H0 s0 b k B) ∧ IR tab lib cvs rs v c1 H0 s0 n k k'
 | _, _ => False
section
variable {P : Program} {tab : Tab} {lib : Lib} {cvs : List FuncId} {rs : List ERes} {v : AV} {c1 : CS} {H0 : AHeap} {s0 : Sg}
theorem IR.mono {n n' : Nat} (hn : n' ≤ n) : ∀ (k : List CI) (l : List Item), IR tab lib cvs rs v c1 H0 s0 n k l → IR tab lib cvs rs v c1 H0 s0 n' k l
 | [], [], _ => trivial
 | .c e :: k, .c e' :: k', h => ⟨h.1, IR.mono hn k k' h.2⟩
 | .blk i :: k, .blk j :: k', h => ⟨h.1, IR.mono hn k k' h.2⟩
 | .rnd b :: k, .round I m0 :: k', h => by
  obtain ⟨h1, ⟨B, h2, h3⟩, h4⟩ := h
  exact ⟨by omega, ⟨B, by omega, h3⟩, IR.mono hn k k' h4⟩
 | [], _ :: _, h => by cases h
 | .c _ :: _, [], h => by cases h
 | .c _ :: _, .blk _ :: _, h => by cases h
 | .c _ :: _, .round _ _ :: _, h => by cases h
 | .blk _ :: _, [], h => by cases h
 | .blk _ :: _, .c _ :: _, h => by cases h
 | .blk _ :: _, .round _ _ :: _, h => by cases h
 | .rnd _ :: _, [], h => by cases h
 | .rnd _ :: _, .c _ :: _, h => by cases h
 | .rnd _ :: _, .blk _ :: _, h => by cases h
variable {s : Sg} {env env' : Env} {H : AHeap} {c : CS}
theorem cresv_ok (he : RnE s env env') (hr : HRc H0 s c H) {r : ERes} {x : AV} (h : cresv env c.H r = some x) : ∃ x', r.ev env' H = some x' ∧ Rn s x x' := by
 cases r with
 | t n =>
  simp only [cresv, Option.some.injEq] at h
  subst h
  exact ⟨_, rfl, he n⟩
 | cell agg n a =>
  simp only [cresv] at h
  have ha := he a
  split at h
  ·rename_i b o e
   rw [e] at ha
   simp only [Rn] at ha
   obtain ⟨y, h1, h2⟩ := ha
   split at h
   ·rename_i T cs e2
    obtain ⟨x', cs', g1, g2, g3⟩ := hr.blk _ _ _ e2
    rw [h1] at g1
    cases g1
    obtain ⟨k1, v', k2, k3⟩ := crange_ok g3 h
    exact ⟨v', by simp only [ERes.ev, peval, EOpd.ev, h2, g2, if_pos k1, k2], k3⟩
   ·cases h
  ·rename_i row o e
   rw [e] at ha
   simp only [Rn] at ha
   obtain ⟨l, h2, h1⟩ := ha
   obtain ⟨k1, v', k2, k3⟩ := crange_ok h1 h
   exact ⟨v', by simp only [ERes.ev, peval, EOpd.ev, h2, if_pos k1, k2], k3⟩
  ·cases h
theorem cresL_ok (he : RnE s env env') (hr : HRc H0 s c H) : ∀ (l : List ERes) (x : List AV), cresL env c.H l = some x → ∃ x', l.mapM (ERes.ev env' H) = some x' ∧ RnL s x x'
 | [], x, h => by
  simp only [cresL, Option.some.injEq] at h
  subst h
  exact ⟨[], rfl, by simp only [RnL]⟩
 | r :: l, x, h => by
  simp only [cresL] at h
  split at h
  ·rename_i y ys e1 e2
   simp only [Option.some.injEq] at h
   subst h
   obtain ⟨y', g1, g2⟩ := cresv_ok he hr e1
   obtain ⟨ys', g3, g4⟩ := cresL_ok he hr l ys e2
   exact ⟨y' :: ys', by simp [List.mapM_cons, g1, g3], by simp only [RnL]; exact ⟨_, _, rfl, g2, g4⟩⟩
  ·cases h
theorem cres_ok (he : RnE s env env') (hr : HRc H0 s c H) {l : List ERes} {x : AV} (h : cres l env c.H = some x) : ∃ x', results l env' H = some x' ∧ Rn s x x' := by
 unfold cres at h
 split at h
 ·exact cresv_ok he hr h
 ·rename_i hn
  simp only [Option.map_eq_some_iff] at h
  obtain ⟨y, e, rfl⟩ := h
  obtain ⟨y', g1, g2⟩ := cresL_ok he hr l y e
  refine ⟨.tup y', ?_, by simp only [Rn]; exact ⟨_, rfl, g2⟩⟩
  unfold results
  split
  ·rename_i r
   exact absurd rfl (hn r)
  ·rw [g1]; rfl
theorem init_rn : ∀ {az az' : List AV}, RnL s az az' → RnE s (initEnv az) (initEnv az') := by
 intro az az' h j
 rw [initFrom_get, initFrom_get]
 simp only [Nat.zero_le, if_true, Nat.sub_zero]
 cases e : az[j]? with
 | none =>
  simp only [List.getD, e, Option.getD_none, Rn]
 | some a =>
  obtain ⟨a', g1, g2⟩ := h.get j a e
  simp only [List.getD, e, g1, Option.getD_some]
  exact g2
theorem AVLes.rvL {m : Mem} : ∀ {az bs : List AV} {l : List Value}, AVLes az bs → RvL m az l → RvL m bs l
 | [], _, _, h, k => by simp only [AVLes] at h; subst h; exact k
 | a :: az, _, _, h, k => by
  simp only [AVLes] at h
  obtain ⟨b, bs, rfl, h1, h2⟩ := h
  simp only [RvL] at k ⊢
  obtain ⟨v, vs, e1, e2, e3⟩ := k
  exact ⟨v, vs, e1, h1 m v e2, AVLes.rvL h2 e3⟩
end
end Go.Aw
