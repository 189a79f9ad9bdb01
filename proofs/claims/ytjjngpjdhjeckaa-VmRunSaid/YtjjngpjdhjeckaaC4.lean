/- Part of a proof; own work. -/
import Derived.Test.YtjjngpjdhjeckaaC3
/- One step of the abstract machine, and the model's (own work). -/
namespace Go.Aw
open Go
set_option linter.unusedVariables false
set_option linter.unusedSimpArgs false
section
variable {P : Program} {m : Mem} {env : Env} {a : Act} {o : Oper}

theorem quiet_wp {r : AV} {K : Act → World → Prop} {Q : Exit → Act → World → Prop} (q : Quiet P m a o r) (h : ∀ v, Rv m r v → K (a.put o.dst v) m.w) : o.wp P a m.w K Q := by
  obtain ⟨v, h1, h2⟩ := q
  exact wp_of_run h1 (h v h2)
theorem avles_rv {m : Mem} : ∀ {as bs : List AV} {l : List Value}, AVLes as bs → RvL m as l → RvL m bs l
  | [], bs, l, h, k => by simp only [AVLes] at h; subst h; exact k
  | a :: as, bs, l, h, k => by
    simp only [AVLes] at h
    obtain ⟨b, bs, rfl, h1, h2⟩ := h
    simp only [RvL] at k ⊢
    obtain ⟨v, vs, rfl, k1, k2⟩ := k
    exact ⟨v, vs, rfl, h1 _ _ k1, avles_rv h2 k2⟩
theorem run_call {P : Program} {w : World} {f : FuncId} {args : Array Value} (h : callable P f = true) : (callFunc f args).run P w = .ok (.enter f args) w := by
  unfold callable at h
  split at h
  · rename_i fn hf
    simp only [Bool.and_eq_true, Bool.not_eq_true'] at h
    obtain ⟨h1, h2⟩ := h
    obtain ⟨c, hc⟩ := Option.isSome_iff_exists.1 h1
    have h2' : ¬ fn.name = "runtime.NumGoroutine" := by simpa using h2
    simp [callFunc, hf, h2', hc]
  · cases h
theorem run_op_call {c : Call} {f : FuncId} {g : Operand} (ho : o.op = .call c) (hc : c.callee = .value g) (hg : a.eval g = .func (.func f) #[] ⟨[]⟩ ) (hf : callable P f = true) (w : World) : (execOp a.eval o).run P w = .ok (.enter f (c.args.map a.eval)) w := by
  have hg' : a.eval g = .func (.func f) #[] #[] := hg
  simp [execOp, ho, resolve, hc, hg', Deferred.ofValue, invoke, run_call hf]
theorem run_op_callv {c : Call} {f : FuncId} {g : Operand} {l : List Value} (ho : o.op = .call c) (hc : c.callee = .value g) (hg : a.eval g = .func (.func f) #[] ⟨l⟩) (hf : callable P f = true) (w : World) : (execOp a.eval o).run P w = .ok (.enter f (c.args.map a.eval ++ ⟨l⟩)) w := by
  simp [execOp, ho, resolve, hc, hg, Deferred.ofValue, invoke, run_call hf]
/-- What must hold of a callee's ending. -/
def outQ (P : Program) (o : Oper) (a : Act) (K : Act → World → Prop) (Q : Exit → Act → World → Prop) : Ending → World → Prop
  | .returned v, w => K (a.put o.dst v) w
  | .panicked chain, w => Q (.panic chain) a w
  | .outgrown, _ => LetsOut Q
theorem wp_of_enter {K : Act → World → Prop} {Q : Exit → Act → World → Prop} {w w' : World} {f : FuncId} {args : Array Value} (h : (execOp a.eval o).run P w = .ok (.enter f args) w') (hk : Calls P f args w' (outQ P o a K Q)) : o.wp P a w K Q := by
  simp only [Oper.wp, h, Oper.upon_enter]
  refine hk.mono fun e w'' he => ?_
  cases e <;> exact he
theorem acalls_wp {f : FuncId} {as : List AV} {vs : List Value} {R : Out → AHeap → Prop} {K : Act → World → Prop} {Q : Exit → Act → World → Prop} (rh : RH m) (hv : RvL m as vs) (hc : ACalls P f as m.H R)
    (h1 : ∀ r m' v, R (.ret r) m'.H → RH m' → Ev m m' → Rv m' r v → K (a.put o.dst v) m'.w)
    (h2 : ∀ r m' v, R (.pan r) m'.H → RH m' → Ev m m' → Rv m' r v → Q (.panic [{ v, recovered := false }]) a m'.w) : Calls P f ⟨vs⟩ m.w (outQ P o a K Q) := by
  refine (hc m vs rfl rh hv).mono fun e w' he => ?_
  obtain ⟨ou, H', L', T', r1, r2, r3, r4⟩ := he
  cases ou with
  | ret r =>
    simp only [RvOut] at r3
    obtain ⟨v, rfl, r3⟩ := r3
    exact h1 r ⟨w', H', L', T'⟩ v r4 r1 r2 r3
  | pan r =>
    simp only [RvOut] at r3
    obtain ⟨v, rfl, r3⟩ := r3
    exact h2 r ⟨w', H', L', T'⟩ v r4 r1 r2 r3
theorem appT_of {t u T : TypeId} {size bytes : Nat} (h : (decide (slT P t = some T) && (decide (slT P u = some T) || (match P.underlying u, P.underlying T with | some .string, some (.int .u8) => true | _, _ => false)) && (match P.info? T with | some i => decide (i.size = size) && decide (i.bytes = bytes) && (match i.zero with | some z => decide (z.cells.size = size) | none => false) | none => false)) = true) : Nonempty (AppT P t u T size bytes) := by
  simp only [Bool.and_eq_true, Bool.or_eq_true, decide_eq_true_eq] at h
  obtain ⟨⟨h1, h2⟩, h3⟩ := h
  have sl : ∀ {t T}, slT P t = some T → P.underlying t = some (.slice T) := by
    intro t T h
    unfold slT at h
    split at h
    · rename_i e hu; simp at h; subst h; exact hu
    · cases h
  split at h3
  · rename_i i hi
    simp only [Bool.and_eq_true, decide_eq_true_eq] at h3
    obtain ⟨⟨e1, e2⟩, e3⟩ := h3
    split at e3
    · rename_i z hz
      refine ⟨⟨sl h1, ?_, i, hi, e1, e2, z, hz, by simpa using e3⟩⟩
      rcases h2 with h2 | h2
      · exact .inl (sl h2)
      · split at h2
        · rename_i hu _; exact .inr hu
        · cases h2
    · cases e3
  · cases h3
theorem src_of {size : Nat} {y : AV} {v : Value} {rows : List (List AV)} (h : Rv m y v) (hy : rowsOf size y = some rows) : ∃ news, Src P m size v rows news := by
  unfold rowsOf at hy
  split at hy
  · split at hy
    · rename_i e; subst e; simp at hy; subst hy; exact src_vs h
    · cases hy
  · split at hy
    · rename_i e; subst e; simp at hy; subst hy; exact src_vs (rv_own h)
    · cases hy
  · simp at hy
    subst hy
    rw [rv_raw h]
    exact ⟨[], src_nil⟩
  · split at hy
    · rename_i e; subst e; simp at hy; subst hy
      rw [(rv_str h).1]
      exact ⟨_, src_str⟩
    · cases hy
  · cases hy
theorem arr2 {α : Type} {l : Array α} {x y : α} (h : l.toList = [x, y]) : l = #[x, y] := by cases l; simp at h; rw [h]

set_option maxHeartbeats 4000000 in
theorem desc_wp {e : EOp} {d : D} {K : Act → World → Prop} {Q : Exit → Act → World → Prop} (hd : Desc P e env m.H d) (hc : chkOp P o.op e = true) (rh : RH m) (he : RvE m env a.tmps)
    (h : ∀ x m' v, d.fresh x m.H → m'.H = d.heap m.H x → RH m' → Ev m m' → Rv m' (d.val x) v → K (a.put o.dst v) m'.w) : o.wp P a m.w K Q := by
  have hq : ∀ r, d = .det r → Quiet P m a o r → o.wp P a m.w K Q := by
    intro r e q
    subst e
    exact quiet_wp q fun v hv => h 0 m v trivial rfl rh (Ev.refl m) hv
  cases hd with
  | pure hp => exact hq _ rfl (peval_run he rh hc hp)
  | quo hx hy hb =>
    cases ho : o.op <;> try (simp [ho, chkOp] at hc; done)
    rw [ho] at hc
    simp only [chkOp, Bool.and_eq_true, decide_eq_true_eq] at hc
    obtain ⟨⟨rfl, c1⟩, c2⟩ := hc
    exact hq _ rfl (d_quo he ho c1 c2 hx hy hb)
  | rem hx hy hb =>
    cases ho : o.op <;> try (simp [ho, chkOp] at hc; done)
    rw [ho] at hc
    simp only [chkOp, Bool.and_eq_true, decide_eq_true_eq] at hc
    obtain ⟨⟨rfl, c1⟩, c2⟩ := hc
    exact hq _ rfl (d_rem he ho c1 c2 hx hy hb)
  | cat hx hy hb =>
    cases ho : o.op <;> try (simp [ho, chkOp] at hc; done)
    rw [ho] at hc
    simp only [chkOp, Bool.and_eq_true, decide_eq_true_eq] at hc
    obtain ⟨⟨rfl, c1⟩, c2⟩ := hc
    exact hq _ rfl (d_cat he ho c1 c2 hx hy hb)
  | idxV hx hi h0 hr =>
    cases ho : o.op <;> try (simp [ho, chkOp] at hc; done)
    have hc' := hc
    rw [ho] at hc'
    simp only [chkOp, Bool.and_eq_true] at hc'
    have hxv := chkX_rv he hc'.1.1
    rw [hx] at hxv
    exact hq _ rfl (d_idxRow he ho hc hxv hi h0 hr)
  | idxO hx hi h0 hr =>
    cases ho : o.op <;> try (simp [ho, chkOp] at hc; done)
    have hc' := hc
    rw [ho] at hc'
    simp only [chkOp, Bool.and_eq_true] at hc'
    have hxv := chkX_rv he hc'.1.1
    rw [hx] at hxv
    exact hq _ rfl (d_idxRow he ho hc (rv_own hxv) hi h0 hr)
  | idxM hx hi h0 h1 =>
    cases ho : o.op <;> try (simp [ho, chkOp] at hc; done)
    exact hq _ rfl (d_idxM he ho hc hx hi h0 h1)
  | idxP hx hi h0 h1 =>
    cases ho : o.op <;> try (simp [ho, chkOp] at hc; done)
    have hc' := hc
    rw [ho] at hc'
    simp only [chkOp, Bool.and_eq_true] at hc'
    have hxv := chkX_rv he hc'.1.1
    rw [hx] at hxv
    exact hq _ rfl ⟨_, d_idxPtr he ho hc (rv_ptr hxv) hi h0 h1, by simp only [Rv]⟩
  | idxR hx hi h0 h1 =>
    cases ho : o.op <;> try (simp [ho, chkOp] at hc; done)
    have hc' := hc
    rw [ho] at hc'
    simp only [chkOp, Bool.and_eq_true] at hc'
    have hxv := chkX_rv he hc'.1.1
    rw [hx] at hxv
    obtain ⟨b, p, e1, e2⟩ := rv_rp hxv
    exact hq _ rfl ⟨_, d_idxPtr he ho hc e1 hi h0 h1, by simp only [Rv]; exact ⟨b, p, by rw [Nat.add_assoc], e2⟩⟩
  | idxA hx hi h0 h1 hl hv =>
    cases ho : o.op <;> try (simp [ho, chkOp] at hc; done)
    exact hq _ rfl (d_idxA he ho hc hx hi h0 h1 hl hv)
  | idxS hx hi h0 hcc =>
    cases ho : o.op <;> try (simp [ho, chkOp] at hc; done)
    exact hq _ rfl (d_idxS he ho hc hx hi h0 hcc)
  | slS hx hl hh h1 h2 =>
    cases ho : o.op <;> try (simp [ho, chkOp] at hc; done)
    exact hq _ rfl (d_slS he ho hc hx hl hh h1 h2)
  | slV hx hl hh h1 h2 =>
    cases ho : o.op <;> try (simp [ho, chkOp] at hc; done)
    exact hq _ rfl (d_slV he ho hc hx hl hh h1 h2)
  | box hx =>
    cases ho : o.op <;> try (simp [ho, chkOp] at hc; done)
    rw [ho] at hc
    simp only [chkOp, Bool.and_eq_true, decide_eq_true_eq] at hc
    obtain ⟨rfl, c1⟩ := hc
    obtain ⟨l, r1, r2⟩ := d_box he rh ho c1 hx
    exact wp_of_run r1 (h m.w.heap.size _ _ (blk_new rh) rfl r2 (Ev.nb _ _ _ _) (by simp only [D.val, Rv]))
  | alloc hz =>
    cases ho : o.op <;> try (simp [ho, chkOp] at hc; done)
    rw [ho] at hc
    simp only [chkOp, Bool.and_eq_true, decide_eq_true_eq] at hc
    obtain ⟨rfl, c1⟩ := hc
    obtain ⟨l, r1, r2⟩ := d_alloc (a := a) rh ho c1
    exact wp_of_run r1 (h m.w.heap.size _ _ (blk_new rh) rfl r2 (Ev.nb _ _ _ _) (by simp only [D.val, Rv]))
  | bsliceV hr hs h1 =>
    cases ho : o.op <;> try (simp [ho, chkOp] at hc; done)
    obtain ⟨l, r1, r2, r3, r4, r5, r6⟩ := d_bslice he rh ho hc hr hs h1
    rename_i T size n zero parts rows t n' parts'
    have ev := Ev.alloc m (.cells ⟨l⟩ T)
    refine wp_of_run r1 (h 0 { m with w := m.w.alloc (.cells ⟨l⟩ T) } _ trivial rfl (RH.alloc rh _) ev ?_)
    simp only [D.val, Rv]
    refine ⟨_, _, _, rfl, rfl, ⟨Nat.le_refl _, by rw [maxLen_eq]; omega⟩, .inr ⟨m.w.heap.size, 0, rfl, RvR.of (fun r hr => by have := List.all_eq_true.1 hs r hr; simpa using this) (RvL.ev ev _ _ r2) fun j v hj => ⟨?_, r3 v (List.mem_of_getElem? hj), ⟨by simp, blk_new rh, fun t i ht hb => ?_⟩⟩⟩⟩
    · rw [Nat.zero_add, cell_of_row _ m.w.heap.size j ⟨l⟩ T (0, 0) (hpnew m.w _)]
      simpa using hj
    · have := tok_lt rh ht hb
      omega
  | bsliceO hr hs h1 h0 =>
    cases ho : o.op <;> try (simp [ho, chkOp] at hc; done)
    rename_i T size n zero parts rows t n' parts'
    have hc' : chkOp P o.op (.bslice T size n zero parts) = true := by rw [ho] at hc ⊢; exact hc
    obtain ⟨l, r1, r2, r3, r4, r5, r6⟩ := d_bslice he rh ho hc' hr hs h1
    obtain ⟨q1, q2, q3⟩ := new_tok rh (w' := m.w.alloc (.cells ⟨l⟩ T)) (T := T) (size := size) (cap := rows.length) (rows := rows) (l := l) (cur := ⟨l⟩) rfl rfl rfl (by simp) (fun b hb => hpold m.w _ b hb) (hpnew m.w _) r2 r3 r4 (fun r hr => by have := List.all_eq_true.1 hs r hr; simpa using this) (fun j v hj => by simpa using hj) (by simpa using r4) (Nat.le_refl _) (by rw [maxLen_eq]; omega) r6
    exact wp_of_run r1 (h m.T _ _ (tok_new rh) rfl q1 q2 q3)
  | app0 hx hy hb hm h0 =>
    cases ho : o.op <;> try (simp [ho, chkOp] at hc; done)
    rename_i T size bytes x y rows c
    obtain ⟨callee, args, argTypes⟩ := c
    rw [ho] at hc
    cases callee with
    | value f => simp [chkOp] at hc
    | invoke _ _ => simp [chkOp] at hc
    | builtin b =>
      cases b <;> simp only [chkOp] at hc <;> first
        | (cases hc; done)
        | skip
      simp only [Bool.and_eq_true] at hc
      obtain ⟨c1, c2⟩ := hc
      split at c2
      · rename_i t u ht
        obtain ⟨A⟩ := appT_of c2
        obtain rfl := arr2 ht
        have hargs : ∃ p q, args = #[p, q] ∧ chkX p x = true ∧ chkX q y = true := by
          match hl : args.toList with
          | [p, q] => rw [hl] at c1; simp only [chkXs, Bool.and_eq_true] at c1; exact ⟨p, q, arr2 hl, c1.1, c1.2.1⟩
          | [] => rw [hl] at c1; simp [chkXs] at c1
          | [_] => rw [hl] at c1; simp [chkXs] at c1
          | _ :: _ :: _ :: _ => rw [hl] at c1; simp [chkXs] at c1
        obtain ⟨p, q, rfl, e1, e2⟩ := hargs
        have hp := chkX_rv he e1
        rw [hx] at hp
        have hp' := rv_raw hp
        obtain ⟨news, S⟩ := src_of (P := P) (chkX_rv he e2) hy
        obtain ⟨m', v, r1, r2, r3, r4, r5⟩ := app_nil (ty := o.type) A rh S hb hm h0
        refine wp_of_run (v := v) (w' := m'.w) ?_ (h m.T m' v (tok_new rh) r4 r2 r3 r5)
        simp [execOp, ho, resolve, invoke, builtin, hp', r1]
      · cases c2
  | pcall ha hp =>
    cases ho : o.op <;> try (simp [ho, chkOp] at hc; done)
    rename_i f args as r c
    obtain ⟨callee, cargs, argTypes⟩ := c
    rw [ho] at hc
    cases callee with
    | builtin b => cases b <;> simp [chkOp] at hc
    | invoke _ _ => simp [chkOp] at hc
    | value g =>
      simp only [chkOp, Bool.and_eq_true] at hc
      obtain ⟨⟨c1, c2⟩, c3⟩ := hc
      split at c1
      · rename_i f'
        have : f' = f := by simpa using c1
        subst this
        refine wp_of_enter (run_op_call ho rfl rfl c3 m.w) ?_
        have hl := avles_rv ha (chkXs_rv he c2)
        have hA : (cargs.map a.eval) = ⟨cargs.toList.map a.eval⟩ := Array.ext' (by simp)
        rw [show ({ callee := Callee.value (Operand.func f'), args := cargs, argTypes := argTypes } : Call).args.map a.eval = ⟨cargs.toList.map a.eval⟩ from hA]
        exact acalls_wp rh hl (hp m.H) (fun r' m' v hr r1 r2 r3 => by obtain ⟨e1, e2⟩ := hr; simp at e1; subst e1; exact h 0 m' v trivial e2 r1 r2 r3) (fun r' m' v hr => by simp at hr)
      · cases c1
  | pcallv hx hf ha hp =>
    cases ho : o.op <;> try (simp [ho, chkOp] at hc; done)
    rename_i x args f cap as r c
    obtain ⟨callee, cargs, argTypes⟩ := c
    rw [ho] at hc
    cases callee with
    | builtin b => cases b <;> simp [chkOp] at hc
    | invoke _ _ => simp [chkOp] at hc
    | value g =>
      simp only [chkOp, Bool.and_eq_true] at hc
      obtain ⟨c1, c2⟩ := hc
      have hg := chkX_rv he c1
      rw [hx] at hg
      obtain ⟨l, g1, g2⟩ := rv_fn hg
      refine wp_of_enter (run_op_callv ho rfl g1 hf m.w) ?_
      have hl := avles_rv ha (RvL.append (chkXs_rv he c2) g2)
      have hA : (cargs.map a.eval) ++ ⟨l⟩ = ⟨cargs.toList.map a.eval ++ l⟩ := by
        apply Array.ext'
        simp
      rw [show ({ callee := Callee.value g, args := cargs, argTypes := argTypes } : Call).args.map a.eval ++ ⟨l⟩ = ⟨cargs.toList.map a.eval ++ l⟩ from hA]
      exact acalls_wp rh hl (hp m.H) (fun r' m' v hr r1 r2 r3 => by obtain ⟨e1, e2⟩ := hr; simp at e1; subst e1; exact h 0 m' v trivial e2 r1 r2 r3) (fun r' m' v hr => by simp at hr)
  | pcall' ha hp =>
    cases ho : o.op <;> try (simp [ho, chkOp] at hc; done)
    rename_i f args as r c
    obtain ⟨callee, cargs, argTypes⟩ := c
    rw [ho] at hc
    cases callee with
    | builtin b => cases b <;> simp [chkOp] at hc
    | invoke _ _ => simp [chkOp] at hc
    | value g =>
      simp only [chkOp, Bool.and_eq_true] at hc
      obtain ⟨⟨c1, c2⟩, c3⟩ := hc
      split at c1
      · rename_i f'
        have : f' = f := by simpa using c1
        subst this
        refine wp_of_enter (run_op_call ho rfl rfl c3 m.w) ?_
        have hl := avles_rv ha (chkXs_rv he c2)
        have hA : (cargs.map a.eval) = ⟨cargs.toList.map a.eval⟩ := Array.ext' (by simp)
        rw [show ({ callee := Callee.value (Operand.func f'), args := cargs, argTypes := argTypes } : Call).args.map a.eval = ⟨cargs.toList.map a.eval⟩ from hA]
        exact acalls_wp rh hl (hp m.H) (fun r' m' v hr r1 r2 r3 => by obtain ⟨e1, e2⟩ := hr; simp at e1; subst e1; exact h 0 m' v trivial e2 r1 r2 r3) (fun r' m' v hr => by simp at hr)
      · cases c1
  | pcallv' hx hf ha hp =>
    cases ho : o.op <;> try (simp [ho, chkOp] at hc; done)
    rename_i x args f cap as r c
    obtain ⟨callee, cargs, argTypes⟩ := c
    rw [ho] at hc
    cases callee with
    | builtin b => cases b <;> simp [chkOp] at hc
    | invoke _ _ => simp [chkOp] at hc
    | value g =>
      simp only [chkOp, Bool.and_eq_true] at hc
      obtain ⟨c1, c2⟩ := hc
      have hg := chkX_rv he c1
      rw [hx] at hg
      obtain ⟨l, g1, g2⟩ := rv_fn hg
      refine wp_of_enter (run_op_callv ho rfl g1 hf m.w) ?_
      have hl := avles_rv ha (RvL.append (chkXs_rv he c2) g2)
      have hA : (cargs.map a.eval) ++ ⟨l⟩ = ⟨cargs.toList.map a.eval ++ l⟩ := by
        apply Array.ext'
        simp
      rw [show ({ callee := Callee.value g, args := cargs, argTypes := argTypes } : Call).args.map a.eval ++ ⟨l⟩ = ⟨cargs.toList.map a.eval ++ l⟩ from hA]
      exact acalls_wp rh hl (hp m.H) (fun r' m' v hr r1 r2 r3 => by obtain ⟨e1, e2⟩ := hr; simp at e1; subst e1; exact h 0 m' v trivial e2 r1 r2 r3) (fun r' m' v hr => by simp at hr)
  | appM0 hx hy hb hm h0 =>
    cases ho : o.op <;> try (simp [ho, chkOp] at hc; done)
    rename_i T size bytes x y rows c
    obtain ⟨callee, args, argTypes⟩ := c
    rw [ho] at hc
    cases callee with
    | value f => simp [chkOp] at hc
    | invoke _ _ => simp [chkOp] at hc
    | builtin b =>
      cases b <;> simp only [chkOp] at hc <;> first
        | (cases hc; done)
        | skip
      simp only [Bool.and_eq_true] at hc
      obtain ⟨c1, c2⟩ := hc
      split at c2
      · rename_i t u ht
        obtain ⟨A⟩ := appT_of c2
        obtain rfl := arr2 ht
        have hargs : ∃ p q, args = #[p, q] ∧ chkX p x = true ∧ chkX q y = true := by
          match hl : args.toList with
          | [p, q] => rw [hl] at c1; simp only [chkXs, Bool.and_eq_true] at c1; exact ⟨p, q, arr2 hl, c1.1, c1.2.1⟩
          | [] => rw [hl] at c1; simp [chkXs] at c1
          | [_] => rw [hl] at c1; simp [chkXs] at c1
          | _ :: _ :: _ :: _ => rw [hl] at c1; simp [chkXs] at c1
        obtain ⟨p, q, rfl, e1, e2⟩ := hargs
        have hp := chkX_rv he e1
        rw [hx] at hp
        have hp' := rv_raw hp
        obtain ⟨news, S⟩ := src_of (P := P) (chkX_rv he e2) hy
        obtain ⟨m', v, r1, r2, r3, r4, r5⟩ := app_ms0 (ty := o.type) A rh S hb hm h0
        refine wp_of_run (v := v) (w' := m'.w) ?_ (h m.T m' v (tok_new rh) r4 r2 r3 r5)
        simp [execOp, ho, resolve, invoke, builtin, hp', r1]
      · cases c2
  | pcallM' ha hp =>
    cases ho : o.op <;> try (simp [ho, chkOp] at hc; done)
    rename_i f args as T size rows c
    obtain ⟨callee, cargs, argTypes⟩ := c
    rw [ho] at hc
    cases callee with
    | builtin b => cases b <;> simp [chkOp] at hc
    | invoke _ _ => simp [chkOp] at hc
    | value g =>
      simp only [chkOp, Bool.and_eq_true] at hc
      obtain ⟨⟨c1, c2⟩, c3⟩ := hc
      split at c1
      · rename_i f'
        have : f' = f := by simpa using c1
        subst this
        refine wp_of_enter (run_op_call ho rfl rfl c3 m.w) ?_
        have hl := avles_rv ha (chkXs_rv he c2)
        have hA : (cargs.map a.eval) = ⟨cargs.toList.map a.eval⟩ := Array.ext' (by simp)
        rw [show ({ callee := Callee.value (Operand.func f'), args := cargs, argTypes := argTypes } : Call).args.map a.eval = ⟨cargs.toList.map a.eval⟩ from hA]
        exact acalls_wp rh hl (hp m.H) (fun r' m' v hr r1 r2 r3 => by obtain ⟨t, e0, e1, e2⟩ := hr; simp at e1; subst e1; exact h t m' v e0 e2 r1 r2 r3) (fun r' m' v hr => by obtain ⟨t, e0, e1, e2⟩ := hr; simp at e1)
      · cases c1
  | lenM hx ht =>
    cases ho : o.op <;> try (simp [ho, chkOp] at hc; done)
    exact hq _ rfl (d_lenM he rh ho hc hx ht)
  | isnilT hx =>
    cases ho : o.op <;> try (simp [ho, chkOp] at hc; done)
    exact hq _ rfl (d_isnil he ho hc fun v hv => .inl ⟨by rw [hx] at hv; simpa only [Rv] using hv, rfl⟩)
  | isnilF hx hr =>
    cases ho : o.op <;> try (simp [ho, chkOp] at hc; done)
    exact hq _ rfl (d_isnil he ho hc fun v hv => .inr ⟨by rw [hx] at hv; exact vs_some hv hr, rfl⟩)
  | faddrM hx ht =>
    cases ho : o.op <;> try (simp [ho, chkOp] at hc; done)
    exact hq _ rfl (d_faddrM he rh ho hc hx ht)
  | iaddrM hx ht hi h0 h1 =>
    cases ho : o.op <;> try (simp [ho, chkOp] at hc; done)
    exact hq _ rfl (d_iaddrM he rh ho hc hx ht hi h0 h1)
  | loadM hx ht hl hv =>
    cases ho : o.op <;> try (simp [ho, chkOp] at hc; done)
    exact hq _ rfl (d_loadM he rh ho hc hx ht hl hv)
  | bsliceM hr hs h1 h0 =>
    cases ho : o.op <;> try (simp [ho, chkOp] at hc; done)
    rename_i T size n zero parts rows t n' parts'
    have hc' : chkOp P o.op (.bslice T size n zero parts) = true := by rw [ho] at hc ⊢; exact hc
    obtain ⟨l, r1, r2, r3, r4, r5, r6⟩ := d_bslice he rh ho hc' hr hs h1
    have htk : (⟨l⟩ : Array Value).toList.take (rows.length * size) = l := by rw [← r4]; simp
    obtain ⟨q1, q2, q3⟩ := new_ms rh (w' := m.w.alloc (.cells ⟨l⟩ T)) (T := T) (size := size) (cap := rows.length) (rows := rows) (cur := ⟨l⟩) rfl rfl rfl (by simp) (fun b hb => hpold m.w _ b hb) (hpnew m.w _) (by rw [htk]; exact r2) (by rw [htk]; exact r3) (fun r hr => by have := List.all_eq_true.1 hs r hr; simpa using this) r4 (Nat.le_refl _) (by rw [maxLen_eq]; omega) h0
    exact wp_of_run r1 (h m.T _ _ (tok_new rh) rfl q1 q2 q3)
end
end Go.Aw

/- One step that acts, and the model's (own work). -/
namespace Go.Aw
open Go
set_option linter.unusedVariables false
set_option linter.unusedSimpArgs false
section
variable {P : Program} {m : Mem} {env : Env} {a : Act} {o : Oper}

theorem setRow_setRange {w : World} {b o : Nat} {l new : List Value} (h : o + new.length ≤ l.length) : (((⟨l⟩ : Array Value).toList.take (o + 0) ++ new ++ (⟨l⟩ : Array Value).toList.drop (o + 0 + new.length)).toArray) = (⟨setRangeV l o new⟩ : Array Value) := by
  simp [setRangeV]
set_option maxHeartbeats 4000000 in
theorem istep_wp0 {n0 : Nat} {a0 v0 : EOpd} {K Rp : AV → AHeap → Prop} {Kc : Act → World → Prop} {Q : Exit → Act → World → Prop} (hs : IStep P (.store n0 a0 v0) env m.H K Rp) (hc : chkOp P o.op (.store n0 a0 v0) = true) (rh : RH m) (he : RvE m env a.tmps)
    (h : ∀ x m' v, K x m'.H → RH m' → Ev m m' → Rv m' x v → Kc (a.put o.dst v) m'.w)
    (hp : ∀ x m' v, Rp x m'.H → RH m' → Ev m m' → Rv m' x v → Q (.panic [{ v, recovered := false }]) a m'.w) : o.wp P a m.w Kc Q := by
  cases hs with
  | sw d hd hk => exact desc_wp hd hc rh he fun x m' v h1 h2 h3 h4 h5 => h _ m' v (h2 ▸ hk x h1) h3 h4 h5
  | store ha hb hn hl hone hk =>
    cases ho : o.op <;> try (simp [ho, chkOp] at hc; done)
    rename_i b p T cs t x y
    rw [ho] at hc
    simp only [chkOp, Bool.and_eq_true, decide_eq_true_eq] at hc
    obtain ⟨⟨c1, c2⟩, c3⟩ := hc
    have hx := chkX_rv he c2
    rw [ha] at hx
    obtain ⟨g1, g2⟩ := cells_rv (chkX_rv he c3) hone
    have hlen := RvL.length g1
    obtain ⟨l, r1, r2, r3⟩ := rh.blk b T cs hb
    have hll := RvL.length r2
    have hst := run_storeCells_at P b p T (a.eval y).cells.toList 0 ⟨l⟩ m.w r1 (by simp only [List.size_toArray]; omega) g2
    rw [setRow_setRange (w := m.w) (b := b) (by omega)] at hst
    have hsz : (a.eval y).cells.size = n0 := by rw [← Array.length_toList, hlen]; exact hn
    have hrun : (execOp a.eval o).run P m.w = .ok .skip (m.w.setRow b ⟨setRangeV l p (a.eval y).cells.toList⟩) := by
      simp only [execOp, ho, Instr.storeAt, rv_ptr hx, Instr.sureAddr, Sem.run_bind, Sem.run_pure, Result.andThen_ok, storeVar, run_sizeOf' c1, Sem.run_ite, hsz, ne_eq, not_true_eq_false, if_false, hst]
    have hw : ∀ k, k ≠ b → (m.w.setRow b ⟨setRangeV l p (a.eval y).cells.toList⟩).heap[k]? = m.w.heap[k]? := fun k hk => setRow_other m.w b k _ hk
    have hset := setRange_rv r2 g1 p
    have hone' : ∀ v ∈ setRangeV l p (a.eval y).cells.toList, v.oneCell' = true := by
      intro v hv
      simp only [setRangeV, List.mem_append] at hv
      rcases hv with (hv | hv) | hv
      · exact r3 v (List.mem_of_mem_take hv)
      · exact g2 v hv
      · exact r3 v (List.mem_of_mem_drop hv)
    have rh' := RH.st rh (w' := m.w.setRow b ⟨setRangeV l p (a.eval y).cells.toList⟩) (T := T) (cs := setRange cs p (EOpd.ev env v0).cells) (l := setRangeV l p (a.eval y).cells.toList) hb rfl rfl rfl (by simp) hw (setRow_heap m.w b _ _ T (0, 0) r1) hset hone'
    have ev' := Ev.st rh (w' := m.w.setRow b ⟨setRangeV l p (a.eval y).cells.toList⟩) (T := T) (cs := setRange cs p (EOpd.ev env v0).cells) hb rfl rfl rfl (by simp) hw
    simp only [Oper.wp, hrun, Oper.upon]
    exact h _ _ Go.undef hk rh' ev' (by simp only [Rv])
  | storeM ha ht hn hl hone hf hr hlen hk =>
    cases ho : o.op <;> try (simp [ho, chkOp] at hc; done)
    rename_i t ver k T size rows rows' ty x y
    rw [ho] at hc
    simp only [chkOp, Bool.and_eq_true, decide_eq_true_eq] at hc
    obtain ⟨⟨c1, c2⟩, c3⟩ := hc
    have hx := chkX_rv he c2
    rw [ha] at hx
    obtain ⟨g1, g2⟩ := cells_rv (chkX_rv he c3) hone
    obtain ⟨g, m', r1, r2, r3, r4, r5⟩ := st_ms (P := P) rh hx ht (by rw [hn]; exact hl) g1 g2 hf hr hlen
    have hsz : (a.eval y).cells.size = n0 := by rw [← Array.length_toList, RvL.length g1]; exact hn
    have hrun : (execOp a.eval o).run P m.w = .ok .skip m'.w := by
      simp only [execOp, ho, Instr.storeAt, r1, Instr.sureAddr, Sem.run_bind, Sem.run_pure, Result.andThen_ok, storeVar, run_sizeOf' c1, Sem.run_ite, hsz, ne_eq, not_true_eq_false, if_false, r2]
    simp only [Oper.wp, hrun, Oper.upon]
    exact h _ m' Go.undef (r5 ▸ hk) r3 r4 (by simp only [Rv])
set_option maxHeartbeats 4000000 in
theorem istep_wp {e : EOp} {K Rp : AV → AHeap → Prop} {Kc : Act → World → Prop} {Q : Exit → Act → World → Prop} (hs : IStep P e env m.H K Rp) (hc : chkOp P o.op e = true) (rh : RH m) (he : RvE m env a.tmps)
    (h : ∀ x m' v, K x m'.H → RH m' → Ev m m' → Rv m' x v → Kc (a.put o.dst v) m'.w)
    (hp : ∀ x m' v, Rp x m'.H → RH m' → Ev m m' → Rv m' x v → Q (.panic [{ v, recovered := false }]) a m'.w) : o.wp P a m.w Kc Q := by
  cases hs with
  | sw d hd hk => exact desc_wp hd hc rh he fun x m' v h1 h2 h3 h4 h5 => h _ m' v (h2 ▸ hk x h1) h3 h4 h5
  | store ha hb hn hl hone hk => exact istep_wp0 (.store ha hb hn hl hone hk) hc rh he h hp
  | storeD hme hoth ha hb hn hl hone hk =>
    refine istep_wp0 (.store ha hb hn hl hone hk) ?_ rh he h hp
    cases ho : o.op <;> try (simp [ho, chkOp] at hc; done)
    rw [ho] at hc
    exact hc
  | append hx ht hy hb hm hk =>
    cases ho : o.op <;> try (simp [ho, chkOp] at hc; done)
    rename_i T size bytes x y τ rows new c
    obtain ⟨callee, args, argTypes⟩ := c
    rw [ho] at hc
    cases callee with
    | value f => simp [chkOp] at hc
    | invoke _ _ => simp [chkOp] at hc
    | builtin b =>
      cases b <;> simp only [chkOp] at hc <;> first
        | (cases hc; done)
        | skip
      simp only [Bool.and_eq_true] at hc
      obtain ⟨c1, c2⟩ := hc
      split at c2
      · rename_i t u ht'
        obtain ⟨A⟩ := appT_of c2
        obtain rfl := arr2 ht'
        have hargs : ∃ p q, args = #[p, q] ∧ chkX p x = true ∧ chkX q y = true := by
          match hl : args.toList with
          | [p, q] => rw [hl] at c1; simp only [chkXs, Bool.and_eq_true] at c1; exact ⟨p, q, arr2 hl, c1.1, c1.2.1⟩
          | [] => rw [hl] at c1; simp [chkXs] at c1
          | [_] => rw [hl] at c1; simp [chkXs] at c1
          | _ :: _ :: _ :: _ => rw [hl] at c1; simp [chkXs] at c1
        obtain ⟨p, q, rfl, e1, e2⟩ := hargs
        have hp := chkX_rv he e1
        rw [hx] at hp
        obtain ⟨news, S⟩ := src_of (P := P) (chkX_rv he e2) hy
        obtain ⟨m', v, r1, r2, r3, r4, r5⟩ := app_own (ty := o.type) A rh hp ht S hb hm
        refine wp_of_run (v := v) (w' := m'.w) ?_ (h _ m' v (r4 ▸ hk) r2 r3 r5)
        simp [execOp, ho, resolve, invoke, builtin, r1]
      · cases c2
  | appendM hx ht hy hb hm hk =>
    cases ho : o.op <;> try (simp [ho, chkOp] at hc; done)
    rename_i T size bytes x y τ ver rows new c
    obtain ⟨callee, args, argTypes⟩ := c
    rw [ho] at hc
    cases callee with
    | value f => simp [chkOp] at hc
    | invoke _ _ => simp [chkOp] at hc
    | builtin b =>
      cases b <;> simp only [chkOp] at hc <;> first
        | (cases hc; done)
        | skip
      simp only [Bool.and_eq_true] at hc
      obtain ⟨c1, c2⟩ := hc
      split at c2
      · rename_i t u ht'
        obtain ⟨A⟩ := appT_of c2
        obtain rfl := arr2 ht'
        have hargs : ∃ p q, args = #[p, q] ∧ chkX p x = true ∧ chkX q y = true := by
          match hl : args.toList with
          | [p, q] => rw [hl] at c1; simp only [chkXs, Bool.and_eq_true] at c1; exact ⟨p, q, arr2 hl, c1.1, c1.2.1⟩
          | [] => rw [hl] at c1; simp [chkXs] at c1
          | [_] => rw [hl] at c1; simp [chkXs] at c1
          | _ :: _ :: _ :: _ => rw [hl] at c1; simp [chkXs] at c1
        obtain ⟨p, q, rfl, e1, e2⟩ := hargs
        have hp := chkX_rv he e1
        rw [hx] at hp
        obtain ⟨news, S⟩ := src_of (P := P) (chkX_rv he e2) hy
        obtain ⟨m', v, r1, r2, r3, r4, r5⟩ := app_ms (ty := o.type) A rh hp ht S hb hm
        refine wp_of_run (v := v) (w' := m'.w) ?_ (h _ m' v (r4 ▸ hk) r2 r3 r5)
        simp [execOp, ho, resolve, invoke, builtin, r1]
      · cases c2
  | isnilU hx hk =>
    cases ho : o.op <;> try (simp [ho, chkOp] at hc; done)
    rename_i neg x size rows op t u v w
    obtain ⟨b, w', r1, r2⟩ := d_isnilU (P := P) (m := m) he ho hc hx
    exact wp_of_run r1 (h _ m w' (hk b) rh (Ev.refl m) r2)
  | slM hx ht hl hh h1 hk =>
    cases ho : o.op <;> try (simp [ho, chkOp] at hc; done)
    rename_i mx
    have hmx : mx = none := by
      cases mx with
      | none => rfl
      | some q => rw [ho] at hc; simp [chkOp] at hc
    subst hmx
    obtain ⟨m', v, r0, r1, r2, r3, r4⟩ := d_slM he rh ho hc hx ht hl hh h1
    exact wp_of_run r0 (h _ m' v (r3 ▸ hk) r1 r2 r4)
  | storeM ha ht hn hl hone hf hr hlen hk =>
    cases ho : o.op <;> try (simp [ho, chkOp] at hc; done)
    rename_i n av v t ver k T size rows rows' ty x y
    rw [ho] at hc
    simp only [chkOp, Bool.and_eq_true, decide_eq_true_eq] at hc
    obtain ⟨⟨c1, c2⟩, c3⟩ := hc
    have hx := chkX_rv he c2
    rw [ha] at hx
    obtain ⟨g1, g2⟩ := cells_rv (chkX_rv he c3) hone
    obtain ⟨g, m', r1, r2, r3, r4, r5⟩ := st_ms (P := P) rh hx ht (by rw [hn]; exact hl) g1 g2 hf hr hlen
    have hsz : (a.eval y).cells.size = n := by rw [← Array.length_toList, RvL.length g1]; exact hn
    have hrun : (execOp a.eval o).run P m.w = .ok .skip m'.w := by
      simp only [execOp, ho, Instr.storeAt, r1, Instr.sureAddr, Sem.run_bind, Sem.run_pure, Result.andThen_ok, storeVar, run_sizeOf' c1, Sem.run_ite, hsz, ne_eq, not_true_eq_false, if_false, r2]
    simp only [Oper.wp, hrun, Oper.upon]
    exact h _ m' Go.undef (r5 ▸ hk) r3 r4 (by simp only [Rv])
  | call Q0 ha hcall hk =>
    cases ho : o.op <;> try (simp [ho, chkOp] at hc; done)
    rename_i f args as c
    obtain ⟨callee, cargs, argTypes⟩ := c
    rw [ho] at hc
    cases callee with
    | builtin b => cases b <;> simp [chkOp] at hc
    | invoke _ _ => simp [chkOp] at hc
    | value g =>
      simp only [chkOp, Bool.and_eq_true] at hc
      obtain ⟨⟨c1, c2⟩, c3⟩ := hc
      split at c1
      · rename_i f'
        have : f' = f := by simpa using c1
        subst this
        refine wp_of_enter (run_op_call ho rfl rfl c3 m.w) ?_
        have hl := avles_rv ha (chkXs_rv he c2)
        have hA : (cargs.map a.eval) = ⟨cargs.toList.map a.eval⟩ := Array.ext' (by simp)
        rw [show ({ callee := Callee.value (Operand.func f'), args := cargs, argTypes := argTypes } : Call).args.map a.eval = ⟨cargs.toList.map a.eval⟩ from hA]
        exact acalls_wp rh hl hcall (fun r' m' v hr r1 r2 r3 => h _ m' v (hk _ _ hr) r1 r2 r3) (fun r' m' v hr r1 r2 r3 => hp _ m' v (hk _ _ hr) r1 r2 r3)
      · cases c1
  | callv Q0 hx hf ha hcall hk =>
    cases ho : o.op <;> try (simp [ho, chkOp] at hc; done)
    rename_i x args f cap as c
    obtain ⟨callee, cargs, argTypes⟩ := c
    rw [ho] at hc
    cases callee with
    | builtin b => cases b <;> simp [chkOp] at hc
    | invoke _ _ => simp [chkOp] at hc
    | value g =>
      simp only [chkOp, Bool.and_eq_true] at hc
      obtain ⟨c1, c2⟩ := hc
      have hg := chkX_rv he c1
      rw [hx] at hg
      obtain ⟨l, g1, g2⟩ := rv_fn hg
      refine wp_of_enter (run_op_callv ho rfl g1 hf m.w) ?_
      have hl := avles_rv ha (RvL.append (chkXs_rv he c2) g2)
      have hA : (cargs.map a.eval) ++ ⟨l⟩ = ⟨cargs.toList.map a.eval ++ l⟩ := by
        apply Array.ext'
        simp
      rw [show ({ callee := Callee.value g, args := cargs, argTypes := argTypes } : Call).args.map a.eval ++ ⟨l⟩ = ⟨cargs.toList.map a.eval ++ l⟩ from hA]
      exact acalls_wp rh hl hcall (fun r' m' v hr r1 r2 r3 => h _ m' v (hk _ _ hr) r1 r2 r3) (fun r' m' v hr r1 r2 r3 => hp _ m' v (hk _ _ hr) r1 r2 r3)
  | panic hx hk =>
    cases ho : o.op <;> try (simp [ho, chkOp] at hc; done)
    rename_i x t av y
    rw [ho] at hc
    simp only [chkOp] at hc
    have hv := chkX_rv he hc
    rw [hx] at hv
    have hv' := hv
    simp only [Rv] at hv
    obtain ⟨u, hu, _⟩ := hv
    have hrun : (execOp a.eval o).run P m.w = .halt (.panic (a.eval y)) m.w := by
      simp [execOp, ho, hu, Instr.panic]
    simp only [Oper.wp, hrun, Oper.upon]
    exact hp _ m _ hk rh (Ev.refl m) hv'
end

/-- What is known of a frame and the world. -/
def Rel (n : Nat) (m0 : Mem) (env : Env) (H : AHeap) (a : Act) (w : World) : Prop :=
  ∃ m : Mem, m.w = w ∧ m.H = H ∧ RH m ∧ Ev m0 m ∧ RvE m env a.tmps ∧ a.defers = [] ∧ a.tmps.size = n

theorem rve_put {m m' : Mem} {env : Env} {a : Act} {n : Nat} {dst : Option Nat} {x : AV} {v : Value} (he : RvE m env a.tmps) (ev : Ev m m') (hv : Rv m' x v) (hn : a.tmps.size = n) (hd : ∀ d, dst = some d → d < n) : RvE m' (env.put dst x) (a.put dst v).tmps := by
  intro k
  cases dst with
  | none => exact Rv.ev ev _ _ (he k)
  | some d =>
    have hlt := hd d rfl
    simp only [Env.put, Env.get, Act.put]
    by_cases e : d = k
    · subst e
      simp only [beq_self_eq_true, cond_true]
      have : (a.tmps.setIfInBounds d v).getD d undef = v := by
        simp [Array.getD_eq_getD_getElem?, hn, hlt]
      rw [this]
      exact hv
    · have hb : (d == k) = false := by simpa using e
      simp only [hb, cond_false]
      have : (a.tmps.setIfInBounds d v).getD k undef = a.tmps.getD k undef := by
        simp [Array.getD_eq_getD_getElem?, Array.getElem?_setIfInBounds_ne e]
      rw [this]
      exact Rv.ev ev _ _ (he k)
theorem put_defers (a : Act) (dst : Option Nat) (v : Value) : (a.put dst v).defers = a.defers := by cases dst <;> rfl
theorem put_size (a : Act) (dst : Option Nat) (v : Value) : (a.put dst v).tmps.size = a.tmps.size := by cases dst <;> simp [Act.put]
theorem rel_put {n : Nat} {m0 m m' : Mem} {env : Env} {a : Act} {dst : Option Nat} {x : AV} {v : Value} (he : RvE m env a.tmps) (e0 : Ev m0 m) (ev : Ev m m') (rh : RH m') (hv : Rv m' x v) (hdf : a.defers = []) (hn : a.tmps.size = n) (hd : ∀ d, dst = some d → d < n) : Rel n m0 (env.put dst x) m'.H (a.put dst v) m'.w :=
  ⟨m', rfl, rfl, rh, e0.trans ev, rve_put he ev hv hn hd, by rw [put_defers, hdf], by rw [put_size, hn]⟩

theorem chkI_parts {P : Program} {n : Nat} {ops : Array Oper} {o : Oper} {i : EI} (h : chkI P n ops o i = true) : o.dst = i.dst ∧ (∀ d, i.dst = some d → d < n) ∧ chkG ops o.guard i.guard = true ∧ chkOp P o.op i.op = true ∧ (∀ t w, i.guard = some (t, w) → t < n) := by
  simp only [chkI, Bool.and_eq_true, decide_eq_true_eq] at h
  obtain ⟨⟨⟨⟨h1, h2⟩, h5⟩, h3⟩, h4⟩ := h
  refine ⟨h1, fun d hd => ?_, h3, h4, fun t w hg => ?_⟩
  · rw [hd] at h2
    simp [Nat.blt_eq] at h2
    exact h2
  · rw [hg] at h5
    simp [Nat.blt_eq] at h5
    exact h5
theorem wanted_rv {m : Mem} {env : Env} {ops : Array Oper} {o : Oper} {i : EI} {tmps : Array Value} {b : Bool} (hg : chkG ops o.guard i.guard = true) (he : RvE m env tmps) (hw : wanted i env = some b) (hsz : ∀ j w, i.guard = some (j, w) → j < tmps.size) : Region.wanted o (yielded ops tmps) = b := by
  unfold wanted at hw
  unfold chkG at hg
  cases ho : o.guard with
  | none =>
    cases hi : i.guard with
    | none => rw [hi] at hw; simp at hw; subst hw; simp [Region.wanted, ho]
    | some _ => rw [ho, hi] at hg; cases hg
  | some jw =>
    obtain ⟨j, w⟩ := jw
    cases hi : i.guard with
    | none => rw [ho, hi] at hg; cases hg
    | some tw =>
      obtain ⟨t, w'⟩ := tw
      rw [ho, hi] at hg
      simp only [Bool.and_eq_true, decide_eq_true_eq] at hg
      obtain ⟨rfl, hd⟩ := hg
      have hlt := hsz t w hi
      have hy : yielded ops tmps j = match tmps[t]? with | some (.bool b) => some b | _ => none := by
        unfold yielded
        rw [hd]
        rfl
      have hget : tmps[t]? = some (tmps.getD t undef) := by
        simp [Array.getD_eq_getD_getElem?, hlt]
      rw [hi] at hw
      simp only at hw
      have hr := he t
      split at hw
      · rename_i c hc
        rw [hc] at hr
        simp at hw
        subst hw
        simp only [Region.wanted, ho, hy, hget, rv_bool hr]
        cases c <;> cases w <;> rfl
      · rename_i hc
        rw [hc] at hr
        simp at hw
        subst hw
        simp only [Region.wanted, ho, hy, hget, rv_raw hr]
        rfl
      · cases hw
end Go.Aw
